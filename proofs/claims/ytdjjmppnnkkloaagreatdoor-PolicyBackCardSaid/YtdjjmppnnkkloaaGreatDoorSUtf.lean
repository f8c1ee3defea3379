import Derived.Test.YtdjjmppnnkkloaaGreatDoorSRValid
import Derived.Test.YtdjjmppnnkkloaaGreatDoorK1
import Derived.Lib.ValidLaws
namespace Go.Proofs.YtdjjmppnnkkloaaGreatDoor
open Sy Go
set_option maxRecDepth 100000
set_option linter.unusedSimpArgs false
set_option linter.unusedVariables false
end Go.Proofs.YtdjjmppnnkkloaaGreatDoor
