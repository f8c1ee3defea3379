import Derived.Test.YtdjjmppnnkkloaaGreatDoorSPath4
namespace Go.Proofs.YtdjjmppnnkkloaaGreatDoor
open Sy Go
set_option linter.unusedSimpArgs false
set_option linter.unusedVariables false
end Go.Proofs.YtdjjmppnnkkloaaGreatDoor
