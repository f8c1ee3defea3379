import Derived.Test.YtcbipkbdagkehaaGreatDoorK1
import Derived.Shelf.Strings.OnBuilder
namespace Go.Proofs.YtcbipkbdagkehaaGreatDoor
open Sy Go
set_option maxRecDepth 100000
set_option linter.unusedSimpArgs false
set_option linter.unusedVariables false
variable {G : Glob}
end Go.Proofs.YtcbipkbdagkehaaGreatDoor
