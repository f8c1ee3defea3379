import Derived.Test.YtdojfdaglbphlaaGreatDoorK1
import Derived.Shelf.Strings.OnBuilder
namespace Go.Proofs.YtdojfdaglbphlaaGreatDoor
open Sy Go
set_option maxRecDepth 100000
set_option linter.unusedSimpArgs false
set_option linter.unusedVariables false
variable {G : qQ}
end Go.Proofs.YtdojfdaglbphlaaGreatDoor
