import Derived.Test.YtdojfdaglbphlaaGreatDoorK1
namespace Go.Proofs.YtdojfdaglbphlaaGreatDoor
open Sy Go
set_option linter.unusedSimpArgs false
set_option linter.unusedVariables false
end Go.Proofs.YtdojfdaglbphlaaGreatDoor
