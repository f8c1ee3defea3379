import Derived.Test.YtlmedakhioiahaaGreatDoorSCutL
namespace Go.Proofs.YtlmedakhioiahaaGreatDoor
open Sy Go
set_option linter.unusedSimpArgs false
set_option linter.unusedVariables false
set_option maxRecDepth 100000
end Go.Proofs.YtlmedakhioiahaaGreatDoor
