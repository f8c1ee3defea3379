import Derived.Test.YtlmedakhioiahaaGreatDoorK3
namespace Go.Proofs.YtlmedakhioiahaaGreatDoor
open Sy Go
set_option linter.unusedSimpArgs false
set_option linter.unusedVariables false
end Go.Proofs.YtlmedakhioiahaaGreatDoor
