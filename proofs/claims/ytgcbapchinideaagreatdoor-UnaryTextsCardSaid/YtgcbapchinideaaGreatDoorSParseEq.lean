import Derived.Test.YtgcbapchinideaaGreatDoorK1
namespace Go.Proofs.YtgcbapchinideaaGreatDoor
open Sy Go
set_option linter.unusedSimpArgs false
set_option linter.unusedVariables false
end Go.Proofs.YtgcbapchinideaaGreatDoor
