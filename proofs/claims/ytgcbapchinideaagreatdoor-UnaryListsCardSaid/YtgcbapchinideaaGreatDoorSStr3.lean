import Derived.Test.YtgcbapchinideaaGreatDoorK2
namespace Go.Proofs.YtgcbapchinideaaGreatDoor
open Sy Go
set_option maxRecDepth 100000
set_option linter.unusedSimpArgs false
set_option linter.unusedVariables false
variable {G:qK}
end Go.Proofs.YtgcbapchinideaaGreatDoor
