import Derived.Test.YtgcbapchinideaaGreatDoorSPrint
namespace Go.Proofs.YtgcbapchinideaaGreatDoor
open Sy Go
set_option linter.unusedSimpArgs false
set_option linter.unusedVariables false
variable {G:qG}
end Go.Proofs.YtgcbapchinideaaGreatDoor
