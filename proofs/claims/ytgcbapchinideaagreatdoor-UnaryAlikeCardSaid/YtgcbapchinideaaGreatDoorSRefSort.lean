import Derived.Test.YtgcbapchinideaaGreatDoorSRefCmp
namespace Go.Proofs.YtgcbapchinideaaGreatDoor
open Sy Go
set_option maxRecDepth 100000
set_option maxHeartbeats 4000000
set_option linter.all false
variable {G:qR}
end Go.Proofs.YtgcbapchinideaaGreatDoor
