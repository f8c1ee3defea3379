import Derived.Test.YtgcbapchinideaaGreatDoorSRefWith
import Derived.Test.YtgcbapchinideaaGreatDoorK5
import Derived.Test.YtgcbapchinideaaGreatDoorK4
set_option linter.all false
namespace Go.Proofs.YtgcbapchinideaaGreatDoor
open Sy Go
set_option maxRecDepth 100000
set_option maxHeartbeats 4000000
variable {G:qT}
end Go.Proofs.YtgcbapchinideaaGreatDoor
