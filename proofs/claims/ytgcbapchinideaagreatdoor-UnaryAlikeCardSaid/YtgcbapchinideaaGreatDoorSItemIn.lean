import Derived.Test.YtgcbapchinideaaGreatDoorK4
import Derived.Test.YtgcbapchinideaaGreatDoorM4
namespace Go.Proofs.YtgcbapchinideaaGreatDoor
open Sy Go
set_option maxRecDepth 100000
set_option linter.all false
end Go.Proofs.YtgcbapchinideaaGreatDoor
