import Derived.Test.YtgcbapchinideaaGreatDoorK4
import Derived.Test.YtgcbapchinideaaGreatDoorM4
set_option linter.all false
namespace Go.Proofs.YtgcbapchinideaaGreatDoor
open Sy Go
set_option maxRecDepth 100000
end Go.Proofs.YtgcbapchinideaaGreatDoor
