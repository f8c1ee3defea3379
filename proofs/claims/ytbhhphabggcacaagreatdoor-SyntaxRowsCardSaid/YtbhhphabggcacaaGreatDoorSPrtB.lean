import Derived.Test.YtbhhphabggcacaaGreatDoorSPrtA
import Derived.Test.YtbhhphabggcacaaGreatDoorSCore26
namespace Go.Proofs.YtbhhphabggcacaaGreatDoor
open Sy Go
set_option maxRecDepth 100000
set_option maxHeartbeats 4000000
set_option linter.unusedSimpArgs false
set_option linter.unusedVariables false
variable {G:qM}
end Go.Proofs.YtbhhphabggcacaaGreatDoor
