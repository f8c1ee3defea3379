import Derived.Test.YtbhhphabggcacaaGreatDoorK1
import Derived.Shelf.Strings.OnBuilder
namespace Go.Proofs.YtbhhphabggcacaaGreatDoor
open Sy Go
set_option maxRecDepth 100000
set_option linter.unusedSimpArgs false
set_option linter.unusedVariables false
variable {G:qM}
end Go.Proofs.YtbhhphabggcacaaGreatDoor
