import Derived.Test.YtbhhphabggcacaaGreatDoorK1
import Derived.Test.YtbhhphabggcacaaGreatDoorK2
import Derived.Shelf.Unicode.ValidAny
namespace Go.Proofs.YtbhhphabggcacaaGreatDoor
open Sy Go
variable {G:qS}
end Go.Proofs.YtbhhphabggcacaaGreatDoor
