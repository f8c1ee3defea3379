import Derived.Test.YtbhhphabggcacaaGreatDoorK1
import Derived.Shelf.Unicode.ValidAny
namespace Go.Proofs.YtbhhphabggcacaaGreatDoor
open Sy Go
variable {G:qM}
end Go.Proofs.YtbhhphabggcacaaGreatDoor
