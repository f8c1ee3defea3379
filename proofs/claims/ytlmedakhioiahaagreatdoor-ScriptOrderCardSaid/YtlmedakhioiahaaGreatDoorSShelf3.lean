import Derived.Shelf.LaysM
import Derived.Shelf.Strconv.Itoa3
import Derived.Test.YtlmedakhioiahaaGreatDoorProg
namespace Go.Proofs
open Go.Shelf
end Go.Proofs
