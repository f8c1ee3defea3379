import Derived.Test.YtdlejiiiifhiiaaGreatDoorK1
import Derived.Shelf.Unicode.ValidAny
/-
  OUR OWN LAYER: contracts of the kit's shelf as ours: which texts are UTF-8.
-/
namespace Go.Proofs.YtdlejiiiifhiiaaGreatDoor
open Sy Go
variable {G : Glob}
end Go.Proofs.YtdlejiiiifhiiaaGreatDoor
