import Derived.Test.YtgcbapchinideaaGreatDoorK1
import Derived.Shelf.Unicode.DecodeAny
import Derived.Lib.MapLaws
namespace Go.Proofs.YtgcbapchinideaaGreatDoor
open Sy Go
variable {G:qG}
end Go.Proofs.YtgcbapchinideaaGreatDoor
