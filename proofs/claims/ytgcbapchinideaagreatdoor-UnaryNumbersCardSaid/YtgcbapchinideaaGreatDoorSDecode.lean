import Derived.Test.YtgcbapchinideaaGreatDoorK1
import Derived.Shelf.Unicode.DecodeAny
import Derived.Lib.MapLaws
namespace Go.Proofs.YtgcbapchinideaaGreatDoor
open Sy Go
variable {G:qM}
theorem qNU (l:List UInt8):(Lib.decodeL l).1≤1114111:=qCL _ _
end Go.Proofs.YtgcbapchinideaaGreatDoor
