import Derived.Test.YtgcbapchinideaaGreatDoorK3
import Derived.Test.YtgcbapchinideaaGreatDoorK2
import Derived.Test.YtgcbapchinideaaGreatDoorK1
set_option linter.all false
namespace Go.Proofs.YtgcbapchinideaaGreatDoor
open Sy Go
set_option maxRecDepth 100000
theorem qXR (b:UInt8) (s:List UInt8):Lib.decodeL (b::s)=xS b.toNat s[0]? s[1]? s[2]?:=by
 have:=zFF (s:=b::s) (i:=0) (b:=b) rfl;simpa[Lib.decodeL]using this
end Go.Proofs.YtgcbapchinideaaGreatDoor
