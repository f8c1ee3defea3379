import Derived.Test.YtgcbapchinideaaGreatDoorSBuildA
import Derived.Test.YtgcbapchinideaaGreatDoorK1
namespace Go.Proofs.YtgcbapchinideaaGreatDoor
open Sy Go
set_option maxRecDepth 100000
set_option maxHeartbeats 4000000
set_option linter.unusedSimpArgs false
set_option linter.unusedVariables false
variable {G:qG}
@[simp] theorem qWK (a s:List UInt8):qY (a++s)=qY a++s.map fun b => .int .u8 b.toNat:=by simp [qY]
@[simp] theorem qWJ:qY []=[]:=rfl
end Go.Proofs.YtgcbapchinideaaGreatDoor
