import Derived.Test.YtcbipkbdagkehaaGreatDoorSBuildA
import Derived.Test.YtcbipkbdagkehaaGreatDoorK1
namespace Go.Proofs.YtcbipkbdagkehaaGreatDoor
open Sy Go
set_option maxRecDepth 100000
set_option maxHeartbeats 4000000
set_option linter.unusedSimpArgs false
set_option linter.unusedVariables false
variable {G : Glob}
@[simp] theorem bytesP_app (a s : List UInt8) : bytesP (a ++ s) = bytesP a ++ s.map fun b => .int .u8 b.toNat := by simp [bytesP]
@[simp] theorem bytesP_nil : bytesP [] = [] := rfl
end Go.Proofs.YtcbipkbdagkehaaGreatDoor
