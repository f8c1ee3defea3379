import Derived.Test.YtcbipkbdagkehaaGreatDoorM4
namespace Go.Proofs.YtcbipkbdagkehaaGreatDoor
open Sy Go
set_option maxRecDepth 100000
set_option linter.unusedSimpArgs false
set_option linter.unusedVariables false
variable {G : Glob}
theorem ext68 : IsExt Tryz.prog 341 Extern.BytealgIndexByte.indexByte := fun args w => run_callFunc_extern Tryz.func341 (by kernel_rfl) (by kernel_rfl) (by kernel_rfl) (by kernel_rfl) args w
@[simp] theorem sIndexByte_ev (s : List UInt8) (n : Int) : AFn Tryz.prog G 324 [.str s, .int .u8 n] (.int .i64 (Lib.indexByte s n.toNat.toUInt8)) := by
 refine AFn.intro tok Tryz.func324 (by kernel_rfl) rfl ?_
 simp only [Tryz.f324, St.start]
 refine AW.seqRun tok [] (by intro C; conv => lhs; simp) trivial ?_
 refine AW.seqRunX tok 2 [] [] rfl rfl (by intro C; conv => lhs; simp) trivial (y_indexByte (s := s) (n := n) (p := True) (q := True) (r := True) ext68 rfl (by simp) trivial (by simp) trivial (by simp) trivial) (by intro C; conv => lhs; simp) trivial ?_
 exact AW.ret ⟨.inr rfl, _, _, by (conv => lhs; simp), trivial, by simp⟩
@[simp] theorem IndexByte_ev (s : List UInt8) (n : Int) : AFn Tryz.prog G 297 [.str s, .int .u8 n] (.int .i64 (Lib.indexByte s n.toNat.toUInt8)) := by
 refine AFn.intro tok Tryz.func297 (by kernel_rfl) rfl ?_
 simp only [Tryz.f297, St.start]
 refine AW.seqRun tok [] (by intro C; conv => lhs; simp) trivial ?_
 refine AW.seqRun tok [.tup [.str s, .int .u8 n], .int .i64 (Lib.indexByte s n.toNat.toUInt8)] (by intro C; conv => lhs; simp) (by simp) ?_
 exact AW.ret ⟨.inr rfl, _, _, by (conv => lhs; simp), trivial, by simp⟩
end Go.Proofs.YtcbipkbdagkehaaGreatDoor
