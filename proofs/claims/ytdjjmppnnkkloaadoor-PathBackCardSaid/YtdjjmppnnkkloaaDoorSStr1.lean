import Derived.Test.YtdjjmppnnkkloaaDoorM4
namespace Go.Proofs.YtdjjmppnnkkloaaDoor
open Sy Go
set_option maxRecDepth 100000
set_option linter.unusedSimpArgs false
set_option linter.unusedVariables false
variable {G : Glob}

def hasPre (s p : List UInt8) : Bool := decide (p.length ≤ s.length) && decide (s.take p.length = p)
@[simp] theorem sHasPrefix_ev (s p : List UInt8) : AFn Tryd.prog G 27 [.str s, .str p] (.bool (hasPre s p)) := by
  refine AFn.intro tok Tryd.func27 (by kernel_rfl) rfl ?_
  simp only [Tryd.f27, St.start]
  refine AW.seqRun tok [] (by intro C; conv => lhs; simp) trivial ?_ -- r0 {}
  refine AW.seqRun tok [] (by intro C; conv => lhs; simp) (by simp +contextual) ?_ -- r1 {}
  exact AW.ret ⟨.inr rfl, _, _, by (conv => lhs; simp), trivial, by simp [hasPre]⟩
@[simp] theorem HasPrefix_ev (s p : List UInt8) : AFn Tryd.prog G 21 [.str s, .str p] (.bool (hasPre s p)) := by
  refine AFn.intro tok Tryd.func21 (by kernel_rfl) rfl ?_
  simp only [Tryd.f21, St.start]
  refine AW.seqRun tok [] (by intro C; conv => lhs; simp) trivial ?_ -- r0 {}
  refine AW.seqRun tok [.tup [.str s, .str p], .bool (hasPre s p)] (by intro C; conv => lhs; simp) (by simp) ?_ -- r1 {}
  exact AW.ret ⟨.inr rfl, _, _, by (conv => lhs; simp), trivial, by simp⟩
def cutPre (s p : List UInt8) : List UInt8 := if hasPre s p then s.drop p.length else s
@[simp] theorem sCutPrefix_ev (s p : List UInt8) : AFn Tryd.prog G 20 [.str s, .str p] (.tup [.str (cutPre s p), .bool (hasPre s p)]) := by
  refine AFn.intro tok Tryd.func20 (by kernel_rfl) rfl ?_
  simp only [Tryd.f20, St.start]
  refine AW.seqRun tok [] (by intro C; conv => lhs; simp) trivial ?_ -- r0 {}
  refine AW.seq ?_
  refine AW.seqRun tok [.tup [.str s, .str p], .bool (hasPre s p)] (by intro C; conv => lhs; simp) (by simp) ?_ -- r1 {t8:CALL call f38(t6, t7) args,res}
  refine AW.cond (c := .tmp 9) (by conv => lhs; simp) trivial ?_ ?_
  · intro h1
    simp at h1
    refine AW.seqRun tok [] (by intro C; conv => lhs; simp) trivial ?_ -- r2 {}
    exact AW.ret ⟨.inr rfl, _, _, by (conv => lhs; simp), trivial, by simp [cutPre, h1]⟩
  · intro h1
    simp at h1
    refine AW.skip ?_
    refine AW.seqRun tok [] (by intro C; conv => lhs; simp) (by simp [hasPre] at h1 ⊢; omega) ?_ -- r3 {}
    exact AW.ret ⟨.inr rfl, _, _, by (conv => lhs; simp), trivial, by simp [cutPre, h1]⟩
@[simp] theorem CutPrefix_ev (s p : List UInt8) : AFn Tryd.prog G 14 [.str s, .str p] (.tup [.str (cutPre s p), .bool (hasPre s p)]) := by
  refine AFn.intro tok Tryd.func14 (by kernel_rfl) rfl ?_
  simp only [Tryd.f14, St.start]
  refine AW.seqRun tok [] (by intro C; conv => lhs; simp) trivial ?_ -- r0 {}
  refine AW.seqRun tok [.tup [.str s, .str p], .tup [.str (cutPre s p), .bool (hasPre s p)]] (by intro C; conv => lhs; simp) (by simp) ?_ -- r1 {}
  exact AW.ret ⟨.inr rfl, _, _, by (conv => lhs; simp), trivial, by simp⟩

theorem ext68 : IsExt Tryd.prog 57 Extern.BytealgIndexByte.indexByte := fun args w => run_callFunc_extern Tryd.func57 (by kernel_rfl) (by kernel_rfl) (by kernel_rfl) (by kernel_rfl) args w
@[simp] theorem sIndexByte_ev (s : List UInt8) (n : Int) : AFn Tryd.prog G 50 [.str s, .int .u8 n] (.int .i64 (Lib.indexByte s n.toNat.toUInt8)) := by
  refine AFn.intro tok Tryd.func50 (by kernel_rfl) rfl ?_
  simp only [Tryd.f50, St.start]
  refine AW.seqRun tok [] (by intro C; conv => lhs; simp) trivial ?_ -- r0 {}
  refine AW.seqRunX tok 2 [] [] rfl rfl (by intro C; conv => lhs; simp) trivial (y_indexByte (s := s) (n := n) (p := True) (q := True) (r := True) ext68 rfl (by simp) trivial (by simp) trivial (by simp) trivial) (by intro C; conv => lhs; simp) trivial ?_
  exact AW.ret ⟨.inr rfl, _, _, by (conv => lhs; simp), trivial, by simp⟩
@[simp] theorem IndexByte_ev (s : List UInt8) (n : Int) : AFn Tryd.prog G 34 [.str s, .int .u8 n] (.int .i64 (Lib.indexByte s n.toNat.toUInt8)) := by
  refine AFn.intro tok Tryd.func34 (by kernel_rfl) rfl ?_
  simp only [Tryd.f34, St.start]
  refine AW.seqRun tok [] (by intro C; conv => lhs; simp) trivial ?_ -- r0 {}
  refine AW.seqRun tok [.tup [.str s, .int .u8 n], .int .i64 (Lib.indexByte s n.toNat.toUInt8)] (by intro C; conv => lhs; simp) (by simp) ?_ -- r1 {}
  exact AW.ret ⟨.inr rfl, _, _, by (conv => lhs; simp), trivial, by simp⟩
end Go.Proofs.YtdjjmppnnkkloaaDoor
