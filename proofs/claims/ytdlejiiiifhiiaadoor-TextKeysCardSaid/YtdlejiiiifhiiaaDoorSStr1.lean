import Derived.Test.YtdlejiiiifhiiaaDoorM4
namespace Go.Proofs.YtdlejiiiifhiiaaDoor
open Sy Go
set_option maxRecDepth 100000
set_option linter.unusedSimpArgs false
set_option linter.unusedVariables false
variable {G : Glob}

def hasPre (s p : List UInt8) : Bool := decide (p.length ≤ s.length) && decide (s.take p.length = p)
@[simp] theorem sHasPrefix_ev (s p : List UInt8) : AFn Tryd.prog G 44 [.str s, .str p] (.bool (hasPre s p)) := by
  refine AFn.intro tok Tryd.func44 (by kernel_rfl) rfl ?_
  simp only [Tryd.f44, St.start]
  refine AW.seqRun tok [] (by intro C; conv => lhs; simp) trivial ?_ -- r0 {}
  refine AW.seqRun tok [] (by intro C; conv => lhs; simp) (by simp +contextual) ?_ -- r1 {}
  exact AW.ret ⟨.inr rfl, _, _, by (conv => lhs; simp), trivial, by simp [hasPre]⟩
@[simp] theorem HasPrefix_ev (s p : List UInt8) : AFn Tryd.prog G 26 [.str s, .str p] (.bool (hasPre s p)) := by
  refine AFn.intro tok Tryd.func26 (by kernel_rfl) rfl ?_
  simp only [Tryd.f26, St.start]
  refine AW.seqRun tok [] (by intro C; conv => lhs; simp) trivial ?_ -- r0 {}
  refine AW.seqRun tok [.tup [.str s, .str p], .bool (hasPre s p)] (by intro C; conv => lhs; simp) (by simp) ?_ -- r1 {}
  exact AW.ret ⟨.inr rfl, _, _, by (conv => lhs; simp), trivial, by simp⟩
def cutPre (s p : List UInt8) : List UInt8 := if hasPre s p then s.drop p.length else s
@[simp] theorem sCutPrefix_ev (s p : List UInt8) : AFn Tryd.prog G 57 [.str s, .str p] (.tup [.str (cutPre s p), .bool (hasPre s p)]) := by
  refine AFn.intro tok Tryd.func57 (by kernel_rfl) rfl ?_
  simp only [Tryd.f57, St.start]
  refine AW.seqRun tok [] (by intro C; conv => lhs; simp) trivial ?_ -- r0 {}
  refine AW.seq ?_
  refine AW.seqRun tok [.tup [.str s, .str p], .bool (hasPre s p)] (by intro C; conv => lhs; simp) (by simp) ?_ -- r1 {t8:CALL call f38(t6, t7) args,res}
  refine AW.cond (c := .tmp 9) (by conv => lhs; simp) trivial ?_ ?_
  · intro h1
    simp at h1
    refine AW.seqRun tok [] (by intro C; conv => lhs; simp) trivial ?_ -- r2 {}
    exact AW.ret ⟨.inr rfl, _, _, by (conv => lhs; simp), trivial, by simp [cutPre, h1]⟩
  · intro h1
    simp at h1
    refine AW.skip ?_
    refine AW.seqRun tok [] (by intro C; conv => lhs; simp) (by simp [hasPre] at h1 ⊢; omega) ?_ -- r3 {}
    exact AW.ret ⟨.inr rfl, _, _, by (conv => lhs; simp), trivial, by simp [cutPre, h1]⟩
@[simp] theorem CutPrefix_ev (s p : List UInt8) : AFn Tryd.prog G 39 [.str s, .str p] (.tup [.str (cutPre s p), .bool (hasPre s p)]) := by
  refine AFn.intro tok Tryd.func39 (by kernel_rfl) rfl ?_
  simp only [Tryd.f39, St.start]
  refine AW.seqRun tok [] (by intro C; conv => lhs; simp) trivial ?_ -- r0 {}
  refine AW.seqRun tok [.tup [.str s, .str p], .tup [.str (cutPre s p), .bool (hasPre s p)]] (by intro C; conv => lhs; simp) (by simp) ?_ -- r1 {}
  exact AW.ret ⟨.inr rfl, _, _, by (conv => lhs; simp), trivial, by simp⟩

theorem ext68 : IsExt Tryd.prog 96 Extern.BytealgIndexByte.indexByte := fun args w => run_callFunc_extern Tryd.func96 (by kernel_rfl) (by kernel_rfl) (by kernel_rfl) (by kernel_rfl) args w
@[simp] theorem sIndexByte_ev (s : List UInt8) (n : Int) : AFn Tryd.prog G 90 [.str s, .int .u8 n] (.int .i64 (Lib.indexByte s n.toNat.toUInt8)) := by
  refine AFn.intro tok Tryd.func90 (by kernel_rfl) rfl ?_
  simp only [Tryd.f90, St.start]
  refine AW.seqRun tok [] (by intro C; conv => lhs; simp) trivial ?_ -- r0 {}
  refine AW.seqRunX tok 2 [] [] rfl rfl (by intro C; conv => lhs; simp) trivial (y_indexByte (s := s) (n := n) (p := True) (q := True) (r := True) ext68 rfl (by simp) trivial (by simp) trivial (by simp) trivial) (by intro C; conv => lhs; simp) trivial ?_
  exact AW.ret ⟨.inr rfl, _, _, by (conv => lhs; simp), trivial, by simp⟩
@[simp] theorem IndexByte_ev (s : List UInt8) (n : Int) : AFn Tryd.prog G 77 [.str s, .int .u8 n] (.int .i64 (Lib.indexByte s n.toNat.toUInt8)) := by
  refine AFn.intro tok Tryd.func77 (by kernel_rfl) rfl ?_
  simp only [Tryd.f77, St.start]
  refine AW.seqRun tok [] (by intro C; conv => lhs; simp) trivial ?_ -- r0 {}
  refine AW.seqRun tok [.tup [.str s, .int .u8 n], .int .i64 (Lib.indexByte s n.toNat.toUInt8)] (by intro C; conv => lhs; simp) (by simp) ?_ -- r1 {}
  exact AW.ret ⟨.inr rfl, _, _, by (conv => lhs; simp), trivial, by simp⟩
end Go.Proofs.YtdlejiiiifhiiaaDoor
