import Derived.Test.YtdlejiiiifhiiaaDoorM4
import Derived.Test.YtdlejiiiifhiiaaDoorSRunes
namespace Go.Proofs.YtdlejiiiifhiiaaDoor
open Sy Go
set_option maxRecDepth 100000
set_option maxHeartbeats 4000000
set_option linter.unusedSimpArgs false
set_option linter.unusedVariables false
variable {G : Glob}

theorem indexFunc_ev (s : List UInt8) (g : FuncId) (p : Int → Bool) (hg : ∀ n : Int, AFn Tryd.prog G g [.int .i32 n] (.bool (p n))) : AFn Tryd.prog G 92 [.str s, .fn g, .bool true] (.int .i64 (indexF p s)) := by
  refine AFn.introU tok Tryd.func92 (by kernel_rfl) rfl rfl ?_
  simp only [Tryd.f92, enumA, List.map_cons, List.map_nil]
  refine AW.seqRegionO [] ?_
  refine s1 tok [0, 1, 2] ?_
  refine AOpsO.nil ?_
  refine AW.seq ?_
  refine AW.seqRegionO [] ?_
  refine s1 tok [1, 2, 9] ?_
  refine s1 tok [1, 2, 10] ?_
  refine AOpsO.nil ?_
  refine AW.block ?_
  refine AW.loop (α := Nat) (fun pos => idxAt p s pos = indexF p s) (fun pos => ⟨upds 21 [(1, .p (.fn g)), (2, .p (.bool true)), (10, .it 10)], [], [(10, .iter s pos)], 0⟩) (fun pos => s.length - pos) (0) (indexF_at p s).symm ⟨upds_le (by simp), rfl, by simp, by simp⟩ ?_
  rintro pos hi
  have hpos : pos < s.length → 1 ≤ (decL s pos).2 := decL_pos
  by_cases hs2 : pos < s.length
  ·
    refine AW.seqRegionO [.bool true] ?_
    refine s1 tok [1, 2, 10, 11] ?_ (hv := by first | with_reducible exact True.intro | (simpa using hs2; done) | omega | simp | (simp; omega) | (simp +contextual; omega))
    refine s1 tok [1, 2, 10, 11, 12] ?_
    refine AOpsO.nil ?_
    refine AW.seq ?_
    refine AW.cond (c := .tmp 12) (by conv => lhs; simp) trivial ?_ ?_
    · intro h12
      try simp at h12
      refine AW.skip ?_
      refine AW.block ?_
      refine AW.seqRegionO [] ?_
      refine s1 tok [1, 2, 10, 11, 13] ?_
      refine s1 tok [1, 2, 10, 13, 14] ?_
      refine s1 tok [1, 2, 7, 10, 14] ?_
      refine s1 tok [1, 2, 7, 8, 10] ?_
      refine AOpsO.nil ?_
      refine AW.seqRegionO [.nilp, .bool (p (decL s pos).1)] ?_
      refine s1 tok [1, 2, 7, 8, 10, 15] ?_
      refine s1 tok [1, 2, 7, 10, 15, 16] ?_
      refine s1 tok [1, 2, 7, 10, 17] ?_ (hv := by first | with_reducible exact True.intro | (exact hg _; done) | omega | simp | (simp; omega) | (simp +contextual; omega))
      refine s1 tok [1, 2, 7, 10, 17, 18] ?_
      refine s1 tok [1, 2, 7, 10, 19] ?_ (hv := by first | with_reducible exact True.intro | (exact hg _; done) | omega | simp | (simp; omega) | (simp +contextual; omega))
      refine AOpsO.nil ?_
      refine AW.cond (c := .tmp 19) (by conv => lhs; simp) trivial ?_ ?_
      · intro h19
        try simp at h19
        have hI : indexF p s = pos := by rw [← hi, idxAt_hit hs2 (by simpa using h19)]
        refine AW.seqRegionO [] ?_
        refine s1 tok [20] ?_
        refine s1 tok [6] ?_
        refine AOpsO.nil ?_
        exact AW.ret ⟨.inr rfl, _, _, by (conv => lhs; simp), trivial, by simp [hI]⟩
      · intro h19
        try simp at h19
        have hnx : idxAt p s (pos + (decL s pos).2) = indexF p s := by rw [← idxAt_miss hs2 (by simpa using h19)]; exact hi
        refine AW.skip ?_
        exact ⟨pos + (decL s pos).2, hnx, by have := hpos hs2; omega, upds_le (by simp), rfl, by simp, by simp⟩
    · intro h12
      try simp at h12
  ·
    refine AW.seqRegionO [.bool false] ?_
    refine s1 tok [1, 2, 10, 11] ?_ (hv := by first | with_reducible exact True.intro | (simpa using hs2; done) | omega | simp | (simp; omega) | (simp +contextual; omega))
    refine s1 tok [1, 2, 10, 11, 12] ?_
    refine AOpsO.nil ?_
    refine AW.seq ?_
    refine AW.cond (c := .tmp 12) (by conv => lhs; simp) trivial ?_ ?_
    · intro h12
      try simp at h12
    · intro h12
      try simp at h12
      refine AW.exit ?_
      simp
      refine AW.seqRegionO [] ?_
      refine s1 tok [6] ?_
      refine AOpsO.nil ?_
      exact AW.ret ⟨.inr rfl, _, _, by (conv => lhs; simp), trivial, by simp [← hi, idxAt_end hs2]⟩
theorem IndexFunc_ev (s : List UInt8) (g : FuncId) (p : Int → Bool) (hg : ∀ n : Int, AFn Tryd.prog G g [.int .i32 n] (.bool (p n))) : AFn Tryd.prog G 81 [.str s, .fn g] (.int .i64 (indexF p s)) := by
  refine AFn.introU tok Tryd.func81 (by kernel_rfl) rfl rfl ?_
  simp only [Tryd.f81, enumA, List.map_cons, List.map_nil]
  refine AW.seqRegionO [] ?_
  refine s1 tok [0, 1] ?_
  refine AOpsO.nil ?_
  refine AW.seqRegionO [.nilp, .int .i64 (indexF p s)] ?_
  refine s1 tok [1, 5] ?_
  refine s1 tok [5, 6] ?_
  refine s1 tok [7] ?_ (hv := by first | with_reducible exact True.intro | (exact indexFunc_ev s g p hg; done) | omega | simp | (simp; omega) | (simp +contextual; omega))
  refine s1 tok [4] ?_
  refine AOpsO.nil ?_
  exact AW.ret ⟨.inr rfl, _, _, by (conv => lhs; simp), trivial, by simp⟩
-- no ContainsFunc_ev
end Go.Proofs.YtdlejiiiifhiiaaDoor
