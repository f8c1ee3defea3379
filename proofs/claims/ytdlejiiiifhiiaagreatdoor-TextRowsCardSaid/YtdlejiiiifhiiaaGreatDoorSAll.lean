import Derived.Test.YtdlejiiiifhiiaaGreatDoorSAllL
import Derived.Test.YtdlejiiiifhiiaaGreatDoorSOne
import Derived.Test.YtdlejiiiifhiiaaGreatDoorM3
namespace Go.Proofs.YtdlejiiiifhiiaaGreatDoor
open Sy Go
set_option maxRecDepth 100000
set_option maxHeartbeats 4000000
set_option linter.unusedSimpArgs false
set_option linter.unusedVariables false
variable {G : Glob}
theorem all_ev (hG : U8 G) (s : List UInt8) (hs : s.length ≤ 1000000000) : AFn Tryz.prog G 15 [.str s] (.tup [.sl 9 ((allM s).1.map Val.enc), .int .i64 (allM s).2]) := by
  refine AFn.introU tok Tryz.func15 (by kernel_rfl) rfl rfl ?_
  simp only [Tryz.f15, enumA, List.map_cons, List.map_nil]
  refine AW.seqRegionO [] ?_
  refine s1 tok [0] ?_
  refine s1 tok [0] ?_
  refine AOpsO.nil ?_
  refine AW.seqRegionO [] ?_
  refine s1 tok [0, 4] ?_
  refine AOpsO.nil ?_
  refine AW.seq ?_
  refine AW.block ?_
  refine AW.beginE 4 3 31 9 (by simp) (by simp) (by conv => lhs; simp) ?_
  refine AW.loop (α := List UInt8 × List Val) (fun a => (∃ f, a.1.length < f ∧ allG f a.1 a.2 = allM s) ∧ a.1.length ≤ s.length ∧ a.2.length ≤ 64) (fun a => ⟨upds 33 [(0, .p (.str a.1)), (4, .ms 3)], [], [(3, .row 31 9 (a.2.map Val.enc))], 0⟩) (fun a => a.1.length) ((s, [])) ⟨⟨s.length + 1, by simp, rfl⟩, by simp, by simp⟩ ⟨upds_le (by simp), rfl, by simp, by simp⟩ ?_
  rintro ⟨r, vs⟩ ⟨⟨f, hf, hA⟩, hrl, hvl⟩
  simp only at hf hA hrl hvl
  have hT := Trim_ev (G := G) r [32, 9, 10, 13] (by simp) (by decide)
  have hn := trim_nil r
  have hO := one_ev hG r (by omega)
  obtain ⟨f, rfl⟩ : ∃ g, f = g + 1 := ⟨f - 1, by omega⟩
  rw [allG] at hA
  have hrg := one_range (s := r)
  generalize oneM r = o at *
  obtain ⟨ov, on, oe⟩ := o
  simp only at hA hO hrg
  simp at hO
  refine AW.seq ?_
  refine AW.seqRegionO [.nilp, .str (trimM r [32, 9, 10, 13])] ?_
  refine s1 tok [0, 4, 8] ?_
  refine s1 tok [0, 4, 9] ?_ (hv := by first | with_reducible exact True.intro | (exact hT; done) | omega | simp | (simp; omega) | (simp +contextual; omega))
  refine s1 tok [0, 4, 10] ?_ (hv := by first | with_reducible exact True.intro | (exact hT; done) | omega | simp | (simp; omega) | (simp +contextual; omega))
  refine AOpsO.nil ?_
  refine AW.cond (c := .tmp 10) (by conv => lhs; simp) trivial ?_ ?_
  · intro h10
    try simp at h10
    have hnb : ¬ r.all isBl = true := fun h => h10 (hn.2 h)
    rw [if_neg hnb] at hA
    refine AW.skip ?_
    refine AW.block ?_
    refine AW.seqRegionO [.nilp, .tup [ov.enc, .int .i64 on, .int .i64 oe]] ?_
    refine s1 tok [0, 4, 12] ?_
    refine s1 tok [0, 4, 13] ?_ (hv := by first | with_reducible exact True.intro | (first | exact hO | (simp; exact hO); done) | omega | simp | (simp; omega) | (simp +contextual; omega))
    refine s1 tok [0, 4, 11] ?_
    refine s1 tok [0, 4, 11, 14] ?_
    refine s1 tok [0, 4, 11, 14, 15] ?_
    refine s1 tok [0, 4, 14, 15, 16] ?_
    refine s1 tok [0, 4, 5, 14, 15, 16] ?_
    refine s1 tok [0, 4, 5, 15, 16] ?_ (hv := by first | with_reducible exact True.intro | (first | exact hO | (simp; exact hO); done) | omega | simp | (simp; omega) | (simp +contextual; omega))
    refine s1 tok [0, 4, 5, 6, 16] ?_
    refine s1 tok [0, 4, 5, 6, 7] ?_
    refine AOpsO.nil ?_
    refine AW.seq ?_
    refine AW.block ?_
    refine AW.seqRegionO [] ?_
    refine s1 tok [0, 4, 5, 6, 7, 18] ?_
    refine s1 tok [0, 4, 5, 6, 7, 19] ?_
    refine s1 tok [0, 4, 5, 6, 7, 17] ?_
    refine AOpsO.nil ?_
    refine AW.cond (c := .tmp 17) (by conv => lhs; simp) trivial ?_ ?_
    · intro h17
      try simp at h17
      rw [if_pos (by exact h17)] at hA
      rw [← hA]
      refine AW.seqRegionO [] ?_
      refine s1 tok [20] ?_
      refine s1 tok [2, 20] ?_
      refine s1 tok [2, 3] ?_
      refine AOpsO.nil ?_
      exact AW.ret ⟨.inr rfl, _, _, by (conv => lhs; simp), trivial, by simp⟩
    · intro h17
      try simp at h17
      rw [if_neg (by simpa using h17)] at hA
      obtain ⟨hr1, hr2⟩ := hrg (by simpa using h17)
      refine AW.seqRegionO [] ?_
      refine s1 tok [0, 4, 5, 6, 22] ?_
      refine s1 tok [0, 4, 5, 6, 23] ?_
      refine s1 tok [0, 4, 5, 6, 24] ?_
      refine s1 tok [0, 4, 5, 6, 21] ?_
      refine AOpsO.nil ?_
      refine AW.cond (c := .tmp 21) (by conv => lhs; simp) trivial ?_ ?_
      · intro h21
        try simp at h21
        rw [if_pos (by omega)] at hA
        rw [← hA]
        refine AW.seqRegionO [] ?_
        refine s1 tok [2] ?_
        refine s1 tok [2, 3] ?_
        refine AOpsO.nil ?_
        exact AW.ret ⟨.inr rfl, _, _, by (conv => lhs; simp), trivial, by simp⟩
      · intro h21
        try simp at h21
        rw [if_neg (by omega)] at hA
        refine AW.skip ?_
        refine AW.drawS tok mixed 8 [[4], [5], [26], [25, 27], [0], [6], [29, 30], [28]] [ov.enc] [] (by kernel_rfl) ?_
        refine d1 ?_
        refine d1 ?_ (hv := by first | with_reducible exact True.intro | (first | omega | (simp; omega) | simp; done) | omega | simp | (simp; omega) | (simp +contextual; omega))
        refine d1 ?_ (hv := by first | with_reducible exact True.intro | (first | omega | (simp; omega) | simp; done) | omega | simp | (simp; omega) | (simp +contextual; omega))
        refine d1 ?_ (hv := by first | with_reducible exact True.intro | (first | omega | (simp; omega) | simp; done) | omega | simp | (simp; omega) | (simp +contextual; omega))
        refine d1 ?_
        refine d1 ?_
        refine d1 ?_ (hv := by first | with_reducible exact True.intro | (first | omega | (simp; omega) | simp; done) | omega | simp | (simp; omega) | (simp +contextual; omega))
        refine d1 ?_
        refine DGo.nil (by kernel_rfl) ⟨by kernel_rfl, ?_⟩
        refine s1 tok [0, 4] ?_
        refine AOpsO.take 28 3 (by conv => lhs; simp) ?_
        refine AOpsO.nil ?_
        exact ⟨(r.drop on.toNat, vs ++ [ov]), ⟨⟨f, by simp; omega, hA⟩, by simp; omega, by simp; omega⟩, by simp; omega, upds_le (by simp), rfl, by simp, by simp⟩
  · intro h10
    try simp at h10
    rw [if_pos (hn.1 (by simpa using h10))] at hA
    rw [← hA]
    refine AW.exit ?_
    simp
    refine AW.seqRegionO [] ?_
    refine s1 tok [32] ?_
    refine s1 tok [2] ?_
    refine s1 tok [2, 3] ?_
    refine AOpsO.nil ?_
    exact AW.ret ⟨.inr rfl, _, _, by (conv => lhs; simp), trivial, by simp⟩
theorem sameAll_ev (l m : List Val) (he : l = m) (hs : ∀ x ∈ l, Val.sz x ≤ 1000000) (hn : l.length ≤ 1000000) (hS : ∀ x ∈ l, AFn Tryz.prog G 13 [x.enc, x.enc] (.bool true)) : AFn Tryz.prog G 16 [.sl 9 (l.map Val.enc), .sl 9 (m.map Val.enc)] (.bool true) := by
  refine AFn.introU tok Tryz.func16 (by kernel_rfl) rfl rfl ?_
  simp only [Tryz.f16, enumA, List.map_cons, List.map_nil]
  subst he
  refine AW.seqRegionO [] ?_
  refine s1 tok [0, 1] ?_
  refine AOpsO.nil ?_
  refine AW.seq ?_
  refine AW.seqRegionO [] ?_
  refine s1 tok [0, 1, 7] ?_
  refine s1 tok [0, 1, 8] ?_
  refine s1 tok [0, 1, 8, 9] ?_
  refine s1 tok [0, 1, 8, 10] ?_
  refine s1 tok [0, 1, 11] ?_
  refine AOpsO.nil ?_
  refine AW.cond (c := .tmp 11) (by conv => lhs; simp) trivial ?_ ?_
  · intro h11
    try simp at h11
  · intro h11
    try simp at h11
    refine AW.skip ?_
    refine AW.seq ?_
    refine AW.seqRegionO [] ?_
    refine s1 tok [0, 1, 5] ?_
    refine AOpsO.nil ?_
    refine AW.block ?_
    refine AW.loop (α := Nat) (fun k => k ≤ l.length) (fun k => ⟨upds 29 [(0, .p (.sl 9 (l.map Val.enc))), (1, .p (.sl 9 (l.map Val.enc))), (5, .p (.int .i64 k))], [], [], 0⟩) (fun k => l.length - k) (0) (by omega) ⟨upds_le (by simp), rfl, by simp, by simp⟩ ?_
    rintro k hk
    refine AW.seq ?_
    refine AW.seqRegionO [] ?_
    refine s1 tok [0, 1, 5, 12] ?_
    refine s1 tok [0, 1, 5, 12, 13] ?_
    refine s1 tok [0, 1, 5, 12, 14] ?_
    refine s1 tok [0, 1, 5, 15] ?_
    refine AOpsO.nil ?_
    refine AW.cond (c := .tmp 15) (by conv => lhs; simp) trivial ?_ ?_
    · intro h15
      try simp at h15
      obtain ⟨x, hx⟩ : ∃ x, l[k]? = some x := ⟨l[k], by simp [h15]⟩
      have hix := hS x (List.mem_of_getElem? hx)
      simp only [Val.enc_def] at hix
      refine AW.skip ?_
      refine AW.seq ?_
      refine AW.block ?_
      refine AW.seqDrawS tok mixed 9 [[0], [5], [18, 19], [20], [1], [5], [22, 23], [24], [21, 25]] [x.enc, x.enc, .nilp, .bool true] [] (by kernel_rfl) ?_
      refine d1 ?_
      refine d1 ?_
      refine d1 ?_ (hv := by first | with_reducible exact True.intro | (first | exact hix | (simp [hx]; done) | (refine ⟨x, ?_⟩; simp [hx]; done); done) | omega | simp | (simp; omega) | (simp +contextual; omega))
      refine d1 ?_ (hv := by first | with_reducible exact True.intro | (first | exact hix | (simp [hx]; done) | (refine ⟨x, ?_⟩; simp [hx]; done); done) | omega | simp | (simp; omega) | (simp +contextual; omega))
      refine d1 ?_
      refine d1 ?_
      refine d1 ?_ (hv := by first | with_reducible exact True.intro | (first | exact hix | (simp [hx]; done) | (refine ⟨x, ?_⟩; simp [hx]; done); done) | omega | simp | (simp; omega) | (simp +contextual; omega))
      refine d1 ?_ (hv := by first | with_reducible exact True.intro | (first | exact hix | (simp [hx]; done) | (refine ⟨x, ?_⟩; simp [hx]; done); done) | omega | simp | (simp; omega) | (simp +contextual; omega))
      refine d1 ?_ (hv := by first | with_reducible exact True.intro | (first | exact hix | (simp [hx]; done) | (refine ⟨x, ?_⟩; simp [hx]; done); done) | omega | simp | (simp; omega) | (simp +contextual; omega))
      refine DGo.nil (by kernel_rfl) ⟨by kernel_rfl, ?_⟩
      refine s1 tok [0, 1, 5, 6] ?_
      refine AOpsO.nil ?_
      refine AW.seqRegionO [] ?_
      refine s1 tok [0, 1, 5, 27] ?_
      refine s1 tok [0, 1, 5, 28] ?_
      refine AOpsO.nil ?_
      refine AW.cond (c := .tmp 28) (by conv => lhs; simp) trivial ?_ ?_
      · intro h28
        try simp at h28
      · intro h28
        try simp at h28
        refine AW.skip ?_
        refine AW.regionO [] ?_
        refine s1 tok [0, 1, 16] ?_
        refine s1 tok [0, 1, 17] ?_
        refine s1 tok [0, 1, 5] ?_
        refine AOpsO.nil ?_
        exact ⟨k + 1, by omega, by omega, upds_le (by simp), rfl, by simp, by simp⟩
    · intro h15
      try simp at h15
      refine AW.exit ?_
      simp
      refine AW.seqRegionO [] ?_
      refine s1 tok [4] ?_
      refine AOpsO.nil ?_
      exact AW.ret ⟨.inr rfl, _, _, by (conv => lhs; simp), trivial, by simp⟩
end Go.Proofs.YtdlejiiiifhiiaaGreatDoor
