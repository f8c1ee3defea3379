import Derived.Test.YtdlejiiiifhiiaaGreatDoorSTextFew
namespace Go.Proofs.YtdlejiiiifhiiaaGreatDoor
open Sy Go
set_option maxRecDepth 100000
set_option maxHeartbeats 4000000
set_option linter.unusedSimpArgs false
set_option linter.unusedVariables false
variable {G : Glob}
theorem value_all (hG : U8 G) : ∀ N d, ValHyp G N d
  | 0, d => fun m s h => absurd h (by omega)
  | N + 1, d => fun m s hm h1 h2 h3 h4 => by
    by_cases h : m < N
    · exact value_all hG N d m s h h1 h2 h3 h4
    · obtain rfl : m = N := by omega
      obtain ⟨n, rfl⟩ : ∃ n, m = n + 1 := ⟨m - 1, by omega⟩
      exact value_step_ax hG n s d h1 h2 h3 h4 fun e k t hk => value_all hG (n + 1) e k t (by omega)
theorem one_ev (hG : U8 G) (s : List UInt8) (hs : s.length ≤ 1000000000) : AFn Tryz.prog G 9 [.str s] (.tup [(oneM s).1.enc, .int .i64 (oneM s).2.1, .int .i64 (oneM s).2.2]) := by
  refine AFn.introU tok Tryz.func9 (by kernel_rfl) rfl rfl ?_
  simp only [Tryz.f9, enumA, List.map_cons, List.map_nil]
  have hv := value_all hG (2 * s.length + 3) 1 (2 * s.length + 2) ⟨s, 0, false, false, false⟩ (by omega) (by simp only; omega) (by simp only; omega) (by simp only; omega) (by simp only; omega)
  have hfw := (few_read (2 * s.length + 2)).1 ⟨s, 0, false, false, false⟩ 1 (by simp)
  have hle := ((lens (2 * s.length + 2)).1 ⟨s, 0, false, false, false⟩ 1).1
  have hM : oneM s = if (valR (2 * s.length + 2) ⟨s, 0, false, false, false⟩ 1).1.bad = true then (zeroV, 0, 10) else if (valR (2 * s.length + 2) ⟨s, 0, false, false, false⟩ 1).1.deep = true then (zeroV, 0, 11) else if (valR (2 * s.length + 2) ⟨s, 0, false, false, false⟩ 1).1.big = true then (zeroV, 0, 3) else ((valR (2 * s.length + 2) ⟨s, 0, false, false, false⟩ 1).2, (s.length : Int) - (valR (2 * s.length + 2) ⟨s, 0, false, false, false⟩ 1).1.left.length, 0) := rfl
  rw [hM]
  generalize valR (2 * s.length + 2) ⟨s, 0, false, false, false⟩ 1 = r at *
  obtain ⟨⟨l, nn, b, dp, bg⟩, v⟩ := r
  simp only at hle hfw ⊢
  refine AW.seqRegionO [] ?_
  refine s1 tok [0, 2] ?_
  refine s1 tok [0, 2] ?_
  refine s1 tok [0, 2] ?_
  refine AOpsO.nil ?_
  refine AW.seqRegionO [] ?_
  refine s1 tok [0, 2, 7] ?_
  refine s1 tok [0, 2, 8] ?_
  refine s1 tok [0, 2, 9] ?_
  refine s1 tok [0, 2, 5] ?_
  refine AOpsO.nil ?_
  refine AW.renE 2 50 (by simp) (by conv => lhs; simp) ?_
  refine AW.renE 9 2 (by simp) (by conv => lhs; simp) ?_
  refine AW.seqRegionO [] ?_
  refine s1 tok [0, 2, 5, 10] ?_
  refine AOpsO.stepK [0, 2, 5, 11] (y_cx rfl hv (by simp)) (by conv => lhs; simp) rfl ?_
  refine s1 tok [0, 2, 5, 6, 11] ?_
  refine s1 tok [0, 2, 5, 6] ?_
  refine AOpsO.nil ?_
  refine AW.seq ?_
  refine AW.block ?_
  refine AW.seqRegionO [] ?_
  refine s1 tok [0, 2, 5, 6, 13] ?_
  refine s1 tok [0, 2, 5, 6, 14] ?_
  refine s1 tok [0, 2, 5, 6, 15] ?_
  refine s1 tok [0, 2, 5, 6, 16] ?_
  refine s1 tok [0, 2, 5, 6, 12] ?_
  refine AOpsO.nil ?_
  refine AW.cond (c := .tmp 12) (by conv => lhs; simp) trivial ?_ ?_
  · intro h12
    try simp at h12
    subst h12
    rw [if_pos rfl]
    refine AW.seqRegionO [] ?_
    refine s1 tok [2, 17] ?_
    refine s1 tok [2] ?_
    refine s1 tok [2, 3] ?_
    refine s1 tok [2, 3, 4] ?_
    refine AOpsO.nil ?_
    exact AW.ret ⟨.inr rfl, _, _, by (conv => lhs; simp), trivial, by simp [zeroV, dc0]⟩
  · intro h12
    try simp at h12
    rw [if_neg (by rw [h12]; simp)]
    refine AW.seqRegionO [] ?_
    refine s1 tok [0, 2, 5, 6, 19] ?_
    refine s1 tok [0, 2, 5, 6, 20] ?_
    refine s1 tok [0, 2, 5, 6, 21] ?_
    refine s1 tok [0, 2, 5, 6, 22] ?_
    refine s1 tok [0, 2, 5, 6, 18] ?_
    refine AOpsO.nil ?_
    refine AW.cond (c := .tmp 18) (by conv => lhs; simp) trivial ?_ ?_
    · intro h18
      try simp at h18
      subst h18
      rw [if_pos rfl]
      refine AW.seqRegionO [] ?_
      refine s1 tok [2, 23] ?_
      refine s1 tok [2] ?_
      refine s1 tok [2, 3] ?_
      refine s1 tok [2, 3, 4] ?_
      refine AOpsO.nil ?_
      exact AW.ret ⟨.inr rfl, _, _, by (conv => lhs; simp), trivial, by simp [zeroV, dc0]⟩
    · intro h18
      try simp at h18
      rw [if_neg (by rw [h18]; simp)]
      refine AW.seqRegionO [] ?_
      refine s1 tok [0, 2, 5, 6, 25] ?_
      refine s1 tok [0, 2, 5, 6, 26] ?_
      refine s1 tok [0, 2, 5, 6, 27] ?_
      refine s1 tok [0, 2, 5, 6, 28] ?_
      refine s1 tok [0, 2, 5, 6, 24] ?_
      refine AOpsO.nil ?_
      refine AW.cond (c := .tmp 24) (by conv => lhs; simp) trivial ?_ ?_
      · intro h24
        try simp at h24
        subst h24
        rw [if_pos rfl]
        refine AW.seqRegionO [] ?_
        refine s1 tok [2, 29] ?_
        refine s1 tok [2] ?_
        refine s1 tok [2, 3] ?_
        refine s1 tok [2, 3, 4] ?_
        refine AOpsO.nil ?_
        exact AW.ret ⟨.inr rfl, _, _, by (conv => lhs; simp), trivial, by simp [zeroV, dc0]⟩
      · intro h24
        try simp at h24
        rw [if_neg (by rw [h24]; simp)]
        have hcl := cloneF_ev (G := G) v (hfw h24).2.2.1
        simp only [Val.enc_def] at hcl
        refine AW.skip ?_
        refine AW.seqDrawS tok mixed 11 [[6], [30], [0], [32], [5], [34], [35], [36], [37], [33, 38], [2, 31]] [.nilp, v.enc] [] (by kernel_rfl) ?_
        refine d1 ?_ (hv := by first | with_reducible exact True.intro | (first | exact hcl | omega; done) | omega | simp | (simp; omega) | (simp +contextual; omega))
        refine d1 ?_ (hv := by first | with_reducible exact True.intro | (first | exact hcl | omega; done) | omega | simp | (simp; omega) | (simp +contextual; omega))
        refine d1 ?_
        refine d1 ?_ (hv := by first | with_reducible exact True.intro | (first | exact hcl | omega; done) | omega | simp | (simp; omega) | (simp +contextual; omega))
        refine d1 ?_
        refine d1 ?_ (hv := by first | with_reducible exact True.intro | (first | exact hcl | omega; done) | omega | simp | (simp; omega) | (simp +contextual; omega))
        refine d1 ?_
        refine d1 ?_ (hv := by first | with_reducible exact True.intro | (first | exact hcl | omega; done) | omega | simp | (simp; omega) | (simp +contextual; omega))
        refine d1 ?_ (hv := by first | with_reducible exact True.intro | (first | exact hcl | omega; done) | omega | simp | (simp; omega) | (simp +contextual; omega))
        refine d1 ?_ (hv := by first | with_reducible exact True.intro | (first | exact hcl | omega; done) | omega | simp | (simp; omega) | (simp +contextual; omega))
        refine d1 ?_ (hv := by first | with_reducible exact True.intro | (first | exact hcl | omega; done) | omega | simp | (simp; omega) | (simp +contextual; omega))
        refine DGo.nil (by kernel_rfl) ⟨by kernel_rfl, ?_⟩
        refine s1 tok [2, 3] ?_
        refine s1 tok [2, 3, 4] ?_
        refine AOpsO.nil ?_
        exact AW.ret ⟨.inr rfl, _, _, by (conv => lhs; simp), trivial, by simp⟩
end Go.Proofs.YtdlejiiiifhiiaaGreatDoor
