import Derived.Test.YtdjjmppnnkkloaaGreatDoorK2
import Derived.Test.YtdjjmppnnkkloaaGreatDoorSDelS
namespace Go.Proofs.YtdjjmppnnkkloaaGreatDoor
open Sy Go
set_option maxRecDepth 100000
set_option maxHeartbeats 4000000
set_option linter.unusedSimpArgs false
set_option linter.unusedVariables false
variable {G : Glob}
theorem fuelP_ev (n : Int) : AFn Tryz.prog G 47 [.int .i64 n] (.bool (fuelM n)) := by
  refine AFn.introU tok Tryz.func47 (by kernel_rfl) rfl rfl ?_
  simp only [Tryz.f47, enumA, List.map_cons, List.map_nil]
  refine rgn [] [[0]] ?_
  refine op1 tok ?_
  refine runEnd ?_
  refine rgn [] [[], [], [], [], [5, 7], [], [2]] ?_
  iterate 3 refine op1 tok ?_
  iterate 2 refine op2 tok ?_
  iterate 2 refine op1 tok ?_
  refine runEnd ?_
  exact AW.ret ⟨.inr rfl, _, _, by (conv => lhs; simp), trivial, by simp [fuelM]⟩
theorem atoi_two (s : List UInt8) : ∃ b : Bool, (atoiT s).2 = (if b = true then PD.err else .noerr) ∧ isErr (atoiT s).2 = b := by
  unfold atoiT
  split
  · exact ⟨false, rfl, rfl⟩
  · exact ⟨true, rfl, rfl⟩
  · exact ⟨true, rfl, rfl⟩
theorem number_ev (hE : PE G) (s : List UInt8) (hs : s.length ≤ 1000000000) : AFn Tryz.prog G 74 [.str s] (.int .i64 (numberM s)) := by
  refine AFn.introU tok Tryz.func74 (by kernel_rfl) rfl rfl ?_
  simp only [Tryz.f74, enumA, List.map_cons, List.map_nil]
  have hA := Atoi_ev hE s (by omega)
  obtain ⟨b, hb, hb2⟩ := atoi_two s
  unfold numberM
  rw [hb2]
  rw [hb] at hA
  generalize (atoiT s).1 = v at *
  have hf := fuelP_ev (G := G) v
  refine rgn [] [[0]] ?_
  refine op1 tok ?_
  refine runEnd ?_
  by_cases hs1 : b = true
  ·
    first | (subst hs1; simp only [if_true] at hA) | (obtain rfl : b = false := (by simpa using hs1); simp only [Bool.false_eq_true, if_false] at hA)
    refine rgn [.nilp, .tup [.int .i64 v, .err]] [[], [], [], [], [8, 9], [], [3, 4]] ?_
    iterate 7 refine op1 tok ?_ (hv := by first | with_reducible exact True.intro | (exact hA; done) | omega | simp | (simp; omega) | (simp +contextual; omega))
    refine runEnd ?_
    refine AW.seq ?_
    refine rgn [.nilp, .bool (fuelM v)] [[]] ?_
    refine op1 tok ?_ (hv := by first | with_reducible exact True.intro | (first | exact hf | simp [hf]; done) | omega | simp | (simp; omega) | (simp +contextual; omega))
    refine runOff ?_
    refine AOpsO.stepK [3, 11] (y_errNe true rfl (by kernel_rfl) (by (conv => lhs; simp); rfl) trivial) (by conv => lhs; simp) rfl ?_
    refine AOpsO.run [[], [], [], [], [3, 16]] ?_
    refine op1 tok ?_ (hv := by first | with_reducible exact True.intro | (first | exact hf | simp [hf]; done) | omega | simp | (simp; omega) | (simp +contextual; omega))
    iterate 3 refine op2 tok ?_ (hv := by first | with_reducible exact True.intro | (first | exact hf | simp [hf]; done) | omega | simp | (simp; omega) | (simp +contextual; omega))
    refine op1 tok ?_ (hv := by first | with_reducible exact True.intro | (first | exact hf | simp [hf]; done) | omega | simp | (simp; omega) | (simp +contextual; omega))
    refine runEnd ?_
    refine cnd ?_ ?_
    · intro h16
      try simp at h16
      rw [if_pos (.inl rfl)]
      refine rgn [] [[]] ?_
      refine op1 tok ?_
      refine runEnd ?_
      exact AW.ret ⟨.inr rfl, _, _, by (conv => lhs; simp), trivial, by simp⟩
    · intro h16
      try simp at h16
  ·
    first | (subst hs1; simp only [if_true] at hA) | (obtain rfl : b = false := (by simpa using hs1); simp only [Bool.false_eq_true, if_false] at hA)
    refine rgn [.nilp, .tup [.int .i64 v, .noerr]] [[], [], [], [], [8, 9], [], [3, 4]] ?_
    iterate 7 refine op1 tok ?_ (hv := by first | with_reducible exact True.intro | (exact hA; done) | omega | simp | (simp; omega) | (simp +contextual; omega))
    refine runEnd ?_
    refine AW.seq ?_
    refine rgn [.nilp, .bool (fuelM v)] [[]] ?_
    refine op1 tok ?_ (hv := by first | with_reducible exact True.intro | (first | exact hf | simp [hf]; done) | omega | simp | (simp; omega) | (simp +contextual; omega))
    refine runOff ?_
    refine AOpsO.stepK [3, 11] (y_errNe false rfl (by kernel_rfl) (by (conv => lhs; simp); rfl) trivial) (by conv => lhs; simp) rfl ?_
    refine AOpsO.run [[], [], [], [], [3, 16]] ?_
    refine op1 tok ?_ (hv := by first | with_reducible exact True.intro | (first | exact hf | simp [hf]; done) | omega | simp | (simp; omega) | (simp +contextual; omega))
    iterate 3 refine op2 tok ?_ (hv := by first | with_reducible exact True.intro | (first | exact hf | simp [hf]; done) | omega | simp | (simp; omega) | (simp +contextual; omega))
    refine op1 tok ?_ (hv := by first | with_reducible exact True.intro | (first | exact hf | simp [hf]; done) | omega | simp | (simp; omega) | (simp +contextual; omega))
    refine runEnd ?_
    refine cnd ?_ ?_
    · intro h16
      try simp at h16
      rw [if_pos (.inr h16)]
      refine rgn [] [[]] ?_
      refine op1 tok ?_
      refine runEnd ?_
      exact AW.ret ⟨.inr rfl, _, _, by (conv => lhs; simp), trivial, by simp⟩
    · intro h16
      try simp at h16
      rw [if_neg (by simp [h16])]
      refine AW.skip ?_
      refine rgn [] [[], [2]] ?_
      iterate 2 refine op1 tok ?_
      refine runEnd ?_
      exact AW.ret ⟨.inr rfl, _, _, by (conv => lhs; simp), trivial, by simp⟩
theorem marksP_ev (hG : U8 G) (p : Pol) (hl : p.marks.length ≤ 1000000) : AFn Tryz.prog G 45 [p.enc] (.int .i64 (marksM p.cats.length p.marks)) := by
  refine AFn.introU tok Tryz.func45 (by kernel_rfl) rfl rfl ?_
  simp only [Tryz.f45, enumA, List.map_cons, List.map_nil]
  refine rgn [] [[], [1]] ?_
  iterate 2 refine op1 tok ?_
  refine runEnd ?_
  refine AW.seq ?_
  refine rgn [] [[], [], [], [1, 7, 8, 9]] ?_
  iterate 4 refine op1 tok ?_
  refine runEnd ?_
  refine AW.block ?_
  refine AW.loop (α := Nat) (fun k => k ≤ p.marks.length ∧ marksM p.cats.length p.marks = marksM p.cats.length (p.marks.drop k)) (fun k => ⟨upds 38 [(1, .ptr 1 0), (7, .p (.sl 2 (p.marks.map Mk.enc))), (8, .p (.int .i64 p.marks.length)), (9, .p (.int .i64 k))], [], [(1, .vars 25 [.p (.sl 1 (p.cats.map PD.str)), .p (.sl 2 (p.marks.map Mk.enc)), .p (.str p.token), .p (.int .i64 p.fuel), .p (.int .i64 p.quota)])], 0⟩) (fun k => p.marks.length - k) (0) ⟨by omega, rfl⟩ ⟨upds_le (by simp), rfl, by simp, by simp⟩ ?_
  rintro k ⟨hk, hq⟩
  refine rgn [] [[]] ?_
  refine op1 tok ?_
  refine runEnd ?_
  refine AW.seq ?_
  refine cnd ?_ ?_
  · intro h10
    try simp at h10
    obtain ⟨x, hx⟩ : ∃ x, p.marks[k]? = some x := ⟨p.marks[k], by simp [h10]⟩
    have hdx : p.marks.drop k = x :: p.marks.drop (k + 1) := by
      obtain ⟨h, rfl⟩ := List.getElem?_eq_some_iff.1 hx
      exact List.drop_eq_getElem_cons h
    rw [hdx] at hq
    simp only [marksM] at hq
    have hM := May_ev hG x.path
    have hbad : badM p.cats.length x.mask = true ↔ (x.mask = 0 ∨ ((p.cats.length : Int) < 64 ∧ ¬ x.mask.fdiv (2 ^ min p.cats.length IntKind.u64.bits) = 0)) := by
      unfold badM
      simp only [Bool.or_eq_true, Bool.and_eq_true, decide_eq_true_eq]
      have e : ((p.cats.length : Int) < 64) → x.mask.fdiv (2 ^ min p.cats.length IntKind.u64.bits) = x.mask / 2 ^ p.cats.length := fun h => by
        rw [Nat.min_eq_left (by simp [IntKind.bits]; omega), Int.fdiv_eq_ediv_of_nonneg _ (Int.le_of_lt (Int.pow_pos (by decide)))]
      constructor
      · rintro (h | ⟨h, h2⟩)
        · exact .inl h
        · exact .inr ⟨h, by rw [e h]; exact h2⟩
      · rintro (h | ⟨h, h2⟩)
        · exact .inl h
        · exact .inr ⟨h, by rw [e h] at h2; exact h2⟩
    refine AW.skip ?_
    refine AW.seq ?_
    refine AW.block ?_
    refine rgn [x.enc] [[], [], [], [1, 4, 7, 8, 9]] ?_
    iterate 4 refine op1 tok ?_ (hv := by first | with_reducible exact True.intro | (simp [hx]; done) | omega | simp | (simp; omega) | (simp +contextual; omega))
    refine runEnd ?_
    refine AW.seq ?_
    refine rgn [.nilp, .int .i64 (mayL x.path)] [[], [], [], [1, 4, 5, 7, 8, 9]] ?_
    iterate 4 refine op1 tok ?_ (hv := by first | with_reducible exact True.intro | (exact hM; done) | omega | simp | (simp; omega) | (simp +contextual; omega))
    refine runEnd ?_
    refine rgn [] [[], [1, 4, 5, 7, 8, 9, 17]] ?_
    iterate 2 refine op1 tok ?_
    refine runEnd ?_
    refine cnd ?_ ?_
    · intro h17
      try simp at h17
      rw [if_pos h17] at hq
      rw [hq]
      refine rgn [] [[], [2]] ?_
      iterate 2 refine op1 tok ?_
      refine runEnd ?_
      exact AW.ret ⟨.inr rfl, _, _, by (conv => lhs; simp), trivial, by simp⟩
    · intro h17
      try simp at h17
      rw [if_neg (by simp [h17])] at hq
      refine AW.skip ?_
      refine rgn [] [[], [], [], [], [], [1, 4, 7, 8, 9, 22, 24], [], [], [], [1, 7, 8, 9, 22, 27, 28], [], [], [], [], [1, 7, 8, 9, 22, 27, 33], [], [], [1, 7, 8, 9, 36]] ?_
      iterate 4 refine op1 tok ?_
      iterate 13 refine op2 tok ?_
      refine op1 tok ?_
      refine runEnd ?_
      refine cnd ?_ ?_
      · intro h36
        try simp at h36
        rw [if_pos (hbad.2 h36)] at hq
        rw [hq]
        refine rgn [] [[]] ?_
        refine op1 tok ?_
        refine runEnd ?_
        exact AW.ret ⟨.inr rfl, _, _, by (conv => lhs; simp), trivial, by simp⟩
      · intro h36
        try simp at h36
        rw [if_neg fun h => by
          rcases hbad.1 h with h | ⟨h, h2⟩
          · exact h36.1 h
          · exact h2 (h36.2 h)] at hq
        refine AW.skip ?_
        refine rgz [] [[], [1, 7, 8, 9]] ?_
        iterate 2 refine op1 tok ?_
        refine runEnd ?_
        exact ⟨k + 1, ⟨by omega, hq⟩, by omega, upds_le (by simp), rfl, by simp, by simp⟩
  · intro h10
    try simp at h10
    rw [List.drop_of_length_le h10] at hq
    rw [hq]
    simp only [marksM]
    refine AW.exit ?_
    simp
    refine rgn [] [[]] ?_
    refine op1 tok ?_
    refine runEnd ?_
    exact AW.ret ⟨.inr rfl, _, _, by (conv => lhs; simp), trivial, by simp⟩
theorem polMay_ev (hG : U8 G) (p : Pol) : AFn Tryz.prog G 15 [p.enc] (.int .i64 (polMay p)) := by
  refine AFn.introU tok Tryz.func15 (by kernel_rfl) rfl rfl ?_
  simp only [Tryz.f15, enumA, List.map_cons, List.map_nil]
  have h1 := catsMay_ev (G := G) p.cats
  have h2 := fun h => marksP_ev hG p h
  have h3 := Valid_ev hG p.token
  have h4 := fuelP_ev (G := G) p.fuel
  have h5 := fuelP_ev (G := G) p.quota
  unfold polMay
  simp only [Pol.enc] at h2
  generalize catsMayM p.cats = c at *
  generalize marksM p.cats.length p.marks = m at *
  refine rgn [] [[], [1]] ?_
  iterate 2 refine op1 tok ?_
  refine runEnd ?_
  refine AW.seq ?_
  refine rgn [.nilp, .int .i64 c] [[], [], [], [1, 3]] ?_
  iterate 4 refine op1 tok ?_ (hv := by first | with_reducible exact True.intro | (exact h1; done) | omega | simp | (simp; omega) | (simp +contextual; omega))
  refine runEnd ?_
  refine rgn [] [[], [1, 3, 9]] ?_
  iterate 2 refine op1 tok ?_
  refine runEnd ?_
  refine cnd ?_ ?_
  · intro h9
    try simp at h9
    rw [if_pos h9]
    refine rgn [] [[], [2]] ?_
    iterate 2 refine op1 tok ?_
    refine runEnd ?_
    exact AW.ret ⟨.inr rfl, _, _, by (conv => lhs; simp), trivial, by simp⟩
  · intro h9
    try simp at h9
    rw [if_neg (by simp [h9])]
    refine AW.skip ?_
    refine AW.seq ?_
    refine rgn [] [[], [], [], [1, 14]] ?_
    iterate 4 refine op1 tok ?_
    refine runEnd ?_
    refine cnd ?_ ?_
    · intro h14
      try simp at h14
      rw [if_pos (by omega)]
      refine rgn [] [[]] ?_
      refine op1 tok ?_
      refine runEnd ?_
      exact AW.ret ⟨.inr rfl, _, _, by (conv => lhs; simp), trivial, by simp⟩
    · intro h14
      try simp at h14
      rw [if_neg (by omega)]
      have h2' := h2 (by omega)
      refine AW.skip ?_
      refine AW.seq ?_
      refine rgn [.nilp, .int .i64 m] [[], [], [1, 4]] ?_
      iterate 3 refine op1 tok ?_ (hv := by first | with_reducible exact True.intro | (first | exact h2' | (simp; exact h2'); done) | omega | simp | (simp; omega) | (simp +contextual; omega))
      refine runEnd ?_
      refine rgn [] [[], [1, 4, 18]] ?_
      iterate 2 refine op1 tok ?_
      refine runEnd ?_
      refine cnd ?_ ?_
      · intro h18
        try simp at h18
        rw [if_pos h18]
        refine rgn [] [[], [2]] ?_
        iterate 2 refine op1 tok ?_
        refine runEnd ?_
        exact AW.ret ⟨.inr rfl, _, _, by (conv => lhs; simp), trivial, by simp⟩
      · intro h18
        try simp at h18
        rw [if_neg (by simp [h18])]
        refine AW.skip ?_
        refine AW.seq ?_
        refine rgn [.nilp, .bool (Lib.validD p.token), .nilp, .bool (fuelM p.fuel), .nilp, .bool (fuelM p.quota)] [[], [], [], [], [1, 24], [], [], [], [], [1, 29], [], [], [], [], [1, 30, 34], [], [], [36, 37], [], [], [], [41]] ?_
        iterate 22 first | refine op1 tok ?_ (hv := by first | with_reducible exact True.intro | (first | exact h3 | ((repeat' (first | with_reducible apply And.intro | intro _)) <;> first | exact (h3) | exact (h4) | exact (h5) | assumption | omega | contradiction | simp_all); done) | omega | simp | (simp; omega) | (simp +contextual; omega)) | refine op2 tok ?_ (hv := by first | with_reducible exact True.intro | (first | exact h3 | ((repeat' (first | with_reducible apply And.intro | intro _)) <;> first | exact (h3) | exact (h4) | exact (h5) | assumption | omega | contradiction | simp_all); done) | omega | simp | (simp; omega) | (simp +contextual; omega))
        refine runEnd ?_
        refine cnd ?_ ?_
        · intro h41
          try simp at h41
          rw [if_pos]
          rotate_left
          · rcases h41 with ((h | h) | h) | h
            · exact .inl (by omega)
            · exact .inr (.inl h)
            · exact .inr (.inr (.inl h))
            · exact .inr (.inr (.inr h))
          refine rgn [] [[]] ?_
          refine op1 tok ?_
          refine runEnd ?_
          exact AW.ret ⟨.inr rfl, _, _, by (conv => lhs; simp), trivial, by simp⟩
        · intro h41
          try simp at h41
          rw [if_neg (by obtain ⟨⟨⟨a, b⟩, c⟩, d⟩ := h41; simp [b, c, d]; omega)]
          refine AW.skip ?_
          refine rgn [] [[]] ?_
          refine op1 tok ?_
          refine runEnd ?_
          exact AW.ret ⟨.inr rfl, _, _, by (conv => lhs; simp), trivial, by simp⟩
theorem rowP_ev (ws : List (List UInt8)) (hn : ws.length ≤ 1000) (hl : (rowT ws).length ≤ 1000000) : AFn Tryz.prog G 48 [.sl 1 (ws.map PD.str)] (.str (rowT ws)) := by
  refine AFn.introU tok Tryz.func48 (by kernel_rfl) rfl rfl ?_
  simp only [Tryz.f48, enumA, List.map_cons, List.map_nil]
  unfold rowT at hl ⊢
  rw [List.length_append] at hl
  have hj := Join_ev (G := G) ws [32] (by omega) (by omega)
  refine rgn [] [[0]] ?_
  refine op1 tok ?_
  refine runEnd ?_
  refine rgn [.nilp, .str (Lib.join ws [32])] [[], [], [], [2]] ?_
  iterate 4 refine op1 tok ?_ (hv := by first | with_reducible exact True.intro | (first | exact hj | (simp at hl ⊢; omega); done) | omega | simp | (simp; omega) | (simp +contextual; omega))
  refine runEnd ?_
  exact AW.ret ⟨.inr rfl, _, _, by (conv => lhs; simp), trivial, by simp⟩
theorem polPrint_ev (hP : PW G) (p : Pol) (h : PolOK p) : AFn Tryz.prog G 16 [p.enc] (.str (polPrint p)) := by
  refine AFn.introU tok Tryz.func16 (by kernel_rfl) rfl rfl ?_
  simp only [Tryz.f16, enumA, List.map_cons, List.map_nil]
  have hcl := (may_cats h.cats).1
  have hcr := catsrow_le h.cats
  have hfew := h.few
  have hr0 := rowP_ev (G := G) (kwCats :: p.cats) (by simp; omega) (by omega)
  have hq1 := Quote_ev (G := G) p.token h.token.2 (by have := h.token.1; omega)
  have hqb := qBody_le6 p.token
  have hql : (quoteT p.token).length ≤ 146 := by simp only [quoteT, List.length_cons, List.length_append, List.length_nil]; have := h.token.1; omega
  have hr1 := rowP_ev (G := G) [kwToken, quoteT p.token] (by simp) (by
    have := row_len [kwToken, quoteT p.token] 146 (by intro x hx; simp only [List.mem_cons, List.not_mem_nil, or_false] at hx; rcases hx with rfl | rfl; simp [kwToken]; exact hql)
    simp only [List.length_cons, List.length_nil] at this; omega)
  have ki : ∀ n : Int, 1 ≤ n ∧ n ≤ 100000 → (Lib.itoa n).length ≤ 21 := fun n hn => Lib.itoa_length_le n (by omega) (by omega)
  have rowk : ∀ (k : List UInt8) (n : Int), k.length ≤ 21 → 1 ≤ n ∧ n ≤ 100000 → (rowT [k, Lib.itoa n]).length ≤ 45 := fun k n hk hn => by
    have h1 := ki n hn
    have := row_len [k, Lib.itoa n] 21 (by intro x hx; simp only [List.mem_cons, List.not_mem_nil, or_false] at hx; rcases hx with rfl | rfl; exact hk; exact h1)
    simp only [List.length_cons, List.length_nil] at this; omega
  have l2 := rowk kwFuel p.fuel (by decide) h.fuel
  have l3 := rowk kwQuota p.quota (by decide) h.quota
  have l1 : (rowT [kwToken, quoteT p.token]).length ≤ 300 := by
    have := row_len [kwToken, quoteT p.token] 146 (by intro x hx; simp only [List.mem_cons, List.not_mem_nil, or_false] at hx; rcases hx with rfl | rfl; simp [kwToken]; exact hql)
    simp only [List.length_cons, List.length_nil] at this; omega
  have hr2 := rowP_ev (G := G) [kwFuel, Lib.itoa p.fuel] (by simp) (by omega)
  have hr3 := rowP_ev (G := G) [kwQuota, Lib.itoa p.quota] (by simp) (by omega)
  have hi2 := itoa_ev hP p.fuel
  have hi3 := itoa_ev hP p.quota
  have h0 : rowT (kwCats :: p.cats) = headT p 0 := by simp [headT]
  have hhl := fun k => head_le h k
  rw [h0] at hr0
  unfold polPrint
  simp only [kwCats, kwToken, kwFuel, kwQuota, List.map_cons, List.map_nil] at hr0 hr1 hr2 hr3 l1 l2 l3 ⊢
  generalize rowT [[116, 111, 107, 101, 110], quoteT p.token] = t1 at *
  generalize rowT [[102, 117, 101, 108], Lib.itoa p.fuel] = t2 at *
  generalize rowT [[113, 117, 111, 116, 97], Lib.itoa p.quota] = t3 at *
  refine rgn [] [[], [1]] ?_
  iterate 2 refine op1 tok ?_
  refine runEnd ?_
  refine rgn [.str [99, 97, 116, 115], .nilp, .str (headT p 0)] [[], [], [], [], [1, 10], [1, 3]] ?_
  iterate 6 refine op1 tok ?_ (hv := by first | with_reducible exact True.intro | (first | exact hr0 | (simp; omega); done) | omega | simp | (simp; omega) | (simp +contextual; omega))
  refine runEnd ?_
  refine AW.seq ?_
  refine rgn [] [[], [], [], [1, 3, 12, 13, 14]] ?_
  iterate 4 refine op1 tok ?_
  refine runEnd ?_
  refine AW.block ?_
  refine AW.loop (α := Nat) (fun k => k ≤ p.marks.length) (fun k => ⟨upds 50 [(1, .ptr 1 0), (3, .p (.str (headT p k))), (12, .p (.sl 2 (p.marks.map Mk.enc))), (13, .p (.int .i64 p.marks.length)), (14, .p (.int .i64 k))], [], [(1, .vars 25 [.p (.sl 1 (p.cats.map PD.str)), .p (.sl 2 (p.marks.map Mk.enc)), .p (.str p.token), .p (.int .i64 p.fuel), .p (.int .i64 p.quota)])], 0⟩) (fun k => p.marks.length - k) (0) (by omega) ⟨upds_le (by simp), rfl, by simp, by simp⟩ ?_
  rintro k hk
  refine rgn [] [[]] ?_
  refine op1 tok ?_
  refine runEnd ?_
  refine AW.seq ?_
  refine cnd ?_ ?_
  · intro h15
    try simp at h15
    obtain ⟨x, hx⟩ : ∃ x, p.marks[k]? = some x := ⟨p.marks[k], by simp [h15]⟩
    have hmx := marks_may h.marks x (List.mem_of_getElem? hx)
    have hnm := catsNames_ev (G := G) p.cats x.mask hcl (fun c hc => by have := cats_le h.cats c hc; omega)
    have hpp := printB_ev hP x.path (may_zeroL hmx.1).1 (by have := (may_zeroL hmx.1).2; omega)
    have hml := mark_le h.cats hmx.1
    have hrw := rowP_ev (G := G) [kwMark, namesT p.cats x.mask, printS x.path] (by simp) (by unfold markT at hml; omega)
    have hsn := head_snoc hx
    have hhk := hhl k
    unfold markT at hml hsn
    simp only [kwMark, List.map_cons, List.map_nil] at hrw hsn hml
    generalize namesT p.cats x.mask = nm at *
    generalize printS x.path = pp at *
    generalize rowT [[109, 97, 114, 107], nm, pp] = rw' at *
    generalize headT p k = hd at *
    refine AW.skip ?_
    refine AW.seq ?_
    refine AW.block ?_
    refine rgn [x.enc] [[], [], [], [1, 3, 5, 12, 13, 14]] ?_
    iterate 4 refine op1 tok ?_ (hv := by first | with_reducible exact True.intro | (simp [hx]; done) | omega | simp | (simp; omega) | (simp +contextual; omega))
    refine runEnd ?_
    refine AW.drawS tok mixed 12 [[3], [1], [19], [5], [21], [20, 22], [5], [24], [25], [23, 26], [27], [18, 28]] [.nilp, .str nm, .nilp, .str pp, .str [109, 97, 114, 107], .str nm, .str pp, .nilp, .str rw'] [] (by kernel_rfl) ?_
    iterate 12 refine d1 ?_ (hv := by first | with_reducible exact True.intro | (first | exact hnm | exact hpp | exact hrw | (simp; omega); done) | omega | simp | (simp; omega) | (simp +contextual; omega))
    refine DGo.nil (by kernel_rfl) ⟨by kernel_rfl, ?_⟩
    refine AOpsO.run [[1, 3, 12, 13, 14]] ?_
    refine op1 tok ?_
    refine runEnd ?_
    refine rgz [] [[], [1, 3, 12, 13, 14]] ?_
    iterate 2 refine op1 tok ?_
    refine runEnd ?_
    exact ⟨k + 1, by omega, by omega, upds_le (by simp [hsn]), rfl, by simp [hsn], by simp [hsn]⟩
  · intro h15
    try simp at h15
    obtain rfl : k = p.marks.length := by omega
    have hhk := hhl p.marks.length
    refine AW.exit ?_
    simp
    refine AW.seqDrawS tok mixed 19 [[3], [1], [32], [33], [34], [35], [31, 36], [1], [38], [39], [40], [41], [37, 42], [1], [44], [45], [46], [47], [43, 48]] [.nilp, .str (quoteT p.token), .str [116, 111, 107, 101, 110], .str (quoteT p.token), .nilp, .str t1, .nilp, .str (Lib.itoa p.fuel), .str [102, 117, 101, 108], .str (Lib.itoa p.fuel), .nilp, .str t2, .nilp, .str (Lib.itoa p.quota), .str [113, 117, 111, 116, 97], .str (Lib.itoa p.quota), .nilp, .str t3] [] (by kernel_rfl) ?_
    iterate 19 refine d1 ?_ (hv := by first | with_reducible exact True.intro | (first | exact hq1 | exact hr1 | exact hi2 | exact hr2 | exact hi3 | exact hr3 | (simp; omega); done) | omega | simp | (simp; omega) | (simp +contextual; omega))
    refine DGo.nil (by kernel_rfl) ⟨by kernel_rfl, ?_⟩
    refine AOpsO.run [[2]] ?_
    refine op1 tok ?_
    refine runEnd ?_
    exact AW.ret ⟨.inr rfl, _, _, by (conv => lhs; simp), trivial, by simp⟩
end Go.Proofs.YtdjjmppnnkkloaaGreatDoor
