import Derived.Test.YtdjjmppnnkkloaaDoorSPathG
namespace Go.Proofs.YtdjjmppnnkkloaaDoor
open Sy Go
set_option maxRecDepth 100000
set_option maxHeartbeats 4000000
set_option linter.unusedSimpArgs false
set_option linter.unusedVariables false
variable {G : Glob}
/-- The table that numbers are written by is known. -/
abbrev PW (G : Glob) : Prop := HasPow 3 G
theorem itoa_ev (hP : PW G) (n : Int) : AFn Tryd.prog G 25 [.int .i64 n] (.str (Lib.itoa n)) := ItoaN_ev hP (by kernel_rfl) n
theorem qBody_le6 (s : List UInt8) : (qBody s).length ≤ 6 * s.length := by
  have h1 : ∀ b : UInt8, (qb b).length ≤ 6 := fun b => by unfold qb; (repeat' split) <;> simp
  induction s with
  | nil => simp [qBody]
  | cons b s ih => have := h1 b; simp only [qBody, List.flatMap_cons, List.length_append, List.length_cons] at ih ⊢; omega
theorem written_le {t : Step} (h : mayM t = true) : (writtenT t).length ≤ 200 := by
  have ho := ok_may h
  unfold writtenT
  have hq := qBody_le6 t.key
  rcases ho with ⟨h1, _, _, _⟩ | ⟨h1, h2, h3, _⟩ | ⟨h1, h2, h3⟩
  · have hk : t.key.length ≤ 24 := by
      unfold mayM stepM at h; rw [if_pos h1] at h; simp only [Bool.and_eq_true, decide_eq_true_eq] at h; omega
    rw [h1]; split
    · simp; omega
    · simp [quoteT]; omega
  · obtain ⟨m, hm⟩ : ∃ m : Nat, t.n = m := ⟨t.n.toNat, by omega⟩
    obtain ⟨_, _, _, g4⟩ := itoa_good (k := m) (by omega)
    rw [if_neg (by omega), if_neg (by omega), if_pos h1, hm]
    simp; omega
  · rw [if_neg (by omega), if_neg (by omega), if_neg (by omega)]
    split
    · simp
    · split <;> simp
theorem writtenB_ev (hP : PW G) (t : Step) (hm : mayM t = true) : AFn Tryd.prog G 16 [t.enc] (.str (writtenT t)) := by
  refine AFn.introU tok Tryd.func16 (by kernel_rfl) rfl rfl ?_
  simp only [Tryd.f16, enumA, List.map_cons, List.map_nil]
  have hM := MayName_ev (G := G) t.key
  have hlw := written_le hm
  unfold writtenT at hlw ⊢
  refine AW.seqRegionO [] ?_
  refine s1 tok [1] ?_
  refine s1 tok [1] ?_
  refine AOpsO.nil ?_
  refine AW.seq ?_
  refine AW.block ?_
  refine AW.seqRegionO [.nilp, .bool (mayNameM t.key)] ?_
  refine s1 tok [1, 4] ?_
  refine s1 tok [1, 5] ?_ (hv := by first | with_reducible exact True.intro | (simp +contextual [hM]; done) | omega | simp | (simp; omega) | (simp +contextual; omega))
  refine s1 tok [1, 6] ?_ (hv := by first | with_reducible exact True.intro | (simp +contextual [hM]; done) | omega | simp | (simp; omega) | (simp +contextual; omega))
  refine s1 tok [1, 7] ?_
  refine s2 tok [1, 7, 8] 7 rfl rfl ?_
  refine s2 tok [1, 7, 9] 7 rfl rfl ?_ (hv := by first | with_reducible exact True.intro | (simp +contextual [hM]; done) | omega | simp | (simp; omega) | (simp +contextual; omega))
  refine s2 tok [1, 7, 10] 7 rfl rfl ?_ (hv := by first | with_reducible exact True.intro | (simp +contextual [hM]; done) | omega | simp | (simp; omega) | (simp +contextual; omega))
  refine s1 tok [1, 11] ?_ (hv := by first | with_reducible exact True.intro | (simp +contextual [hM]; done) | omega | simp | (simp; omega) | (simp +contextual; omega))
  refine s1 tok [1, 3] ?_
  refine AOpsO.nil ?_
  refine AW.cond (c := .tmp 3) (by conv => lhs; simp) trivial ?_ ?_
  · intro h3
    try simp at h3
    rw [if_pos h3] at hlw ⊢
    simp at hlw
    refine AW.seqRegionO [] ?_
    refine s1 tok [12] ?_
    refine s1 tok [13] ?_
    refine s1 tok [14] ?_
    refine s1 tok [2] ?_
    refine AOpsO.nil ?_
    exact AW.ret ⟨.inr rfl, _, _, by (conv => lhs; simp), trivial, by simp⟩
  · intro h3
    try simp at h3
    rw [if_neg (by simpa using h3)] at hlw ⊢
    refine AW.seqRegionO [] ?_
    refine s1 tok [1, 16] ?_
    refine s1 tok [1, 17] ?_
    refine s1 tok [1, 18] ?_
    refine s1 tok [1, 15] ?_
    refine AOpsO.nil ?_
    refine AW.cond (c := .tmp 15) (by conv => lhs; simp) trivial ?_ ?_
    · intro h15
      try simp at h15
      rw [if_pos h15] at hlw ⊢
      have hv : Lib.validD t.key = true ∧ t.key.length ≤ 24 := by
        unfold mayM stepM at hm; rw [if_pos h15] at hm; simp only [Bool.and_eq_true, decide_eq_true_eq] at hm; exact ⟨hm.1.2, by omega⟩
      have hQ := Quote_ev (G := G) t.key hv.1 (by omega)
      simp at hlw
      refine AW.seqRegionO [.nilp, .str (quoteT t.key)] ?_
      refine s1 tok [19] ?_
      refine s1 tok [20] ?_ (hv := by first | with_reducible exact True.intro | (first | exact hQ | (simp; omega); done) | omega | simp | (simp; omega) | (simp +contextual; omega))
      refine s1 tok [21] ?_ (hv := by first | with_reducible exact True.intro | (first | exact hQ | (simp; omega); done) | omega | simp | (simp; omega) | (simp +contextual; omega))
      refine s1 tok [22] ?_ (hv := by first | with_reducible exact True.intro | (first | exact hQ | (simp; omega); done) | omega | simp | (simp; omega) | (simp +contextual; omega))
      refine s1 tok [23] ?_ (hv := by first | with_reducible exact True.intro | (first | exact hQ | (simp; omega); done) | omega | simp | (simp; omega) | (simp +contextual; omega))
      refine s1 tok [2] ?_
      refine AOpsO.nil ?_
      exact AW.ret ⟨.inr rfl, _, _, by (conv => lhs; simp), trivial, by simp⟩
    · intro h15
      try simp at h15
      rw [if_neg h15] at hlw ⊢
      refine AW.seqRegionO [] ?_
      refine s1 tok [1, 25] ?_
      refine s1 tok [1, 26] ?_
      refine s1 tok [1, 27] ?_
      refine s1 tok [1, 24] ?_
      refine AOpsO.nil ?_
      refine AW.cond (c := .tmp 24) (by conv => lhs; simp) trivial ?_ ?_
      · intro h24
        try simp at h24
        rw [if_pos h24] at hlw ⊢
        have hI := itoa_ev hP t.n
        simp at hlw
        refine AW.seqRegionO [.nilp, .str (Lib.itoa t.n)] ?_
        refine s1 tok [28] ?_
        refine s1 tok [29] ?_ (hv := by first | with_reducible exact True.intro | (first | exact hI | (simp; omega); done) | omega | simp | (simp; omega) | (simp +contextual; omega))
        refine s1 tok [30] ?_ (hv := by first | with_reducible exact True.intro | (first | exact hI | (simp; omega); done) | omega | simp | (simp; omega) | (simp +contextual; omega))
        refine s1 tok [31] ?_ (hv := by first | with_reducible exact True.intro | (first | exact hI | (simp; omega); done) | omega | simp | (simp; omega) | (simp +contextual; omega))
        refine s1 tok [32] ?_ (hv := by first | with_reducible exact True.intro | (first | exact hI | (simp; omega); done) | omega | simp | (simp; omega) | (simp +contextual; omega))
        refine s1 tok [2] ?_
        refine AOpsO.nil ?_
        exact AW.ret ⟨.inr rfl, _, _, by (conv => lhs; simp), trivial, by simp⟩
      · intro h24
        try simp at h24
        rw [if_neg h24] at hlw ⊢
        refine AW.seqRegionO [] ?_
        refine s1 tok [1, 34] ?_
        refine s1 tok [1, 35] ?_
        refine s1 tok [1, 36] ?_
        refine s1 tok [1, 33] ?_
        refine AOpsO.nil ?_
        refine AW.cond (c := .tmp 33) (by conv => lhs; simp) trivial ?_ ?_
        · intro h33
          try simp at h33
          rw [if_pos h33]
          refine AW.seqRegionO [] ?_
          refine s1 tok [2] ?_
          refine AOpsO.nil ?_
          exact AW.ret ⟨.inr rfl, _, _, by (conv => lhs; simp), trivial, by simp⟩
        · intro h33
          try simp at h33
          rw [if_neg h33]
          refine AW.seqRegionO [] ?_
          refine s1 tok [38] ?_
          refine s1 tok [39] ?_
          refine s1 tok [40] ?_
          refine s1 tok [37] ?_
          refine AOpsO.nil ?_
          refine AW.cond (c := .tmp 37) (by conv => lhs; simp) trivial ?_ ?_
          · intro h37
            try simp at h37
            rw [if_pos h37]
            refine AW.seqRegionO [] ?_
            refine s1 tok [2] ?_
            refine AOpsO.nil ?_
            exact AW.ret ⟨.inr rfl, _, _, by (conv => lhs; simp), trivial, by simp⟩
          · intro h37
            try simp at h37
            rw [if_neg h37]
            refine AW.skip ?_
            refine AW.seqRegionO [] ?_
            refine s1 tok [2] ?_
            refine AOpsO.nil ?_
            exact AW.ret ⟨.inr rfl, _, _, by (conv => lhs; simp), trivial, by simp⟩
theorem guess_len (s : List UInt8) : True := trivial
theorem parseB_ev (hG : U8 G) (hP : PW G) (s : List UInt8) (hs : s.length ≤ 100000000) : AFn Tryd.prog G 7 [.str s] (.tup [.sl 3 ((parseT s).1.map Step.enc), .int .i64 (parseT s).2]) := by
  refine AFn.introU tok Tryd.func7 (by kernel_rfl) rfl rfl ?_
  simp only [Tryd.f7, enumA, List.map_cons, List.map_nil]
  have hC := CutPrefix_ev (G := G) s [36]
  have hcl : (cutPre s [36]).length ≤ s.length := by unfold cutPre; split <;> simp
  have hin : parseO s = if hasPre s [36] = true then (parseF s.length (cutPre s [36])).map ([] ++ ·) else none := by
    unfold parseO cutPre; split
    · rename_i h; simp
    · rfl
  unfold parseT
  refine AW.seqRegionO [] ?_
  refine s1 tok [0] ?_
  refine s1 tok [0] ?_
  refine AOpsO.nil ?_
  refine AW.seqRegionO [.nilp, .tup [.str (cutPre s [36]), .bool (hasPre s [36])]] ?_
  refine s1 tok [9] ?_
  refine s1 tok [10] ?_ (hv := by first | with_reducible exact True.intro | (simp [hC]; done) | omega | simp | (simp; omega) | (simp +contextual; omega))
  refine s1 tok [8] ?_
  refine s1 tok [8, 11] ?_
  refine s1 tok [11, 12] ?_
  refine s1 tok [4, 12] ?_
  refine s1 tok [4, 5] ?_
  refine AOpsO.nil ?_
  refine AW.seqRegionO [] ?_
  refine s1 tok [4, 5, 6] ?_
  refine AOpsO.nil ?_
  refine AW.seq ?_
  refine AW.block ?_
  refine AW.beginE 6 33 33 3 (by simp) (by simp) (by conv => lhs; simp) ?_
  refine AW.loop (α := List UInt8 × List Step × Bool × Nat) (fun a => parseO s = (if a.2.2.1 = true then (parseF a.2.2.2 a.1).map (a.2.1 ++ ·) else none) ∧ (a.2.2.1 = true → a.1.length ≤ a.2.2.2) ∧ a.2.1.length + a.1.length ≤ s.length + 1 ∧ (a.2.2.1 = true → a.2.1.length + a.1.length ≤ s.length)) (fun a => ⟨upds 42 [(4, .p (.str a.1)), (5, .p (.bool a.2.2.1)), (6, .ms 33)], [], [(33, .row 33 3 (a.2.1.map Step.enc))], 0⟩) (fun a => 2 * a.1.length + (if a.2.2.1 = true then 1 else 0)) ((cutPre s [36], [], hasPre s [36], s.length)) ⟨hin, fun _ => hcl, by simp; omega, by simp; omega⟩ ⟨upds_le (by simp), rfl, by simp, by simp⟩ ?_
  rintro ⟨rest, l, ok, f⟩ ⟨hq, hf, hl, hl2⟩
  simp only at hq hf hl hl2
  refine AW.seq ?_
  refine AW.seqRegionO [] ?_
  refine s1 tok [4, 5, 6, 13] ?_
  refine s1 tok [4, 5, 6, 14] ?_
  refine s2 tok [4, 5, 6, 14, 15] 14 rfl rfl ?_
  refine s2 tok [4, 5, 6, 14, 16] 14 rfl rfl ?_
  refine s1 tok [4, 5, 6, 17] ?_
  refine AOpsO.nil ?_
  refine AW.cond (c := .tmp 17) (by conv => lhs; simp) trivial ?_ ?_
  · intro h17
    try simp at h17
    obtain ⟨hok, hne⟩ := h17
    subst hok
    obtain ⟨f, rfl⟩ : ∃ g, f = g + 1 := ⟨f - 1, by have := List.length_pos_iff.2 hne; have := hf rfl; omega⟩
    have hg := guessB_ev hG rest (by omega)
    have hstep : (parseF (f + 1) rest) = if mayM (guessB rest) = true ∧ hasPre rest (writtenT (guessB rest)) = true then (parseF f (rest.drop (writtenT (guessB rest)).length)).map (guessB rest :: ·) else none := by
      simp only [parseF]; rw [if_neg hne]
    have hpos := List.length_pos_iff.2 hne
    rw [hstep] at hq
    clear hstep
    generalize guessB rest = t at *
    have hM := stepV_ev hG t
    simp at hg hM
    refine AW.skip ?_
    refine AW.block ?_
    refine AW.seqRegionO [.nilp, t.enc] ?_
    refine s1 tok [4, 6, 18] ?_
    refine s1 tok [4, 6, 19] ?_ (hv := by first | with_reducible exact True.intro | (first | exact hg | simp; done) | omega | simp | (simp; omega) | (simp +contextual; omega))
    refine s1 tok [4, 6, 7, 19] ?_
    refine s1 tok [4, 6, 7] ?_ (hv := by first | with_reducible exact True.intro | (first | exact hg | simp; done) | omega | simp | (simp; omega) | (simp +contextual; omega))
    refine AOpsO.nil ?_
    refine AW.seqRegionO [.nilp, .bool (mayM t)] ?_
    refine s1 tok [4, 6, 7, 20] ?_ (hv := by first | with_reducible exact True.intro | (first | exact hM | simp; done) | omega | simp | (simp; omega) | (simp +contextual; omega))
    refine s1 tok [4, 6, 7, 21] ?_ (hv := by first | with_reducible exact True.intro | (first | exact hM | simp; done) | omega | simp | (simp; omega) | (simp +contextual; omega))
    refine s1 tok [4, 5, 6, 7] ?_
    refine AOpsO.nil ?_
    refine AW.seqRegionO [] ?_
    refine s1 tok [4, 5, 6, 7, 22] ?_
    refine AOpsO.nil ?_
    refine AW.cond (c := .tmp 22) (by conv => lhs; simp) trivial ?_ ?_
    · intro h22
      try simp at h22
      have hw := writtenB_ev hP t h22
      have hC2 := CutPrefix_ev (G := G) rest (writtenT t)
      have hwp := written_pos t
      simp at hw
      generalize hwt : writtenT t = w at *
      have hcut : cutPre rest w = if hasPre rest w = true then rest.drop w.length else rest := rfl
      refine AW.seqRegionO [.nilp, .str w, .nilp, .tup [.str (cutPre rest w), .bool (hasPre rest w)]] ?_
      refine s1 tok [6, 7, 24] ?_
      refine s1 tok [6, 7, 24, 25] ?_ (hv := by first | with_reducible exact True.intro | (first | exact hw | exact hC2 | simp; done) | omega | simp | (simp; omega) | (simp +contextual; omega))
      refine s1 tok [6, 7, 24, 26] ?_ (hv := by first | with_reducible exact True.intro | (first | exact hw | exact hC2 | simp; done) | omega | simp | (simp; omega) | (simp +contextual; omega))
      refine s1 tok [6, 7, 27] ?_ (hv := by first | with_reducible exact True.intro | (first | exact hw | exact hC2 | simp; done) | omega | simp | (simp; omega) | (simp +contextual; omega))
      refine s1 tok [6, 7, 23] ?_
      refine s1 tok [6, 7, 23, 28] ?_
      refine s1 tok [6, 7, 28, 29] ?_
      refine s1 tok [4, 6, 7, 29] ?_
      refine s1 tok [4, 5, 6, 7] ?_
      refine AOpsO.nil ?_
      have hl3 := hl2 rfl
      have hf3 := hf rfl
      have hE1 : parseO s = if hasPre rest w = true then (parseF f (cutPre rest w)).map ((l ++ [t]) ++ ·) else none := by
        rw [hq, hcut]
        by_cases hp : hasPre rest w = true
        · simp [hp, h22, Option.map_map, Function.comp_def]
        · simp [hp]
      have hE2 : hasPre rest w = true → (cutPre rest w).length + w.length = rest.length := fun hp => by
        rw [hcut, if_pos hp]
        obtain ⟨q, rfl⟩ := hasPre_iff.1 hp; simp; omega
      have hE3 : (cutPre rest w).length ≤ rest.length := by rw [hcut]; split <;> simp
      have hE4 : 2 * (cutPre rest w).length + (if hasPre rest w = true then 1 else 0) < 2 * rest.length + 1 := by
        by_cases hp : hasPre rest w = true
        · rw [if_pos hp]; have := hE2 hp; omega
        · rw [if_neg hp]; omega
      refine AW.regionO [t.enc] ?_
      refine s1 tok [4, 5, 7, 30] ?_
      refine s1 tok [4, 5, 30, 31] ?_ (hv := by first | with_reducible exact True.intro | (first | (simp; omega) | simp; done) | omega | simp | (simp; omega) | (simp +contextual; omega))
      refine s1 tok [4, 5, 30, 32] ?_ (hv := by first | with_reducible exact True.intro | (first | (simp; omega) | simp; done) | omega | simp | (simp; omega) | (simp +contextual; omega))
      refine s1 tok [4, 5, 33] ?_ (hv := by first | with_reducible exact True.intro | (first | (simp; omega) | simp; done) | omega | simp | (simp; omega) | (simp +contextual; omega))
      refine s1 tok [4, 5, 6] ?_
      refine AOpsO.nil ?_
      exact ⟨(cutPre rest w, l ++ [t], hasPre rest w, f), ⟨hE1, fun hp => by have := hE2 hp; simp only []; omega, by simp; omega, fun hp => by have := hE2 hp; simp; omega⟩, by simpa using hE4, upds_le (by simp), rfl, by simp, by simp⟩
    · intro h22
      try simp at h22
      refine AW.skip ?_
      exact ⟨(rest, l, false, f), ⟨by rw [hq]; simp [h22], fun hp => absurd hp (by simp), by simp only []; omega, fun hp => absurd hp (by simp)⟩, by simp, upds_le (by simp [h22]), rfl, by simp [h22], by simp [h22]⟩
  · intro h17
    try simp at h17
    have hend : parseO s = if ok = true then some l else none := by
      rw [hq]
      cases ok with
      | false => rfl
      | true =>
        have : rest = [] := by simpa using h17
        subst this
        cases f <;> simp [parseF]
    rw [hend]
    refine AW.exit ?_
    simp
    refine AW.seq ?_
    refine AW.block ?_
    refine AW.seqRegionO [] ?_
    refine s1 tok [6, 35] ?_
    refine s1 tok [6, 36] ?_
    refine s1 tok [6, 34] ?_
    refine AOpsO.nil ?_
    refine AW.cond (c := .tmp 34) (by conv => lhs; simp) trivial ?_ ?_
    · intro h34
      try simp at h34
      subst h34
      refine AW.seqRegionO [] ?_
      refine s1 tok [2] ?_
      refine s1 tok [2, 3] ?_
      refine AOpsO.nil ?_
      exact AW.ret ⟨.inr rfl, _, _, by (conv => lhs; simp), trivial, by simp [finP]⟩
    · intro h34
      try simp at h34
      subst h34
      simp only [if_true, finP]
      refine AW.seqRegionO [] ?_
      refine s1 tok [6, 38] ?_
      refine s1 tok [6, 39] ?_
      refine s1 tok [6, 40] ?_
      refine s1 tok [6, 37] ?_
      refine AOpsO.nil ?_
      refine AW.cond (c := .tmp 37) (by conv => lhs; simp) trivial ?_ ?_
      · intro h37
        try simp at h37
        rw [if_pos (by omega)]
        refine AW.seqRegionO [] ?_
        refine s1 tok [2] ?_
        refine s1 tok [2, 3] ?_
        refine AOpsO.nil ?_
        exact AW.ret ⟨.inr rfl, _, _, by (conv => lhs; simp), trivial, by simp⟩
      · intro h37
        try simp at h37
        rw [if_neg (by omega)]
        refine AW.skip ?_
        refine AW.seqRegionO [] ?_
        refine s1 tok [41] ?_
        refine s1 tok [2] ?_
        refine s1 tok [2, 3] ?_
        refine AOpsO.nil ?_
        exact AW.ret ⟨.inr rfl, _, _, by (conv => lhs; simp), trivial, by simp⟩
theorem printS_take {l : List Step} {k : Nat} {t : Step} (h : l[k]? = some t) : printS (l.take (k + 1)) = printS (l.take k) ++ writtenT t := by
  simp [printS, List.take_add_one, h]
theorem flat_le {l : List Step} (h : l.all mayM = true) : (l.flatMap writtenT).length ≤ 200 * l.length := by
  induction l with
  | nil => simp
  | cons t l ih =>
    simp only [List.all_cons, Bool.and_eq_true] at h
    have := written_le h.1
    have := ih h.2
    simp only [List.flatMap_cons, List.length_append, List.length_cons]; omega
theorem printB_ev (hP : PW G) (l : List Step) (ha : l.all mayM = true) (hl : l.length ≤ 1000000) : AFn Tryd.prog G 8 [.sl 3 (l.map Step.enc)] (.str (printS l)) := by
  refine AFn.introU tok Tryd.func8 (by kernel_rfl) rfl rfl ?_
  simp only [Tryd.f8, enumA, List.map_cons, List.map_nil]
  refine AW.seqRegionO [] ?_
  refine s1 tok [0] ?_
  refine AOpsO.nil ?_
  refine AW.seqRegionO [] ?_
  refine s1 tok [0, 3] ?_
  refine AOpsO.nil ?_
  refine AW.seq ?_
  refine AW.seqRegionO [] ?_
  refine s1 tok [3, 6] ?_
  refine s1 tok [3, 6, 7] ?_
  refine s1 tok [3, 6, 7, 8] ?_
  refine AOpsO.nil ?_
  refine AW.block ?_
  refine AW.loop (α := Nat) (fun k => k ≤ l.length) (fun k => ⟨upds 18 [(3, .p (.str (printS (l.take k)))), (6, .p (.sl 3 (l.map Step.enc))), (7, .p (.int .i64 l.length)), (8, .p (.int .i64 k))], [], [], 0⟩) (fun k => l.length - k) (0) (by omega) ⟨upds_le (by simp [printS]), rfl, by simp, by simp⟩ ?_
  rintro k hk
  refine AW.seqRegionO [] ?_
  refine s1 tok [3, 6, 7, 8, 9] ?_
  refine AOpsO.nil ?_
  refine AW.seq ?_
  refine AW.cond (c := .tmp 9) (by conv => lhs; simp) trivial ?_ ?_
  · intro h9
    try simp at h9
    obtain ⟨t, ht⟩ : ∃ t, l[k]? = some t := ⟨l[k], by simp [h9]⟩
    have hmt := List.all_eq_true.1 ha t (List.mem_of_getElem? ht)
    have hw := writtenB_ev hP t hmt
    have hwl := written_le hmt
    have hpl : (printS (l.take k)).length ≤ 200 * k + 1 := by
      have := flat_le (l := l.take k) (List.all_eq_true.2 fun x hx => List.all_eq_true.1 ha x (List.mem_of_mem_take hx))
      simp only [printS, List.length_cons, List.length_take] at this ⊢; omega
    have hsn := printS_take ht
    simp at hw
    generalize writtenT t = w at *
    generalize printS (l.take k) = p at *
    refine AW.skip ?_
    refine AW.seq ?_
    refine AW.block ?_
    refine AW.seqRegionO [t.enc] ?_
    refine s1 tok [3, 6, 7, 8, 10] ?_ (hv := by first | with_reducible exact True.intro | (simp [ht]; done) | omega | simp | (simp; omega) | (simp +contextual; omega))
    refine s1 tok [3, 6, 7, 8, 11] ?_ (hv := by first | with_reducible exact True.intro | (simp [ht]; done) | omega | simp | (simp; omega) | (simp +contextual; omega))
    refine s1 tok [3, 5, 6, 7, 8, 11] ?_
    refine s1 tok [3, 5, 6, 7, 8] ?_ (hv := by first | with_reducible exact True.intro | (simp [ht]; done) | omega | simp | (simp; omega) | (simp +contextual; omega))
    refine AOpsO.nil ?_
    refine AW.regionO [.nilp, .str w] ?_
    refine s1 tok [5, 6, 7, 8, 12] ?_
    refine s1 tok [6, 7, 8, 12, 13] ?_ (hv := by first | with_reducible exact True.intro | (first | exact hw | (simp; omega); done) | omega | simp | (simp; omega) | (simp +contextual; omega))
    refine s1 tok [6, 7, 8, 12, 14] ?_ (hv := by first | with_reducible exact True.intro | (first | exact hw | (simp; omega); done) | omega | simp | (simp; omega) | (simp +contextual; omega))
    refine s1 tok [6, 7, 8, 15] ?_ (hv := by first | with_reducible exact True.intro | (first | exact hw | (simp; omega); done) | omega | simp | (simp; omega) | (simp +contextual; omega))
    refine s1 tok [3, 6, 7, 8] ?_
    refine AOpsO.nil ?_
    refine AW.regionO [] ?_
    refine s1 tok [3, 6, 7, 16] ?_
    refine s1 tok [3, 6, 7, 8] ?_
    refine AOpsO.nil ?_
    exact ⟨k + 1, by omega, by omega, upds_le (by simp [hsn]), rfl, by simp [hsn], by simp [hsn]⟩
  · intro h9
    try simp at h9
    rw [List.take_of_length_le h9]
    refine AW.exit ?_
    simp
    refine AW.seqRegionO [] ?_
    refine s1 tok [17] ?_
    refine s1 tok [2] ?_
    refine AOpsO.nil ?_
    exact AW.ret ⟨.inr rfl, _, _, by (conv => lhs; simp), trivial, by simp⟩
end Go.Proofs.YtdjjmppnnkkloaaDoor
