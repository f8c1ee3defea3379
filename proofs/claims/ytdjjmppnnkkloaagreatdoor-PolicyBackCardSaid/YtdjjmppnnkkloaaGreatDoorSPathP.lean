import Derived.Test.YtdjjmppnnkkloaaGreatDoorSPathG
namespace Go.Proofs.YtdjjmppnnkkloaaGreatDoor
open Sy Go
set_option maxRecDepth 100000
set_option maxHeartbeats 4000000
set_option linter.unusedSimpArgs false
set_option linter.unusedVariables false
variable {G : Glob}
abbrev PW (G : Glob) : Prop := HasPow 3 G
theorem itoa_ev (hP : PW G) (n : Int) : AFn Tryz.prog G 52 [.int .i64 n] (.str (Lib.itoa n)) := ItoaN_ev hP (by kernel_rfl) n
theorem qBody_le6 (s : List UInt8) : (qBody s).length ≤ 6 * s.length := by
 have h1 : ∀ b : UInt8, (qb b).length ≤ 6 := fun b => by unfold qb; (repeat' split) <;> simp
 induction s with
 | nil => simp [qBody]
 | cons b s ih => have := h1 b; simp only [qBody, List.flatMap_cons, List.length_append, List.length_cons] at ih ⊢; omega
theorem written_le {t : Step} (h : mayM t = true) : (writtenT t).length ≤ 200 := by
 have ho := ok_may h
 unfold writtenT
 have hq := qBody_le6 t.key
 rcases ho with ⟨h1, _, _, _⟩ | ⟨h1, h2, h3, _⟩ | ⟨h1, h2, h3⟩
 ·have hk : t.key.length ≤ 24 := by
   unfold mayM stepM at h; rw [if_pos h1] at h; simp only [Bool.and_eq_true, decide_eq_true_eq] at h; omega
  rw [h1]; split
  ·simp; omega
  ·simp [quoteT]; omega
 ·obtain ⟨m, hm⟩ : ∃ m : Nat, t.n = m := ⟨t.n.toNat, by omega⟩
  obtain ⟨_, _, _, g4⟩ := itoa_good (k := m) (by omega)
  rw [if_neg (by omega), if_neg (by omega), if_pos h1, hm]
  simp; omega
 ·rw [if_neg (by omega), if_neg (by omega), if_neg (by omega)]
  split
  ·simp
  ·split <;> simp
theorem writtenB_ev (hP : PW G) (t : Step) (hm : mayM t = true) : AFn Tryz.prog G 85 [t.enc] (.str (writtenT t)) := by
 refine AFn.introU tok Tryz.func85 (by kernel_rfl) rfl rfl ?_
 simp only [Tryz.f85, enumA, List.map_cons, List.map_nil]
 have hM := MayName_ev (G := G) t.key
 have hlw := written_le hm
 unfold writtenT at hlw ⊢
 refine rgn [] [[], [1]] ?_
 iterate 2 refine op1 tok ?_
 refine runEnd ?_
 refine AW.seq ?_
 refine AW.block ?_
 refine rgn [.nilp, .bool (mayNameM t.key)] [[], [], [], [], [], [1, 7, 9], [], [], [1, 3]] ?_
 iterate 4 refine op1 tok ?_ (hv := by first | with_reducible exact True.intro | (simp +contextual [hM]; done) | omega | simp | (simp; omega) | (simp +contextual; omega))
 iterate 3 refine op2 tok ?_ (hv := by first | with_reducible exact True.intro | (simp +contextual [hM]; done) | omega | simp | (simp; omega) | (simp +contextual; omega))
 iterate 2 refine op1 tok ?_ (hv := by first | with_reducible exact True.intro | (simp +contextual [hM]; done) | omega | simp | (simp; omega) | (simp +contextual; omega))
 refine runEnd ?_
 refine cnd ?_ ?_
 ·intro h3
  try simp at h3
  rw [if_pos h3] at hlw ⊢
  simp at hlw
  refine rgn [] [[], [], [], [2]] ?_
  iterate 4 refine op1 tok ?_
  refine runEnd ?_
  exact AW.ret ⟨.inr rfl, _, _, by (conv => lhs; simp), trivial, by simp⟩
 ·intro h3
  try simp at h3
  rw [if_neg (by simpa using h3)] at hlw ⊢
  refine rgn [] [[], [], [], [1, 15]] ?_
  iterate 4 refine op1 tok ?_
  refine runEnd ?_
  refine cnd ?_ ?_
  ·intro h15
   try simp at h15
   rw [if_pos h15] at hlw ⊢
   have hv : Lib.validD t.key = true ∧ t.key.length ≤ 24 := by
    unfold mayM stepM at hm; rw [if_pos h15] at hm; simp only [Bool.and_eq_true, decide_eq_true_eq] at hm; exact ⟨hm.1.2, by omega⟩
   have hQ := Quote_ev (G := G) t.key hv.1 (by omega)
   simp at hlw
   refine rgn [.nilp, .str (quoteT t.key)] [[], [], [], [22], [], [2]] ?_
   iterate 6 refine op1 tok ?_ (hv := by first | with_reducible exact True.intro | (first | exact hQ | (simp; omega); done) | omega | simp | (simp; omega) | (simp +contextual; omega))
   refine runEnd ?_
   exact AW.ret ⟨.inr rfl, _, _, by (conv => lhs; simp), trivial, by simp⟩
  ·intro h15
   try simp at h15
   rw [if_neg h15] at hlw ⊢
   refine rgn [] [[], [], [], [1, 24]] ?_
   iterate 4 refine op1 tok ?_
   refine runEnd ?_
   refine cnd ?_ ?_
   ·intro h24
    try simp at h24
    rw [if_pos h24] at hlw ⊢
    have hI := itoa_ev hP t.n
    simp at hlw
    refine rgn [.nilp, .str (Lib.itoa t.n)] [[], [], [], [31], [], [2]] ?_
    iterate 6 refine op1 tok ?_ (hv := by first | with_reducible exact True.intro | (first | exact hI | (simp; omega); done) | omega | simp | (simp; omega) | (simp +contextual; omega))
    refine runEnd ?_
    exact AW.ret ⟨.inr rfl, _, _, by (conv => lhs; simp), trivial, by simp⟩
   ·intro h24
    try simp at h24
    rw [if_neg h24] at hlw ⊢
    refine rgn [] [[], [], [], [1, 33]] ?_
    iterate 4 refine op1 tok ?_
    refine runEnd ?_
    refine cnd ?_ ?_
    ·intro h33
     try simp at h33
     rw [if_pos h33]
     refine rgn [] [[]] ?_
     refine op1 tok ?_
     refine runEnd ?_
     exact AW.ret ⟨.inr rfl, _, _, by (conv => lhs; simp), trivial, by simp⟩
    ·intro h33
     try simp at h33
     rw [if_neg h33]
     refine rgn [] [[], [], [], [37]] ?_
     iterate 4 refine op1 tok ?_
     refine runEnd ?_
     refine cnd ?_ ?_
     ·intro h37
      try simp at h37
      rw [if_pos h37]
      refine rgn [] [[]] ?_
      refine op1 tok ?_
      refine runEnd ?_
      exact AW.ret ⟨.inr rfl, _, _, by (conv => lhs; simp), trivial, by simp⟩
     ·intro h37
      try simp at h37
      rw [if_neg h37]
      refine AW.skip ?_
      refine rgn [] [[]] ?_
      refine op1 tok ?_
      refine runEnd ?_
      exact AW.ret ⟨.inr rfl, _, _, by (conv => lhs; simp), trivial, by simp⟩
theorem parseB_ev (hG : U8 G) (hP : PW G) (s : List UInt8) (hs : s.length ≤ 100000000) : AFn Tryz.prog G 72 [.str s] (.tup [.sl 3 ((parseT s).1.map Step.enc), .int .i64 (parseT s).2]) := by
 refine AFn.introU tok Tryz.func72 (by kernel_rfl) rfl rfl ?_
 simp only [Tryz.f72, enumA, List.map_cons, List.map_nil]
 have hC := CutPrefix_ev (G := G) s [36]
 have hcl : (cutPre s [36]).length ≤ s.length := by unfold cutPre; split <;> simp
 have hin : parseO s = if hasPre s [36] = true then (parseF s.length (cutPre s [36])).map ([] ++ ·) else none := by
  unfold parseO cutPre; split
  ·rename_i h; simp
  ·rfl
 unfold parseT
 refine rgn [] [[], [0]] ?_
 iterate 2 refine op1 tok ?_
 refine runEnd ?_
 refine rgn [.nilp, .tup [.str (cutPre s [36]), .bool (hasPre s [36])]] [[], [], [], [], [11, 12], [], [4, 5]] ?_
 iterate 7 refine op1 tok ?_ (hv := by first | with_reducible exact True.intro | (simp [hC]; done) | omega | simp | (simp; omega) | (simp +contextual; omega))
 refine runEnd ?_
 refine rgn [] [[]] ?_
 refine op1 tok ?_
 refine runEnd ?_
 refine AW.seq ?_
 refine AW.block ?_
 refine AW.beginE 6 33 57 3 (by simp) (by simp) (by conv => lhs; simp) ?_
 refine AW.loop (α := List UInt8 × List Step × Bool × Nat) (fun a => parseO s = (if a.2.2.1 = true then (parseF a.2.2.2 a.1).map (a.2.1 ++ ·) else none) ∧ (a.2.2.1 = true → a.1.length ≤ a.2.2.2) ∧ a.2.1.length + a.1.length ≤ s.length + 1 ∧ (a.2.2.1 = true → a.2.1.length + a.1.length ≤ s.length)) (fun a => ⟨upds 42 [(4, .p (.str a.1)), (5, .p (.bool a.2.2.1)), (6, .ms 33)], [], [(33, .row 57 3 (a.2.1.map Step.enc))], 0⟩) (fun a => 2 * a.1.length + (if a.2.2.1 = true then 1 else 0)) ((cutPre s [36], [], hasPre s [36], s.length)) ⟨hin, fun _ => hcl, by simp; omega, by simp; omega⟩ ⟨upds_le (by simp), rfl, by simp, by simp⟩ ?_
 rintro ⟨rest, l, ok, f⟩ ⟨hq, hf, hl, hl2⟩
 simp only at hq hf hl hl2
 refine AW.seq ?_
 refine rgn [] [[], [], [], [], [4, 5, 6, 17]] ?_
 iterate 2 refine op1 tok ?_
 iterate 2 refine op2 tok ?_
 refine op1 tok ?_
 refine runEnd ?_
 refine cnd ?_ ?_
 ·intro h17
  try simp at h17
  obtain ⟨hok, hne⟩ := h17
  subst hok
  obtain ⟨f, rfl⟩ : ∃ g, f = g + 1 := ⟨f - 1, by have := List.length_pos_iff.2 hne; have := hf rfl; omega⟩
  have hg := guessB_ev hG rest (by omega)
  have hstep : (parseF (f + 1) rest) = if mayM (guessB rest) = true ∧ hasPre rest (writtenT (guessB rest)) = true then (parseF f (rest.drop (writtenT (guessB rest)).length)).map (guessB rest :: ·) else none := by
   simp only [parseF]; rw [if_neg hne]
  have hpos := List.length_pos_iff.2 hne
  rw [hstep] at hq
  clear hstep
  generalize guessB rest = t at *
  have hM := stepV_ev hG t
  simp at hg hM
  refine AW.skip ?_
  refine AW.block ?_
  refine rgn [.nilp, t.enc] [[], [], [], [4, 6, 7]] ?_
  iterate 4 refine op1 tok ?_ (hv := by first | with_reducible exact True.intro | (first | exact hg | simp; done) | omega | simp | (simp; omega) | (simp +contextual; omega))
  refine runEnd ?_
  refine rgn [.nilp, .bool (mayM t)] [[], [], [4, 5, 6, 7]] ?_
  iterate 3 refine op1 tok ?_ (hv := by first | with_reducible exact True.intro | (first | exact hM | simp; done) | omega | simp | (simp; omega) | (simp +contextual; omega))
  refine runEnd ?_
  refine rgn [] [[]] ?_
  refine op1 tok ?_
  refine runEnd ?_
  refine cnd ?_ ?_
  ·intro h22
   try simp at h22
   have hw := writtenB_ev hP t h22
   have hC2 := CutPrefix_ev (G := G) rest (writtenT t)
   have hwp := written_pos t
   simp at hw
   generalize hwt : writtenT t = w at *
   have hcut : cutPre rest w = if hasPre rest w = true then rest.drop w.length else rest := rfl
   refine rgn [.nilp, .str w, .nilp, .tup [.str (cutPre rest w), .bool (hasPre rest w)]] [[], [], [], [6, 7, 27], [], [], [], [], [4, 5, 6, 7]] ?_
   iterate 9 refine op1 tok ?_ (hv := by first | with_reducible exact True.intro | (first | exact hw | exact hC2 | simp; done) | omega | simp | (simp; omega) | (simp +contextual; omega))
   refine runEnd ?_
   have hl3 := hl2 rfl
   have hf3 := hf rfl
   have hE1 : parseO s = if hasPre rest w = true then (parseF f (cutPre rest w)).map ((l ++ [t]) ++ ·) else none := by
    rw [hq, hcut]
    by_cases hp : hasPre rest w = true
    ·simp [hp, h22, Option.map_map, Function.comp_def]
    ·simp [hp]
   have hE2 : hasPre rest w = true → (cutPre rest w).length + w.length = rest.length := fun hp => by
    rw [hcut, if_pos hp]
    obtain ⟨q, rfl⟩ := hasPre_iff.1 hp; simp; omega
   have hE3 : (cutPre rest w).length ≤ rest.length := by rw [hcut]; split <;> simp
   have hE4 : 2 * (cutPre rest w).length + (if hasPre rest w = true then 1 else 0) < 2 * rest.length + 1 := by
    by_cases hp : hasPre rest w = true
    ·rw [if_pos hp]; have := hE2 hp; omega
    ·rw [if_neg hp]; omega
   refine rgz [t.enc] [[], [], [], [4, 5, 33], [4, 5, 6]] ?_
   iterate 5 refine op1 tok ?_ (hv := by first | with_reducible exact True.intro | (first | (simp; omega) | simp; done) | omega | simp | (simp; omega) | (simp +contextual; omega))
   refine runEnd ?_
   exact ⟨(cutPre rest w, l ++ [t], hasPre rest w, f), ⟨hE1, fun hp => by have := hE2 hp; simp only []; omega, by simp; omega, fun hp => by have := hE2 hp; simp; omega⟩, by simpa using hE4, upds_le (by simp), rfl, by simp, by simp⟩
  ·intro h22
   try simp at h22
   refine AW.skip ?_
   exact ⟨(rest, l, false, f), ⟨by rw [hq]; simp [h22], fun hp => absurd hp (by simp), by simp only []; omega, fun hp => absurd hp (by simp)⟩, by simp, upds_le (by simp [h22]), rfl, by simp [h22], by simp [h22]⟩
 ·intro h17
  try simp at h17
  have hend : parseO s = if ok = true then some l else none := by
   rw [hq]
   cases ok with
   | false => rfl
   | true =>
    have : rest = [] := by simpa using h17
    subst this
    cases f <;> simp [parseF]
  rw [hend]
  refine AW.exit ?_
  simp
  refine AW.seq ?_
  refine AW.block ?_
  refine rgn [] [[], [], [6, 34]] ?_
  iterate 3 refine op1 tok ?_
  refine runEnd ?_
  refine cnd ?_ ?_
  ·intro h34
   try simp at h34
   subst h34
   refine rgn [] [[], []] ?_
   iterate 2 refine op1 tok ?_
   refine runEnd ?_
   exact AW.ret ⟨.inr rfl, _, _, by (conv => lhs; simp), trivial, by simp [finP]⟩
  ·intro h34
   try simp at h34
   subst h34
   simp only [if_true, finP]
   refine rgn [] [[], [], [], [6, 37]] ?_
   iterate 4 refine op1 tok ?_
   refine runEnd ?_
   refine cnd ?_ ?_
   ·intro h37
    try simp at h37
    rw [if_pos (by omega)]
    refine rgn [] [[], []] ?_
    iterate 2 refine op1 tok ?_
    refine runEnd ?_
    exact AW.ret ⟨.inr rfl, _, _, by (conv => lhs; simp), trivial, by simp⟩
   ·intro h37
    try simp at h37
    rw [if_neg (by omega)]
    refine AW.skip ?_
    refine rgn [] [[], [], [2, 3]] ?_
    iterate 3 refine op1 tok ?_
    refine runEnd ?_
    exact AW.ret ⟨.inr rfl, _, _, by (conv => lhs; simp), trivial, by simp⟩
theorem printS_take {l : List Step} {k : Nat} {t : Step} (h : l[k]? = some t) : printS (l.take (k + 1)) = printS (l.take k) ++ writtenT t := by
 simp [printS, List.take_add_one, h]
theorem flat_le {l : List Step} (h : l.all mayM = true) : (l.flatMap writtenT).length ≤ 200 * l.length := by
 induction l with
 | nil => simp
 | cons t l ih =>
  simp only [List.all_cons, Bool.and_eq_true] at h
  have := written_le h.1
  have := ih h.2
  simp only [List.flatMap_cons, List.length_append, List.length_cons]; omega
theorem printB_ev (hP : PW G) (l : List Step) (ha : l.all mayM = true) (hl : l.length ≤ 1000000) : AFn Tryz.prog G 50 [.sl 3 (l.map Step.enc)] (.str (printS l)) := by
 refine AFn.introU tok Tryz.func50 (by kernel_rfl) rfl rfl ?_
 simp only [Tryz.f50, enumA, List.map_cons, List.map_nil]
 refine rgn [] [[0]] ?_
 refine op1 tok ?_
 refine runEnd ?_
 refine rgn [] [[]] ?_
 refine op1 tok ?_
 refine runEnd ?_
 refine AW.seq ?_
 refine rgn [] [[], [], [3, 6, 7, 8]] ?_
 iterate 3 refine op1 tok ?_
 refine runEnd ?_
 refine AW.block ?_
 refine AW.loop (α := Nat) (fun k => k ≤ l.length) (fun k => ⟨upds 18 [(3, .p (.str (printS (l.take k)))), (6, .p (.sl 3 (l.map Step.enc))), (7, .p (.int .i64 l.length)), (8, .p (.int .i64 k))], [], [], 0⟩) (fun k => l.length - k) (0) (by omega) ⟨upds_le (by simp [printS]), rfl, by simp, by simp⟩ ?_
 rintro k hk
 refine rgn [] [[]] ?_
 refine op1 tok ?_
 refine runEnd ?_
 refine AW.seq ?_
 refine cnd ?_ ?_
 ·intro h9
  try simp at h9
  obtain ⟨t, ht⟩ : ∃ t, l[k]? = some t := ⟨l[k], by simp [h9]⟩
  have hmt := List.all_eq_true.1 ha t (List.mem_of_getElem? ht)
  have hw := writtenB_ev hP t hmt
  have hwl := written_le hmt
  have hpl : (printS (l.take k)).length ≤ 200 * k + 1 := by
   have := flat_le (l := l.take k) (List.all_eq_true.2 fun x hx => List.all_eq_true.1 ha x (List.mem_of_mem_take hx))
   simp only [printS, List.length_cons, List.length_take] at this ⊢; omega
  have hsn := printS_take ht
  simp at hw
  generalize writtenT t = w at *
  generalize printS (l.take k) = p at *
  refine AW.skip ?_
  refine AW.seq ?_
  refine AW.block ?_
  refine rgn [t.enc] [[], [], [], [3, 5, 6, 7, 8]] ?_
  iterate 4 refine op1 tok ?_ (hv := by first | with_reducible exact True.intro | (simp [ht]; done) | omega | simp | (simp; omega) | (simp +contextual; omega))
  refine runEnd ?_
  refine rgz [.nilp, .str w] [[], [], [], [6, 7, 8, 15], [3, 6, 7, 8]] ?_
  iterate 5 refine op1 tok ?_ (hv := by first | with_reducible exact True.intro | (first | exact hw | (simp; omega); done) | omega | simp | (simp; omega) | (simp +contextual; omega))
  refine runEnd ?_
  refine rgz [] [[], [3, 6, 7, 8]] ?_
  iterate 2 refine op1 tok ?_
  refine runEnd ?_
  exact ⟨k + 1, by omega, by omega, upds_le (by simp [hsn]), rfl, by simp [hsn], by simp [hsn]⟩
 ·intro h9
  try simp at h9
  rw [List.take_of_length_le h9]
  refine AW.exit ?_
  simp
  refine rgn [] [[], [2]] ?_
  iterate 2 refine op1 tok ?_
  refine runEnd ?_
  exact AW.ret ⟨.inr rfl, _, _, by (conv => lhs; simp), trivial, by simp⟩
end Go.Proofs.YtdjjmppnnkkloaaGreatDoor
