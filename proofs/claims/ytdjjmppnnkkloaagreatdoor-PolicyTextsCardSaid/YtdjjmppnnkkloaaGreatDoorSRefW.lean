import Derived.Test.YtdjjmppnnkkloaaGreatDoorSRefPol
import Derived.Test.YtdjjmppnnkkloaaGreatDoorSPolBackL
import Derived.Test.YtdjjmppnnkkloaaGreatDoorSQuote3
import Derived.Test.YtdjjmppnnkkloaaGreatDoorM3
namespace Go.Proofs.YtdjjmppnnkkloaaGreatDoor
open Sy Go
set_option maxRecDepth 100000
set_option maxHeartbeats 4000000
set_option linter.unusedSimpArgs false
set_option linter.unusedVariables false
variable {G : Glob}
/-- The words of a text. -/
def wordsT (s : List UInt8) : List (List UInt8) := (splitB 32 s).filter (fun x => !decide (x = []))
theorem words_step {s : List UInt8} {i f : Nat} (hf : f ≤ i) (hi : i ≤ s.length) (hno : 32 ∉ (s.take i).drop f) (h : i = s.length ∨ s[i]? = some 32) :
    wordsT (s.drop f) = (if (s.take i).drop f = [] then [] else [(s.take i).drop f]) ++ wordsT (s.drop (i + 1)) := by
  have key : ∀ seg : List UInt8, ([seg] : List (List UInt8)).filter (fun x => !decide (x = [])) = if seg = [] then [] else [seg] := fun seg => by
    by_cases e : seg = [] <;> simp [e]
  by_cases he : i = s.length
  · subst he
    rw [List.take_length] at hno ⊢
    unfold wordsT
    rw [splitB_no hno, List.drop_of_length_le (show s.length ≤ s.length + 1 by omega), key, show splitB 32 [] = [[]] from rfl]
    simp
  · have hc := h.resolve_left he
    have hlt := (List.getElem?_eq_some_iff.1 hc)
    have e : s.drop f = (s.take i).drop f ++ 32 :: s.drop (i + 1) := by
      conv => lhs; rw [← List.take_append_drop i s]
      rw [List.drop_append_of_le_length (by simp; omega), List.drop_eq_getElem_cons hlt.1, hlt.2]
    unfold wordsT
    rw [e, splitB_at hno, ← List.singleton_append, List.filter_append, key]
theorem words_nil : wordsT [] = [] := rfl
theorem words_ev (s : List UInt8) (hs : s.length ≤ 1000000000) : AFn Tryz.prog G 32 [.str s] (.sl 1 ((wordsT s).map PD.str)) := by
  refine AFn.introU tok Tryz.func32 (by kernel_rfl) rfl rfl ?_
  simp only [Tryz.f32, enumA, List.map_cons, List.map_nil]
  refine rgn [] [[0]] ?_
  refine op1 tok ?_
  refine runEnd ?_
  refine rgn [] [[], [0, 3]] ?_
  iterate 2 refine op1 tok ?_
  refine runEnd ?_
  refine rgn [] [[]] ?_
  refine op1 tok ?_
  refine runEnd ?_
  refine AW.seq ?_
  refine rgn [] [[]] ?_
  refine op1 tok ?_
  refine runEnd ?_
  refine AW.block ?_
  refine AW.loop (α := Nat × Nat × List (List UInt8)) (fun a => a.1 ≤ s.length + 1 ∧ a.2.1 ≤ a.1 ∧ wordsT s = a.2.2 ++ wordsT (s.drop a.2.1) ∧ 32 ∉ (s.take a.1).drop a.2.1 ∧ (a.1 = s.length + 1 → a.2.1 = s.length + 1) ∧ a.2.2.length ≤ a.2.1) (fun a => ⟨upds 36 [(0, .p (.str s)), (3, .ms 6), (4, .p (.int .i64 a.2.1)), (5, .p (.int .i64 a.1))], [], [(6, .row 9 1 (a.2.2.map PD.str))], 0⟩) (fun a => s.length + 1 - a.1) ((0, 0, [])) ⟨by simp only []; omega, by simp, by simp, by simp, by simp only []; omega, by simp⟩ ⟨upds_le (by simp), rfl, by simp, by simp⟩ ?_
  rintro ⟨i, f, out⟩ ⟨hi, hf, hq, hno, hend, hol⟩
  simp only at hi hf hq hno hend hol
  refine AW.seq ?_
  refine rgn [] [[], [], [], [0, 3, 4, 5, 10]] ?_
  iterate 4 refine op1 tok ?_
  refine runEnd ?_
  refine cnd ?_ ?_
  · intro h10
    try simp at h10
    have hc : i < s.length → s[i]? = some (s.getD i 0) := fun h => by rw [List.getD_eq_getElem?_getD, List.getElem?_eq_getElem h]; rfl
    generalize s.getD i 0 = c at *
    have l32 : ((c.toNat : Int) = 32) ↔ c = 32 := by
      constructor
      · intro e; exact UInt8.toNat_inj.1 (by show c.toNat = 32; omega)
      · rintro rfl; rfl
    refine AW.skip ?_
    refine AW.seq ?_
    refine AW.block ?_
    refine rgn [.int .u8 c.toNat] [[], [], [], [], [0, 3, 4, 5, 17], [], [], [], [], [0, 3, 4, 5, 22]] ?_
    iterate 5 refine op1 tok ?_ (hv := by first | with_reducible exact True.intro | (exact fun h => ⟨h, c, hc (by omega), rfl⟩; done) | omega | simp | (simp; omega) | (simp +contextual; omega))
    iterate 4 refine op2 tok ?_ (hv := by first | with_reducible exact True.intro | (exact fun h => ⟨h, c, hc (by omega), rfl⟩; done) | omega | simp | (simp; omega) | (simp +contextual; omega))
    refine op1 tok ?_ (hv := by first | with_reducible exact True.intro | (exact fun h => ⟨h, c, hc (by omega), rfl⟩; done) | omega | simp | (simp; omega) | (simp +contextual; omega))
    refine runEnd ?_
    refine cnd ?_ ?_
    · intro h22
      try simp at h22
      have hst := words_step hf (by omega) hno (by
        rcases h22 with h | h
        · exact .inl (by omega)
        · by_cases he : i < s.length
          · exact .inr (by rw [hc he, l32.1 h])
          · exact .inl (by omega))
      have hseg : (s.take i).drop f = [] ↔ ¬ f < i := by
        rw [← List.length_eq_zero_iff]; simp; omega
      refine AW.seq ?_
      refine rgn [] [[], [], [0, 3, 4, 5, 25]] ?_
      iterate 3 refine op1 tok ?_
      refine runEnd ?_
      refine cnd ?_ ?_
      · intro h25
        try simp at h25
        rw [if_neg (by rw [hseg]; omega)] at hst
        have hq' : wordsT s = (out ++ [(s.take i).drop f]) ++ wordsT (s.drop (i + 1)) := by rw [hq, hst]; simp
        refine rgz [.str ((s.take i).drop f)] [[], [], [], [], [0, 5, 26, 30], [], [], [0, 3, 5]] ?_
        iterate 8 refine op1 tok ?_ (hv := by first | with_reducible exact True.intro | (first | (simp; omega) | simp; done) | omega | simp | (simp; omega) | (simp +contextual; omega))
        refine runEnd ?_
        refine rgz [] [[], [], [0, 3, 4, 5]] ?_
        iterate 3 refine op1 tok ?_
        refine runEnd ?_
        refine rgz [] [[], [], [0, 3, 4, 5]] ?_
        iterate 3 refine op1 tok ?_
        refine runEnd ?_
        exact ⟨(i + 1, i + 1, out ++ [(s.take i).drop f]), ⟨by simp only []; omega, by simp, hq', by simp, by simp only []; omega, by simp; omega⟩, by simp only []; omega, upds_le (by simp), rfl, by simp, by simp⟩
      · intro h25
        try simp at h25
        rw [if_pos (by rw [hseg]; omega), List.nil_append] at hst
        have hq' : wordsT s = out ++ wordsT (s.drop (i + 1)) := by rw [hq, hst]
        refine AW.skip ?_
        refine rgz [] [[], [], [0, 3, 4, 5]] ?_
        iterate 3 refine op1 tok ?_
        refine runEnd ?_
        refine rgz [] [[], [], [0, 3, 4, 5]] ?_
        iterate 3 refine op1 tok ?_
        refine runEnd ?_
        exact ⟨(i + 1, i + 1, out), ⟨by simp only []; omega, by simp, hq', by simp, by simp only []; omega, by simp only []; omega⟩, by simp only []; omega, upds_le (by simp), rfl, by simp, by simp⟩
    · intro h22
      try simp at h22
      have hlt : i < s.length := by omega
      have hno2 : 32 ∉ (s.take (i + 1)).drop f := by
        rw [List.take_add_one, hc hlt, List.drop_append_of_le_length (by simp; omega)]
        simp only [List.mem_append, not_or]
        refine ⟨hno, ?_⟩
        simp only [Option.toList_some, List.mem_singleton]
        rintro rfl
        exact absurd (l32.2 rfl) (by omega)
      refine AW.skip ?_
      refine rgz [] [[], [], [0, 3, 4, 5]] ?_
      iterate 3 refine op1 tok ?_
      refine runEnd ?_
      exact ⟨(i + 1, f, out), ⟨by simp only []; omega, by simp only []; omega, hq, hno2, by simp only []; omega, by simp only []; omega⟩, by simp only []; omega, upds_le (by simp), rfl, by simp, by simp⟩
  · intro h10
    try simp at h10
    rw [hend (by omega), List.drop_of_length_le (by omega), words_nil, List.append_nil] at hq
    rw [hq]
    refine AW.exit ?_
    simp
    refine AW.freezeE 6 (by conv => lhs; simp) ?_
    refine rgn [] [[], [2]] ?_
    iterate 2 refine op1 tok ?_
    refine runEnd ?_
    exact AW.ret ⟨.inr rfl, _, _, by (conv => lhs; simp), trivial, by simp⟩
theorem maskG_words {cats : List (List UInt8)} (hne : [] ∉ cats) : ∀ (ws : List (List UInt8)) (m : Int), maskG cats (ws.filter fun x => !decide (x = [])) m = maskG cats ws m
  | [], m => rfl
  | w :: ws, m => by
    by_cases hw : w = []
    · subst hw
      rw [maskG_skip hne, ← maskG_words hne ws m]
      simp
    · rw [List.filter_cons_of_pos (by simp [hw])]
      simp only [maskG, maskG_words hne ws]
theorem refMask_ev (cats : List (List UInt8)) (s : List UInt8) (hs : s.length ≤ 1000000000) (hne : [] ∉ cats) (h64 : cats.length ≤ 64) : AFn Tryz.prog G 36 [.sl 1 (cats.map PD.str), .str s] (.tup [.int .u64 (maskT cats s).1, .int .i64 (maskT cats s).2]) := by
  refine AFn.introU tok Tryz.func36 (by kernel_rfl) rfl rfl ?_
  simp only [Tryz.f36, enumA, List.map_cons, List.map_nil]
  have hw := words_ev (G := G) s hs
  have hmt : maskT cats s = match maskG cats (wordsT s) 0 with
    | none => (0, 20)
    | some m => (m, 0) := by unfold maskT wordsT; rw [maskG_words hne] <;> rfl
  have hwn : ∀ w ∈ wordsT s, w ≠ [] := fun w hw => by
    unfold wordsT at hw
    have := (List.mem_filter.1 hw).2
    simpa using this
  generalize maskT cats s = M at *
  have hwl : (wordsT s).length ≤ 1000000001 := by
    unfold wordsT
    have h1 := List.length_filter_le (fun x => !decide (x = [])) (splitB 32 s)
    rw [splitB_len] at h1
    have h2 : s.count 32 ≤ s.length := List.count_le_length
    omega
  generalize wordsT s = l at *
  refine rgn [] [[], [0, 1]] ?_
  iterate 2 refine op1 tok ?_
  refine runEnd ?_
  refine rgn [] [[]] ?_
  refine op1 tok ?_
  refine runEnd ?_
  refine rgn [.nilp, .sl 1 (l.map PD.str)] [[], [], [0, 6, 7]] ?_
  iterate 3 refine op1 tok ?_ (hv := by first | with_reducible exact True.intro | (exact hw; done) | omega | simp | (simp; omega) | (simp +contextual; omega))
  refine runEnd ?_
  refine AW.seq ?_
  refine rgn [] [[]] ?_
  refine op1 tok ?_
  refine runEnd ?_
  refine AW.block ?_
  refine AW.loop (α := Nat × Int) (fun a => a.1 ≤ l.length ∧ maskG cats l 0 = maskG cats (l.drop a.1) a.2) (fun a => ⟨upds 31 [(0, .p (.sl 1 (cats.map PD.str))), (6, .p (.int .u64 a.2)), (7, .p (.sl 1 (l.map PD.str))), (8, .p (.int .i64 a.1))], [], [], 0⟩) (fun a => l.length - a.1) ((0, 0)) ⟨by simp, rfl⟩ ⟨upds_le (by simp), rfl, by simp, by simp⟩ ?_
  rintro ⟨k, m⟩ ⟨hk, hq⟩
  simp only at hk hq
  refine AW.seq ?_
  refine rgn [] [[], [], [], [0, 6, 7, 8, 15]] ?_
  iterate 4 refine op1 tok ?_
  refine runEnd ?_
  refine cnd ?_ ?_
  · intro h15
    try simp at h15
    obtain ⟨w, hwk⟩ : ∃ w, l[k]? = some w := ⟨l[k]'(by omega), List.getElem?_eq_getElem _⟩
    have hdx : l.drop k = w :: l.drop (k + 1) := by
      obtain ⟨h, rfl⟩ := List.getElem?_eq_some_iff.1 hwk
      exact List.drop_eq_getElem_cons h
    rw [hdx] at hq
    simp only [maskG] at hq
    have hp := refPlace_ev (G := G) cats w (by omega)
    have hwne := hwn w (List.mem_of_getElem? hwk)
    have hix : w ∈ cats → cats.idxOf w < cats.length := fun h => List.idxOf_lt_length_of_mem h
    have hbit := fun h : w ∈ cats => shl_bit (e := cats.idxOf w) (by have := hix h; omega)
    refine AW.skip ?_
    refine AW.seq ?_
    refine AW.block ?_
    by_cases hs6 : w ∈ cats
    ·
      first | rw [if_pos hs6] at hp hq | rw [if_neg hs6] at hp hq
      have hix := hix hs6
      have hbit := hbit hs6
      generalize cats.idxOf w = e at *
      refine rgn [.str w, .nilp, .int .i64 e] [[], [], [], [], [], [0, 6, 7, 8, 23], [0, 6, 7, 8, 9]] ?_
      iterate 7 refine op1 tok ?_ (hv := by first | with_reducible exact True.intro | (first | exact hp | (simp [hwk]; done) | (simp [hwk]; omega); done) | omega | simp | (simp; omega) | (simp +contextual; omega))
      refine runEnd ?_
      refine AW.seq ?_
      refine rgn [] [[], [0, 6, 7, 8, 9, 25]] ?_
      iterate 2 refine op1 tok ?_
      refine runEnd ?_
      refine cnd ?_ ?_
      · intro h25
        try simp at h25
        omega
      · intro h25
        try simp at h25
        refine AW.skip ?_
        refine rgz [] [[], [], [], [0, 7, 8, 29], [0, 6, 7, 8]] ?_
        iterate 5 refine op1 tok ?_ (h := by intro C; conv => lhs; simp [hbit, or_wrap])
        refine runEnd ?_
        refine rgz [] [[], [], [0, 6, 7, 8]] ?_
        iterate 3 refine op1 tok ?_
        refine runEnd ?_
        exact ⟨(k + 1, orM m (bitM e)), ⟨by simp only []; omega, hq⟩, by simp only []; omega, upds_le (by simp), rfl, by simp, by simp⟩
    ·
      first | rw [if_pos hs6] at hp hq | rw [if_neg hs6] at hp hq
      rw [if_neg hwne] at hq
      refine rgn [.str w, .nilp, .int .i64 (-1)] [[], [], [], [], [], [0, 6, 7, 8, 23], [0, 6, 7, 8, 9]] ?_
      iterate 7 refine op1 tok ?_ (hv := by first | with_reducible exact True.intro | (first | exact hp | (simp [hwk]; done) | (simp [hwk]; omega); done) | omega | simp | (simp; omega) | (simp +contextual; omega))
      refine runEnd ?_
      refine AW.seq ?_
      refine rgn [] [[], [0, 6, 7, 8, 9, 25]] ?_
      iterate 2 refine op1 tok ?_
      refine runEnd ?_
      refine cnd ?_ ?_
      · intro h25
        try simp at h25
        rw [hq] at hmt
        subst hmt
        refine rgn [] [[], []] ?_
        iterate 2 refine op1 tok ?_
        refine runEnd ?_
        exact AW.ret ⟨.inr rfl, _, _, by (conv => lhs; simp), trivial, by simp⟩
      · intro h25
        try simp at h25
  · intro h15
    try simp at h15
    rw [List.drop_of_length_le (by omega)] at hq
    simp only [maskG] at hq
    rw [hq] at hmt
    subst hmt
    refine AW.exit ?_
    simp
    refine rgn [] [[], [], [4, 5]] ?_
    iterate 3 refine op1 tok ?_
    refine runEnd ?_
    exact AW.ret ⟨.inr rfl, _, _, by (conv => lhs; simp), trivial, by simp⟩
theorem join_snoc (ws : List (List UInt8)) (c : List UInt8) : Lib.join (ws ++ [c]) [32] = if ws = [] then c else Lib.join ws [32] ++ 32 :: c := by
  induction ws with
  | nil => simp [Lib.join_one]
  | cons x r ih =>
    cases r with
    | nil => simp only [List.cons_append, List.nil_append, join_two, Lib.join_one]; simp
    | cons y r =>
      rw [if_neg (by simp)] at ih ⊢
      simp only [List.cons_append] at ih ⊢
      rw [join_two, join_two, ih]; simp
theorem join_ne : ∀ {ws : List (List UInt8)}, (∀ w ∈ ws, w ≠ []) → (Lib.join ws [32] = [] ↔ ws = [])
  | [], _ => by simp [Lib.join, List.intercalate]
  | [x], h => by rw [Lib.join_one]; simp [h x (by simp)]
  | x :: y :: r, h => by rw [join_two]; simp
theorem refNames_ev (cats : List (List UInt8)) (m : Int) (hm : InM m) (hc : catsMayM cats = 0) : AFn Tryz.prog G 53 [.sl 1 (cats.map PD.str), .int .u64 m] (.str (namesT cats m)) := by
  refine AFn.introU tok Tryz.func53 (by kernel_rfl) rfl rfl ?_
  simp only [Tryz.f53, enumA, List.map_cons, List.map_nil]
  have h64 := (may_cats hc).1
  have hcl : ∀ c ∈ cats, c ≠ [] := fun c h => (name_clean (List.all_eq_true.1 (may_cats hc).2.2 c h)).1
  have hc24 := cats_le hc
  refine rgn [] [[0, 1]] ?_
  refine op1 tok ?_
  refine runEnd ?_
  refine rgn [] [[]] ?_
  refine op1 tok ?_
  refine runEnd ?_
  refine AW.seq ?_
  refine rgn [] [[]] ?_
  refine op1 tok ?_
  refine runEnd ?_
  refine AW.block ?_
  refine AW.loop (α := Nat) (fun k => k ≤ cats.length) (fun k => ⟨upds 29 [(0, .p (.sl 1 (cats.map PD.str))), (1, .p (.int .u64 m)), (5, .p (.str (namesT (cats.take k) m))), (6, .p (.int .i64 k))], [], [], 0⟩) (fun k => cats.length - k) (0) (by omega) ⟨upds_le (by simp [namesT, pickC, Lib.join, List.intercalate]), rfl, by simp, by simp⟩ ?_
  rintro k hk
  refine AW.seq ?_
  refine rgn [] [[], [], [], [0, 1, 5, 6, 10]] ?_
  iterate 4 refine op1 tok ?_
  refine runEnd ?_
  refine cnd ?_ ?_
  · intro h10
    try simp at h10
    obtain ⟨c, hcs⟩ : ∃ c, cats[k]? = some c := ⟨cats[k]'(by omega), List.getElem?_eq_getElem _⟩
    have hsn := pick_snoc m cats 0 k c hcs
    have hle := pick_le m (cats.take k) 0
    rw [Nat.zero_add] at hsn
    have hne : (namesT (cats.take k) m = []) ↔ pickC (cats.take k) 0 m = [] := join_ne fun w hw => hcl w (List.mem_of_mem_take (pick_sub hw))
    have hnl := joinN_le 24 (pickC (cats.take k) 0 m) fun x hx => hc24 x (List.mem_of_mem_take (pick_sub hx))
    have hc2 := hc24 c (List.mem_of_getElem? hcs)
    have hjs : namesT (cats.take (k + 1)) m = if hasM m k = true then (if pickC (cats.take k) 0 m = [] then c else namesT (cats.take k) m ++ 32 :: c) else namesT (cats.take k) m := by
      unfold namesT
      rw [hsn]
      split
      · exact join_snoc _ _
      · simp
    have hnl : (namesT (cats.take k) m).length ≤ 10000 := by
      unfold namesT
      have : (pickC (cats.take k) 0 m).length * 25 ≤ 64 * 25 := Nat.mul_le_mul_right _ (by simp at hle; omega)
      omega
    have hbit : (m.fdiv (2 ^ min k IntKind.u64.bits)).tmod 2 = 1 ↔ hasM m k = true := by
      unfold InM at hm
      rw [Nat.min_eq_left (by simp [IntKind.bits]; omega), Int.fdiv_eq_ediv_of_nonneg _ (Int.le_of_lt (Int.pow_pos (by decide))), Int.tmod_eq_emod_of_nonneg (Int.ediv_nonneg (by omega) (Int.le_of_lt (Int.pow_pos (by decide))))]
      unfold hasM
      rw [Nat.testBit_eq_decide_div_mod_eq]
      have hn := natM_of hm
      conv => lhs; rw [← hn]
      simp only [decide_eq_true_eq]
      constructor
      · intro h; have : ((natM m / 2 ^ k % 2 : Nat) : Int) = 1 := by simpa using h
        omega
      · intro h; have : ((natM m / 2 ^ k % 2 : Nat) : Int) = 1 := by omega
        simpa using this
    generalize namesT (cats.take k) m = nm at *
    refine AW.skip ?_
    refine AW.seq ?_
    refine AW.block ?_
    refine rgn [] [[], [], [], [], [0, 1, 5, 6, 17]] ?_
    iterate 5 refine op1 tok ?_
    refine runEnd ?_
    refine cnd ?_ ?_
    · intro h17
      try simp at h17
      rw [if_pos (hbit.1 h17)] at hjs
      refine AW.seq ?_
      refine rgn [] [[], [0, 1, 5, 6, 19]] ?_
      iterate 2 refine op1 tok ?_
      refine runEnd ?_
      refine cnd ?_ ?_
      · intro h19
        try simp at h19
        rw [if_neg (by rw [← hne]; exact h19)] at hjs
        refine rgz [] [[], [], [0, 1, 5, 6]] ?_
        iterate 3 refine op1 tok ?_
        refine runEnd ?_
        refine rgz [.str c] [[], [], [], [], [0, 1, 6, 22, 26], [], [0, 1, 5, 6]] ?_
        iterate 7 refine op1 tok ?_ (hv := by first | with_reducible exact True.intro | (first | (simp [hcs]; done) | (simp [hcs]; omega) | (simp; omega); done) | omega | simp | (simp; omega) | (simp +contextual; omega))
        refine runEnd ?_
        refine rgz [] [[], [], [0, 1, 5, 6]] ?_
        iterate 3 refine op1 tok ?_
        refine runEnd ?_
        exact ⟨k + 1, by omega, by omega, upds_le (by simp [hjs]), rfl, by simp [hjs], by simp [hjs]⟩
      · intro h19
        try simp at h19
        rw [if_pos (by rw [← hne]; exact h19)] at hjs
        subst h19
        refine AW.skip ?_
        refine rgz [.str c] [[], [], [], [], [0, 1, 6, 22, 26], [], [0, 1, 5, 6]] ?_
        iterate 7 refine op1 tok ?_ (hv := by first | with_reducible exact True.intro | (first | (simp [hcs]; done) | (simp [hcs]; omega) | (simp; omega); done) | omega | simp | (simp; omega) | (simp +contextual; omega))
        refine runEnd ?_
        refine rgz [] [[], [], [0, 1, 5, 6]] ?_
        iterate 3 refine op1 tok ?_
        refine runEnd ?_
        exact ⟨k + 1, by omega, by omega, upds_le (by simp [hjs]), rfl, by simp [hjs], by simp [hjs]⟩
    · intro h17
      try simp at h17
      rw [if_neg (fun h => h17 (hbit.2 h))] at hjs
      refine AW.skip ?_
      refine rgz [] [[], [], [0, 1, 5, 6]] ?_
      iterate 3 refine op1 tok ?_
      refine runEnd ?_
      exact ⟨k + 1, by omega, by omega, upds_le (by simp [hjs]), rfl, by simp [hjs], by simp [hjs]⟩
  · intro h10
    try simp at h10
    rw [List.take_of_length_le (by omega)]
    refine AW.exit ?_
    simp
    refine rgn [] [[], [4]] ?_
    iterate 2 refine op1 tok ?_
    refine runEnd ?_
    exact AW.ret ⟨.inr rfl, _, _, by (conv => lhs; simp), trivial, by simp⟩
end Go.Proofs.YtdjjmppnnkkloaaGreatDoor
