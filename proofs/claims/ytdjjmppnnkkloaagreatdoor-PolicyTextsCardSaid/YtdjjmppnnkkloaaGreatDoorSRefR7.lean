import Derived.Test.YtdjjmppnnkkloaaGreatDoorSRefP7
import Derived.Test.YtdjjmppnnkkloaaGreatDoorM3
namespace Go.Proofs.YtdjjmppnnkkloaaGreatDoor
open Sy Go
set_option maxRecDepth 100000
set_option maxHeartbeats 4000000
set_option linter.unusedSimpArgs false
set_option linter.unusedVariables false
variable {G : Glob}
theorem unq_all : ∀ (f : Nat) (s : List UInt8) (k : Nat) (out : List UInt8), (unqG f s k out).2.2 = 0 → (unqG f s k out).1.length ≤ 4096 ∧ (unqG f s k out).2.1 ≤ k + s.length
  | 0, s, k, out, h => by simp [unqG] at h
  | f + 1, s, k, out, h => by
    by_cases hne : s = []
    · subst hne; rw [unqG_none] at h; cases h
    · have hl := List.length_pos_iff.2 hne
      have hle := Lib.decodeL_le s hne
      rw [unqG_step hne] at h ⊢
      split at h
      · rename_i h1
        rw [if_pos h1]
        split at h
        · cases h
        · rename_i h2
          rw [if_neg h2]
          exact ⟨by simp only []; omega, by simp only []; omega⟩
      · rename_i h1
        rw [if_neg h1]
        split at h
        · cases h
        · rename_i h2
          rw [if_neg h2]
          split at h
          · rename_i h3
            rw [if_pos h3]
            cases he : escL s with
            | none => rw [he] at h; cases h
            | some q =>
              obtain ⟨c, n⟩ := q
              rw [he] at h
              simp only at h ⊢
              have ih := unq_all f (s.drop n) (k + n) (out ++ Lib.encodeRune c) h
              by_cases hn : n ≤ s.length
              · rw [List.length_drop] at ih; exact ⟨ih.1, by omega⟩
              · rw [List.drop_of_length_le (by omega), unqG_none] at h; cases h
          · rename_i h3
            rw [if_neg h3]
            have ih := unq_all f (s.drop (Lib.decodeL s).2) (k + (Lib.decodeL s).2) _ h
            rw [List.length_drop] at ih
            exact ⟨ih.1, by omega⟩
theorem unquote_all {s : List UInt8} (h : (unquoteT s).2.2 = 0) : (unquoteT s).1.length ≤ 4096 ∧ (unquoteT s).2.1 ≤ s.length + 1 := by
  unfold unquoteT at h ⊢
  split at h
  · rename_i h1
    rw [if_pos h1]
    have := unq_all s.length (s.drop 1) 1 [] h
    rw [List.length_drop] at this
    exact ⟨this.1, by omega⟩
  · cases h
def dgN (l : List UInt8) : Nat := l.foldl (fun n c => n * 10 + (c.toNat - 48)) 0
theorem dgN_snoc (l : List UInt8) (c : UInt8) : dgN (l ++ [c]) = dgN l * 10 + (c.toNat - 48) := by simp [dgN]
def digsT (s : List UInt8) : List UInt8 := ((s.drop 1).take 5).takeWhile isDig
/-- The step that the reference guesses, and how many bytes it should have. -/
def gsR (s : List UInt8) : Step × Nat :=
  if s.head? = some 46 then (⟨1, (s.drop 1).takeWhile isNm, 0⟩, 1 + ((s.drop 1).takeWhile isNm).length)
  else if s.take 2 = [91, 34] then (if (unquoteT (s.drop 1)).2.2 ≠ 0 then (⟨0, [], 0⟩, 0) else (⟨1, (unquoteT (s.drop 1)).1, 0⟩, (unquoteT (s.drop 1)).2.1 + 2))
  else if s.head? = some 91 then (⟨2, [], dgN (digsT s)⟩, (digsT s).length + 2)
  else (⟨0, [], 0⟩, 0)
def finR (s : List UInt8) (g : Step × Nat) : Step × Nat := if g.2 = 0 ∨ s.length < g.2 ∨ mayM g.1 = false ∨ writtenT g.1 ≠ s.take g.2 then (g.1, 0) else g
def rdR (s : List UInt8) : Step × Nat :=
  if s.take 2 = [42, 42] then (⟨5, [], 0⟩, 2) else if s.take 2 = [46, 42] then (⟨3, [], 0⟩, 2) else if s.take 3 = [91, 42, 93] then (⟨4, [], 0⟩, 3) else finR s (gsR s)
theorem dgN_lt {l : List UInt8} (k : Nat) (hl : l.length ≤ k) (h : l.all isDig = true) : dgN l < 10 ^ k := by
  have key : ∀ (n : Nat) (l : List UInt8), l.length = n → l.all isDig = true → dgN l < 10 ^ n := by
    intro n
    induction n with
    | zero => intro l hl _; rw [List.length_eq_zero_iff.1 hl]; decide
    | succ n ih =>
      intro l hl h
      obtain ⟨a, x, rfl⟩ : ∃ a x, l = a ++ [x] := ⟨l.dropLast, l.getLast (by rintro rfl; simp at hl), (List.dropLast_concat_getLast _).symm⟩
      simp only [List.all_append, List.all_cons, List.all_nil, Bool.and_true, Bool.and_eq_true] at h
      have h1 := ih a (by simpa using hl) h.1
      have h2 := h.2
      simp only [isDig, digitM, Bool.and_eq_true, decide_eq_true_eq] at h2
      rw [dgN_snoc, Nat.pow_succ]; omega
  exact Nat.lt_of_lt_of_le (key _ l rfl h) (Nat.pow_le_pow_right (by decide) hl)
theorem gsR_bd (s : List UInt8) : (gsR s).1.key.length ≤ s.length + 4096 ∧ 0 ≤ (gsR s).1.n ∧ (gsR s).1.n < 100000 ∧ (gsR s).2 ≤ s.length + 5000 := by
  unfold gsR
  split
  · have := (List.takeWhile_sublist isNm (l := s.drop 1)).length_le
    simp only [List.length_drop] at this
    simp only; omega
  · split
    · split
      · simp
      · rename_i h
        have := unquote_all (Decidable.not_not.1 h)
        simp only [List.length_drop] at this
        simp only; omega
    · split
      · have h1 : (digsT s).all isDig = true := by unfold digsT; exact List.all_takeWhile
        have h2 : (digsT s).length ≤ 5 := by
          unfold digsT
          have := (List.takeWhile_sublist isDig (l := (s.drop 1).take 5)).length_le
          have h3 : ((s.drop 1).take 5).length ≤ 5 := by simp; omega
          omega
        have := dgN_lt 5 h2 h1
        simp only [List.length_nil]; omega
      · simp
theorem tw_eq {p : UInt8 → Bool} {s : List UInt8} {k : Nat} (hk : k ≤ s.length) (ha : (s.take k).all p = true) (h : ∀ b, s[k]? = some b → p b = false) : s.takeWhile p = s.take k := by
  have h1 := tw_take hk ha h
  have h2 : s.takeWhile p <+: s := List.takeWhile_prefix p
  rw [List.prefix_iff_eq_take.1 h2, h1]
theorem take2_len {s : List UInt8} {a b : UInt8} (h : s.take 2 = [a, b]) : 2 ≤ s.length := by
  have := congrArg List.length h
  simp at this; omega
theorem refMay7_ev (t : Step) (hk : t.key.length ≤ 1000000) : AFn Tryz.prog G 65 [t.enc] (.bool (mayM t)) := by
  rw [← refMayM_eq]; exact refMay1_ev t hk
theorem tail_takeS (s : List UInt8) (n : Nat) : (s.take (n + 1)).tail = s.tail.take n := by cases s <;> simp
theorem head_some {s : List UInt8} {b : UInt8} : s.head? = some b ↔ ∃ h : 0 < s.length, s.getD 0 0 = b := by
  cases s with
  | nil => simp
  | cons a r => simp [eq_comm]
theorem read7_ev (hP : PW G) (s : List UInt8) (hs : s.length ≤ 100000) : AFn Tryz.prog G 77 [.str s] (.tup [(rdR s).1.enc, .int .i64 (rdR s).2]) := by
  refine AFn.introU tok Tryz.func77 (by kernel_rfl) rfl rfl ?_
  simp only [Tryz.f77, enumA, List.map_cons, List.map_nil]
  have hgs : gsR s = if s.head? = some 46 then (⟨1, (s.drop 1).takeWhile isNm, 0⟩, 1 + ((s.drop 1).takeWhile isNm).length)
      else if s.take 2 = [91, 34] then (if (unquoteT (s.drop 1)).2.2 ≠ 0 then (⟨0, [], 0⟩, 0) else (⟨1, (unquoteT (s.drop 1)).1, 0⟩, (unquoteT (s.drop 1)).2.1 + 2))
      else if s.head? = some 91 then (⟨2, [], dgN (digsT s)⟩, (digsT s).length + 2)
      else (⟨0, [], 0⟩, 0) := rfl
  have hh : 0 < s.length → s.head? = some (s.getD 0 0) := fun h => by cases s with
    | nil => cases h
    | cons a r => rfl
  have hg0 : 0 < s.length → s[0]? = some (s.getD 0 0) := fun h => by cases s with
    | nil => cases h
    | cons a r => rfl
  have hh0 : ¬ 0 < s.length → s.head? = none := fun h => by cases s with
    | nil => rfl
    | cons a r => simp at h
  have hnm := name7_ev (G := G) (s.drop 1) (by simp; omega)
  have hnl : ((s.drop 1).takeWhile isNm).length ≤ s.length := by
    have := (List.takeWhile_sublist isNm (l := s.drop 1)).length_le
    simp only [List.length_drop] at this; omega
  have hnp : (s.drop 1).takeWhile isNm = (s.drop 1).take ((s.drop 1).takeWhile isNm).length := List.prefix_iff_eq_take.1 (List.takeWhile_prefix isNm)
  have huq := unquote3_ev (G := G) (s.drop 1) (by simp; omega)
  have hua := unquote_all (s := s.drop 1)
  have hul : (s.drop 1).length ≤ s.length := by simp
  have hdg : digsT s = ((s.drop 1).take 5).takeWhile isDig := rfl
  unfold rdR
  generalize s.getD 0 0 = c0 at *
  generalize hug : unquoteT (s.drop 1) = u at *
  have l46 : ((c0.toNat : Int) = 46) ↔ c0 = 46 := u8_litU c0 46 (by decide)
  have l91 : ((c0.toNat : Int) = 91) ↔ c0 = 91 := u8_litU c0 91 (by decide)
  simp only [List.drop_one] at *
  refine rgn [] [[], [0, 2]] ?_
  iterate 2 refine op1 tok ?_
  refine runEnd ?_
  refine rgn [] [[], [], [0, 2, 4]] ?_
  iterate 3 refine op1 tok ?_
  refine runEnd ?_
  refine rgn [] [[]] ?_
  refine op1 tok ?_
  refine runEnd ?_
  refine AW.seq ?_
  refine rgn [] [[], [], [], [], [], [0, 2, 4, 5, 13, 15], [], [0, 2, 4, 5, 17]] ?_
  iterate 4 refine op1 tok ?_
  iterate 3 refine op2 tok ?_
  refine op1 tok ?_
  refine runEnd ?_
  refine cnd ?_ ?_
  · intro h17
    try simp at h17
    rw [if_pos h17.2]
    refine rgn [] [[], [], [2, 3]] ?_
    iterate 3 refine op1 tok ?_
    refine runEnd ?_
    exact AW.ret ⟨.inr rfl, _, _, by (conv => lhs; simp), trivial, by simp⟩
  · intro h17
    try simp at h17
    rw [if_neg (fun h => by have hl := take2_len h; simp [h] at h17; omega)]
    refine AW.skip ?_
    refine AW.seq ?_
    refine rgn [] [[], [], [], [], [], [0, 2, 4, 5, 22, 24], [], [0, 2, 4, 5, 26]] ?_
    iterate 4 refine op1 tok ?_
    iterate 3 refine op2 tok ?_
    refine op1 tok ?_
    refine runEnd ?_
    refine cnd ?_ ?_
    · intro h26
      try simp at h26
      rw [if_pos h26.2]
      refine rgn [] [[], [], [2, 3]] ?_
      iterate 3 refine op1 tok ?_
      refine runEnd ?_
      exact AW.ret ⟨.inr rfl, _, _, by (conv => lhs; simp), trivial, by simp⟩
    · intro h26
      try simp at h26
      rw [if_neg (fun h => by have hl := take2_len h; simp [h] at h26; omega)]
      refine AW.skip ?_
      refine AW.seq ?_
      refine rgn [] [[], [], [], [], [], [0, 2, 4, 5, 31, 33], [], [0, 2, 4, 5, 35]] ?_
      iterate 4 refine op1 tok ?_
      iterate 3 refine op2 tok ?_
      refine op1 tok ?_
      refine runEnd ?_
      refine cnd ?_ ?_
      · intro h35
        try simp at h35
        rw [if_pos h35.2]
        refine rgn [] [[], [], [2, 3]] ?_
        iterate 3 refine op1 tok ?_
        refine runEnd ?_
        exact AW.ret ⟨.inr rfl, _, _, by (conv => lhs; simp), trivial, by simp⟩
      · intro h35
        try simp at h35
        rw [if_neg (fun h => by have hl := congrArg List.length h; simp at hl; simp [h] at h35; omega)]
        refine AW.skip ?_
        refine AW.join (α := Unit) (fun _ => True) (fun _ => ⟨upds 142 [(0, .p (.str s)), (2, .ptr 2 0), (4, .ptr 4 0), (5, .p (.int .i64 (gsR s).2))], [], [(2, .vars 57 [.p (.int .i64 0), .p (.str []), .p (.int .i64 0)]), (4, .vars 57 [.p (.int .i64 (gsR s).1.kind), .p (.str (gsR s).1.key), .p (.int .i64 (gsR s).1.n)])], 0⟩) ?_ ?_
        ·
          refine rgn [.int .u8 c0.toNat] [[], [], [], [], [], [0, 2, 4, 5, 40, 42], [], [0, 2, 4, 5, 44]] ?_
          iterate 4 refine op1 tok ?_ (hv := by first | with_reducible exact True.intro | ((intro h; exact ⟨by omega, c0, hg0 (by omega), rfl⟩); done) | omega | simp | (simp; omega) | (simp +contextual; omega))
          iterate 3 refine op2 tok ?_ (hv := by first | with_reducible exact True.intro | ((intro h; exact ⟨by omega, c0, hg0 (by omega), rfl⟩); done) | omega | simp | (simp; omega) | (simp +contextual; omega))
          refine op1 tok ?_ (hv := by first | with_reducible exact True.intro | ((intro h; exact ⟨by omega, c0, hg0 (by omega), rfl⟩); done) | omega | simp | (simp; omega) | (simp +contextual; omega))
          refine runEnd ?_
          refine cnd ?_ ?_
          · intro h44
            try simp at h44
            rw [if_pos (by rw [hh (by omega), (l46.1 h44.2)])] at hgs
            have hnl3 : ((s.tail).takeWhile isNm).length + 1 ≤ s.length := by
              have := (List.takeWhile_sublist isNm (l := s.tail)).length_le
              simp only [List.length_tail] at this; omega
            have htk : (List.take (1 + (((s.tail).takeWhile isNm).length : Int)).toNat s).tail = s.tail.takeWhile isNm := by
              rw [show (1 + (((s.tail).takeWhile isNm).length : Int)).toNat = ((s.tail).takeWhile isNm).length + 1 by omega, tail_takeS]; exact hnp.symm
            refine rgn [.nilp, .int .i64 ((s.tail).takeWhile isNm).length] [[], [], [], [], [0, 2, 4, 5]] ?_
            iterate 5 refine op1 tok ?_ (hv := by first | with_reducible exact True.intro | (exact hnm; done) | omega | simp | (simp; omega) | (simp +contextual; omega))
            refine runEnd ?_
            refine rgz [] [[], [], [], [], [0, 2, 4, 5]] ?_
            iterate 5 refine op1 tok ?_
            refine runEnd ?_
            exact ⟨(), trivial, upds_le (by simp [hgs, htk]), rfl, by simp [hgs, htk], by simp [hgs, htk]⟩
          · intro h44
            try simp at h44
            rw [if_neg (by
              by_cases hl : 0 < s.length
              · rw [hh hl]; intro e; exact h44 (by omega) (l46.2 (Option.some.inj e))
              · rw [hh0 hl]; simp)] at hgs
            refine rgn [] [[], [], [], [], [], [0, 2, 4, 5, 56, 58], [], [0, 2, 4, 5, 60]] ?_
            iterate 4 refine op1 tok ?_
            iterate 3 refine op2 tok ?_
            refine op1 tok ?_
            refine runEnd ?_
            refine cnd ?_ ?_
            · intro h60
              try simp at h60
              rw [if_pos h60.2] at hgs
              refine rgn [.nilp, .tup [.str u.1, .int .i64 u.2.1, .int .i64 u.2.2]] [[], [], [], [], [], [], [0, 2, 4, 65, 66, 67], [], [], [0, 2, 4, 6, 7, 8]] ?_
              iterate 10 refine op1 tok ?_ (hv := by first | with_reducible exact True.intro | (exact huq; done) | omega | simp | (simp; omega) | (simp +contextual; omega))
              refine runEnd ?_
              refine AW.seq ?_
              refine rgn [] [[], [0, 2, 4, 6, 7, 69]] ?_
              iterate 2 refine op1 tok ?_
              refine runEnd ?_
              refine cnd ?_ ?_
              · intro h69
                try simp at h69
                rw [if_pos h69] at hgs
                rw [hgs]
                unfold finR
                rw [if_pos (.inl rfl)]
                refine rgn [] [[], [], [2, 3]] ?_
                iterate 3 refine op1 tok ?_
                refine runEnd ?_
                exact AW.ret ⟨.inr rfl, _, _, by (conv => lhs; simp), trivial, by simp⟩
              · intro h69
                try simp at h69
                rw [if_neg (by simpa using h69)] at hgs
                refine AW.skip ?_
                refine rgn [] [[], [], [0, 2, 4, 7]] ?_
                iterate 3 refine op1 tok ?_
                refine runEnd ?_
                refine rgz [] [[], [], [0, 2, 4, 5]] ?_
                iterate 3 refine op1 tok ?_
                refine runEnd ?_
                exact ⟨(), trivial, upds_le (by simp [hgs]), rfl, by simp [hgs], by simp [hgs]⟩
            · intro h60
              try simp at h60
              rw [if_neg (fun h => by have hl := take2_len h; simp [h] at h60; omega)] at hgs
              refine rgn [.int .u8 c0.toNat] [[], [], [], [], [], [0, 2, 4, 5, 78, 80], [], [0, 2, 4, 5, 82]] ?_
              iterate 4 refine op1 tok ?_ (hv := by first | with_reducible exact True.intro | ((intro h; exact ⟨by omega, c0, hg0 (by omega), rfl⟩); done) | omega | simp | (simp; omega) | (simp +contextual; omega))
              iterate 3 refine op2 tok ?_ (hv := by first | with_reducible exact True.intro | ((intro h; exact ⟨by omega, c0, hg0 (by omega), rfl⟩); done) | omega | simp | (simp; omega) | (simp +contextual; omega))
              refine op1 tok ?_ (hv := by first | with_reducible exact True.intro | ((intro h; exact ⟨by omega, c0, hg0 (by omega), rfl⟩); done) | omega | simp | (simp; omega) | (simp +contextual; omega))
              refine runEnd ?_
              refine cnd ?_ ?_
              · intro h82
                try simp at h82
                rw [if_pos (by rw [hh (by omega), (l91.1 h82.2)])] at hgs
                have hW : ((s.tail).take 5).length = min 5 (s.length - 1) := by simp
                have hWs : ∀ d, d < ((s.tail).take 5).length → s[d + 1]? = ((s.tail).take 5)[d]? := fun d hd => by rw [List.getElem?_take_of_lt (by omega), List.getElem?_tail]
                generalize (s.tail).take 5 = W at *
                refine AW.seq ?_
                refine rgn [] [[]] ?_
                refine op1 tok ?_
                refine runEnd ?_
                refine AW.block ?_
                refine AW.loop (α := Nat) (fun d => d ≤ W.length ∧ (W.take d).all isDig = true) (fun d => ⟨upds 142 [(0, .p (.str s)), (2, .ptr 2 0), (4, .ptr 4 0), (5, .p (.int .i64 (d + 1 : Nat)))], [], [(2, .vars 57 [.p (.int .i64 0), .p (.str []), .p (.int .i64 0)]), (4, .vars 57 [.p (.int .i64 0), .p (.str []), .p (.int .i64 (dgN (W.take d)))])], 0⟩) (fun d => W.length - d) (0) ⟨by omega, by simp⟩ ⟨upds_le (by simp [dgN]), rfl, by simp [dgN], by simp [dgN]⟩ ?_
                rintro d ⟨hd, ha⟩
                have hc : d < W.length → W[d]? = some (W.getD d 0) := fun h => by rw [List.getD_eq_getElem?_getD, List.getElem?_eq_getElem h]; rfl
                generalize W.getD d 0 = c at *
                have hc' : d < W.length → s[d + 1]? = some c := fun h => by rw [hWs d h, hc h]
                have hdl : dgN (W.take d) < 10 ^ d := dgN_lt d (by simp; omega) ha
                have hd5 : (10 : Nat) ^ d ≤ 10 ^ 5 := Nat.pow_le_pow_right (by decide) (by omega)
                have hdig : isDig c = true ↔ (48 ≤ (c.toNat : Int) ∧ (c.toNat : Int) ≤ 57) := by simp [isDig, digitM]
                refine AW.seq ?_
                refine rgn [.int .u8 c.toNat, .int .u8 c.toNat] [[], [], [], [], [0, 2, 4, 5, 87], [], [], [], [0, 2, 4, 5, 91], [], [], [], [], [0, 2, 4, 5, 96], [], [], [], [], [0, 2, 4, 5, 97, 101], [0, 2, 4, 5, 102]] ?_
                iterate 20 first | refine op1 tok ?_ (hv := by first | with_reducible exact True.intro | ((intros; exact ⟨by omega, by omega, c, hc' (by omega), rfl⟩); done) | omega | simp | (simp; omega) | (simp +contextual; omega)) | refine op2 tok ?_ (hv := by first | with_reducible exact True.intro | ((intros; exact ⟨by omega, by omega, c, hc' (by omega), rfl⟩); done) | omega | simp | (simp; omega) | (simp +contextual; omega))
                refine runEnd ?_
                refine cnd ?_ ?_
                · intro h102
                  try simp at h102
                  have ha2 : (W.take (d + 1)).all isDig = true := by
                    rw [List.take_add_one, hc (by omega), List.all_append, ha]
                    simp [hdig]; omega
                  have hsn : dgN (W.take (d + 1)) = dgN (W.take d) * 10 + (c.toNat - 48) := by
                    rw [List.take_add_one, hc (by omega)]; exact dgN_snoc _ _
                  have hcc := hc' (by omega)
                  have w1 := w8 (n := (c.toNat : Int) - 48) (by omega)
                  generalize dgN (W.take d) = n at *
                  refine AW.skip ?_
                  refine AW.seq ?_
                  refine AW.block ?_
                  refine AW.drawS tok mixed 9 [[4], [105], [106], [0], [5], [108, 109], [110], [111], [107, 112]] [.int .u8 c.toNat] [] (by kernel_rfl) ?_
                  iterate 9 refine d1 ?_ (hv := by first | with_reducible exact True.intro | (first | exact ⟨by omega, c, hcc, rfl⟩ | (simp [w1]; omega); done) | omega | simp | (simp; omega) | (simp +contextual; omega))
                  refine DGo.nil (by kernel_rfl) ⟨by kernel_rfl, ?_⟩
                  refine AOpsO.run [[], [0, 2, 4, 5]] ?_
                  iterate 2 refine op1 tok ?_
                  refine runEnd ?_
                  refine rgz [] [[], [], [0, 2, 4, 5]] ?_
                  iterate 3 refine op1 tok ?_
                  refine runEnd ?_
                  exact ⟨d + 1, ⟨by omega, ha2⟩, by omega, upds_le (by simp [hsn, w1, show ((n * 10 + (c.toNat - 48) : Nat) : Int) = 10 * (n : Int) + ((c.toNat : Int) - 48) from by omega]), rfl, by simp [hsn, w1, show ((n * 10 + (c.toNat - 48) : Nat) : Int) = 10 * (n : Int) + ((c.toNat : Int) - 48) from by omega], by simp [hsn, w1, show ((n * 10 + (c.toNat - 48) : Nat) : Int) = 10 * (n : Int) + ((c.toNat : Int) - 48) from by omega]⟩
                · intro h102
                  try simp at h102
                  have hfin : digsT s = W.take d := hdg.trans <| tw_eq hd ha (fun b hb => by
                    have hl := (List.getElem?_eq_some_iff.1 hb).1
                    rw [hc hl] at hb
                    cases hb
                    have h1 : ¬ (isDig c = true) := fun h => by have := hdig.1 h; omega
                    simpa using h1)
                  have hdl2 : (digsT s).length = d := by rw [hfin]; simp; omega
                  rw [hdl2, hfin] at hgs
                  refine AW.exit ?_
                  simp [-exists_const, -exists_eq_left, -true_and, -exists_and_left, -exists_and_right]
                  refine rgn [] [[], [0, 2, 4, 5]] ?_
                  iterate 2 refine op1 tok ?_
                  refine runEnd ?_
                  refine rgz [] [[], [], [0, 2, 4, 5]] ?_
                  iterate 3 refine op1 tok ?_
                  refine runEnd ?_
                  exact ⟨(), trivial, upds_le (by simp [hgs, show (d : Int) + 1 + 1 = (d : Int) + 2 from by omega]), rfl, by simp [hgs, show (d : Int) + 1 + 1 = (d : Int) + 2 from by omega], by simp [hgs, show (d : Int) + 1 + 1 = (d : Int) + 2 from by omega]⟩
              · intro h82
                try simp at h82
                rw [if_neg (by
                  by_cases hl : 0 < s.length
                  · rw [hh hl]; intro e; exact h82 (by omega) (l91.2 (Option.some.inj e))
                  · rw [hh0 hl]; simp)] at hgs
                refine AW.skip ?_
                exact ⟨(), trivial, upds_le (by simp [hgs]), rfl, by simp [hgs], by simp [hgs]⟩
        ·
          rintro _ _
          have hb := gsR_bd s
          generalize gsR s = g at *
          obtain ⟨t, n⟩ := g
          simp only at hb
          have hw := write7_ev (G := G) hP t (by omega) (by omega)
          have hm := refMay7_ev (G := G) t (by omega)
          unfold finR
          generalize writtenT t = w at *
          generalize mayM t = mm at *
          simp only
          simp only [Step.enc] at hw hm
          refine AW.seq ?_
          refine AW.seqDrawS tok mixed 21 [[5], [118], [119], [5, 120], [0, 120], [122, 120], [121, 123, 120], [120, 124], [125], [4, 126], [127, 126], [128, 126], [126, 129], [130], [4, 131], [132, 131], [0, 131], [5, 131], [134, 135, 131], [133, 136, 131], [131, 137]] [.nilp, .bool mm, .nilp, .str w] [] (by kernel_rfl) ?_
          iterate 3 refine d1 ?_ (hv := by first | with_reducible exact True.intro | (first | (intros; exact ⟨⟨by omega, by omega⟩, hm⟩) | (intros; exact ⟨⟨⟨by omega, by omega⟩, by assumption⟩, hw⟩) | (intros; exact ⟨⟨⟨by omega, by omega⟩, by assumption⟩, by omega⟩); done) | omega | simp | (simp; omega) | (simp +contextual; omega))
          iterate 4 refine d2 120 rfl rfl ?_ (hv := by first | with_reducible exact True.intro | (first | (intros; exact ⟨⟨by omega, by omega⟩, hm⟩) | (intros; exact ⟨⟨⟨by omega, by omega⟩, by assumption⟩, hw⟩) | (intros; exact ⟨⟨⟨by omega, by omega⟩, by assumption⟩, by omega⟩); done) | omega | simp | (simp; omega) | (simp +contextual; omega))
          iterate 2 refine d1 ?_ (hv := by first | with_reducible exact True.intro | (first | (intros; exact ⟨⟨by omega, by omega⟩, hm⟩) | (intros; exact ⟨⟨⟨by omega, by omega⟩, by assumption⟩, hw⟩) | (intros; exact ⟨⟨⟨by omega, by omega⟩, by assumption⟩, by omega⟩); done) | omega | simp | (simp; omega) | (simp +contextual; omega))
          iterate 3 refine d2 126 rfl rfl ?_ (hv := by first | with_reducible exact True.intro | (first | (intros; exact ⟨⟨by omega, by omega⟩, hm⟩) | (intros; exact ⟨⟨⟨by omega, by omega⟩, by assumption⟩, hw⟩) | (intros; exact ⟨⟨⟨by omega, by omega⟩, by assumption⟩, by omega⟩); done) | omega | simp | (simp; omega) | (simp +contextual; omega))
          iterate 2 refine d1 ?_ (hv := by first | with_reducible exact True.intro | (first | (intros; exact ⟨⟨by omega, by omega⟩, hm⟩) | (intros; exact ⟨⟨⟨by omega, by omega⟩, by assumption⟩, hw⟩) | (intros; exact ⟨⟨⟨by omega, by omega⟩, by assumption⟩, by omega⟩); done) | omega | simp | (simp; omega) | (simp +contextual; omega))
          iterate 6 refine d2 131 rfl rfl ?_ (hv := by first | with_reducible exact True.intro | (first | (intros; exact ⟨⟨by omega, by omega⟩, hm⟩) | (intros; exact ⟨⟨⟨by omega, by omega⟩, by assumption⟩, hw⟩) | (intros; exact ⟨⟨⟨by omega, by omega⟩, by assumption⟩, by omega⟩); done) | omega | simp | (simp; omega) | (simp +contextual; omega))
          refine d1 ?_ (hv := by first | with_reducible exact True.intro | (first | (intros; exact ⟨⟨by omega, by omega⟩, hm⟩) | (intros; exact ⟨⟨⟨by omega, by omega⟩, by assumption⟩, hw⟩) | (intros; exact ⟨⟨⟨by omega, by omega⟩, by assumption⟩, by omega⟩); done) | omega | simp | (simp; omega) | (simp +contextual; omega))
          refine DGo.nil (by kernel_rfl) ⟨by kernel_rfl, ?_⟩
          refine AOpsO.nil ?_
          refine cnd ?_ ?_
          · intro h138
            try simp at h138
            rw [if_pos (by
              rcases h138 with ((h | h) | h) | h
              · exact .inl (by omega)
              · exact .inr (.inl (by omega))
              · exact .inr (.inr (.inl h))
              · exact .inr (.inr (.inr h)))]
            refine rgn [] [[], [], [2, 3]] ?_
            iterate 3 refine op1 tok ?_
            refine runEnd ?_
            exact AW.ret ⟨.inr rfl, _, _, by (conv => lhs; simp), trivial, by simp⟩
          · intro h138
            try simp at h138
            rw [if_neg (by
              obtain ⟨⟨⟨a, b⟩, c⟩, d⟩ := h138
              simp only [not_or]
              exact ⟨by omega, by omega, by simp [c], by simp [d]⟩)]
            refine AW.skip ?_
            refine rgn [] [[], [], [], [2, 3]] ?_
            iterate 4 refine op1 tok ?_
            refine runEnd ?_
            exact AW.ret ⟨.inr rfl, _, _, by (conv => lhs; simp), trivial, by simp⟩
end Go.Proofs.YtdjjmppnnkkloaaGreatDoor
