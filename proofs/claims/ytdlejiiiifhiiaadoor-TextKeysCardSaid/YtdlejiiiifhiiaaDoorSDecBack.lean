import Derived.Test.YtdlejiiiifhiiaaDoorSDecMay
import Derived.Test.YtdlejiiiifhiiaaDoorSRef1P
/-
  A PLAIN LAW: a decimal that was printed is parsed as it was.
-/
namespace Go.Proofs.YtdlejiiiifhiiaaDoor
open Sy Go
set_option linter.unusedSimpArgs false
set_option linter.unusedVariables false

/-! ## -/
def padM (d : Dc) : List UInt8 := zerosM (d.scale.toNat + 1 - d.digits.length) ++ d.digits
/-- A decimal's text. -/
def PrintM (d : Dc) : List UInt8 := (if d.neg = true then [45] else []) ++ (if d.scale = 0 then padM d else (padM d).take ((padM d).length - d.scale.toNat) ++ 46 :: (padM d).drop ((padM d).length - d.scale.toNat))
theorem run_of {s W F : List UInt8} {k : Nat} (h : s.drop k = W ++ F) (hW : W.all isDig = true) (hF : ∀ b, F.head? = some b → isDig b = false) : runM s k = W.length := by
  unfold runM
  rw [h]
  have : ∀ (W : List UInt8), W.all isDig = true → ((W ++ F).takeWhile fun b => digitM b.toNat) = W := by
    intro W
    induction W with
    | nil =>
      intro _
      cases F with
      | nil => rfl
      | cons b F => have := hF b rfl; simp [isDig] at this; simp [List.takeWhile_cons, this]
    | cons b W ih =>
      intro h
      simp only [List.all_cons, Bool.and_eq_true, isDig] at h
      simp [List.takeWhile_cons, h.1, ih h.2]
  rw [this W hW]
theorem byteAt_drop {s : List UInt8} {k : Nat} {b : UInt8} {t : List UInt8} (h : s.drop k = b :: t) : k < s.length ∧ byteAt s k = b.toNat := by
  have h1 : k < s.length := by
    rcases Nat.lt_or_ge k s.length with h1 | h1
    · exact h1
    · rw [List.drop_eq_nil_of_le h1] at h; cases h
  refine ⟨h1, ?_⟩
  have : s[k]? = some b := by
    have := congrArg (fun l => l[0]?) h
    simpa using this
  simp [byteAt, List.getD_eq_getElem?_getD, this]
theorem strip_zeros (n : Nat) (s : List UInt8) : strip0 (zerosM n ++ s) = strip0 s := by
  induction n with
  | zero => rfl
  | succ n ih => simp only [zerosM, List.replicate_succ, List.cons_append, strip0, List.dropWhile_cons] at ih ⊢; simp [ih]
theorem norm_back {d : Dc} (h : dcMay d = true) (n : Nat) : NormM d.neg (zerosM n ++ d.digits) d.scale.toNat = (d, 0) := by
  unfold dcMay at h
  simp only [Bool.and_eq_true, decide_eq_true_eq] at h
  obtain ⟨⟨h1, h2⟩, h3⟩ := h
  unfold NormM
  rw [strip_zeros]
  by_cases hz : d.digits = [48]
  · rw [if_pos hz] at h3
    simp at h3
    have : strip0 d.digits = [] := by rw [hz]; rfl
    rw [this, h3.1]
    simp only [Int.toNat_zero, trail, if_true]
    obtain ⟨ng, dg, sc⟩ := d
    simp only at hz h3 ⊢
    rw [hz, h3.1, h3.2]
  · rw [if_neg hz] at h3
    simp at h3
    obtain ⟨ng, dg, sc⟩ := d
    simp only at hz h1 h2 h3 ⊢
    have e1 : strip0 dg = dg := by
      cases dg with
      | nil => rfl
      | cons b t =>
        have hb : b ≠ 48 := by rintro rfl; exact h3.1 rfl
        simp [strip0, List.dropWhile_cons, hb]
    have e2 : trail dg sc.toNat = (dg, sc.toNat) := by
      cases hs : sc.toNat with
      | zero => rfl
      | succ k =>
        simp only [trail]
        rw [if_neg]
        intro hl
        have := (byteAt_last (d := dg) (by omega)).2 hl
        rcases h3.2 with h | h
        · omega
        · exact h this
    rw [e1, e2]
    simp only
    rw [if_neg (by intro e; rw [e] at h2; simp at h2), if_neg (by omega)]
    rw [show ((sc.toNat : Nat) : Int) = sc by omega]
theorem all_zeros (n : Nat) : (zerosM n).all isDig = true := by
  rw [List.all_eq_true]; intro b hb; have := (List.mem_replicate.1 hb).2; subst this; decide
theorem all_take {p : UInt8 → Bool} {l : List UInt8} (h : l.all p = true) (n : Nat) : (l.take n).all p = true := by
  rw [List.all_eq_true] at h ⊢; exact fun b hb => h b (List.mem_of_mem_take hb)
theorem all_drop {p : UInt8 → Bool} {l : List UInt8} (h : l.all p = true) (n : Nat) : (l.drop n).all p = true := by
  rw [List.all_eq_true] at h ⊢; exact fun b hb => h b (List.mem_of_mem_drop hb)
/-- What a text of the right form is parsed as. -/
theorem parse_form (ng : Bool) (W R : List UInt8) (hW : W.all isDig = true) (hR : R.all isDig = true) (h0 : W ≠ []) (h1 : W.length = 1 ∨ byteAt W 0 ≠ 48) :
    ParseM ((if ng = true then [45] else []) ++ (W ++ if R = [] then [] else 46 :: R)) = NormM ng (W ++ R) R.length := by
  generalize hF : (if R = [] then [] else 46 :: R) = F
  generalize hs : ((if ng = true then [45] else []) ++ (W ++ F)) = s
  obtain ⟨w0, W', rfl⟩ : ∃ w0 W', W = w0 :: W' := by cases W with
    | nil => exact absurd rfl h0
    | cons a W => exact ⟨a, W, rfl⟩
  have hw0 : isDig w0 = true := by simp only [List.all_cons, Bool.and_eq_true] at hW; exact hW.1
  have hw1 : w0.toNat ≠ 45 := by simp [isDig, digitM] at hw0; omega
  have hng : negM s = ng := by
    rw [← hs]
    cases ng with
    | true => simp [negM, byteAt]
    | false => simp [negM, byteAt]; omega
  have ha : s.drop (a0M s) = (w0 :: W') ++ F := by
    unfold a0M; rw [hng, ← hs]
    cases ng <;> simp
  have hal : a0M s = (if ng = true then [45] else [] : List UInt8).length := by
    unfold a0M; rw [hng]; cases ng <;> rfl
  have hFh : ∀ b, F.head? = some b → isDig b = false := by
    rw [← hF]; split
    · simp
    · intro b hb; simp at hb; subst hb; decide
  have hrun := run_of ha hW hFh
  have hb0 := byteAt_drop (s := s) (k := a0M s) (b := w0) (t := W' ++ F) ha
  unfold ParseM
  rw [hrun, hng]
  rw [if_neg (by
    rintro (h | ⟨h, h'⟩)
    · simp at h
    · rcases h1 with h1 | h1
      · omega
      · rw [hb0.2] at h'; exact h1 (by simpa [byteAt] using h'))]
  have hdg : (s.take (a0M s + (w0 :: W').length)).drop (a0M s) = w0 :: W' := by
    rw [← List.take_drop, ha, List.take_left]
  have hdF : s.drop (a0M s + (w0 :: W').length) = F := by
    rw [← List.drop_drop, ha, List.drop_left]
  have hsl : s.length = a0M s + (w0 :: W').length + F.length := by
    rw [hal, ← hs]; simp; omega
  rw [hdg]
  have fin : ∀ (x : List UInt8) (n : Nat), tailM s ng (some (s.length, x, n)) = NormM ng x n := by
    intro x n
    simp only [tailM]
    have : part3 s s.length = some (s.length, 0) := by unfold part3; rw [if_neg (by omega)]
    rw [this]
    simp only [restM, if_true, lastM]
    rw [if_neg (by omega)]
    simp
  generalize hk : a0M s + (w0 :: W').length = k at *
  by_cases hRe : R = []
  · subst hRe
    have hF2 : F = [] := by rw [← hF]; rfl
    have hks : k = s.length := by rw [hsl, hF2]; simp
    have : part2 s k (w0 :: W') = some (k, w0 :: W', 0) := by unfold part2; rw [if_neg (by omega)]
    rw [this, hks, fin]
    simp
  · have hF2 : F = 46 :: R := by rw [← hF, if_neg hRe]
    have hb1 := byteAt_drop (hdF.trans hF2)
    have hd2 : s.drop (k + 1) = R ++ [] := by rw [← List.drop_drop, hdF, hF2]; simp
    have hr2 := run_of hd2 hR (by simp)
    have hRl : 0 < R.length := List.length_pos_iff.2 hRe
    have : part2 s k (w0 :: W') = some (s.length, w0 :: W' ++ R, R.length) := by
      unfold part2
      rw [if_pos ⟨hb1.1, by rw [hb1.2]; rfl⟩, hr2, if_neg (by omega)]
      have e1 : k + 1 + R.length = s.length := by rw [hsl, hF2]; simp; omega
      rw [e1, List.take_length, hd2, List.append_nil]
    rw [this, fin]
theorem print_form {d : Dc} (h : dcMay d = true) : ∃ W R : List UInt8, PrintM d = (if d.neg = true then [45] else []) ++ (W ++ if R = [] then [] else 46 :: R) ∧ W.all isDig = true ∧ R.all isDig = true ∧ W ≠ [] ∧ (W.length = 1 ∨ byteAt W 0 ≠ 48) ∧ NormM d.neg (W ++ R) R.length = (d, 0) := by
  have hd := h
  unfold dcMay at hd
  simp only [Bool.and_eq_true, decide_eq_true_eq] at hd
  obtain ⟨⟨h1, h2⟩, h3⟩ := hd
  have hpa : (padM d).all isDig = true := by unfold padM; rw [List.all_append, all_zeros, h1]; rfl
  have hpl : (padM d).length = if d.scale.toNat + 1 ≤ d.digits.length then d.digits.length else d.scale.toNat + 1 := by
    unfold padM; simp [zerosM]; split <;> omega
  have hn := norm_back h (d.scale.toNat + 1 - d.digits.length)
  have hp0 : byteAt (padM d) 0 = 48 → padM d = [48] ∨ (d.digits.length ≤ d.scale.toNat) := by
    intro hb
    by_cases hz : d.digits.length ≤ d.scale.toNat
    · exact .inr hz
    · refine .inl ?_
      have e : padM d = d.digits := by unfold padM; rw [show d.scale.toNat + 1 - d.digits.length = 0 by omega]; rfl
      rw [e] at hb ⊢
      by_cases hz : d.digits = [48]
      · exact hz
      · rw [if_neg hz] at h3; simp at h3; exact absurd hb h3.1
  unfold PrintM
  by_cases hs : d.scale = 0
  · rw [if_pos hs]
    refine ⟨padM d, [], by simp, hpa, rfl, by intro e; rw [e] at hpl; simp at hpl; split at hpl <;> omega, ?_, ?_⟩
    · by_cases hb : byteAt (padM d) 0 = 48
      · rcases hp0 hb with e | e
        · rw [e]; exact .inl rfl
        · omega
      · exact .inr hb
    · rw [List.append_nil, List.length_nil, show (0 : Nat) = d.scale.toNat by omega]
      exact hn
  · rw [if_neg hs]
    have hle : d.scale.toNat + 1 ≤ (padM d).length := by rw [hpl]; split <;> omega
    have hRl : ((padM d).drop ((padM d).length - d.scale.toNat)).length = d.scale.toNat := by rw [List.length_drop]; omega
    have hWl : ((padM d).take ((padM d).length - d.scale.toNat)).length = (padM d).length - d.scale.toNat := by rw [List.length_take]; omega
    have hRne : (padM d).drop ((padM d).length - d.scale.toNat) ≠ [] := by intro e; rw [e] at hRl; simp at hRl; omega
    have hWne : (padM d).take ((padM d).length - d.scale.toNat) ≠ [] := by intro e; rw [e] at hWl; simp at hWl; omega
    have hb0 : byteAt ((padM d).take ((padM d).length - d.scale.toNat)) 0 = byteAt (padM d) 0 := by
      unfold byteAt
      rw [List.getD_eq_getElem?_getD, List.getElem?_take, if_pos (by omega), ← List.getD_eq_getElem?_getD]
    refine ⟨(padM d).take ((padM d).length - d.scale.toNat), (padM d).drop ((padM d).length - d.scale.toNat), by rw [if_neg hRne], all_take hpa _, all_drop hpa _, hWne, ?_, ?_⟩
    · rw [hb0]
      by_cases hb : byteAt (padM d) 0 = 48
      · rcases hp0 hb with e | e
        · rw [e] at hle; simp at hle; omega
        · left; rw [hWl, hpl, if_neg (by omega)]; omega
      · exact .inr hb
    · rw [hRl, List.take_append_drop]
      exact hn
theorem parse_print {d : Dc} (h : dcMay d = true) : ParseM (PrintM d) = (d, 0) := by
  obtain ⟨W, R, hp, hW, hR, h0, h1, hn⟩ := print_form h
  rw [hp, parse_form d.neg W R hW hR h0 h1, hn]
end Go.Proofs.YtdlejiiiifhiiaaDoor
