import Derived.Test.YtdlejiiiifhiiaaGreatDoorK1
import Derived.Test.YtdlejiiiifhiiaaGreatDoorSPrint
/-
  PLAIN: the steps of the reader, over a text that is known; a number is read.
-/
namespace Go.Proofs.YtdlejiiiifhiiaaGreatDoor
open Sy Go
set_option linter.unusedSimpArgs false
set_option linter.unusedVariables false
theorem trim_at {ws l : List UInt8} (hw : ws.all isBl = true) (hl : ∀ b, l.head? = some b → isBl b = false) : trimB (ws ++ l) = l := by
  unfold trimB
  induction ws with
  | nil =>
    cases l with
    | nil => rfl
    | cons b l => rw [List.nil_append, List.dropWhile_cons, hl b rfl]; rfl
  | cons b ws ih =>
    simp only [List.all_cons, Bool.and_eq_true] at hw
    rw [List.cons_append, List.dropWhile_cons, hw.1]
    exact ih hw.2
theorem trim_at1 {ws l : List UInt8} {b : UInt8} (hw : ws.all isBl = true) (hb : isBl b = false) : trimB (ws ++ b :: l) = b :: l :=
  trim_at hw (by intro c hc; simp at hc; subst hc; exact hb)
theorem pre1 (w b : UInt8) (l : List UInt8) : ([w] : List UInt8).isPrefixOf (b :: l) = decide (w = b) := by
  simp only [List.isPrefixOf, Bool.and_true]
  rw [Bool.eq_iff_iff]; simp
theorem tk_hit {st : RS} {ws rest : List UInt8} {w : UInt8} (h : st.left = ws ++ w :: rest) (hw : ws.all isBl = true) (hn : isBl w = false) : tk [w] st = (true, { st with left := rest }) := by
  unfold tk
  rw [h, trim_at1 hw hn, pre1]
  simp
theorem tk_miss {st : RS} {ws rest : List UInt8} {w b : UInt8} (h : st.left = ws ++ b :: rest) (hw : ws.all isBl = true) (hn : isBl b = false) (hne : b ≠ w) : tk [w] st = (false, { st with left := b :: rest }) := by
  unfold tk
  rw [h, trim_at1 hw hn, pre1]
  rw [if_neg (by simp; exact fun e => hne e.symm)]
theorem tk_none {st : RS} {w : UInt8} (h : st.left = []) : tk [w] st = (false, st) := by
  unfold tk
  rw [h]
  simp [trimB, List.isPrefixOf]
  cases st; simp at h; simp [h]
theorem sep_end {c : UInt8} {many : Nat} {st : RS} {ws rest : List UInt8} (h : st.left = ws ++ c :: rest) (hb : st.bad = false) (hw : ws.all isBl = true) (hc : isBl c = false) (hm : many ≤ 200) :
    sepR c many st = (true, { st with left := rest }) := by
  unfold sepR
  simp only [hb, Bool.false_eq_true, if_false]
  rw [tk_hit (st := { left := st.left, nodes := st.nodes, bad := false, deep := st.deep, big := st.big || decide (200 < many) }) h hw hc]
  simp [show ¬ 200 < many by omega]
theorem sep_more {c : UInt8} {many : Nat} {st : RS} {ws rest : List UInt8} (h : st.left = ws ++ 44 :: rest) (hb : st.bad = false) (hw : ws.all isBl = true) (hc : c ≠ 44) (hm : many ≤ 200) :
    sepR c many st = (false, { st with left := rest }) := by
  unfold sepR
  simp only [hb, Bool.false_eq_true, if_false]
  rw [tk_miss (st := { left := st.left, nodes := st.nodes, bad := false, deep := st.deep, big := st.big || decide (200 < many) }) h hw (by decide) (Ne.symm hc)]
  simp only [Bool.false_eq_true, if_false]
  rw [tk_hit (ws := []) (w := 44) (rest := rest) rfl rfl (by decide)]
  simp [show ¬ 200 < many by omega, hb]
theorem quoted_back {st : RS} {ws key rest : List UInt8} (h : st.left = ws ++ (quoteT key ++ rest)) (hw : ws.all isBl = true) (hk : wordT key = true) : quotedR st = ({ st with left := rest }, key) := by
  unfold wordT at hk
  simp only [Bool.and_eq_true, decide_eq_true_eq] at hk
  unfold quotedR
  rw [h, trim_at hw (by intro b hb; simp [quoteT] at hb; subst hb; rfl), unquote_back key rest hk.2 (by omega)]
  unfold quotedL
  simp
theorem colon_back {st : RS} {ws rest : List UInt8} (h : st.left = ws ++ 58 :: rest) (hw : ws.all isBl = true) (hb : st.bad = false) : colonR st = { st with left := rest } := by
  unfold colonR
  rw [hb, tk_hit h hw (by decide)]
  simp [hb]
theorem numl_D : numl = numlD := rfl
theorem tw_num {s rest : List UInt8} (hs : s.all numl = true) (hr : ∀ b, rest.head? = some b → numl b = false) : (s ++ rest).takeWhile numl = s ∧ (s ++ rest).dropWhile numl = rest := by
  induction s with
  | nil =>
    cases rest with
    | nil => exact ⟨rfl, rfl⟩
    | cons b F => have := hr b rfl; simp [List.takeWhile_cons, List.dropWhile_cons, this]
  | cons b W ih =>
    simp only [List.all_cons, Bool.and_eq_true] at hs
    obtain ⟨h1, h2⟩ := ih hs.2
    simp [List.takeWhile_cons, List.dropWhile_cons, hs.1, h1, h2]
theorem dig_bl {b : UInt8} (h : b = 45 ∨ isDig b = true) : isBl b = false ∧ b ≠ 91 ∧ b ≠ 123 ∧ b ≠ 110 ∧ b ≠ 116 ∧ b ≠ 102 ∧ b ≠ 34 ∧ b ≠ 93 ∧ b ≠ 125 ∧ (b = 45 ∨ isDig b = true) := by
  rcases h with rfl | h
  · decide
  · have h' := h
    simp only [isDig, digitM, Bool.and_eq_true, decide_eq_true_eq] at h
    have ne : ∀ c : UInt8, (c.toNat < 48 ∨ 57 < c.toNat) → b ≠ c := fun c hc e => by subst e; omega
    refine ⟨?_, ne _ (by decide), ne _ (by decide), ne _ (by decide), ne _ (by decide), ne _ (by decide), ne _ (by decide), ne _ (by decide), ne _ (by decide), .inr h'⟩
    unfold isBl
    simp [ne 32 (by decide), ne 9 (by decide), ne 13 (by decide), ne 10 (by decide)]
def numV (d : Dc) : Val := .mk 4 0 d [] [] [] 0
/-- A number is read. -/
theorem read_num {s ws rest : List UInt8} {st : RS} (n d : Nat) (h : st.left = ws ++ (s ++ rest)) (hw : ws.all isBl = true) (hp : (ParseL s).2 ≠ 4) (hr : ∀ b, rest.head? = some b → numl b = false) :
    valR (n + 1) st d = (⟨rest, st.nodes + 1, st.bad, st.deep || decide (12 < d), (st.big || decide (400 < st.nodes + 1)) || decide ((ParseL s).2 = 3)⟩, numV (ParseL s).1) := by
  obtain ⟨hn, b, t, rfl, hb⟩ := parse_num hp
  obtain ⟨h0, h1, h2, h3, h4, h5, h6, h7, h8, h9⟩ := dig_bl hb
  have he : enterR st d = ⟨b :: t ++ rest, st.nodes + 1, st.bad, st.deep || decide (12 < d), st.big || decide (400 < st.nodes + 1)⟩ := by
    unfold enterR; rw [h, List.cons_append, trim_at1 hw h0]
  have hA : atomR (enterR st d) = numberR (enterR st d) := by
    unfold atomR
    rw [he]
    have p : ∀ (c : UInt8) (w l : List UInt8), b ≠ c → (c :: w).isPrefixOf (b :: l) = false := by
      intro c w l hc; simp only [List.isPrefixOf]; rw [show (c == b) = false by simp; exact fun e => hc e.symm]; rfl
    rw [if_neg (by simp only [wNull, List.cons_append]; rw [p _ _ _ h3]; simp), if_neg (by simp only [wTrue, List.cons_append]; rw [p _ _ _ h4]; simp), if_neg (by simp only [wFalse, List.cons_append]; rw [p _ _ _ h5]; simp), if_neg (by simp only [List.cons_append]; rw [p _ _ _ h6]; simp)]
    rw [if_pos]
    refine ⟨by simp, ?_⟩
    simp only [List.cons_append, byteAt, List.getD_cons_zero]
    rcases h9 with rfl | h9
    · exact .inl rfl
    · exact .inr h9
  rw [← numl_D] at hn
  obtain ⟨w1, w2⟩ := tw_num hn hr
  simp only [valR]
  rw [if_neg (by rw [he]; simp only [List.cons_append, pre1]; simpa using Ne.symm h1), if_neg (by rw [he]; simp only [List.cons_append, pre1]; simpa using Ne.symm h2), hA]
  unfold numberR
  rw [he]
  simp only [w1, w2]
  rw [show decide ((ParseL (b :: t)).2 = 4) = false by simpa using hp, Bool.or_false]
  rfl
end Go.Proofs.YtdlejiiiifhiiaaGreatDoor
