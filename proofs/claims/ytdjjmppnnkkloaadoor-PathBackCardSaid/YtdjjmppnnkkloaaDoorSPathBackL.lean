import Derived.Test.YtdjjmppnnkkloaaDoorSQuoteL
import Derived.Test.YtdjjmppnnkkloaaDoorSItoaL
import Derived.Test.YtdjjmppnnkkloaaDoorSPath1
import Derived.Test.YtdjjmppnnkkloaaDoorSStr3
/-
  A PLAIN LAW: the step that a printed pattern begins with is the one that was printed.
-/
namespace Go.Proofs.YtdjjmppnnkkloaaDoor
open Sy Go
set_option linter.unusedSimpArgs false
set_option linter.unusedVariables false
set_option maxRecDepth 100000
/-- A step, as it is written. -/
def writtenT (t : Step) : List UInt8 := if t.kind = 1 ∧ mayNameM t.key = true then 46 :: t.key else if t.kind = 1 then 91 :: (quoteT t.key ++ [93]) else if t.kind = 2 then 91 :: (Lib.itoa t.n ++ [93]) else if t.kind = 3 then [46, 42] else if t.kind = 4 then [91, 42, 93] else [42, 42]
def numG : List UInt8 → Int → Int
  | [], n => n
  | b :: r, n => if isDig b = true ∧ n ≤ 9999 then numG r (n * 10 + ((b.toNat : Int) - 48)) else n
def isNm (b : UInt8) : Bool := asF nameSet b.toNat
/-- The step that a text may begin with. -/
def guessB (s : List UInt8) : Step :=
  if ([42, 42] : List UInt8).isPrefixOf s then ⟨5, [], 0⟩ else if ([46, 42] : List UInt8).isPrefixOf s then ⟨3, [], 0⟩ else if ([91, 42] : List UInt8).isPrefixOf s then ⟨4, [], 0⟩
  else if ([91, 34] : List UInt8).isPrefixOf s then ⟨1, (unquoteT (s.drop 1)).1, 0⟩ else if ([91] : List UInt8).isPrefixOf s then ⟨2, [], numG (s.drop 1) 0⟩ else if ([46] : List UInt8).isPrefixOf s then ⟨1, (s.drop 1).takeWhile isNm, 0⟩ else ⟨0, [], 0⟩
/-- Which steps may be (by their kinds). -/
def okStep (t : Step) : Prop := (t.kind = 1 ∧ Lib.validD t.key = true ∧ t.key.length ≤ 4096 ∧ t.n = 0) ∨ (t.kind = 2 ∧ 0 ≤ t.n ∧ t.n ≤ 9999 ∧ t.key = []) ∨ ((t.kind = 3 ∨ t.kind = 4 ∨ t.kind = 5) ∧ t.key = [] ∧ t.n = 0)
theorem numG_all : ∀ (l : List UInt8) (n : Nat) (rest : List UInt8), l.all isDig = true → l.length ≤ 4 → n < 10 ^ (4 - l.length) → (∀ b, rest.head? = some b → isDig b = false) → numG (l ++ rest) n = (l.foldl (fun n c => n * 10 + (c.toNat - 48)) n : Nat)
  | [], n, rest, _, _, _, hr => by
    cases rest with
    | nil => rfl
    | cons b r => simp [numG, hr b rfl]
  | b :: l, n, rest, h, hl, hn, hr => by
    simp only [List.all_cons, Bool.and_eq_true] at h
    simp only [List.length_cons] at hl hn
    have h4 : 10 ^ (4 - (l.length + 1)) ≤ 10 ^ 4 := Nat.pow_le_pow_right (by decide) (by omega)
    have hd := h.1
    simp only [isDig, digitM, Bool.and_eq_true, decide_eq_true_eq] at hd
    have e : 4 - l.length = (4 - (l.length + 1)) + 1 := by omega
    have hp : 10 ^ (4 - l.length) = 10 ^ (4 - (l.length + 1)) * 10 := by rw [e, Nat.pow_succ]
    simp only [List.cons_append, numG, List.foldl_cons]
    rw [if_pos ⟨h.1, by omega⟩]
    have ih := numG_all l (n * 10 + (b.toNat - 48)) rest h.2 (by omega) (by rw [hp]; omega) hr
    rw [← ih]
    congr 1
    omega
theorem tw_nm {s rest : List UInt8} (hs : s.all isNm = true) (hr : ∀ b, rest.head? = some b → isNm b = false) : (s ++ rest).takeWhile isNm = s := by
  induction s with
  | nil =>
    cases rest with
    | nil => rfl
    | cons b F => have := hr b rfl; simp [List.takeWhile_cons, this]
  | cons b W ih =>
    simp only [List.all_cons, Bool.and_eq_true] at hs
    simp [List.takeWhile_cons, hs.1, ih hs.2]
/-- The step that was written is the one that is guessed. -/
theorem guess_written {t : Step} (h : okStep t) {rest : List UInt8} (hr : ∀ b, rest.head? = some b → b = 46 ∨ b = 91 ∨ b = 42) : guessB (writtenT t ++ rest) = t := by
  obtain ⟨kd, key, n⟩ := t
  rcases h with ⟨h1, h2, h3, h4⟩ | ⟨h1, h2, h3, h4⟩ | ⟨h1, h2, h3⟩
  · simp only at h1 h2 h3 h4
    subst h1; subst h4
    unfold writtenT
    by_cases hn : mayNameM key = true
    · rw [if_pos ⟨rfl, hn⟩]
      unfold mayNameM at hn
      simp only [Bool.and_eq_true] at hn
      cases key with
      | nil => simp at hn
      | cons b r =>
        have hb : b ∈ letters := by simpa using hn.2.2
        have hb42 : b ≠ 42 := by rintro rfl; revert hb; decide
        have ht := tw_nm (s := b :: r) (rest := rest) hn.1 (fun c hc => by rcases hr c hc with rfl | rfl | rfl <;> decide)
        unfold guessB
        rw [if_neg (by simp [List.isPrefixOf]), if_neg (by simp [List.isPrefixOf]; exact fun e => hb42 e.symm), if_neg (by simp [List.isPrefixOf]), if_neg (by simp [List.isPrefixOf]), if_neg (by simp [List.isPrefixOf]), if_pos (by simp [List.isPrefixOf])]
        simp only [List.cons_append, List.drop_succ_cons, List.drop_zero] at ht ⊢
        rw [ht]
    · rw [if_neg (fun h => hn h.2), if_pos rfl]
      have hu := unquote_back key (93 :: rest) h2 h3
      have e1 : 91 :: (quoteT key ++ [93]) ++ rest = 91 :: 34 :: (qBody key ++ [34] ++ [93] ++ rest) := by simp [quoteT]
      have e2 : (91 :: (quoteT key ++ [93]) ++ rest).drop 1 = quoteT key ++ 93 :: rest := by simp
      unfold guessB
      rw [e2, hu, e1]
      rw [if_neg (by simp [List.isPrefixOf]), if_neg (by simp [List.isPrefixOf]), if_neg (by simp [List.isPrefixOf]), if_pos (by simp [List.isPrefixOf])]
  · simp only at h1 h2 h3 h4
    subst h1; subst h4
    obtain ⟨m, rfl⟩ : ∃ m : Nat, n = m := ⟨n.toNat, by omega⟩
    obtain ⟨g1, g2, g3, g4⟩ := itoa_good (k := m) (by omega)
    unfold writtenT
    rw [if_neg (fun h => absurd h.1 (show ¬ (2 : Int) = 1 by decide)), if_neg (show ¬ (2 : Int) = 1 by decide), if_pos rfl]
    show guessB (91 :: (Lib.itoa (m : Int) ++ [93]) ++ rest) = _
    have hnum := numG_all (Lib.itoa (m : Int)) 0 (93 :: rest) g1 g4 (Nat.pow_pos (by decide)) (by intro b hb; simp at hb; subst hb; rfl)
    have hv : (Lib.itoa (m : Int)).foldl (fun n c => n * 10 + (c.toNat - 48)) 0 = m := g2
    rw [hv] at hnum
    rw [show ((0 : Nat) : Int) = 0 from rfl] at hnum
    have e2 : (91 :: (Lib.itoa (m : Int) ++ [93]) ++ rest).drop 1 = Lib.itoa (m : Int) ++ 93 :: rest := by simp
    obtain ⟨b, r, e⟩ : ∃ b r, Lib.itoa (m : Int) = b :: r := by
      cases hh : Lib.itoa (m : Int) with
      | nil => rw [hh] at g3; simp at g3
      | cons b r => exact ⟨b, r, rfl⟩
    have hb : isDig b = true := by rw [e] at g1; simp only [List.all_cons, Bool.and_eq_true] at g1; exact g1.1
    have hb1 : b ≠ 42 := by rintro rfl; revert hb; decide
    have hb2 : b ≠ 34 := by rintro rfl; revert hb; decide
    unfold guessB
    rw [e2, hnum, e]
    rw [if_neg (by simp [List.isPrefixOf]), if_neg (by simp [List.isPrefixOf]), if_neg (by simp [List.isPrefixOf]; exact fun e => hb1 e.symm), if_neg (by simp [List.isPrefixOf]; exact fun e => hb2 e.symm), if_pos (by simp [List.isPrefixOf])]
  · simp only at h1 h2 h3
    subst h2; subst h3
    rcases h1 with rfl | rfl | rfl <;> simp [writtenT, guessB, List.isPrefixOf]
end Go.Proofs.YtdjjmppnnkkloaaDoor
