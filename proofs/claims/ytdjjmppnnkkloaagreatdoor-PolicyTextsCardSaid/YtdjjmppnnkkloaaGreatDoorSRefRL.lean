import Derived.Test.YtdjjmppnnkkloaaGreatDoorSRefR7
import Derived.Test.YtdjjmppnnkkloaaGreatDoorK1
import Derived.Test.YtdjjmppnnkkloaaGreatDoorK2
/-
  PLAIN LAWS: what the reference reads as a step is what was written.
-/
namespace Go.Proofs.YtdjjmppnnkkloaaGreatDoor
open Sy Go
set_option maxRecDepth 100000
set_option linter.unusedSimpArgs false
set_option linter.unusedVariables false
theorem fin_w {t : Step} {w rest : List UInt8} (hw : writtenT t = w) (hm : mayM t = true) (h1 : 1 ≤ w.length) : finR (w ++ rest) (t, w.length) = (t, w.length) := by
  unfold finR
  rw [if_neg]
  simp only [not_or]
  refine ⟨by omega, by simp, by simp [hm], ?_⟩
  rw [hw, List.take_left]; simp
theorem rd_written {t : Step} (hm : mayM t = true) {rest : List UInt8} (hr : ∀ b, rest.head? = some b → b = 46 ∨ b = 91 ∨ b = 42) : rdR (writtenT t ++ rest) = (t, (writtenT t).length) := by
  have h := ok_may hm
  obtain ⟨kd, key, n⟩ := t
  rcases h with ⟨h1, h2, h3, h4⟩ | ⟨h1, h2, h3, h4⟩ | ⟨h1, h2, h3⟩
  · simp only at h1 h2 h3 h4
    subst h1; subst h4
    by_cases hn : mayNameM key = true
    · have hw : writtenT ⟨1, key, 0⟩ = 46 :: key := by unfold writtenT; rw [if_pos ⟨rfl, hn⟩]
      rw [hw]
      unfold mayNameM at hn
      simp only [Bool.and_eq_true] at hn
      cases key with
      | nil => simp at hn
      | cons b r =>
        have hb : b ∈ letters := by simpa using hn.2.2
        have hb42 : b ≠ 42 := by rintro rfl; revert hb; decide
        have ht := tw_nm (s := b :: r) (rest := rest) hn.1 (fun c hc => by rcases hr c hc with rfl | rfl | rfl <;> decide)
        have hg : gsR (46 :: (b :: r) ++ rest) = (⟨1, b :: r, 0⟩, (46 :: b :: r).length) := by
          unfold gsR
          rw [if_pos (by simp)]
          simp only [List.cons_append, List.drop_succ_cons, List.drop_zero] at ht ⊢
          rw [ht]; simp [Nat.add_comm]
        unfold rdR
        rw [if_neg (by simp), if_neg (by simp; exact hb42), if_neg (by simp), hg]
        exact fin_w hw hm (by simp)
    · have hw : writtenT ⟨1, key, 0⟩ = 91 :: (quoteT key ++ [93]) := by unfold writtenT; rw [if_neg (fun h => hn h.2), if_pos rfl]
      rw [hw]
      have hu := unquote_back key (93 :: rest) h2 h3
      have e1 : 91 :: (quoteT key ++ [93]) ++ rest = 91 :: 34 :: (qBody key ++ [34] ++ [93] ++ rest) := by simp [quoteT]
      have e2 : (91 :: (quoteT key ++ [93]) ++ rest).drop 1 = quoteT key ++ 93 :: rest := by simp
      have hg : gsR (91 :: (quoteT key ++ [93]) ++ rest) = (⟨1, key, 0⟩, (91 :: (quoteT key ++ [93])).length) := by
        unfold gsR
        rw [if_neg (by rw [e1]; simp), if_pos (by rw [e1]; simp), e2, hu]
        simp
      unfold rdR
      rw [if_neg (by rw [e1]; simp), if_neg (by rw [e1]; simp), if_neg (by rw [e1]; simp), hg]
      exact fin_w hw hm (by simp)
  · simp only at h1 h2 h3 h4
    subst h1; subst h4
    obtain ⟨m, rfl⟩ : ∃ m : Nat, n = m := ⟨n.toNat, by omega⟩
    obtain ⟨g1, g2, g3, g4⟩ := itoa_good (k := m) (by omega)
    have hw : writtenT ⟨2, [], (m : Int)⟩ = 91 :: (Lib.itoa (m : Int) ++ [93]) := by
      unfold writtenT
      rw [if_neg (fun h => absurd h.1 (show ¬ (2 : Int) = 1 by decide)), if_neg (show ¬ (2 : Int) = 1 by decide), if_pos rfl]
    rw [hw]
    have e2 : (91 :: (Lib.itoa (m : Int) ++ [93]) ++ rest).drop 1 = Lib.itoa (m : Int) ++ 93 :: rest := by simp
    have hdg : digsT (91 :: (Lib.itoa (m : Int) ++ [93]) ++ rest) = Lib.itoa (m : Int) := by
      unfold digsT
      rw [e2, List.take_append, List.take_of_length_le (by omega), List.takeWhile_append_of_pos (fun b hb => List.all_eq_true.1 g1 b hb)]
      have : 5 - (Lib.itoa (m : Int)).length = (4 - (Lib.itoa (m : Int)).length) + 1 := by omega
      rw [this, List.take_succ_cons, List.takeWhile_cons, if_neg (by decide), List.append_nil]
    have hv : dgN (Lib.itoa (m : Int)) = m := g2
    obtain ⟨b, r, e⟩ : ∃ b r, Lib.itoa (m : Int) = b :: r := by
      cases hh : Lib.itoa (m : Int) with
      | nil => rw [hh] at g3; simp at g3
      | cons b r => exact ⟨b, r, rfl⟩
    have hb : isDig b = true := by rw [e] at g1; simp only [List.all_cons, Bool.and_eq_true] at g1; exact g1.1
    have hb1 : b ≠ 42 := by rintro rfl; revert hb; decide
    have hb2 : b ≠ 34 := by rintro rfl; revert hb; decide
    have hg : gsR (91 :: (Lib.itoa (m : Int) ++ [93]) ++ rest) = (⟨2, [], m⟩, (91 :: (Lib.itoa (m : Int) ++ [93])).length) := by
      unfold gsR
      rw [if_neg (by simp), if_neg (by rw [e]; simp; exact hb2), if_pos (by simp), hdg, hv]
      simp
    unfold rdR
    rw [if_neg (by rw [e]; simp), if_neg (by rw [e]; simp), if_neg (by rw [e]; simp; exact fun h => absurd h hb1), hg]
    exact fin_w hw hm (by simp)
  · simp only at h1 h2 h3
    subst h2; subst h3
    rcases h1 with rfl | rfl | rfl <;> simp [writtenT, rdR]
theorem rd_may (k : Int) (h : k = 3 ∨ k = 4 ∨ k = 5) : mayM ⟨k, [], 0⟩ = true := by rcases h with rfl | rfl | rfl <;> decide
theorem rd_ok {s : List UInt8} (h : (rdR s).2 ≠ 0) : mayM (rdR s).1 = true ∧ (rdR s).2 ≤ s.length ∧ writtenT (rdR s).1 = s.take (rdR s).2 := by
  have hl : ∀ {k : Nat} {l : List UInt8}, s.take k = l → l.length ≤ s.length := fun {k l} e => by rw [← e]; simp; omega
  unfold rdR at h ⊢
  split at h
  · rename_i h1; rw [if_pos h1]; exact ⟨rd_may 5 (by simp), hl h1, by rw [h1]; rfl⟩
  rename_i h1
  rw [if_neg h1]
  split at h
  · rename_i h1; rw [if_pos h1]; exact ⟨rd_may 3 (by simp), hl h1, by rw [h1]; rfl⟩
  rename_i h1
  rw [if_neg h1]
  split at h
  · rename_i h1; rw [if_pos h1]; exact ⟨rd_may 4 (by simp), hl h1, by rw [h1]; rfl⟩
  rename_i h1
  rw [if_neg h1]
  unfold finR at h ⊢
  split at h
  · exact absurd rfl h
  · rename_i h2
    rw [if_neg h2]
    simp only [not_or, Bool.not_eq_false, Decidable.not_not] at h2
    exact ⟨h2.2.2.1, by omega, h2.2.2.2⟩
theorem parseF_fail {n : Nat} {s : List UInt8} (hs : s ≠ []) (h : (rdR s).2 = 0) : parseF n s = none := by
  cases hp : parseF n s with
  | none => rfl
  | some l =>
    obtain ⟨e, ha⟩ := parse_inv n s l hp
    cases l with
    | nil => exact absurd e hs
    | cons t l =>
      simp only [List.all_cons, Bool.and_eq_true] at ha
      have := rd_written ha.1 (flat_head l)
      rw [← List.flatMap_cons, ← e] at this
      rw [this] at h
      have := written_pos t
      simp only at h; omega
theorem parseF_step {n : Nat} {s : List UInt8} (hn : s.length ≤ n + 1) (h : (rdR s).2 ≠ 0) : parseF (n + 1) s = (parseF n (s.drop (rdR s).2)).map ((rdR s).1 :: ·) := by
  obtain ⟨h1, h2, h3⟩ := rd_ok h
  have e : s = writtenT (rdR s).1 ++ s.drop (rdR s).2 := by rw [h3, List.take_append_drop]
  have hp : 1 ≤ (rdR s).2 := by omega
  cases hq : parseF n (s.drop (rdR s).2) with
  | some l =>
    obtain ⟨e2, ha⟩ := parse_inv n _ l hq
    have e3 : s = ((rdR s).1 :: l).flatMap writtenT := by rw [List.flatMap_cons, ← e2]; exact e
    have hl := flat_len ((rdR s).1 :: l)
    rw [← e3] at hl
    have := parse_back ((rdR s).1 :: l) (n + 1) (by simp [h1, ha]) (by omega)
    rw [← e3] at this
    rw [this]; rfl
  | none =>
    cases hp : parseF (n + 1) s with
    | none => rfl
    | some l =>
      obtain ⟨e2, ha⟩ := parse_inv _ _ l hp
      cases l with
      | nil =>
        have h0 : s.length = 0 := by rw [e2]; rfl
        omega
      | cons t l =>
        simp only [List.all_cons, Bool.and_eq_true] at ha
        have hw := rd_written ha.1 (flat_head l)
        rw [← List.flatMap_cons, ← e2] at hw
        have e4 : s.drop (rdR s).2 = l.flatMap writtenT := by
          rw [hw]; conv => lhs; rw [e2]
          simp
        have hfl := flat_len l
        have hdl : (s.drop (rdR s).2).length ≤ n := by simp; omega
        rw [← e4] at hfl
        rw [e4, parse_back l n ha.2 (by omega)] at hq
        cases hq
end Go.Proofs.YtdjjmppnnkkloaaGreatDoor
