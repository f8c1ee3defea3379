import Derived.Test.YtcbipkbdagkehaaGreatDoorSDecP
import Derived.Test.YtcbipkbdagkehaaGreatDoorSQuote
import Derived.Test.YtcbipkbdagkehaaGreatDoorK1
namespace Go.Proofs.YtcbipkbdagkehaaGreatDoor
open Sy Go
set_option maxRecDepth 100000
set_option maxHeartbeats 4000000
set_option linter.unusedSimpArgs false
set_option linter.unusedVariables false
variable {G : Glob}
theorem skipG_le : ∀ l : List UInt8, skipG l ≤ l.length
 | [] => Nat.le_refl _
 | [b] => by simp only [skipG]; split <;> (try split) <;> simp
 | b :: c :: u => by
  have h1 := skipG_le u
  have h2 := skipG_le (c :: u)
  simp only [skipG, List.length_cons] at h2 ⊢
  split
  ·omega
  ·split
   ·omega
   ·omega
theorem skipL_le (l : List UInt8) : skipL l ≤ l.length := by
 unfold skipL
 split
 ·omega
 ·rename_i h
  have h1 := skipG_le (l.drop 1)
  have h2 := List.length_pos_iff.2 h
  rw [List.length_drop] at h1; omega
theorem skipG_q (t : List UInt8) : skipG (34 :: t) = 1 := by unfold skipG; simp
theorem skipG_e : skipG [92] = 1 := by unfold skipG; simp
theorem skipG_b (d : UInt8) (u : List UInt8) : skipG (92 :: d :: u) = 2 + skipG u := by rw [skipG]; simp
theorem skipG_o {c : UInt8} (h1 : c ≠ 34) (h2 : c ≠ 92) (t : List UInt8) : skipG (c :: t) = 1 + skipG t := by
 cases t <;> (rw [skipG]; simp [h1, h2, skipG])
def skipAt (s : List UInt8) (i : Nat) : Nat := if i ≤ s.length then i + skipG (s.drop i) else s.length
theorem skipAt_step {s : List UInt8} {i : Nat} {c : UInt8} (h : s[i]? = some c) : skipAt s i = if c = 34 then i + 1 else if c = 92 then skipAt s (i + 2) else skipAt s (i + 1) := by
 have hi := (List.getElem?_eq_some_iff.1 h).1
 have hd : s.drop i = c :: s.drop (i + 1) := by
  rw [List.drop_eq_getElem_cons hi]; congr 1
  have := List.getElem?_eq_getElem hi
  rw [h] at this; exact (Option.some.inj this).symm
 unfold skipAt
 rw [if_pos (by omega), hd]
 by_cases h1 : c = 34
 ·rw [if_pos h1, h1, skipG_q]
 ·rw [if_neg h1]
  by_cases h2 : c = 92
  ·rw [if_pos h2]
   by_cases h3 : i + 2 ≤ s.length
   ·obtain ⟨d, u, hu⟩ : ∃ d u, s.drop (i + 1) = d :: u := by
     cases h4 : s.drop (i + 1) with
     | nil => have := congrArg List.length h4; simp at this; omega
     | cons d u => exact ⟨d, u, rfl⟩
    have hu2 : s.drop (i + 2) = u := by rw [show i + 2 = (i + 1) + 1 by omega, ← List.drop_drop, hu]; rfl
    rw [if_pos h3, hu2, hu, h2, skipG_b]; omega
   ·have hu : s.drop (i + 1) = [] := List.drop_of_length_le (by omega)
    rw [if_neg h3, hu, h2, skipG_e]
    have : s.length = i + 1 := by have := congrArg List.length hu; simp at this; omega
    omega
  ·rw [if_neg h2, if_pos (by omega), skipG_o h1 h2]; omega
theorem skip_first (s : List UInt8) : skipL s = skipAt s 1 := by
 unfold skipL skipAt
 split
 ·rename_i h; subst h; rfl
 ·rename_i h; have := List.length_pos_iff.2 h; rw [if_pos (by omega)]
theorem unitL_len {s : List UInt8} (h : (unitL s).isSome = true) : 6 ≤ s.length := by
 unfold unitL at h
 split at h
 ·cases h
 ·omega
theorem escG_len {s : List UInt8} (h : (escG s).2.2 = true) : (escG s).2.1 ≤ s.length := by
 match s with
 | [] => simp [escG] at h
 | [a] => simp [escG] at h
 | a :: c :: t =>
  have h1 := unitL_len (s := a :: c :: t)
  have h2 := unitL_len (s := (a :: c :: t).drop 6)
  unfold escG at h ⊢
  cases hv : escT c with
  | some v => simp only [hv]; simp
  | none =>
   simp only [hv] at h ⊢
   unfold escU at h ⊢
   generalize unitL (a :: c :: t) = A at *
   generalize unitL ((a :: c :: t).drop 6) = B at *
   split at h
   ·rename_i hc
    rw [if_pos hc]
    simp only [Bool.and_eq_true] at h
    exact h1 h.1
   ·rename_i hc
    rw [if_neg hc]
    simp only [Bool.and_eq_true] at h
    have := h2 h.1
    rw [List.length_drop] at this
    simp only; omega
theorem unq_props : ∀ (f : Nat) (s : List UInt8) (k : Nat) (out : List UInt8), ((unqG f s k out).2.2 = 0 ∧ (unqG f s k out).2.1 ≤ k + s.length) ∨ (((unqG f s k out).2.2 = 3 ∨ (unqG f s k out).2.2 = 6) ∧ (unqG f s k out).2.1 = 0)
 | 0, s, k, out => .inr (by simp [unqG])
 | f + 1, s, k, out => by
  simp only [unqG]
  split
  ·exact .inr (by simp)
  ·rename_i hne
   split
   ·split
    ·exact .inr (by simp)
    ·exact .inl ⟨rfl, by have := List.length_pos_iff.2 hne; simp only; omega⟩
   ·split
    ·exact .inr (by simp)
    ·split
     ·cases he : escL s with
      | none => exact .inr (by simp)
      | some cn =>
       obtain ⟨c, n⟩ := cn
       simp only
       have hn : n ≤ s.length := by
        unfold escL at he
        split at he
        ·rename_i h; cases he; exact escG_len h
        ·cases he
       have := unq_props f (s.drop n) (k + n) (out ++ Lib.encodeRune c)
       rw [List.length_drop] at this
       omega
     ·have hn := Lib.decodeL_le s hne
      have := unq_props f (s.drop (Lib.decodeL s).2) (k + (Lib.decodeL s).2) (out ++ Lib.encodeRune (Lib.decodeL s).1)
      rw [List.length_drop] at this
      omega
theorem unquote_props (s : List UInt8) : ((unquoteT s).2.2 = 0 ∧ (unquoteT s).2.1 ≤ s.length) ∨ (((unquoteT s).2.2 = 3 ∨ (unquoteT s).2.2 = 6) ∧ (unquoteT s).2.1 = 0) := by
 unfold unquoteT
 split
 ·rename_i h
  have := unq_props s.length (s.drop 1) 1 []
  rw [List.length_drop] at this
  have : 1 ≤ s.length := by cases s with
   | nil => simp at h
   | cons => simp
  omega
 ·exact .inr (by simp)
end Go.Proofs.YtcbipkbdagkehaaGreatDoor
