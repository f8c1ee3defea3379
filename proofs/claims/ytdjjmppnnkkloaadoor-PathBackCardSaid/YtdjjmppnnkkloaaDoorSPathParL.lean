import Derived.Test.YtdjjmppnnkkloaaDoorSPathBackL
import Derived.Test.YtdjjmppnnkkloaaDoorSMay
/-
  PLAIN LAWS: a pattern that was printed is parsed as it was, and what was parsed is printed as it was.
-/
namespace Go.Proofs.YtdjjmppnnkkloaaDoor
open Sy Go
set_option linter.unusedSimpArgs false
set_option linter.unusedVariables false
set_option maxRecDepth 100000
/-- The steps of a text, one behind the other. -/
def parseF : Nat → List UInt8 → Option (List Step)
  | 0, rest => if rest = [] then some [] else none
  | f + 1, rest => if rest = [] then some [] else if mayM (guessB rest) = true ∧ hasPre rest (writtenT (guessB rest)) = true then (parseF f (rest.drop (writtenT (guessB rest)).length)).map (guessB rest :: ·) else none
def parseO (s : List UInt8) : Option (List Step) := if hasPre s [36] = true then parseF s.length (s.drop 1) else none
def finP : Option (List Step) → List Step × Int
  | none => ([], 21)
  | some l => if 8 < l.length then ([], 3) else (l, 0)
def parseT (s : List UInt8) : List Step × Int := finP (parseO s)
def printS (l : List Step) : List UInt8 := 36 :: l.flatMap writtenT
theorem hasPre_iff {s p : List UInt8} : hasPre s p = true ↔ ∃ t, s = p ++ t := by
  simp only [hasPre, Bool.and_eq_true, decide_eq_true_eq]
  constructor
  · rintro ⟨_, h⟩; exact ⟨s.drop p.length, by rw [show p ++ s.drop p.length = s.take p.length ++ s.drop p.length by rw [h]]; exact (List.take_append_drop _ _).symm⟩
  · rintro ⟨t, rfl⟩; simp
theorem written_head (t : Step) : ∃ b r, writtenT t = b :: r ∧ (b = 46 ∨ b = 91 ∨ b = 42) := by
  unfold writtenT
  repeat' split
  all_goals first | exact ⟨_, _, rfl, .inl rfl⟩ | exact ⟨_, _, rfl, .inr (.inl rfl)⟩ | exact ⟨_, _, rfl, .inr (.inr rfl)⟩
theorem written_pos (t : Step) : 1 ≤ (writtenT t).length := by
  obtain ⟨b, r, e, _⟩ := written_head t; rw [e]; simp
theorem ok_may {t : Step} (h : mayM t = true) : okStep t := by
  unfold mayM stepM at h
  unfold okStep
  by_cases h1 : t.kind = 1
  · rw [if_pos h1] at h; simp only [Bool.and_eq_true, decide_eq_true_eq] at h
    exact .inl ⟨h1, h.1.2, by omega, h.2⟩
  rw [if_neg h1] at h
  by_cases h2 : t.kind = 2
  · rw [if_pos h2] at h; simp only [Bool.and_eq_true, decide_eq_true_eq] at h
    exact .inr (.inl ⟨h2, h.1.1, h.1.2, h.2⟩)
  rw [if_neg h2] at h
  by_cases h3 : 3 ≤ t.kind ∧ t.kind ≤ 5
  · rw [if_pos h3] at h; simp only [Bool.and_eq_true, decide_eq_true_eq] at h
    exact .inr (.inr ⟨by omega, h⟩)
  · rw [if_neg h3] at h; cases h
theorem flat_head (l : List Step) : ∀ b, (l.flatMap writtenT).head? = some b → b = 46 ∨ b = 91 ∨ b = 42 := by
  intro b hb
  cases l with
  | nil => simp at hb
  | cons t l =>
    obtain ⟨c, r, e, h⟩ := written_head t
    simp only [List.flatMap_cons, e, List.cons_append, List.head?_cons, Option.some.injEq] at hb
    subst hb; exact h
theorem flat_ne {t : Step} {l : List Step} : (t :: l).flatMap writtenT ≠ [] := by
  obtain ⟨c, r, e, h⟩ := written_head t
  simp [List.flatMap_cons, e]
/-- What was written is parsed. -/
theorem parse_back : ∀ (l : List Step) (n : Nat), l.all mayM = true → l.length ≤ n → parseF n (l.flatMap writtenT) = some l
  | [], n, _, _ => by cases n <;> simp [parseF]
  | t :: l, n, h, hn => by
    obtain ⟨n, rfl⟩ : ∃ m, n = m + 1 := ⟨n - 1, by simp at hn; omega⟩
    simp only [List.all_cons, Bool.and_eq_true] at h
    have hg : guessB ((t :: l).flatMap writtenT) = t := by
      rw [List.flatMap_cons]; exact guess_written (ok_may h.1) (flat_head l)
    have hp : hasPre ((t :: l).flatMap writtenT) (writtenT t) = true := hasPre_iff.2 ⟨l.flatMap writtenT, by simp⟩
    have hd : ((t :: l).flatMap writtenT).drop (writtenT t).length = l.flatMap writtenT := by simp
    simp only [parseF]
    rw [if_neg flat_ne, hg, if_pos ⟨h.1, hp⟩, hd, parse_back l n h.2 (by simpa using hn)]
    rfl
/-- What was parsed is written so. -/
theorem parse_inv : ∀ (n : Nat) (rest : List UInt8) (l : List Step), parseF n rest = some l → rest = l.flatMap writtenT ∧ l.all mayM = true
  | 0, rest, l, h => by
    simp only [parseF] at h
    split at h
    · cases h; subst rest; simp
    · cases h
  | n + 1, rest, l, h => by
    simp only [parseF] at h
    split at h
    · cases h; subst rest; simp
    · split at h
      · rename_i hne hc
        obtain ⟨m, hm, rfl⟩ := Option.map_eq_some_iff.1 h
        obtain ⟨e, ha⟩ := parse_inv n _ m hm
        obtain ⟨t, ht⟩ := hasPre_iff.1 hc.2
        generalize guessB rest = g at *
        subst ht
        simp only [List.drop_left] at e
        subst e
        simp [hc.1, ha]
      · cases h
theorem flat_len : ∀ l : List Step, l.length ≤ (l.flatMap writtenT).length
  | [] => by simp
  | t :: l => by have := flat_len l; have := written_pos t; simp only [List.flatMap_cons, List.length_append, List.length_cons]; omega
theorem printS_parse {l : List Step} (h : l.all mayM = true) (h8 : l.length ≤ 8) : parseT (printS l) = (l, 0) := by
  have hl := flat_len l
  have e := parse_back l (36 :: l.flatMap writtenT).length h (by rw [List.length_cons]; omega)
  have eo : parseO (printS l) = some l := by
    unfold parseO printS
    rw [if_pos (by simp [hasPre]), List.drop_succ_cons, List.drop_zero, e]
  unfold parseT; rw [eo]; unfold finP; simp only
  rw [if_neg (by omega)]
theorem parseO_inv {s : List UInt8} {l : List Step} (h : parseO s = some l) : s = printS l ∧ l.all mayM = true := by
  unfold parseO at h
  split at h
  · rename_i hp
    obtain ⟨t, rfl⟩ := hasPre_iff.1 hp
    simp only [List.cons_append, List.nil_append, List.drop_succ_cons, List.drop_zero] at h ⊢
    obtain ⟨e1, e2⟩ := parse_inv _ _ _ h
    exact ⟨by simp [printS, e1], e2⟩
  · cases h
theorem parse_printS {s : List UInt8} (h : (parseT s).2 = 0) : printS (parseT s).1 = s ∧ (parseT s).1.all mayM = true ∧ (parseT s).1.length ≤ 8 := by
  unfold parseT at h ⊢
  cases e : parseO s with
  | none => rw [e] at h; simp [finP] at h
  | some l =>
    rw [e] at h
    obtain ⟨e1, e2⟩ := parseO_inv e
    unfold finP at h ⊢
    simp only at h ⊢
    split at h
    · simp at h
    · rename_i h8
      rw [if_neg h8]
      exact ⟨e1.symm, e2, by simp only []; omega⟩
theorem parse_bad {s : List UInt8} (h : (parseT s).2 ≠ 0) : (parseT s).1 = [] := by
  unfold parseT finP at h ⊢
  split
  · rfl
  · rename_i h1
    rw [h1] at h; simp only at h
    split
    · rfl
    · rename_i h2; rw [if_neg h2] at h; exact absurd rfl h
end Go.Proofs.YtdjjmppnnkkloaaDoor
