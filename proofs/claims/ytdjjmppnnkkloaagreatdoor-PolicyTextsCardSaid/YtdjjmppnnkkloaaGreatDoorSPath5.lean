import Derived.Test.YtdjjmppnnkkloaaGreatDoorK2
namespace Go.Proofs.YtdjjmppnnkkloaaGreatDoor
open Sy Go
set_option linter.unusedSimpArgs false
set_option linter.unusedVariables false

/-! The plain law: both ways to match come to the same. -/
def RR (l tw : List Step) (i : Nat) : Nat → Bool := refRow tw (l.take i) row0
def MM (l tw : List Step) (j : Nat) : Nat → Bool := goRow l (tw.take j) (sprF l row0)
theorem RR_zero (l tw : List Step) (k : Nat) : RR l tw 0 k = decide (k = 0) := by simp [RR, refRow, row0]
theorem RR_succ {l tw : List Step} {i : Nat} {t : Step} (ht : l[i]? = some t) : RR l tw (i + 1) = nextF t tw (RR l tw i) := by
  unfold RR; rw [List.take_add_one, ht]; exact refRow_snoc tw t _ _
theorem MM_zero (l tw : List Step) : MM l tw 0 = sprF l row0 := by simp [MM, goRow]
theorem MM_succ {l tw : List Step} {j : Nat} {x : Step} (hx : tw[j]? = some x) : MM l tw (j + 1) = sprF l (nxF l x (MM l tw j)) := by
  unfold MM; rw [List.take_add_one, hx]; exact goRow_snoc l x _ _
def CC (l tw : List Step) (j p : Nat) : Bool := if deepAt l p = true then RR l tw (p + 1) j else RR l tw p j

theorem deepAt_of {l : List Step} {p : Nat} {t : Step} (ht : l[p]? = some t) : deepAt l p = decide (t.kind = 5) := by simp [deepAt, ht]
theorem deepAt_get {l : List Step} {p : Nat} (h : deepAt l p = true) : ∃ t, l[p]? = some t ∧ t.kind = 5 := by
  unfold deepAt at h
  split at h
  · rename_i t ht; exact ⟨t, ht, by simpa using h⟩
  · cases h

theorem MM_CC (l tw : List Step) : ∀ j, j ≤ tw.length → ∀ p, p ≤ l.length → MM l tw j p = CC l tw j p := by
  intro j
  induction j with
  | zero =>
    intro _ p
    induction p with
    | zero =>
      intro _
      rw [MM_zero]
      by_cases h : deepAt l 0 = true
      · obtain ⟨t, ht, hk⟩ := deepAt_get h
        simp [CC, h, sprF, row0, RR_succ ht, nextF, hk, RR_zero]
      · simp [CC, h, sprF, row0, RR_zero]
    | succ p ih =>
      intro hp
      have ih := ih (by omega)
      rw [MM_zero] at ih ⊢
      obtain ⟨t, ht⟩ : ∃ t, l[p]? = some t := ⟨l[p]'(by omega), by simp [show p < l.length by omega]⟩
      have h1 : CC l tw 0 (p + 1) = RR l tw (p + 1) 0 := by
        unfold CC
        split
        · rename_i h
          obtain ⟨t', ht', hk'⟩ := deepAt_get h
          rw [RR_succ ht']; simp [nextF, hk']
        · rfl
      rw [h1]
      simp only [sprF, ih]
      by_cases hk : t.kind = 5
      · simp [row0, deepAt_of ht, hk, CC]
      · simp [row0, deepAt_of ht, hk, CC, RR_succ ht, nextF]
  | succ j ihj =>
    intro hj p
    have ihj := ihj (by omega)
    obtain ⟨x, hx⟩ : ∃ x, tw[j]? = some x := ⟨tw[j]'(by omega), by simp [show j < tw.length by omega]⟩
    induction p with
    | zero =>
      intro _
      rw [MM_succ hx]
      simp only [sprF, nxF, addL, Bool.or_false, ihj 0 (Nat.zero_le _)]
      by_cases h : deepAt l 0 = true
      · obtain ⟨t, ht, hk⟩ := deepAt_get h
        simp [CC, h, RR_succ ht, nextF, hk, RR_zero]
      · simp [CC, h, RR_zero]
    | succ p ih =>
      intro hp
      have ih := ih (by omega)
      rw [MM_succ hx] at ih ⊢
      obtain ⟨t, ht⟩ : ∃ t, l[p]? = some t := ⟨l[p]'(by omega), by simp [show p < l.length by omega]⟩
      simp only [sprF, ih]
      simp only [nxF, addL, ht, ihj (p + 1) hp, ihj p (by omega)]
      have h2 : (!decide (t.kind = 5) && (CC l tw j p && ledM t x) || CC l tw (j + 1) p && deepAt l p) = RR l tw (p + 1) (j + 1) := by
        rw [deepAt_of ht]
        by_cases hk : t.kind = 5
        · simp [hk, CC, deepAt_of ht]
        · simp [hk, CC, deepAt_of ht, RR_succ ht, nextF, hx]
      rw [Bool.or_assoc, h2]
      by_cases h : deepAt l (p + 1) = true
      · obtain ⟨t', ht', hk'⟩ := deepAt_get h
        simp [CC, h, RR_succ ht', nextF, hk', Bool.or_comm]
      · simp [CC, h]

theorem match_eq (l tw : List Step) : matchM l tw = refMatchM l tw := by
  have h := MM_CC l tw tw.length (Nat.le_refl _) l.length (Nat.le_refl _)
  have e1 : MM l tw tw.length l.length = matchM l tw := by simp [MM, matchM]
  have e2 : deepAt l l.length = false := by simp [deepAt]
  rw [← e1, h]
  simp [CC, e2, RR, refMatchM]
end Go.Proofs.YtdjjmppnnkkloaaGreatDoor
