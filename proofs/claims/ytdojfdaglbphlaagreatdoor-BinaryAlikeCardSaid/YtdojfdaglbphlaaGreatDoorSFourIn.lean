import Derived.Test.YtdojfdaglbphlaaGreatDoorSItemIn2
namespace Go.Proofs.YtdojfdaglbphlaaGreatDoor
open Sy Go
set_option maxRecDepth 100000
set_option linter.unusedSimpArgs false
theorem zQE {n : Nat} {cs : List PD} (h : ShC T (n + 5) 41 cs) : ∃ l1 l2 l3 l4 : List Item, cs = [.sl 6 (l1.map Item.enc), .sl 6 (l2.map Item.enc), .sl 6 (l3.map Item.enc), .sl 6 (l4.map Item.enc)] ∧
  (∀ x ∈ l1, x.keys.length ≤ 140737488351232 ∧ InM x.mask) ∧ (∀ x ∈ l2, x.keys.length ≤ 140737488351232 ∧ InM x.mask) ∧ (∀ x ∈ l3, x.keys.length ≤ 140737488351232 ∧ InM x.mask) ∧ (∀ x ∈ l4, x.keys.length ≤ 140737488351232 ∧ InM x.mask) := by
 have h' : ShF (ShC T (n + 4)) [(0, 22), (0, 22), (0, 22), (0, 22)] cs := by
  rw [ShC] at h
  simp at h
  simpa [ShF] using h
 simp only [ShF] at h'
 obtain ⟨c1, _, rfl, h1, c2, _, rfl, h2, c3, _, rfl, h3, c4, _, rfl, h4, rfl⟩ := h'
 obtain ⟨l1, rfl, g1⟩ := qAR h1
 obtain ⟨l2, rfl, g2⟩ := qAR h2
 obtain ⟨l3, rfl, g3⟩ := qAR h3
 obtain ⟨l4, rfl, g4⟩ := qAR h4
 exact ⟨l1, l2, l3, l4, rfl, g1, g2, g3, g4⟩
end Go.Proofs.YtdojfdaglbphlaaGreatDoor
