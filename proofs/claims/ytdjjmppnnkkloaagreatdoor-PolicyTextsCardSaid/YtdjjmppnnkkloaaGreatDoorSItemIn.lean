import Derived.Test.YtdjjmppnnkkloaaGreatDoorSRef4B
import Derived.Test.YtdjjmppnnkkloaaGreatDoorM4
namespace Go.Proofs.YtdjjmppnnkkloaaGreatDoor
open Sy Go
set_option maxRecDepth 100000
set_option linter.unusedSimpArgs false
/-- Texts that are handed in. -/
theorem in_texts {n : Nat} {cs : List PD} (h : ShC T (n + 2) 22 cs) : ∃ l : List (List UInt8), cs = [.sl 1 (l.map PD.str)] ∧ l.length ≤ 140737488351232 := by
  simp [ShC] at h
  obtain ⟨es, rfl, hl, h⟩ := h
  obtain ⟨l, rfl⟩ := list_of (f := PD.str) (es := es) (fun x hx => by
    obtain ⟨cs, rfl, s, rfl, _⟩ := h x hx
    exact ⟨s, by simp [packD]⟩)
  exact ⟨l, rfl, by simp at hl; omega⟩
/-- Items that are handed in. -/
theorem in_items {cs : List PD} (h : ShC T 4 36 cs) : ∃ l : List Item, cs = [.sl 6 (l.map Item.enc)] ∧ ∀ x ∈ l, x.keys.length ≤ 140737488351232 := by
  simp only [ShC] at h
  simp [ShF] at h
  obtain ⟨es, rfl, _, h⟩ := h
  obtain ⟨l, rfl, hl⟩ := list_of_p (f := Item.enc) (p := fun x => x.keys.length ≤ 140737488351232) (es := es) (fun x hx => by
    obtain ⟨cs, rfl, h⟩ := h x hx
    obtain ⟨_, _, rfl, ⟨k, rfl, _⟩, _, _, rfl, ⟨m, rfl, _⟩, _, _, rfl, ⟨mk, rfl, _⟩, _, _, rfl, ⟨nm, rfl, _⟩, _, _, rfl, ⟨tx, rfl, _⟩, es', rfl, hl', h'⟩ := h
    obtain ⟨ks, rfl⟩ := list_of (f := PD.str) (es := es') (fun x hx => by
      obtain ⟨cs, rfl, s, rfl, _⟩ := h' x hx
      exact ⟨s, by simp [packD]⟩)
    exact ⟨⟨k, m, mk, nm, tx, ks⟩, by simp [packD], by simp at hl'; simp only []; omega⟩)
  exact ⟨l, rfl, hl⟩
end Go.Proofs.YtdjjmppnnkkloaaGreatDoor
