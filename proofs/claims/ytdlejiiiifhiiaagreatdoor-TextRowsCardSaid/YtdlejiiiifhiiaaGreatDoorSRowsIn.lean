import Derived.Test.YtdlejiiiifhiiaaGreatDoorSTextIn
import Derived.Test.YtdlejiiiifhiiaaGreatDoorSItemIn2
namespace Go.Proofs.YtdlejiiiifhiiaaGreatDoor
open Sy Go
set_option maxRecDepth 100000
set_option linter.unusedSimpArgs false
/-- Rows of items that are handed in. -/
theorem in_rows {cs : List PD} (h : ShC T 5 43 cs) : ∃ ls : List (List Item), cs = [.sl 1 (ls.map fun l => PD.sl 6 (l.map Item.enc))] ∧ ∀ l ∈ ls, ∀ x ∈ l, x.keys.length ≤ 140737488351232 := by
  obtain ⟨es, rfl, _, h⟩ : ∃ es : List PD, cs = [.sl 1 es] ∧ es.length * 24 ≤ 140737488351232 ∧ ∀ x ∈ es, ∃ cs', x = packD (.sl 49) cs' ∧ ShC T 4 22 cs' := h
  obtain ⟨ls, rfl, hl⟩ := list_of_p (f := fun l : List Item => PD.sl 6 (l.map Item.enc)) (p := fun l => ∀ x ∈ l, x.keys.length ≤ 140737488351232) (es := es) (fun x hx => by
    obtain ⟨cs', rfl, h'⟩ := h x hx
    obtain ⟨l, rfl, hl⟩ := in_items2 h'
    exact ⟨l, rfl, fun x hx => (hl x hx).1⟩)
  exact ⟨ls, rfl, hl⟩
theorem in_byte {n : Nat} {cs : List PD} (h : ShC T (n + 1) 5 cs) : ∃ m : Int, cs = [.int .u8 m] := by
  simp [ShC] at h
  obtain ⟨m, rfl, h⟩ := h
  exact ⟨m, rfl⟩
end Go.Proofs.YtdlejiiiifhiiaaGreatDoor
