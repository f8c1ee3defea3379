import Derived.Test.YtdjjmppnnkkloaaGreatDoorSFew8
import Derived.Test.YtdjjmppnnkkloaaGreatDoorK1
/-
  PLAIN: a policy of no more than so much; what holds of it.
-/
namespace Go.Proofs.YtdjjmppnnkkloaaGreatDoor
open Sy Go
set_option linter.unusedSimpArgs false
set_option linter.unusedVariables false
theorem upTo_mem {α β : Type} {f : α → β} {n : Nat} {l : List α} {k : Nat} {y : β} (h : y ∈ upTo f n l k) : ∃ x ∈ l, y = f x := by
  unfold upTo at h
  obtain ⟨x, hx, rfl⟩ := List.mem_map.1 (List.mem_of_mem_take h)
  exact ⟨x, List.mem_of_mem_take hx, rfl⟩
theorem fewPol_masks {p : Pol} (h : ∀ m ∈ p.marks, InM m.mask) : ∀ m ∈ (fewPol p).marks, InM m.mask := fun m hm => by
  obtain ⟨x, hx, rfl⟩ := upTo_mem hm
  exact h x hx
theorem fewPol_keys {p : Pol} : ∀ m ∈ (fewPol p).marks, ∀ t ∈ m.path, t.key.length ≤ 40 := fun m hm t ht => by
  obtain ⟨x, hx, rfl⟩ := upTo_mem hm
  obtain ⟨u, hu, rfl⟩ := upTo_mem (show t ∈ upTo few1 12 x.path 12 from ht)
  unfold few1
  split
  · simp
    omega
  · omega
theorem fewPol_paths {p : Pol} : ∀ m ∈ (fewPol p).marks, m.path.length ≤ 12 := fun m hm => by
  obtain ⟨x, hx, rfl⟩ := upTo_mem hm
  exact upTo_len few1 12 x.path 12
theorem fewPol_marks (p : Pol) : (fewPol p).marks.length ≤ 20 := upTo_len fewK 20 p.marks 20
theorem fewPol_ncats (p : Pol) : (fewPol p).cats.length ≤ 70 := upTo_len few40 70 p.cats 70
theorem fewPol_cats {p : Pol} : ∀ c ∈ (fewPol p).cats, c.length ≤ 40 := fun c hc => by
  obtain ⟨x, hx, rfl⟩ := upTo_mem hc
  unfold few40
  simp
  omega
theorem fewPol_token (p : Pol) : (fewPol p).token.length ≤ 100 := by
  simp only [fewPol, List.length_take]
  omega
end Go.Proofs.YtdjjmppnnkkloaaGreatDoor
