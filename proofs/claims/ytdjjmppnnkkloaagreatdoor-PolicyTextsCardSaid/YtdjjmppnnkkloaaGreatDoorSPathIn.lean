import Derived.Test.YtdjjmppnnkkloaaGreatDoorK1
import Derived.Test.YtdjjmppnnkkloaaGreatDoorM4
namespace Go.Proofs.YtdjjmppnnkkloaaGreatDoor
open Sy Go
set_option maxRecDepth 100000
set_option linter.unusedSimpArgs false
/-- Steps that are handed in. -/
theorem in_steps {n : Nat} {cs : List PD} (h : ShC T (n + 4) 52 cs) : ∃ l : List Step, cs = [.sl 3 (l.map Step.enc)] := by
  simp [ShC, ShF] at h
  obtain ⟨es, rfl, _, h⟩ := h
  obtain ⟨l, rfl⟩ := list_of (f := Step.enc) (es := es) (fun x hx => by
    obtain ⟨cs, rfl, h⟩ := h x hx
    obtain ⟨_, _, rfl, ⟨k, rfl, _⟩, _, _, rfl, ⟨s, rfl, _⟩, n, rfl, _⟩ := h
    exact ⟨⟨k, s, n⟩, by simp [packD]⟩)
  exact ⟨l, rfl⟩
/-- A text that is handed in. -/
theorem in_str {n : Nat} {cs : List PD} (h : ShC T (n + 1) 9 cs) : ∃ s : List UInt8, cs = [.str s] := by
  simp [ShC] at h
  obtain ⟨s, rfl, hs⟩ := h
  exact ⟨s, rfl⟩
end Go.Proofs.YtdjjmppnnkkloaaGreatDoor
