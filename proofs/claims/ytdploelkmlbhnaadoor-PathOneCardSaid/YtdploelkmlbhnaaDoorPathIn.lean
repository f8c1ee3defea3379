import Derived.Test.YtdploelkmlbhnaaDoorPath10
import Derived.Test.YtdploelkmlbhnaaDoorLaw
namespace Go.Proofs.YtdploelkmlbhnaaDoor
open Sy Go
set_option maxRecDepth 100000
set_option linter.unusedSimpArgs false
/-- Steps that are handed in. -/
theorem in_steps {cs : List PD} (h : ShC T 4 22 cs) : ∃ l : List Step, cs = [.sl 3 (l.map Step.enc)] := by
  simp [ShC, ShF] at h
  obtain ⟨es, rfl, _, h⟩ := h
  obtain ⟨l, rfl⟩ := list_of (f := Step.enc) (es := es) (fun x hx => by
    obtain ⟨cs, rfl, h⟩ := h x hx
    obtain ⟨_, _, rfl, ⟨k, rfl, _⟩, _, _, rfl, ⟨s, rfl, _⟩, n, rfl, _⟩ := h
    exact ⟨⟨k, s, n⟩, by simp [packD]⟩)
  exact ⟨l, rfl⟩
end Go.Proofs.YtdploelkmlbhnaaDoor
