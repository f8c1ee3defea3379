import Derived.Test.YtdlejiiiifhiiaaDoorM4
import Derived.Test.YtdlejiiiifhiiaaDoorSVal
namespace Go.Proofs.YtdlejiiiifhiiaaDoor
open Sy Go
set_option maxRecDepth 100000
set_option linter.unusedSimpArgs false
/-- A decimal that is handed in. -/
theorem in_dec {cs : List PD} (h : ShC T 4 28 cs) : ∃ d : Dc, packD (.st []) cs = d.enc := by
  simp [ShC, ShF] at h
  obtain ⟨w, _, rfl, hng, _, _, rfl, ⟨dg, rfl, _⟩, sc, rfl, _⟩ := h
  obtain ⟨ng, rfl⟩ : ∃ ng, w = [PD.bool ng] := by
    rcases hng with h | h
    · exact ⟨_, h⟩
    · exact ⟨_, h⟩
  exact ⟨⟨ng, dg, sc⟩, by simp [packD]⟩
/-- A text that is handed in. -/
theorem in_text {cs : List PD} (h : ShC T 4 9 cs) : ∃ s : List UInt8, cs = [.str s] ∧ s.length ≤ 140737488351232 := by
  simp [ShC] at h
  obtain ⟨s, rfl, hs⟩ := h
  exact ⟨s, rfl, by omega⟩
end Go.Proofs.YtdlejiiiifhiiaaDoor
