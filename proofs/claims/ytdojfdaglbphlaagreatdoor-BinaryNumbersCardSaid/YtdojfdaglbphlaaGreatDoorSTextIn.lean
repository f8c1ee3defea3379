import Derived.Test.YtdojfdaglbphlaaGreatDoorM4
import Derived.Test.YtdojfdaglbphlaaGreatDoorK1
namespace Go.Proofs.YtdojfdaglbphlaaGreatDoor
open Sy Go
set_option maxRecDepth 100000
set_option linter.unusedSimpArgs false
theorem in_dec {cs : List PD} (h : ShC T 4 26 cs) : ∃ d : Dc, qBD (.st []) cs = d.enc := by
 simp [ShC, ShF] at h
 obtain ⟨w, _, rfl, hng, _, _, rfl, ⟨dg, rfl, _⟩, sc, rfl, _⟩ := h
 obtain ⟨ng, rfl⟩ : ∃ ng, w = [PD.bool ng] := by
  rcases hng with h | h
  ·exact ⟨_, h⟩
  ·exact ⟨_, h⟩
 exact ⟨⟨ng, dg, sc⟩, by simp [qBD]⟩
end Go.Proofs.YtdojfdaglbphlaaGreatDoor
