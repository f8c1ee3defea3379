import Derived.Test.YtdlejiiiifhiiaaGreatDoorM4
import Derived.Test.YtdlejiiiifhiiaaGreatDoorK1
namespace Go.Proofs.YtdlejiiiifhiiaaGreatDoor
open Sy Go
set_option maxRecDepth 100000
set_option linter.unusedSimpArgs false
/-- A decimal that is handed in. -/
theorem in_dec {cs : List PD} (h : ShC T 4 26 cs) : ∃ d : Dc, packD (.st []) cs = d.enc := by
  simp [ShC, ShF] at h
  obtain ⟨w, _, rfl, hng, _, _, rfl, ⟨dg, rfl, _⟩, sc, rfl, _⟩ := h
  obtain ⟨ng, rfl⟩ : ∃ ng, w = [PD.bool ng] := by
    rcases hng with h | h
    · exact ⟨_, h⟩
    · exact ⟨_, h⟩
  exact ⟨⟨ng, dg, sc⟩, by simp [packD]⟩
/-- A text that is handed in. -/
theorem in_text {cs : List PD} (h : ShC T 4 9 cs) : ∃ s : List UInt8, cs = [.str s] ∧ s.length ≤ 140737488351232 := by
  simp [ShC] at h
  obtain ⟨s, rfl, hs⟩ := h
  exact ⟨s, rfl, by omega⟩
/-- Bytes that are handed in. -/
theorem in_bytes {cs : List PD} (h : ShC T 4 68 cs) : ∃ l : List UInt8, cs = [.sl 1 (bytesP l)] := by
  simp only [ShC] at h
  simp at h
  obtain ⟨es, rfl, _, h⟩ := h
  obtain ⟨l, rfl⟩ := list_of (f := fun b : UInt8 => PD.int .u8 b.toNat) (es := es) (fun x hx => by
    obtain ⟨cs, rfl, n, rfl, h1, h2⟩ := h x hx
    refine ⟨UInt8.ofNat n.toNat, ?_⟩
    simp [packD]
    have : n < 256 := by omega
    have : 0 ≤ n := h1
    omega)
  exact ⟨l, rfl⟩
theorem in_bool {n : Nat} {cs : List PD} (h : ShC T (n + 1) 4 cs) : ∃ b : Bool, cs = [.bool b] := by
  simpa [ShC] using h
end Go.Proofs.YtdlejiiiifhiiaaGreatDoor
