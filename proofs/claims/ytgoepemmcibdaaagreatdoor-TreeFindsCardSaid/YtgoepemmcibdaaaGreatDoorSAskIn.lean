import Derived.Test.YtgoepemmcibdaaaGreatDoorSItemIn2
namespace Go.Proofs.YtgoepemmcibdaaaGreatDoor
open Sy Go
set_option maxRecDepth 100000
set_option linter.unusedSimpArgs false
/-- A key and a place that are handed in. -/
theorem in_ask {cs : List PD} (h : ShC T 4 50 cs) : ∃ (s : List UInt8) (i : Int), cs = [.str s, .int .i64 i] ∧ -9223372036854775808 ≤ i ∧ i ≤ 9223372036854775807 := by
  simp only [ShC] at h
  simp [ShF] at h
  obtain ⟨_, _, rfl, ⟨s, rfl, _⟩, i, rfl, hi⟩ := h
  exact ⟨s, i, rfl, by omega, by omega⟩
end Go.Proofs.YtgoepemmcibdaaaGreatDoor
