import Derived.Test.YtdjjmppnnkkloaaGreatDoorSItemIn
import Derived.Test.YtdjjmppnnkkloaaGreatDoorK1
namespace Go.Proofs.YtdjjmppnnkkloaaGreatDoor
open Sy Go
set_option maxRecDepth 100000
set_option linter.unusedSimpArgs false
theorem in_int {n : Nat} {cs : List PD} (h : ShC T (n + 1) 3 cs) : ∃ m : Int, cs = [.int .i64 m] ∧ -9223372036854775808 ≤ m ∧ m ≤ 9223372036854775807 := by
 simp [ShC] at h
 obtain ⟨m, rfl, h⟩ := h
 exact ⟨m, rfl, by omega, by omega⟩
end Go.Proofs.YtdjjmppnnkkloaaGreatDoor
