import Derived.Test.YtdjjmppnnkkloaaGreatDoorSPolL
import Derived.Test.YtdjjmppnnkkloaaGreatDoorSPath10
import Derived.Test.YtdjjmppnnkkloaaGreatDoorSUtf
import Derived.Test.YtdjjmppnnkkloaaGreatDoorSPol
namespace Go.Proofs.YtdjjmppnnkkloaaGreatDoor
open Sy Go
set_option maxRecDepth 100000
set_option maxHeartbeats 4000000
set_option linter.unusedSimpArgs false
set_option linter.unusedVariables false
variable {G : Glob}
def ltB (c : UInt8) : Bool := decide (97 ≤ (c.toNat : Int)) && decide ((c.toNat : Int) ≤ 122)
def otB (c : UInt8) : Bool := (decide (48 ≤ (c.toNat : Int)) && decide ((c.toNat : Int) ≤ 57)) || decide ((c.toNat : Int) = 95)
theorem nm_all : ∀ k : Fin 256, asF nameSet k.val = (ltB (UInt8.ofNat k.val) || otB (UInt8.ofNat k.val)) ∧ (decide (UInt8.ofNat k.val ∈ letters) = ltB (UInt8.ofNat k.val)) := by decide +kernel
theorem nm_at (c : UInt8) : asF nameSet c.toNat = (ltB c || otB c) ∧ (decide (c ∈ letters) = ltB c) := by
 have := nm_all ⟨c.toNat, c.toNat_lt⟩
 simpa using this
def nmB (c : UInt8) : Bool := ltB c || otB c
def hdB : List UInt8 → Bool
 | b :: _ => ltB b
 | [] => false
theorem name_spec (s : List UInt8) : mayNameM s = (s.all nmB && decide (s.length ≤ 24) && hdB s) := by
 unfold mayNameM
 have h : (s.all fun b => asF nameSet b.toNat) = s.all nmB := by congr 1; funext c; exact (nm_at c).1
 rw [h]
 cases s with
 | nil => simp [hdB]
 | cons b r => simp only [(nm_at b).2, Bool.and_assoc, hdB]
end Go.Proofs.YtdjjmppnnkkloaaGreatDoor
