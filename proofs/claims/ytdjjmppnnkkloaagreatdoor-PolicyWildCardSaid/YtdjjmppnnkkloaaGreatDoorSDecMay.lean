import Derived.Test.YtdjjmppnnkkloaaGreatDoorSIdxF
import Derived.Test.YtdjjmppnnkkloaaGreatDoorSRef1
namespace Go.Proofs.YtdjjmppnnkkloaaGreatDoor
open Sy Go
set_option maxRecDepth 100000
set_option maxHeartbeats 4000000
set_option linter.unusedSimpArgs false
set_option linter.unusedVariables false
variable {G : Glob}
def dcMay (d : Dc) : Bool := d.digits.all isDig && decide (1 ≤ d.digits.length ∧ d.digits.length ≤ 60 ∧ 0 ≤ d.scale ∧ d.scale ≤ 60) &&
 (if d.digits = [48] then decide (d.scale = 0) && !d.neg else decide (byteAt d.digits 0 ≠ 48) && (decide (d.scale = 0) || decide (byteAt d.digits (d.digits.length - 1) ≠ 48)))
theorem dcMay_yes {d : Dc} (h : 1 ≤ d.digits.length ∧ d.digits.length ≤ 60 ∧ 0 ≤ d.scale ∧ d.scale ≤ 60) (ha : d.digits.all isDig = true) :
  dcMay d = (if d.digits = [48] then decide (d.scale = 0) && !d.neg else decide (byteAt d.digits 0 ≠ 48) && (decide (d.scale = 0) || decide (byteAt d.digits (d.digits.length - 1) ≠ 48))) := by
 unfold dcMay; rw [ha, show decide (1 ≤ d.digits.length ∧ d.digits.length ≤ 60 ∧ 0 ≤ d.scale ∧ d.scale ≤ 60) = true by simpa using h]; simp
end Go.Proofs.YtdjjmppnnkkloaaGreatDoor
