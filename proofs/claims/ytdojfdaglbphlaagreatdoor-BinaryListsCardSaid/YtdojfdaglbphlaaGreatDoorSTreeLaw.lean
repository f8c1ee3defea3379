import Derived.Test.YtdojfdaglbphlaaGreatDoorK2
import Derived.Test.YtdojfdaglbphlaaGreatDoorK1
namespace Go.Proofs.YtdojfdaglbphlaaGreatDoor
open Sy Go
set_option linter.unusedSimpArgs false
set_option linter.unusedVariables false
theorem zJK (v : Val) (m : Int) : qT (qPS v m) = qT v := by rw [kW, kW v]; rfl
theorem qWI (v : Val) (m : Int) : qT (qAL v m) = qT v := zJK v _
theorem qZG : ∀ (l : List Val) {a b : Int}, LeM a b → LeM a (qAZ b l)
 | [], a, b, h => by simpa using h
 | x :: l, a, b, h => by simp only [qAZ]; exact qZG l (h.trans (.or_left _ _))
theorem zEG (v : Val) (h : InV v) : LeM v.mask (qZ v) := by rw [qOV]; exact qZG _ (.refl (zNH h))
mutual
def zWN (below : Bool) : Val → Bool
 | .mk _ m _ _ _ vs _ => !(below && decide (m ≠ 0)) && flatL (below || decide (m ≠ 0)) vs
def flatL (below : Bool) : List Val → Bool
 | [] => true
 | v :: vs => zWN below v && flatL below vs
end
end Go.Proofs.YtdojfdaglbphlaaGreatDoor
