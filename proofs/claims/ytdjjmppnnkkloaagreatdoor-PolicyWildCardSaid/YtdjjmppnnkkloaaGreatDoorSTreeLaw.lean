import Derived.Test.YtdjjmppnnkkloaaGreatDoorSTreeL2
import Derived.Test.YtdjjmppnnkkloaaGreatDoorSBareL
import Derived.Test.YtdjjmppnnkkloaaGreatDoorSSameL
import Derived.Test.YtdjjmppnnkkloaaGreatDoorSMayL
namespace Go.Proofs.YtdjjmppnnkkloaaGreatDoor
open Sy Go
set_option linter.unusedSimpArgs false
set_option linter.unusedVariables false
theorem same_self (v : Val) : sameT v v = true := (sameT_iff v v).2 rfl
theorem deepL_le : ∀ (l : List Val) {a b : Int}, LeM a b → LeM a (deepL b l)
 | [], a, b, h => by simpa using h
 | x :: l, a, b, h => by simp only [deepL]; exact deepL_le l (h.trans (.or_left _ _))
theorem deepL_mem : ∀ {l : List Val} {k : Val} (m : Int), k ∈ l → LeM (deepV k) (deepL m l)
 | x :: l, k, m, h => by
  simp only [deepL]
  rcases List.mem_cons.1 h with rfl | h
  ·exact deepL_le l (.or_right _ _)
  ·exact deepL_mem _ h
theorem deepL_bound : ∀ {l : List Val} {m b : Int}, LeM m b → (∀ k ∈ l, LeM (deepV k) b) → LeM (deepL m l) b
 | [], m, b, h, _ => by simpa using h
 | x :: l, m, b, h, hk => by
  simp only [deepL]
  exact deepL_bound (h.or (hk x (by simp))) fun k hk' => hk k (by simp [hk'])
theorem mask_le (v : Val) (h : InV v) : LeM v.mask (deepV v) := by rw [deepV_eq]; exact deepL_le _ (.refl (InV_mask h))
mutual
def flatV (below : Bool) : Val → Bool
 | .mk _ m _ _ _ vs _ => !(below && decide (m ≠ 0)) && flatL (below || decide (m ≠ 0)) vs
def flatL (below : Bool) : List Val → Bool
 | [] => true
 | v :: vs => flatV below v && flatL below vs
end
end Go.Proofs.YtdjjmppnnkkloaaGreatDoor
