import Derived.Test.YtdojfdaglbphlaaGreatDoorK1
import Derived.Test.YtdojfdaglbphlaaGreatDoorK2
import Derived.Test.YtdojfdaglbphlaaGreatDoorSSameL
namespace Go.Proofs.YtdojfdaglbphlaaGreatDoor
open Sy Go
set_option linter.unusedSimpArgs false
set_option linter.unusedVariables false
theorem zHP (v : Val) : jJ v v = true := (uE v v).2 rfl
theorem zKU (v : Val) (m : Int) : qQ (qIR v m) = qQ v := by rw [yV, yV v]; rfl
theorem qXZ (v : Val) (m : Int) : qQ (xC v m) = qQ v := zKU v _
theorem zAQ : ∀ (l : List Val) (a b : Int), kN (orM a b) l = orM (kN a l) b
 | [], a, b => by simp
 | x :: l, a, b => by
  simp only [kN]
  rw [← zAQ l (orM a (qM x)) b, or_assoc, or_comm b, ← or_assoc]
theorem qPY : ∀ (l : List Val) {a b : Int}, LeM a b → LeM a (kN b l)
 | [], a, b, h => by simpa using h
 | x :: l, a, b, h => by simp only [kN]; exact qPY l (h.trans (.or_left _ _))
theorem qLA : ∀ {l : List Val} {k : Val} (m : Int), k ∈ l → LeM (qM k) (kN m l)
 | x :: l, k, m, h => by
  simp only [kN]
  rcases List.mem_cons.1 h with rfl | h
  ·exact qPY l (.or_right _ _)
  ·exact qLA _ h
theorem qMG : ∀ {l : List Val} {m b : Int}, LeM m b → (∀ k ∈ l, LeM (qM k) b) → LeM (kN m l) b
 | [], m, b, h, _ => by simpa using h
 | x :: l, m, b, h, hk => by
  simp only [kN]
  exact qMG (h.or (hk x (by simp))) fun k hk' => hk k (by simp [hk'])
theorem qMY (v : Val) (h : InV v) : LeM v.mask (qM v) := by rw [jX]; exact qPY _ (.refl (zOP h))
theorem qTW (v : Val) (m : Int) : qM (xC v m) = orM (qM v) m := by rw [jX, jX v]; exact zAQ _ _ _
theorem qTY (v : Val) : qM (qK v) = 0 := by
 refine Val.induct (p := fun v => qM (qK v) = 0) (fun v ih => ?_) v
 rw [jX, zEK, zEL]
 have : ∀ l : List Val, (∀ k ∈ l, qM (qK k) = 0) → kN 0 (l.map qK) = 0 := by
  intro l
  induction l with
  | nil => intro _; simp
  | cons x l ihl => intro h; simp only [List.map_cons, kN, h x (by simp)]; exact ihl fun k hk => h k (by simp [hk])
 exact this _ ih
theorem zJO (v : Val) (m : Int) : qK (qIR v m) = qK v := by rw [kT, kT v]; rfl
mutual
def zXU (below : Bool) : Val → Bool
 | .mk _ m _ _ _ vs _ => !(below && decide (m ≠ 0)) && flatL (below || decide (m ≠ 0)) vs
def flatL (below : Bool) : List Val → Bool
 | [] => true
 | v :: vs => zXU below v && flatL below vs
end
end Go.Proofs.YtdojfdaglbphlaaGreatDoor
