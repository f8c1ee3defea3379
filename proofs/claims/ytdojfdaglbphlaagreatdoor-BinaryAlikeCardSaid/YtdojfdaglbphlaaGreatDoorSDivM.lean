import Derived.Test.YtdojfdaglbphlaaGreatDoorSDivL
import Derived.Test.YtdojfdaglbphlaaGreatDoorSScaled
namespace Go.Proofs.YtdojfdaglbphlaaGreatDoor
open Sy Go
set_option maxRecDepth 100000
set_option linter.unusedSimpArgs false
set_option linter.unusedVariables false
def qJD (neg : Bool) (v : Nat) (sc : Int) : Dc × Int := if sc < 0 then jR neg (v * 10 ^ (-sc).toNat) 0 else jR neg v sc.toNat
theorem zKW {s : List UInt8} (h : s.all qG = true) (sc : Int) : (scD s sc).all qG = true ∧ qL (scD s sc) = (if sc < 0 then qL s * 10 ^ (-sc).toNat else qL s) := by
 unfold scD
 split
 ·exact ⟨xS h _, qIK _ _⟩
 ·exact ⟨h, rfl⟩
theorem zKV {s : List UInt8} (h : s.all qG = true) (sc : Int) : (scP s sc).all qG = true ∧ qL (scP s sc) = qL s ∧ sc < (scP s sc).length := by
 unfold scP
 split
 ·refine ⟨?_, ?_, ?_⟩
  ·rw [List.all_append, h]; simp [qG, kS]
  ·rw [yK, qAV]; simp
  ·simp; omega
 ·exact ⟨h, rfl, by omega⟩
theorem qDU (neg : Bool) {digits : List UInt8} (h : digits.all qG = true) (scale : Int) : wH (qAK neg digits scale) = qJD neg (qL digits) scale := by
 unfold qAK
 obtain ⟨h1, v1⟩ := zKW h scale
 have hs0 : 0 ≤ scS scale := by unfold scS; split <;> omega
 obtain ⟨h2, v2, l2⟩ := zKV h1 (scS scale)
 generalize scP (scD digits scale) (scS scale) = d at *
 obtain ⟨s, hs⟩ : ∃ s : Nat, scS scale = s := ⟨(scS scale).toNat, by omega⟩
 rw [hs] at l2 ⊢
 unfold scT
 have hn : ((d.length : Int) - s).toNat = d.length - s := by omega
 rw [hn]
 have hw : (qU (d.take (d.length - s))).all qG = true := vC (qDL h2 _)
 have hR : (d.drop (d.length - s)).all qG = true := qGD h2 _
 have hRl : (d.drop (d.length - s)).length = s := by simp; omega
 have hWv : qL (scW (qU (d.take (d.length - s)))) = qL (d.take (d.length - s)) := by
  unfold scW
  split
  ·rename_i e; rw [← uC (d.take (d.length - s)), e]; rfl
  ·exact uC _
 have hWd : (scW (qU (d.take (d.length - s)))).all qG = true := by
  unfold scW; split
  ·rfl
  ·exact hw
 have hW0 : scW (qU (d.take (d.length - s))) ≠ [] := by
  unfold scW; split
  ·simp
  ·assumption
 have hW1 : (scW (qU (d.take (d.length - s)))).length = 1 ∨ qT (scW (qU (d.take (d.length - s)))) 0 ≠ 48 := by
  unfold scW; split
  ·exact .inl rfl
  ·rename_i e; exact .inr (uD _ (List.length_pos_iff.2 e))
 have hval : qL (scW (qU (d.take (d.length - s))) ++ d.drop (d.length - s)) = qL d := by
  rw [yK, hWv, ← yK, List.take_append_drop]
 generalize scW (qU (d.take (d.length - s))) = W at *
 generalize d.drop (d.length - s) = R at *
 have hform : scF (scN neg W) R s = (if neg = true then [45] else []) ++ (W ++ if R = [] then [] else 46 :: R) := by
  unfold scF scN
  by_cases h0 : R = []
  ·subst h0
   simp at hRl
   rw [if_neg (by omega)]
   cases neg <;> simp
  ·have : 0 < R.length := List.length_pos_iff.2 h0
   rw [if_pos (by omega), if_neg h0]
   cases neg <;> simp
 rw [hform, qZE neg W R hWd hR hW0 hW1, qZK neg (by rw [List.all_append, hWd, hR]; rfl), hval, v2, v1, hRl]
 unfold qJD
 unfold scS at hs
 split
 ·rename_i hlt
  rw [if_pos hlt] at hs
  rw [show s = 0 by omega]
 ·rename_i hlt
  rw [if_neg hlt] at hs
  rw [show s = scale.toNat by omega]
def qET (A B j : Nat) : Nat := A * 10 ^ j / B
def qFE (A B j : Nat) : Nat := A * 10 ^ j % B
theorem zFJ {B : Nat} (A j : Nat) (h : 0 < B) : qFE A B j < B := Nat.mod_lt _ h
theorem qSP {A B : Nat} (hB : 0 < B) (j : Nat) : qET A B (j + 1) = qET A B j * 10 + qFE A B j * 10 / B ∧ qFE A B (j + 1) = qFE A B j * 10 % B := by
 unfold qET qFE
 have e : A * 10 ^ (j + 1) = A * 10 ^ j * 10 := by rw [Nat.pow_succ, Nat.mul_assoc]
 rw [e]
 generalize A * 10 ^ j = x
 have hd := Nat.div_add_mod x B
 have e2 : x * 10 = x % B * 10 + B * (x / B * 10) := by
  conv => lhs; rw [← hd]
  rw [Nat.add_mul, Nat.mul_assoc]; omega
 constructor
 ·conv => lhs; rw [e2]
  rw [Nat.add_mul_div_left _ _ hB]; omega
 ·conv => lhs; rw [e2]
  rw [Nat.add_mul_mod_self_left]
theorem qTV (w Q q : Nat) (hq : q < 10) : yX (w + 1) (Q * 10 + q) = yX w Q ++ [UInt8.ofNat (48 + q)] := by
 refine qWW _ _ (by simp [kY]) (uV _ _) ?_ ?_
 ·rw [List.all_append, uV]
  simp only [List.all_cons, List.all_nil, Bool.and_true, Bool.true_and]
  rw [zS, vV hq]; omega
 ·rw [qAP, uU, uU, vV hq, Nat.pow_succ, show 48 + q - 48 = q by omega]
  have h1 : (Q * 10 + q) % 10 = q := by omega
  have h2 : (Q * 10 + q) / 10 = Q := by omega
  rw [Nat.mul_comm (10 ^ w) 10, Nat.mod_mul, h1, h2]; omega
def ndg (Q : Nat) : Nat := (qU (Lib.decDigits Q)).length
theorem zDD {s : List UInt8} (h : s.all qG = true) : (qU s).length = ndg (qL s) := by
 unfold ndg; rw [qYM h (qJU (qL s)) (qQB _).symm]
theorem zMD (Q k : Nat) : ndg Q ≤ k ↔ Q < 10 ^ k := by
 unfold ndg
 have ha := vC (qJU Q)
 have hv : qL (qU (Lib.decDigits Q)) = Q := by rw [uC, qQB]
 have hh := uD (Lib.decDigits Q)
 have h1 := kP ha
 generalize qU (Lib.decDigits Q) = s at *
 rw [hv] at h1
 constructor
 ·intro h
  exact Nat.lt_of_lt_of_le h1 (Nat.pow_le_pow_right (by decide) h)
 ·intro h
  apply Nat.le_of_not_lt
  intro hk
  have h2 := qAW ha (by omega) (hh (by omega))
  rw [hv] at h2
  have : 10 ^ k ≤ 10 ^ (s.length - 1) := Nat.pow_le_pow_right (by decide) (by omega)
  omega
def qHF (A B j : Nat) : Bool := decide (qFE A B j ≠ 0) && decide (ndg (qET A B j) ≤ 34)
def qWV (A B : Nat) : Nat → Nat → Nat
 | 0, j => j
 | f + 1, j => if qHF A B j = true then qWV A B f (j + 1) else j
theorem qWU {A B : Nat} : ∀ (f j J : Nat), (∀ i, j ≤ i → i < J → qHF A B i = true) → j ≤ J → J ≤ j + f → qHF A B J = false → qWV A B f j = J
 | 0, j, J, _, h1, h2, _ => by simp only [qWV]; omega
 | f + 1, j, J, h, h1, h2, h3 => by
  simp only [qWV]
  by_cases e : j = J
  ·subst e; rw [h3]; simp
  ·rw [if_pos (h j (Nat.le_refl _) (by omega))]
   exact qWU f (j + 1) J (fun i hi => h i (by omega)) (by omega) (by omega) h3
theorem zMI {A B j : Nat} (hB0 : 0 < B) (hB : B < 10 ^ 60) (h : qHF A B j = true) : j < 100 := by
 simp only [qHF, Bool.and_eq_true, decide_eq_true_eq] at h
 obtain ⟨h1, h2⟩ := h
 rw [zMD] at h2
 apply Nat.lt_of_not_le
 intro hj
 have hA : 0 < A := by
  rcases Nat.eq_zero_or_pos A with e | e
  ·subst e; simp [qFE] at h1
  ·exact e
 have h3 : 10 ^ 94 ≤ 10 ^ j := Nat.pow_le_pow_right (by decide) (by omega)
 have h4 : 10 ^ 94 ≤ A * 10 ^ j := Nat.le_trans h3 (Nat.le_mul_of_pos_left _ hA)
 have h5 : 10 ^ 34 ≤ qET A B j := by
  unfold qET
  rw [Nat.le_div_iff_mul_le hB0]
  refine Nat.le_trans (Nat.mul_le_mul_left _ (Nat.le_of_lt hB)) ?_
  rw [← Nat.pow_add]
  exact h4
 omega
def qBL (Q : Nat) (m : Bool) : Nat × Nat :=
 if ndg Q ≤ 34 then (Q, 0)
 else (if 5 < Q / 10 ^ (ndg Q - 35) % 10 ∨ (Q / 10 ^ (ndg Q - 35) % 10 = 5 ∧ (m = true ∨ Q % 10 ^ (ndg Q - 35) ≠ 0 ∨ Q / 10 ^ (ndg Q - 34) % 2 = 1)) then Q / 10 ^ (ndg Q - 34) + 1 else Q / 10 ^ (ndg Q - 34), ndg Q - 34)
def zAM (A B : Nat) : Nat × Int := ((qBL (qET A B (qWV A B 100 0)) (decide (qFE A B (qWV A B 100 0) ≠ 0))).1, (qWV A B 100 0 : Int) - (qBL (qET A B (qWV A B 100 0)) (decide (qFE A B (qWV A B 100 0) ≠ 0))).2)
def qJT (a b : Dc) : Dc × Int := if b.digits = [48] then (dc0, 5) else qJD (a.neg != b.neg) (zAM (qL a.digits) (qL b.digits)).1 (a.scale - b.scale + (zAM (qL a.digits) (qL b.digits)).2)
def qJG (a b : Dc) : Dc × Int := if b.digits = [48] then (dc0, 5) else jR a.neg (qL (wV a (zG a b)) % qL (wV b (zG a b))) (zG a b).toNat
theorem zCF (k : Nat) : qL (List.replicate k 57) + 1 = 10 ^ k := by
 induction k with
 | zero => rfl
 | succ k ih =>
  rw [List.replicate_succ, yM, List.length_replicate, Nat.pow_succ]
  have : (57 : UInt8).toNat - 48 = 9 := rfl
  rw [this]; omega
theorem zJI {H : List UInt8} {n k : Nat} {b : UInt8} (hn : n + 1 + k = H.length) (hb : H[n]? = some b) (hd : qG b = true) (h9 : b ≠ 57) (hk : ∀ j, n < j → j < H.length → H[j]? = some 57) :
  qL (H.take n ++ (UInt8.ofNat (b.toNat + 1)) :: List.replicate k 48) = qL H + 1 := by
 have hn' : n < H.length := by omega
 have hdrop : H.drop (n + 1) = List.replicate k 57 := by
  rw [List.eq_replicate_iff]
  refine ⟨by simp; omega, fun x hx => ?_⟩
  obtain ⟨j, hj⟩ := List.mem_iff_getElem?.1 hx
  rw [List.getElem?_drop] at hj
  have hl := (List.getElem?_eq_some_iff.1 hj).1
  rw [hk (n + 1 + j) (by omega) hl] at hj
  cases hj; rfl
 have hH : H = H.take n ++ b :: List.replicate k 57 := by
  rw [← hdrop]
  have : b :: H.drop (n + 1) = H.drop n := by
   rw [List.drop_eq_getElem_cons hn']
   congr 1
   rw [List.getElem?_eq_getElem hn'] at hb
   cases hb; rfl
  rw [this, List.take_append_drop]
 have hbr := (zS b).1 hd
 have hb57 : b.toNat ≠ 57 := fun e => h9 (UInt8.toNat_inj.1 e)
 have hbn : (UInt8.ofNat (b.toNat + 1)).toNat = b.toNat + 1 := by rw [UInt8.toNat_ofNat']; omega
 conv => rhs; rw [hH]
 rw [yK, yK, yM, yM, hbn, qAV]
 simp only [List.length_cons, List.length_replicate]
 have := zCF k
 rw [show b.toNat + 1 - 48 = b.toNat - 48 + 1 by omega, Nat.add_mul]
 omega
end Go.Proofs.YtdojfdaglbphlaaGreatDoor
