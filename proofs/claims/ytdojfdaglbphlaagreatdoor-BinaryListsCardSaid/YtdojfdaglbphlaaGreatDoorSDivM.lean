import Derived.Test.YtdojfdaglbphlaaGreatDoorSDivL
import Derived.Test.YtdojfdaglbphlaaGreatDoorSScaled
namespace Go.Proofs.YtdojfdaglbphlaaGreatDoor
open Sy Go
set_option maxRecDepth 100000
set_option linter.unusedSimpArgs false
set_option linter.unusedVariables false
def qIE (neg : Bool) (v : Nat) (sc : Int) : Dc × Int := if sc < 0 then jD neg (v * 10 ^ (-sc).toNat) 0 else jD neg v sc.toNat
theorem zJM {s : List UInt8} (h : s.all qG = true) (sc : Int) : (scD s sc).all qG = true ∧ qK (scD s sc) = (if sc < 0 then qK s * 10 ^ (-sc).toNat else qK s) := by
 unfold scD
 split
 ·exact ⟨kZ h _, qCE _ _⟩
 ·exact ⟨h, rfl⟩
theorem zJL {s : List UInt8} (h : s.all qG = true) (sc : Int) : (scP s sc).all qG = true ∧ qK (scP s sc) = qK s ∧ sc < (scP s sc).length := by
 unfold scP
 split
 ·refine ⟨?_, ?_, ?_⟩
  ·rw [List.all_append, h]; simp [qG, kU]
  ·rw [wN, xG]; simp
  ·simp; omega
 ·exact ⟨h, rfl, by omega⟩
theorem qDH (neg : Bool) {digits : List UInt8} (h : digits.all qG = true) (scale : Int) : wG (qAB neg digits scale) = qIE neg (qK digits) scale := by
 unfold qAB
 obtain ⟨h1, v1⟩ := zJM h scale
 have hs0 : 0 ≤ scS scale := by unfold scS; split <;> omega
 obtain ⟨h2, v2, l2⟩ := zJL h1 (scS scale)
 generalize scP (scD digits scale) (scS scale) = d at *
 obtain ⟨s, hs⟩ : ∃ s : Nat, scS scale = s := ⟨(scS scale).toNat, by omega⟩
 rw [hs] at l2 ⊢
 unfold scT
 have hn : ((d.length : Int) - s).toNat = d.length - s := by omega
 rw [hn]
 have hw : (qR (d.take (d.length - s))).all qG = true := xR (qCZ h2 _)
 have hR : (d.drop (d.length - s)).all qG = true := qFN h2 _
 have hRl : (d.drop (d.length - s)).length = s := by simp; omega
 have hWv : qK (scW (qR (d.take (d.length - s)))) = qK (d.take (d.length - s)) := by
  unfold scW
  split
  ·rename_i e; rw [← vR (d.take (d.length - s)), e]; rfl
  ·exact vR _
 have hWd : (scW (qR (d.take (d.length - s)))).all qG = true := by
  unfold scW; split
  ·rfl
  ·exact hw
 have hW0 : scW (qR (d.take (d.length - s))) ≠ [] := by
  unfold scW; split
  ·simp
  ·assumption
 have hW1 : (scW (qR (d.take (d.length - s)))).length = 1 ∨ qS (scW (qR (d.take (d.length - s)))) 0 ≠ 48 := by
  unfold scW; split
  ·exact .inl rfl
  ·rename_i e; exact .inr (vT _ (List.length_pos_iff.2 e))
 have hval : qK (scW (qR (d.take (d.length - s))) ++ d.drop (d.length - s)) = qK d := by
  rw [wN, hWv, ← wN, List.take_append_drop]
 generalize scW (qR (d.take (d.length - s))) = W at *
 generalize d.drop (d.length - s) = R at *
 have hform : scF (scN neg W) R s = (if neg = true then [45] else []) ++ (W ++ if R = [] then [] else 46 :: R) := by
  unfold scF scN
  by_cases h0 : R = []
  ·subst h0
   simp at hRl
   rw [if_neg (by omega)]
   cases neg <;> simp
  ·have : 0 < R.length := List.length_pos_iff.2 h0
   rw [if_pos (by omega), if_neg h0]
   cases neg <;> simp
 rw [hform, qXS neg W R hWd hR hW0 hW1, qXZ neg (by rw [List.all_append, hWd, hR]; rfl), hval, v2, v1, hRl]
 unfold qIE
 unfold scS at hs
 split
 ·rename_i hlt
  rw [if_pos hlt] at hs
  rw [show s = 0 by omega]
 ·rename_i hlt
  rw [if_neg hlt] at hs
  rw [show s = scale.toNat by omega]
def qEH (A B j : Nat) : Nat := A * 10 ^ j / B
def qEQ (A B j : Nat) : Nat := A * 10 ^ j % B
theorem zDS {B : Nat} (A j : Nat) (h : 0 < B) : qEQ A B j < B := Nat.mod_lt _ h
theorem qRG {A B : Nat} (hB : 0 < B) (j : Nat) : qEH A B (j + 1) = qEH A B j * 10 + qEQ A B j * 10 / B ∧ qEQ A B (j + 1) = qEQ A B j * 10 % B := by
 unfold qEH qEQ
 have e : A * 10 ^ (j + 1) = A * 10 ^ j * 10 := by rw [Nat.pow_succ, Nat.mul_assoc]
 rw [e]
 generalize A * 10 ^ j = x
 have hd := Nat.div_add_mod x B
 have e2 : x * 10 = x % B * 10 + B * (x / B * 10) := by
  conv => lhs; rw [← hd]
  rw [Nat.add_mul, Nat.mul_assoc]; omega
 constructor
 ·conv => lhs; rw [e2]
  rw [Nat.add_mul_div_left _ _ hB]; omega
 ·conv => lhs; rw [e2]
  rw [Nat.add_mul_mod_self_left]
theorem qSP (w Q q : Nat) (hq : q < 10) : yU (w + 1) (Q * 10 + q) = yU w Q ++ [UInt8.ofNat (48 + q)] := by
 refine qOU _ _ (by simp [kO]) (uN _ _) ?_ ?_
 ·rw [List.all_append, uN]
  simp only [List.all_cons, List.all_nil, Bool.and_true, Bool.true_and]
  rw [zS, vI hq]; omega
 ·rw [vQ, uM, uM, vI hq, Nat.pow_succ, show 48 + q - 48 = q by omega]
  have h1 : (Q * 10 + q) % 10 = q := by omega
  have h2 : (Q * 10 + q) / 10 = Q := by omega
  rw [Nat.mul_comm (10 ^ w) 10, Nat.mod_mul, h1, h2]; omega
def ndg (Q : Nat) : Nat := (qR (Lib.decDigits Q)).length
theorem zBU {s : List UInt8} (h : s.all qG = true) : (qR s).length = ndg (qK s) := by
 unfold ndg; rw [qWW h (qIW (qK s)) (qOY _).symm]
theorem zKR (Q k : Nat) : ndg Q ≤ k ↔ Q < 10 ^ k := by
 unfold ndg
 have ha := xR (qIW Q)
 have hv : qK (qR (Lib.decDigits Q)) = Q := by rw [vR, qOY]
 have hh := vT (Lib.decDigits Q)
 have h1 := kI ha
 generalize qR (Lib.decDigits Q) = s at *
 rw [hv] at h1
 constructor
 ·intro h
  exact Nat.lt_of_lt_of_le h1 (Nat.pow_le_pow_right (by decide) h)
 ·intro h
  apply Nat.le_of_not_lt
  intro hk
  have h2 := uG ha (by omega) (hh (by omega))
  rw [hv] at h2
  have : 10 ^ k ≤ 10 ^ (s.length - 1) := Nat.pow_le_pow_right (by decide) (by omega)
  omega
def qGL (A B j : Nat) : Bool := decide (qEQ A B j ≠ 0) && decide (ndg (qEH A B j) ≤ 34)
def qVF (A B : Nat) : Nat → Nat → Nat
 | 0, j => j
 | f + 1, j => if qGL A B j = true then qVF A B f (j + 1) else j
theorem qVE {A B : Nat} : ∀ (f j J : Nat), (∀ i, j ≤ i → i < J → qGL A B i = true) → j ≤ J → J ≤ j + f → qGL A B J = false → qVF A B f j = J
 | 0, j, J, _, h1, h2, _ => by simp only [qVF]; omega
 | f + 1, j, J, h, h1, h2, h3 => by
  simp only [qVF]
  by_cases e : j = J
  ·subst e; rw [h3]; simp
  ·rw [if_pos (h j (Nat.le_refl _) (by omega))]
   exact qVE f (j + 1) J (fun i hi => h i (by omega)) (by omega) (by omega) h3
theorem zKW {A B j : Nat} (hB0 : 0 < B) (hB : B < 10 ^ 60) (h : qGL A B j = true) : j < 100 := by
 simp only [qGL, Bool.and_eq_true, decide_eq_true_eq] at h
 obtain ⟨h1, h2⟩ := h
 rw [zKR] at h2
 apply Nat.lt_of_not_le
 intro hj
 have hA : 0 < A := by
  rcases Nat.eq_zero_or_pos A with e | e
  ·subst e; simp [qEQ] at h1
  ·exact e
 have h3 : 10 ^ 94 ≤ 10 ^ j := Nat.pow_le_pow_right (by decide) (by omega)
 have h4 : 10 ^ 94 ≤ A * 10 ^ j := Nat.le_trans h3 (Nat.le_mul_of_pos_left _ hA)
 have h5 : 10 ^ 34 ≤ qEH A B j := by
  unfold qEH
  rw [Nat.le_div_iff_mul_le hB0]
  refine Nat.le_trans (Nat.mul_le_mul_left _ (Nat.le_of_lt hB)) ?_
  rw [← Nat.pow_add]
  exact h4
 omega
def qBE (Q : Nat) (m : Bool) : Nat × Nat :=
 if ndg Q ≤ 34 then (Q, 0)
 else (if 5 < Q / 10 ^ (ndg Q - 35) % 10 ∨ (Q / 10 ^ (ndg Q - 35) % 10 = 5 ∧ (m = true ∨ Q % 10 ^ (ndg Q - 35) ≠ 0 ∨ Q / 10 ^ (ndg Q - 34) % 2 = 1)) then Q / 10 ^ (ndg Q - 34) + 1 else Q / 10 ^ (ndg Q - 34), ndg Q - 34)
def qZD (A B : Nat) : Nat × Int := ((qBE (qEH A B (qVF A B 100 0)) (decide (qEQ A B (qVF A B 100 0) ≠ 0))).1, (qVF A B 100 0 : Int) - (qBE (qEH A B (qVF A B 100 0)) (decide (qEQ A B (qVF A B 100 0) ≠ 0))).2)
def qIV (a b : Dc) : Dc × Int := if b.digits = [48] then (dc0, 5) else qIE (a.neg != b.neg) (qZD (qK a.digits) (qK b.digits)).1 (a.scale - b.scale + (qZD (qK a.digits) (qK b.digits)).2)
def qIG (a b : Dc) : Dc × Int := if b.digits = [48] then (dc0, 5) else jD a.neg (qK (wX a (qY a b)) % qK (wX b (qY a b))) (qY a b).toNat
theorem zAT (k : Nat) : qK (List.replicate k 57) + 1 = 10 ^ k := by
 induction k with
 | zero => rfl
 | succ k ih =>
  rw [List.replicate_succ, yL, List.length_replicate, Nat.pow_succ]
  have : (57 : UInt8).toNat - 48 = 9 := rfl
  rw [this]; omega
theorem zIE {H : List UInt8} {n k : Nat} {b : UInt8} (hn : n + 1 + k = H.length) (hb : H[n]? = some b) (hd : qG b = true) (h9 : b ≠ 57) (hk : ∀ j, n < j → j < H.length → H[j]? = some 57) :
  qK (H.take n ++ (UInt8.ofNat (b.toNat + 1)) :: List.replicate k 48) = qK H + 1 := by
 have hn' : n < H.length := by omega
 have hdrop : H.drop (n + 1) = List.replicate k 57 := by
  rw [List.eq_replicate_iff]
  refine ⟨by simp; omega, fun x hx => ?_⟩
  obtain ⟨j, hj⟩ := List.mem_iff_getElem?.1 hx
  rw [List.getElem?_drop] at hj
  have hl := (List.getElem?_eq_some_iff.1 hj).1
  rw [hk (n + 1 + j) (by omega) hl] at hj
  cases hj; rfl
 have hH : H = H.take n ++ b :: List.replicate k 57 := by
  rw [← hdrop]
  have : b :: H.drop (n + 1) = H.drop n := by
   rw [List.drop_eq_getElem_cons hn']
   congr 1
   rw [List.getElem?_eq_getElem hn'] at hb
   cases hb; rfl
  rw [this, List.take_append_drop]
 have hbr := (zS b).1 hd
 have hb57 : b.toNat ≠ 57 := fun e => h9 (UInt8.toNat_inj.1 e)
 have hbn : (UInt8.ofNat (b.toNat + 1)).toNat = b.toNat + 1 := by rw [UInt8.toNat_ofNat']; omega
 conv => rhs; rw [hH]
 rw [wN, wN, yL, yL, hbn, xG]
 simp only [List.length_cons, List.length_replicate]
 have := zAT k
 rw [show b.toNat + 1 - 48 = b.toNat - 48 + 1 by omega, Nat.add_mul]
 omega
end Go.Proofs.YtdojfdaglbphlaaGreatDoor
