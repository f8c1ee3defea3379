import Derived.Test.YtdojfdaglbphlaaGreatDoorSDecAddF
import Derived.Test.YtdojfdaglbphlaaGreatDoorK2
import Derived.Test.YtdojfdaglbphlaaGreatDoorSDivM
namespace Go.Proofs.YtdojfdaglbphlaaGreatDoor
open Sy Go
set_option maxRecDepth 100000
set_option linter.unusedSimpArgs false
set_option linter.unusedVariables false
theorem qOE : ∀ (k : Nat) (d : List UInt8), qJ (wB d k).1 * 10 ^ (k - (wB d k).2) = qJ d ∧ (wB d k).2 ≤ k
 | 0, d => by simp [wB]
 | k + 1, d => by
  simp only [wB]
  split
  ·rename_i h
   obtain ⟨h1, h2⟩ := qOE k d.dropLast
   have hd : d = d.dropLast ++ [48] := by
    obtain ⟨hne, hl⟩ : ∃ hne : d ≠ [], d.getLast hne = 48 := by
     cases d with
     | nil => simp at h
     | cons a t => exact ⟨by simp, by rw [List.getLast?_eq_some_getLast (by simp)] at h; exact Option.some.inj h⟩
    conv => lhs; rw [← List.dropLast_concat_getLast hne, hl]
   refine ⟨?_, by omega⟩
   conv => rhs; rw [hd, xV, ← h1]
   rw [show k + 1 - (wB d.dropLast k).2 = (k - (wB d.dropLast k).2) + 1 by omega, Nat.pow_succ, ← Nat.mul_assoc]; rfl
  ·simp
theorem qFL (neg : Bool) (v sc : Nat) : (yA neg v sc).2 = 0 ∨ (yA neg v sc).2 = 3 := by
 unfold yA wD; simp only; split
 ·exact .inl rfl
 ·split
  ·exact .inr rfl
  ·exact .inl rfl
theorem normV_ok {neg : Bool} {v sc : Nat} {d : Dc} (h : yA neg v sc = (d, 0)) : zC d = true ∧ d.scale.toNat ≤ sc ∧ qJ d.digits * 10 ^ (sc - d.scale.toNat) = v ∧ (v ≠ 0 → d.neg = neg) ∧ (v = 0 → d.neg = false) := by
 have hm : zC d = true := by
  have := NormM_may (neg := neg) (scale := sc) (qBN v) (by show (yA neg v sc).2 = 0; rw [h])
  have e : (wD neg (Lib.decDigits v) sc).1 = d := by show (yA neg v sc).1 = d; rw [h]
  rwa [e] at this
 refine ⟨hm, ?_⟩
 obtain ⟨h1, h2⟩ := qOE sc (qL (Lib.decDigits v))
 rw [kV, uT] at h1
 unfold yA wD at h
 simp only at h
 generalize wB (qL (Lib.decDigits v)) sc = x at *
 split at h
 ·rename_i hx
  cases h
  rw [hx] at h1
  simp [qJ] at h1
  subst h1
  exact ⟨by simp, by simp [qJ], by simp, by simp⟩
 ·rename_i hx
  split at h
  ·cases h
  ·cases h
   simp only at hm ⊢
   refine ⟨by simpa using h2, by simpa using h1, by simp, fun h0 => ?_⟩
   rw [h0] at h1
   have hz : qJ x.1 = 0 := by
    rcases Nat.mul_eq_zero.1 h1 with e | e
    ·exact e
    ·have := Nat.pow_pos (n := sc - x.2) (show 0 < 10 by decide); omega
   rcases uB hm with ⟨_, _, e⟩ | ⟨e, _⟩
   ·exact e
   ·have := xD (zN hm).1.2.2.2 (List.length_pos_iff.2 hx) e
    have := Nat.pow_pos (n := x.1.length - 1) (show 0 < 10 by decide)
    simp only at *; omega
theorem qOF (d : List UInt8) (sc : Nat) : ∀ k, wB (d ++ List.replicate k 48) (sc + k) = wB d sc
 | 0 => by simp
 | k + 1 => by
  rw [show sc + (k + 1) = (sc + k) + 1 by omega]
  simp only [wB]
  have e : d ++ List.replicate (k + 1) 48 = (d ++ List.replicate k 48) ++ [48] := by rw [List.replicate_succ', List.append_assoc]
  rw [e, if_pos (by simp), List.dropLast_concat]
  exact qOF d sc k
theorem trail_nil : ∀ k, wB [] k = ([], k) ∨ wB [] k = ([], 0)
 | 0 => .inr rfl
 | k + 1 => by simp [wB]
theorem qCA (neg : Bool) (sc : Nat) : yA neg 0 sc = (⟨false, [48], 0⟩, 0) := by
 have e : qL (Lib.decDigits 0) = [] := by
  rw [qKM (y := []) (qBN 0) (by simp) (by rw [uT]; rfl)]; rfl
 unfold yA wD
 rw [e]
 simp only
 rw [if_pos (by rcases trail_nil sc with h | h <;> rw [h])]
theorem qJB (neg : Bool) (v sc k : Nat) : yA neg (v * 10 ^ k) (sc + k) = yA neg v sc := by
 by_cases hv : v = 0
 ·subst hv; rw [Nat.zero_mul, qCA, qCA]
 ·have hd := kZ (qBN v) k
  rw [show v * 10 ^ k = qJ (Lib.decDigits v ++ List.replicate k 48) by rw [uF, uT], ← qGQ neg hd]
  show wD neg (Lib.decDigits v ++ List.replicate k 48) (sc + k) = wD neg (Lib.decDigits v) sc
  have hne : qL (Lib.decDigits v) ≠ [] := by
   intro e
   have := kV (Lib.decDigits v)
   rw [e, uT] at this
   exact hv this.symm
  have e : qL (Lib.decDigits v ++ List.replicate k 48) = qL (Lib.decDigits v) ++ List.replicate k 48 := by
   unfold qL at hne ⊢
   rw [List.dropWhile_append, if_neg (by simpa using hne)]
  unfold wD
  rw [e, qOF]
def qGR (z : Int) (sc : Nat) : Dc × Int := yA (decide (z < 0)) z.natAbs sc
theorem qUM (z : Int) (sc k : Nat) : qGR (z * 10 ^ k) (sc + k) = qGR z sc := by
 unfold qGR
 have hp : (0 : Int) < 10 ^ k := Int.pow_pos (by decide)
 have e1 : (z * 10 ^ k).natAbs = z.natAbs * 10 ^ k := by rw [Int.natAbs_mul, Int.natAbs_pow]; rfl
 have e2 : decide (z * 10 ^ k < 0) = decide (z < 0) := by
  rw [decide_eq_decide]
  constructor
  ·intro h
   apply Int.lt_of_not_ge
   intro h0
   have := Int.mul_nonneg h0 (Int.le_of_lt hp)
   omega
  ·intro h
   exact Int.mul_neg_of_neg_of_pos h hp
 rw [e1, e2, qJB]
def zV (d : Dc) (M : Int) : Int := if d.neg = true then - ((qJ d.digits * 10 ^ (M - d.scale).toNat : Nat) : Int) else ((qJ d.digits * 10 ^ (M - d.scale).toNat : Nat) : Int)
theorem qQN {d : Dc} (h : zC d = true) (M : Int) : decide (zV d M < 0) = d.neg := by
 have hp : 0 < 10 ^ (M - d.scale).toNat := Nat.pow_pos (by decide)
 unfold zV
 by_cases hn : d.neg = true
 ·have hv : 0 < qJ d.digits := by
   rcases uB h with ⟨_, _, e⟩ | ⟨e, _⟩
   ·rw [hn] at e; cases e
   ·obtain ⟨⟨_, _, _, h4⟩, _, _⟩ := zN h
    have hl : 0 < d.digits.length := by
     unfold zC at h; simp only [Bool.and_eq_true, decide_eq_true_eq] at h; omega
    have := xD h4 hl e
    have := Nat.pow_pos (n := d.digits.length - 1) (show 0 < 10 by decide)
    omega
  have := Nat.mul_pos hv hp
  rw [if_pos hn, hn]; simp only [decide_eq_true_eq]; omega
 ·rw [if_neg hn]
  have : d.neg = false := by simpa using hn
  rw [this]; simp only [decide_eq_false_iff_not]; omega
theorem zV_abs (d : Dc) (M : Int) : (zV d M).natAbs = qJ d.digits * 10 ^ (M - d.scale).toNat := by unfold zV; split <;> omega
theorem norm_self {a : Dc} (ha : zC a = true) {M : Int} (h : a.scale ≤ M) : qGR (zV a M) M.toNat = (a, 0) := by
 obtain ⟨⟨_, h2, _, h4⟩, _, _⟩ := zN ha
 unfold qGR
 rw [qQN ha, zV_abs, show M.toNat = a.scale.toNat + (M - a.scale).toNat by omega, qJB, ← qGQ a.neg h4]
 exact norm_back ha 0
theorem zV_of {z : Int} {sc : Nat} {d : Dc} (h : qGR z sc = (d, 0)) : zC d = true ∧ d.scale ≤ sc ∧ zV d sc = z := by
 obtain ⟨h1, h2, h3, h4, h5⟩ := normV_ok h
 obtain ⟨⟨_, h6, _, _⟩, _, _⟩ := zN h1
 refine ⟨h1, by omega, ?_⟩
 unfold zV
 rw [show ((sc : Int) - d.scale).toNat = sc - d.scale.toNat by omega, h3]
 by_cases h0 : z.natAbs = 0
 ·rw [h5 h0, h0]; simp; omega
 ·rw [h4 h0]
  by_cases hz : z < 0
  ·simp [hz]; omega
  ·simp [hz]; omega
theorem qGB (d : Dc) {M N : Int} (h1 : d.scale ≤ M) (h2 : M ≤ N) : zV d N = zV d M * 10 ^ (N - M).toNat := by
 unfold zV
 have e : (N - d.scale).toNat = (M - d.scale).toNat + (N - M).toNat := by omega
 rw [e, Nat.pow_add, ← Nat.mul_assoc]
 generalize qJ d.digits * 10 ^ (M - d.scale).toNat = x
 generalize (N - M).toNat = k
 split
 ·rw [Int.neg_mul]; simp
 ·simp
theorem qXS (a b : Dc) : a.scale ≤ qU a b ∧ b.scale ≤ qU a b ∧ (qU a b = a.scale ∨ qU a b = b.scale) := by unfold qU; split <;> omega
theorem qYX {a b : Dc} (ha : zC a = true) (hb : zC b = true) : qEH a b = qGR (zV a (qU a b) + zV b (qU a b)) (qU a b).toNat := by
 have hx : qKF a b = qJ a.digits * 10 ^ (qU a b - a.scale).toNat := uF _ _
 have hy : qKE a b = qJ b.digits * 10 ^ (qU a b - b.scale).toNat := uF _ _
 have na := qQN ha (qU a b)
 have nb := qQN hb (qU a b)
 unfold qEH qGR
 unfold zV at na nb ⊢
 rw [← hx] at na ⊢
 rw [← hy] at nb ⊢
 generalize qKF a b = x at *
 generalize qKE a b = y at *
 generalize (qU a b).toNat = M
 cases h1 : a.neg <;> cases h2 : b.neg <;> simp only [h1, h2] at na nb ⊢ <;> simp at na nb ⊢
 ·have e : ¬ ((x : Int) + y < 0) := by omega
  have e3 : ((x : Int) + y).natAbs = x + y := by omega
  simp [e, e3]
 ·split
  ·have e : ¬ ((x : Int) + -y < 0) := by omega
   have e3 : ((x : Int) + -y).natAbs = x - y := by omega
   simp [e, e3]
  ·have e : ((x : Int) + -y < 0) := by omega
   have e3 : ((x : Int) + -y).natAbs = y - x := by omega
   simp [e, e3]
 ·by_cases hxy : y ≤ x
  ·rw [if_pos hxy]
   by_cases he : x = y
   ·subst he
    have e : ¬ (-(x : Int) + x < 0) := by omega
    have e3 : (-(x : Int) + x).natAbs = 0 := by omega
    rw [Nat.sub_self, e3, qCA, qCA]
   ·have e : (-(x : Int) + y < 0) := by omega
    have e3 : (-(x : Int) + y).natAbs = x - y := by omega
    simp [e, e3]
  ·rw [if_neg hxy]
   have e : ¬ (-(x : Int) + y < 0) := by omega
   have e3 : (-(x : Int) + y).natAbs = y - x := by omega
   simp [e, e3]
 ·have e3 : (-(x : Int) + -y).natAbs = x + y := by omega
  rw [e3]
  have e : (-(x : Int) + -y < 0) := by omega
  simp [e]
theorem negD_may {b : Dc} (hb : zC b = true) : zC (qNG b) = true := by
 unfold zC qNG at *
 simp only at *
 by_cases h : b.digits = [48]
 ·simp [h] at hb ⊢; exact ⟨hb.1, hb.2.1⟩
 ·simp [h] at hb ⊢; exact hb
theorem zV_negD {b : Dc} (hb : zC b = true) (M : Int) : zV (qNG b) M = - zV b M := by
 unfold zV qNG
 simp only
 by_cases h : b.digits = [48]
 ·have : qJ b.digits = 0 := by rw [h]; rfl
  simp [this]
 ·cases hn : b.neg <;> simp [h]
theorem subD_z {a b : Dc} (ha : zC a = true) (hb : zC b = true) : qCZ a b = qGR (zV a (qU a b) - zV b (qU a b)) (qU a b).toNat := by
 unfold qCZ
 rw [qYX ha (negD_may hb), show qU a (qNG b) = qU a b from rfl, zV_negD hb, Int.sub_eq_add_neg]
theorem add_back {a b d : Dc} (ha : zC a = true) (hb : zC b = true) (h : qEH a b = (d, 0)) : zC d = true ∧ qCZ d b = (a, 0) := by
 rw [qYX ha hb] at h
 obtain ⟨h1, h2, h3⟩ := zV_of h
 obtain ⟨m1, m2, m3⟩ := qXS a b
 obtain ⟨n1, n2, n3⟩ := qXS d b
 obtain ⟨⟨_, sa, _, _⟩, _, _⟩ := zN ha
 obtain ⟨⟨_, sb, _, _⟩, _, _⟩ := zN hb
 obtain ⟨⟨_, sd, _, _⟩, _, _⟩ := zN h1
 refine ⟨h1, ?_⟩
 have hM : (((qU a b).toNat : Nat) : Int) = qU a b := by omega
 rw [hM] at h2 h3
 have hle : qU d b ≤ qU a b := by omega
 rw [subD_z h1 hb]
 rw [← qUM _ _ (qU a b - qU d b).toNat, Int.sub_mul, ← qGB d n1 hle, ← qGB b n2 hle, h3, show zV a (qU a b) + zV b (qU a b) - zV b (qU a b) = zV a (qU a b) by omega,
  show (qU d b).toNat + (qU a b - qU d b).toNat = (qU a b).toNat by omega]
 exact norm_self ha m1
theorem qD_z {d : Dc} (h : zC d = true) : qD d = zV d 60 := by
 obtain ⟨⟨_, h2, _, _⟩, _, h6⟩ := zN h
 unfold qD zV qN
 rw [show ((60 : Int) - d.scale).toNat = 60 - d.scale.toNat by omega]
theorem sub_neg {a b d : Dc} (ha : zC a = true) (hb : zC b = true) (h : qCZ a b = (d, 0)) : d.neg = decide (qAA a b < 0) := by
 rw [subD_z ha hb] at h
 obtain ⟨h1, h2, h3⟩ := zV_of h
 obtain ⟨m1, m2, m3⟩ := qXS a b
 obtain ⟨⟨_, sa, _, _⟩, _, a6⟩ := zN ha
 obtain ⟨⟨_, sb, _, _⟩, _, b6⟩ := zN hb
 rw [← qQN h1 ((qU a b).toNat : Nat), h3, cmpD_spec ha hb, qD_z ha, qD_z hb]
 have e : zV a 60 - zV b 60 = (zV a (qU a b) - zV b (qU a b)) * 10 ^ (60 - qU a b).toNat := by
  rw [Int.sub_mul, ← qGB a m1 (by omega), ← qGB b m2 (by omega)]
 rw [e, qZL (Int.pow_pos (by decide))]
 rw [decide_eq_decide]
 unfold sgn
 split
 ·simp [*]
 ·split <;> simp <;> omega
theorem addD_code {a b : Dc} (ha : zC a = true) (hb : zC b = true) : (qEH a b).2 = 0 ∨ (qEH a b).2 = 3 := by rw [qYX ha hb]; exact qFL _ _ _
theorem qXM (neg : Bool) (v : Nat) (sc : Int) : (qGS neg v sc).2 = 0 ∨ (qGS neg v sc).2 = 3 := by unfold qGS; split <;> exact qFL _ _ _
end Go.Proofs.YtdojfdaglbphlaaGreatDoor
