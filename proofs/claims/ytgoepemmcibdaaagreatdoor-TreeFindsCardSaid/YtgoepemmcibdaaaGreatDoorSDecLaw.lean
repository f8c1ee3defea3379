import Derived.Test.YtgoepemmcibdaaaGreatDoorSDecCmp
/-
  A PLAIN LAW: the order of decimals.
-/
namespace Go.Proofs.YtgoepemmcibdaaaGreatDoor
open Sy Go
set_option linter.unusedSimpArgs false
set_option linter.unusedVariables false
theorem dcMay_ok {d : Dc} (h : dcMay d = true) : okD d ∧ d.digits.length ≤ 60 ∧ d.scale ≤ 60 := by
  unfold dcMay at h
  simp only [Bool.and_eq_true, decide_eq_true_eq] at h
  obtain ⟨⟨h1, h2⟩, _⟩ := h
  exact ⟨⟨by omega, by omega, by omega, h1⟩, by omega, by omega⟩
/-- The value of a decimal, times 10 ^ 60. -/
def qN (d : Dc) : Nat := valD d.digits * 10 ^ (60 - d.scale.toNat)
def qD (d : Dc) : Int := if d.neg = true then - (qN d : Int) else qN d
theorem sgn_mul {a : Int} {k : Int} (hk : 0 < k) : sgn (a * k) = sgn a := by
  unfold sgn
  by_cases h1 : a < 0
  · rw [if_pos h1, if_pos (Int.mul_neg_of_neg_of_pos h1 hk)]
  · rw [if_neg h1]
    by_cases h2 : a = 0
    · subst h2; simp
    · have := Int.mul_pos (show 0 < a by omega) hk
      rw [if_neg h2, if_neg (by omega), if_neg (by omega)]
theorem raw_spec {a b : Dc} (ha : dcMay a = true) (hb : dcMay b = true) : sgn (rawCmp a b) = sgn ((qN a : Int) - qN b) := by
  obtain ⟨⟨a1, a2, a3, a4⟩, a5, a6⟩ := dcMay_ok ha
  obtain ⟨⟨b1, b2, b3, b4⟩, b5, b6⟩ := dcMay_ok hb
  have hm1 : a.scale ≤ maxS a b := by unfold maxS; split <;> omega
  have hm2 : b.scale ≤ maxS a b := by unfold maxS; split <;> omega
  have hm3 : maxS a b ≤ 60 := by unfold maxS; split <;> omega
  unfold rawCmp padD
  rw [natCmp_spec (natL_can (dig_pad a4 _)) (natL_can (dig_pad b4 _)), natL_val (dig_pad a4 _), natL_val (dig_pad b4 _), valD_pad, valD_pad]
  have ea : (qN a : Int) = ((valD a.digits * 10 ^ (maxS a b - a.scale).toNat : Nat) : Int) * ((10 ^ (60 - (maxS a b).toNat) : Nat) : Int) := by
    rw [← Int.natCast_mul, Nat.mul_assoc, ← Nat.pow_add, show (maxS a b - a.scale).toNat + (60 - (maxS a b).toNat) = 60 - a.scale.toNat by omega]; rfl
  have eb : (qN b : Int) = ((valD b.digits * 10 ^ (maxS a b - b.scale).toNat : Nat) : Int) * ((10 ^ (60 - (maxS a b).toNat) : Nat) : Int) := by
    rw [← Int.natCast_mul, Nat.mul_assoc, ← Nat.pow_add, show (maxS a b - b.scale).toNat + (60 - (maxS a b).toNat) = 60 - b.scale.toNat by omega]; rfl
  rw [ea, eb, ← Int.sub_mul, sgn_mul (by have := Nat.pow_pos (n := 60 - (maxS a b).toNat) (show 0 < 10 by omega); omega)]
theorem sgn_neg (n : Int) : sgn (- n) = - sgn n := by unfold sgn; split <;> split <;> (try split) <;> omega
theorem valD_pos {s : List UInt8} (hd : s.all isDig = true) (hl : 0 < s.length) (h : byteAt s 0 ≠ 48) : 10 ^ (s.length - 1) ≤ valD s := by
  cases s with
  | nil => simp at hl
  | cons b s =>
    simp only [List.all_cons, Bool.and_eq_true] at hd
    have h1 := (isDig_iff b).1 hd.1
    have h2 : b.toNat ≠ 48 := by simp [byteAt] at h; omega
    rw [valD_cons]
    have := Nat.mul_le_mul_right (10 ^ s.length) (show 1 ≤ b.toNat - 48 by omega)
    simp; omega
theorem qN_zero {d : Dc} (h : dcMay d = true) (h0 : qN d = 0) : d.neg = false := by
  have hk := dcMay_ok h
  unfold dcMay at h
  simp only [Bool.and_eq_true, decide_eq_true_eq] at h
  obtain ⟨⟨h1, h2⟩, h3⟩ := h
  by_cases hz : d.digits = [48]
  · rw [if_pos hz] at h3; simp at h3; exact h3.2
  · rw [if_neg hz] at h3
    simp at h3
    have := valD_pos h1 (by omega) h3.1
    have hp := Nat.pow_pos (n := d.digits.length - 1) (show 0 < 10 by omega)
    have hq : 0 < qN d := Nat.mul_pos (by omega) (Nat.pow_pos (by omega))
    omega
theorem cmpD_spec {a b : Dc} (ha : dcMay a = true) (hb : dcMay b = true) : cmpD a b = sgn (qD a - qD b) := by
  have hr := raw_spec ha hb
  unfold cmpD
  by_cases h : a.neg = b.neg
  · rw [if_pos h]
    unfold qD
    rw [← h]
    split
    · rw [sgn_neg, hr, ← sgn_neg]; congr 1; omega
    · exact hr
  · rw [if_neg h]
    have hz1 := fun h0 => qN_zero ha h0
    have hz2 := fun h0 => qN_zero hb h0
    unfold qD
    cases hna : a.neg with
    | true =>
      have hnb : b.neg = false := by rw [hna] at h; simpa using h
      have : qN a ≠ 0 := fun e => by have := hz1 e; rw [hna] at this; cases this
      rw [hnb]; simp [sgn]; omega
    | false =>
      have hnb : b.neg = true := by rw [hna] at h; simpa using h
      have : qN b ≠ 0 := fun e => by have := hz2 e; rw [hnb] at this; cases this
      rw [hnb]; simp [sgn]; omega
end Go.Proofs.YtgoepemmcibdaaaGreatDoor
