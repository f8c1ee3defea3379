import Derived.Test.YtdlejiiiifhiiaaGreatDoorM3
/-
  PLAIN: masks (64 bits) as numbers.
-/
namespace Go.Proofs.YtdlejiiiifhiiaaGreatDoor
open Sy Go
set_option linter.unusedSimpArgs false
set_option linter.unusedVariables false
def InM (a : Int) : Prop := 0 ≤ a ∧ a < 18446744073709551616
def natM (a : Int) : Nat := (a % 18446744073709551616).toNat
theorem natM_lt (a : Int) : natM a < 2 ^ 64 := by unfold natM; omega
theorem natM_of {a : Int} (h : InM a) : ((natM a : Nat) : Int) = a := by unfold natM; unfold InM at h; omega
theorem natM_cast {n : Nat} (h : n < 2 ^ 64) : natM n = n := by unfold natM; omega
theorem inM_cast {n : Nat} (h : n < 2 ^ 64) : InM n := by unfold InM; omega
def orM (a b : Int) : Int := ((natM a ||| natM b : Nat) : Int)
def andM (a b : Int) : Int := ((natM a &&& natM b : Nat) : Int)
def subM (a b : Int) : Int := ((natM a &&& (18446744073709551615 - natM b) : Nat) : Int)
theorem or_lt (a b : Int) : natM a ||| natM b < 2 ^ 64 := Nat.or_lt_two_pow (natM_lt a) (natM_lt b)
theorem and_lt (a b : Int) : natM a &&& natM b < 2 ^ 64 := Nat.and_lt_two_pow _ (natM_lt b)
theorem sub_lt (a b : Int) : natM a &&& (18446744073709551615 - natM b) < 2 ^ 64 := Nat.and_lt_two_pow _ (by omega)
theorem or_in (a b : Int) : InM (orM a b) := inM_cast (or_lt a b)
theorem natM_or (a b : Int) : natM (orM a b) = natM a ||| natM b := natM_cast (or_lt a b)
theorem natM_and (a b : Int) : natM (andM a b) = natM a &&& natM b := natM_cast (and_lt a b)
theorem natM_sub (a b : Int) : natM (subM a b) = natM a &&& (18446744073709551615 - natM b) := natM_cast (sub_lt a b)
theorem wrap_nat {n : Nat} (h : n < 2 ^ 64) : IntKind.u64.wrap (n : Int) = n := by simp [IntKind.wrap, IntKind.bits, IntKind.signed]; omega
theorem or_wrap (a b : Int) : IntKind.u64.wrap (((a % 2 ^ IntKind.u64.bits).toNat ||| (b % 2 ^ IntKind.u64.bits).toNat : Nat) : Int) = orM a b := wrap_nat (or_lt a b)
theorem and_wrap (a b : Int) : IntKind.u64.wrap (((a % 2 ^ IntKind.u64.bits).toNat &&& (b % 2 ^ IntKind.u64.bits).toNat : Nat) : Int) = andM a b := wrap_nat (and_lt a b)
theorem sub_wrap (a b : Int) : IntKind.u64.wrap (((a % 2 ^ IntKind.u64.bits).toNat &&& (2 ^ IntKind.u64.bits - 1 - (b % 2 ^ IntKind.u64.bits).toNat) : Nat) : Int) = subM a b := wrap_nat (sub_lt a b)
theorem or_comm (a b : Int) : orM a b = orM b a := by unfold orM; rw [Nat.or_comm]
theorem or_assoc (a b c : Int) : orM (orM a b) c = orM a (orM b c) := by
  show ((natM (orM a b) ||| natM c : Nat) : Int) = ((natM a ||| natM (orM b c) : Nat) : Int)
  rw [natM_or, natM_or, Nat.or_assoc]
theorem or_self {a : Int} (h : InM a) : orM a a = a := by unfold orM; rw [Nat.or_self, natM_of h]
theorem or_zero {a : Int} (h : InM a) : orM a 0 = a := by unfold orM; rw [show natM 0 = 0 from rfl, Nat.or_zero, natM_of h]
theorem zero_or {a : Int} (h : InM a) : orM 0 a = a := by rw [or_comm, or_zero h]
theorem or_or_self (a b : Int) : orM (orM a b) b = orM a b := by
  rw [or_assoc]; unfold orM; rw [natM_cast (or_lt b b), Nat.or_self]
theorem or_eq_zero {a b : Int} (ha : InM a) (h : orM a b = 0) : a = 0 := by
  unfold orM at h
  have h1 : natM a ||| natM b = 0 := by omega
  have h2 : natM a ≤ natM a ||| natM b := Nat.left_le_or
  have := natM_of ha
  omega
/-- The bits of one are in the other. -/
def LeM (a b : Int) : Prop := orM a b = b
theorem LeM.or_left (a b : Int) : LeM a (orM a b) := by
  unfold LeM; rw [← or_assoc]
  unfold orM; rw [natM_cast (or_lt a a), Nat.or_self]
theorem LeM.or_right (a b : Int) : LeM b (orM a b) := by rw [or_comm]; exact .or_left b a
theorem LeM.trans {a b c : Int} (h1 : LeM a b) (h2 : LeM b c) : LeM a c := by
  unfold LeM at *; rw [← h2, ← or_assoc, h1]
theorem LeM.or {a b c : Int} (h1 : LeM a c) (h2 : LeM b c) : LeM (orM a b) c := by
  unfold LeM at *; rw [or_assoc, h2, h1]
theorem LeM.refl {a : Int} (h : InM a) : LeM a a := or_self h
theorem LeM.and {a b : Int} (h : LeM a b) (ha : InM a) : andM b a = a := by
  unfold LeM at h
  have h1 : natM a ||| natM b = natM b := by rw [← natM_or, h]
  unfold andM
  have : natM b &&& natM a = natM a := by
    rw [← h1]
    apply Nat.eq_of_testBit_eq; intro i
    simp only [Nat.testBit_and, Nat.testBit_or]
    cases (natM a).testBit i <;> cases (natM b).testBit i <;> rfl
  rw [this, natM_of ha]
theorem LeM.and' {a b : Int} (h : LeM a b) (ha : InM a) : andM a b = a := by
  have := h.and ha
  unfold andM at *; rw [Nat.and_comm]; exact this
theorem LeM.sub {a b : Int} (h : LeM a b) : subM a b = 0 := by
  unfold LeM at h
  have h1 : natM a ||| natM b = natM b := by rw [← natM_or, h]
  have hb := natM_lt b
  unfold subM
  have : natM a &&& (18446744073709551615 - natM b) = 0 := by
    apply Nat.eq_of_testBit_eq; intro i
    rw [show 18446744073709551615 - natM b = 2 ^ 64 - (natM b + 1) by omega]
    simp only [Nat.testBit_and, Nat.testBit_two_pow_sub_succ hb, Nat.zero_testBit]
    have h3 : (natM a ||| natM b).testBit i = (natM b).testBit i := by rw [h1]
    rw [Nat.testBit_or] at h3
    revert h3
    cases (natM a).testBit i <;> cases (natM b).testBit i <;> simp
  rw [this]; rfl
end Go.Proofs.YtdlejiiiifhiiaaGreatDoor
