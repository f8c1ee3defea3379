import Derived.Test.YtcbipkbdagkehaaGreatDoorK1
import Derived.Test.YtcbipkbdagkehaaGreatDoorSBuild
import Derived.Test.YtcbipkbdagkehaaGreatDoorSDecode
import Derived.Test.YtcbipkbdagkehaaGreatDoorK2
namespace Go.Proofs.YtcbipkbdagkehaaGreatDoor
open Sy Go
set_option maxRecDepth 100000
set_option maxHeartbeats 4000000
set_option linter.unusedSimpArgs false
set_option linter.unusedVariables false
variable {G : Glob}
theorem hexV_lt {c : UInt8} {n : Nat} (h : hexV c = some n) : n < 16 := by
 unfold hexV at h
 have h0 := c.toNat_lt
 split at h
 ·rename_i h1; cases h; rw [UInt8.le_iff_toNat_le, UInt8.le_iff_toNat_le] at h1; simp at h1; omega
 ·split at h
  ·rename_i h1; cases h; rw [UInt8.le_iff_toNat_le, UInt8.le_iff_toNat_le] at h1; simp at h1; omega
  ·split at h
   ·rename_i h1; cases h; rw [UInt8.le_iff_toNat_le, UInt8.le_iff_toNat_le] at h1; simp at h1; omega
   ·cases h
def escS : List UInt8 := [34, 92, 47, 98, 102, 110, 114, 116]
def escV : List UInt8 := [34, 92, 47, 8, 12, 10, 13, 9]
theorem esc_all : ∀ k : Fin 256, if (escT (UInt8.ofNat k.val)).isSome = true then 0 ≤ Lib.indexByte escS (UInt8.ofNat k.val) ∧ (Lib.indexByte escS (UInt8.ofNat k.val)).toNat < 8 ∧ escV[(Lib.indexByte escS (UInt8.ofNat k.val)).toNat]? = some (UInt8.ofNat ((escT (UInt8.ofNat k.val)).getD 0)) ∧ (escT (UInt8.ofNat k.val)).getD 0 < 256 else Lib.indexByte escS (UInt8.ofNat k.val) = -1 := by decide +kernel
theorem esc_at (c : UInt8) : if (escT c).isSome = true then 0 ≤ Lib.indexByte escS c ∧ (Lib.indexByte escS c).toNat < 8 ∧ escV[(Lib.indexByte escS c).toNat]? = some (UInt8.ofNat ((escT c).getD 0)) ∧ (escT c).getD 0 < 256 else Lib.indexByte escS c = -1 := by
 have := esc_all ⟨c.toNat, c.toNat_lt⟩
 simpa only [UInt8.ofNat_toNat] using this
theorem hexN_lt : ∀ (l : List UInt8) (x n : Nat), hexN l x = some n → n < (x + 1) * 16 ^ l.length
 | [], x, n, h => by simp [hexN] at h; subst h; simp
 | c :: l, x, n, h => by
  simp only [hexN] at h
  split at h
  ·cases h
  ·rename_i k hk
   have h1 := hexN_lt l _ n h
   have h2 := hexV_lt hk
   rw [List.length_cons, Nat.pow_succ]
   calc n < (16 * x + k + 1) * 16 ^ l.length := h1
    _ ≤ (16 * (x + 1)) * 16 ^ l.length := Nat.mul_le_mul_right _ (by omega)
    _ = (x + 1) * (16 ^ l.length * 16) := by rw [Nat.mul_comm 16, Nat.mul_assoc, Nat.mul_comm 16]
theorem unitL_lt (s : List UInt8) : (unitL s).getD 0 < 65536 := by
 cases h : unitL s with
 | none => simp
 | some n =>
  unfold unitL at h
  split at h
  ·cases h
  ·have h1 := hexN_lt _ _ _ h
   have h2 : ((s.drop 2).take 4).length ≤ 4 := by simp; omega
   have h3 : 16 ^ ((s.drop 2).take 4).length ≤ 16 ^ 4 := Nat.pow_le_pow_right (by omega) h2
   simp only [Option.getD_some]; omega
theorem escG_ok {s : List UInt8} (h : (escG s).2.2 = true) : (escG s).1 ≤ 1114111 ∧ ((escG s).1 < 55296 ∨ 57343 < (escG s).1) ∧ 2 ≤ (escG s).2.1 ∧ (escG s).2.1 ≤ 12 := by
 match s with
 | [] => simp [escG] at h
 | [a] => simp [escG] at h
 | a :: c :: t =>
  have hat := esc_at c
  have h1 := unitL_lt (a :: c :: t)
  unfold escG at h ⊢
  cases hv : escT c with
  | some v =>
   simp only [hv, Option.isSome_some, if_true, Option.getD_some] at hat h ⊢
   omega
  | none =>
   simp only [hv] at h ⊢
   unfold escU at h ⊢
   generalize unitL (a :: c :: t) = A at *
   generalize unitL ((a :: c :: t).drop 6) = B at *
   generalize A.getD 0 = x at *
   generalize B.getD 0 = y at *
   by_cases hc : A.isSome = false ∨ x / 1024 ≠ 54
   ·rw [if_pos hc] at h ⊢
    simp only [Bool.and_eq_true, decide_eq_true_eq] at h
    have h54 : x / 1024 ≠ 54 := hc.resolve_left (fun e => by rw [h.1] at e; cases e)
    simp only
    omega
   ·rw [if_neg hc] at h ⊢
    simp only
    omega
theorem enc_len (r : Int) : 1 ≤ (Lib.encodeRune r).length ∧ (Lib.encodeRune r).length ≤ 4 := by
 have := Lib.encodeRuneZ_length r
 simpa only [Lib.encodeRune, List.length_map] using this
end Go.Proofs.YtcbipkbdagkehaaGreatDoor
