import Derived.Test.YtdojfdaglbphlaaGreatDoorSRefDecLaw
import Derived.Lib.ItoaLen
namespace Go.Proofs.YtdojfdaglbphlaaGreatDoor
open Sy Go
set_option maxRecDepth 100000
set_option linter.unusedSimpArgs false
set_option linter.unusedVariables false
def digW : Nat → Nat → List UInt8
 | 0, _ => []
 | w + 1, v => UInt8.ofNat (48 + v / 10 ^ w % 10) :: digW w v
theorem digW_len : ∀ w v, (digW w v).length = w
 | 0, _ => rfl
 | w + 1, v => by simp [digW, digW_len w v]
theorem dig_nat {n : Nat} (h : n < 10) : (UInt8.ofNat (48 + n)).toNat = 48 + n := by rw [UInt8.toNat_ofNat']; omega
theorem digW_all : ∀ w v, (digW w v).all isDig = true
 | 0, _ => rfl
 | w + 1, v => by
  have h : v / 10 ^ w % 10 < 10 := Nat.mod_lt _ (by decide)
  simp only [digW, List.all_cons, digW_all w v, Bool.and_true]
  rw [isDig_iff, dig_nat h]; omega
theorem digW_val : ∀ w v, valD (digW w v) = v % 10 ^ w
 | 0, v => by simp [digW, valD, Nat.mod_one]
 | w + 1, v => by
  have h : v / 10 ^ w % 10 < 10 := Nat.mod_lt _ (by decide)
  simp only [digW]
  rw [valD_cons, digW_val w v, digW_len, dig_nat h, Nat.mod_pow_succ, Nat.mul_comm (10 ^ w)]
  rw [show 48 + v / 10 ^ w % 10 - 48 = v / 10 ^ w % 10 by omega]; omega
def normV (neg : Bool) (v scale : Nat) : Dc × Int := NormM neg (Lib.decDigits v) scale
theorem decD_val (u : Nat) : valD (Lib.decDigits u) = u := by
 induction u using Nat.strongRecOn with
 | _ u ih =>
  rw [Lib.decDigits]
  split
  ·rename_i h
   simp only [valD, List.foldl_cons, List.foldl_nil, dig_nat h]; omega
  ·rename_i h
   rw [valD_snoc, ih (u / 10) (by omega), dig_nat (Nat.mod_lt _ (by decide))]; omega
theorem decD_all (u : Nat) : (Lib.decDigits u).all isDig = true := by
 induction u using Nat.strongRecOn with
 | _ u ih =>
  rw [Lib.decDigits]
  split
  ·rename_i h
   simp only [List.all_cons, List.all_nil, Bool.and_true]
   rw [isDig_iff, dig_nat h]; omega
  ·rename_i h
   rw [List.all_append, ih (u / 10) (by omega)]
   simp only [List.all_cons, List.all_nil, Bool.and_true, Bool.true_and]
   rw [isDig_iff, dig_nat (Nat.mod_lt _ (by decide))]; omega
theorem strip_val : ∀ s : List UInt8, valD (strip0 s) = valD s
 | [] => rfl
 | b :: s => by
  unfold strip0
  rw [List.dropWhile_cons]
  by_cases h : b = 48
  ·subst h
   simp only [beq_self_eq_true, if_true]
   have := strip_val s
   unfold strip0 at this
   rw [this, valD_cons]; simp
  ·rw [if_neg (by simpa using h)]
theorem strip_head (s : List UInt8) (h : 0 < (strip0 s).length) : byteAt (strip0 s) 0 ≠ 48 := by
 unfold strip0 at h ⊢
 have := List.head?_dropWhile_not (fun b : UInt8 => b == 48) s
 cases hs : s.dropWhile (fun b => b == 48) with
 | nil => rw [hs] at h; simp at h
 | cons b r =>
  rw [hs] at this
  simp only [List.head?_cons] at this
  have hb : ¬ b = 48 := by simpa using this
  unfold byteAt
  simp only [List.getD_cons_zero]
  intro e
  exact hb (UInt8.toNat_inj.1 (by show b.toNat = 48; omega))
theorem strip_all {s : List UInt8} (h : s.all isDig = true) : (strip0 s).all isDig = true := by
 rw [List.all_eq_true] at h ⊢
 exact fun b hb => h b ((List.dropWhile_sublist _).subset hb)
theorem strip_eq {x y : List UInt8} (hx : x.all isDig = true) (hy : y.all isDig = true) (h : valD x = valD y) : strip0 x = strip0 y := by
 rw [← strip_val x, ← strip_val y] at h
 have z : ∀ s : List UInt8, s.all isDig = true → 0 < (strip0 s).length → valD (strip0 s) ≠ 0 := fun s hs hl e => by
  have := valD_pos (strip_all hs) hl (strip_head s hl)
  have := Nat.pow_pos (n := (strip0 s).length - 1) (show 0 < 10 by omega)
  omega
 by_cases h1 : 0 < (strip0 x).length
 ·by_cases h2 : 0 < (strip0 y).length
  ·exact digInj _ _ (lead_len (strip_all hx) (strip_all hy) h1 h2 (strip_head x h1) (strip_head y h2) h) (strip_all hx) (strip_all hy) h
  ·have e : strip0 y = [] := List.length_eq_zero_iff.1 (by omega)
   rw [e] at h
   exact absurd h (z x hx h1)
 ·have e : strip0 x = [] := List.length_eq_zero_iff.1 (by omega)
  by_cases h2 : 0 < (strip0 y).length
  ·rw [e] at h
   exact absurd h.symm (z y hy h2)
  ·rw [e, List.length_eq_zero_iff.1 (show (strip0 y).length = 0 by omega)]
theorem norm_val (neg : Bool) {s : List UInt8} (h : s.all isDig = true) (sc : Nat) : NormM neg s sc = normV neg (valD s) sc := by
 unfold normV NormM
 rw [strip_eq h (decD_all (valD s)) (decD_val _).symm]
def addF (l m : List Nat) : Nat → List Nat × Nat
 | 0 => ([], 0)
 | i + 1 => ((addF l m i).1 ++ [(l.getD i 0 + m.getD i 0 + (addF l m i).2) % base9], (l.getD i 0 + m.getD i 0 + (addF l m i).2) / base9)
def addL (l m : List Nat) : List Nat := trimL0 ((addF l m (max l.length m.length)).1 ++ [(addF l m (max l.length m.length)).2])
theorem getD_ok {l : List Nat} (h : okL l) (i : Nat) : l.getD i 0 < base9 := by
 rw [List.getD_eq_getElem?_getD]
 cases hi : l[i]? with
 | none => simp [base9]
 | some x => exact h x (List.mem_of_getElem? hi)
theorem take_val {l : List Nat} (i : Nat) : limbV (l.take (i + 1)) = limbV (l.take i) + base9 ^ i * l.getD i 0 := by
 by_cases h : i < l.length
 ·rw [take_snocD h, limbV_snoc, List.length_take, Nat.min_eq_left (by omega)]
 ·rw [List.take_of_length_le (by omega), List.take_of_length_le (by omega)]
  simp [List.getD_eq_getElem?_getD, List.getElem?_eq_none (show l.length ≤ i by omega)]
theorem addF_len (l m : List Nat) : ∀ i, (addF l m i).1.length = i
 | 0 => rfl
 | i + 1 => by simp [addF, addF_len l m i]
theorem addF_spec {l m : List Nat} (hl : okL l) (hm : okL m) : ∀ i, okL (addF l m i).1 ∧ (addF l m i).2 ≤ 1 ∧ limbV (addF l m i).1 + base9 ^ i * (addF l m i).2 = limbV (l.take i) + limbV (m.take i)
 | 0 => ⟨(by intro x hx; cases hx), by simp [addF], by simp [addF, limbV]⟩
 | i + 1 => by
  obtain ⟨h1, h2, h3⟩ := addF_spec hl hm i
  have hlen := addF_len l m i
  have a1 := getD_ok hl i
  have a2 := getD_ok hm i
  rw [take_val, take_val]
  simp only [addF]
  generalize addF l m i = A at *
  generalize l.getD i 0 = x at *
  generalize m.getD i 0 = y at *
  have hd := Nat.div_add_mod (x + y + A.2) base9
  have hb : 0 < base9 := by decide
  refine ⟨?_, ?_, ?_⟩
  ·intro z hz
   rcases List.mem_append.1 hz with h | h
   ·exact h1 z h
   ·rw [List.mem_singleton.1 h]; exact Nat.mod_lt _ hb
  ·have : (x + y + A.2) / base9 < 2 := (Nat.div_lt_iff_lt_mul hb).2 (by omega)
   omega
  ·rw [limbV_snoc, hlen, Nat.pow_succ]
   have e : base9 ^ i * ((x + y + A.2) % base9) + base9 ^ i * base9 * ((x + y + A.2) / base9) = base9 ^ i * (x + y + A.2) := by
    rw [Nat.mul_assoc, ← Nat.mul_add, Nat.add_comm, hd]
   have e2 : base9 ^ i * (x + y + A.2) = base9 ^ i * x + base9 ^ i * y + base9 ^ i * A.2 := by rw [Nat.mul_add, Nat.mul_add]
   omega
theorem addL_spec {l m : List Nat} (hl : okL l) (hm : okL m) : okL (addL l m) ∧ limbV (addL l m) = limbV l + limbV m := by
 obtain ⟨h1, h2, h3⟩ := addF_spec hl hm (max l.length m.length)
 have hlen := addF_len l m (max l.length m.length)
 unfold addL
 refine ⟨trimL0_ok ?_, ?_⟩
 ·intro z hz
  rcases List.mem_append.1 hz with h | h
  ·exact h1 z h
  ·rw [List.mem_singleton.1 h]; unfold base9; omega
 ·rw [trimL0_val, limbV_snoc, hlen, h3, List.take_of_length_le (by omega), List.take_of_length_le (by omega)]
theorem trimL0_len (l : List Nat) : (trimL0 l).length ≤ l.length := by
 unfold trimL0; rw [List.length_reverse]; have := (List.dropWhile_sublist (fun x : Nat => x == 0) (l := l.reverse)).length_le; simpa using this
theorem addL_len (l m : List Nat) : (addL l m).length ≤ max l.length m.length + 1 := by
 unfold addL
 have := trimL0_len ((addF l m (max l.length m.length)).1 ++ [(addF l m (max l.length m.length)).2])
 rw [List.length_append, addF_len] at this
 simpa using this
def subF (l m : List Nat) : Nat → List Nat × Nat
 | 0 => ([], 0)
 | i + 1 => ((subF l m i).1 ++ [(l.getD i 0 + base9 - m.getD i 0 - (subF l m i).2) % base9], 1 - (l.getD i 0 + base9 - m.getD i 0 - (subF l m i).2) / base9)
def subL (l m : List Nat) : List Nat := trimL0 (subF l m l.length).1
theorem subF_len (l m : List Nat) : ∀ i, (subF l m i).1.length = i
 | 0 => rfl
 | i + 1 => by simp [subF, subF_len l m i]
theorem subF_spec {l m : List Nat} (hl : okL l) (hm : okL m) : ∀ i, okL (subF l m i).1 ∧ (subF l m i).2 ≤ 1 ∧ limbV (subF l m i).1 + limbV (m.take i) = limbV (l.take i) + base9 ^ i * (subF l m i).2
 | 0 => ⟨(by intro x hx; cases hx), by simp [subF], by simp [subF, limbV]⟩
 | i + 1 => by
  obtain ⟨h1, h2, h3⟩ := subF_spec hl hm i
  have hlen := subF_len l m i
  have a1 := getD_ok hl i
  have a2 := getD_ok hm i
  rw [take_val, take_val]
  simp only [subF]
  generalize subF l m i = A at *
  generalize l.getD i 0 = x at *
  generalize m.getD i 0 = y at *
  generalize hz : x + base9 - y - A.2 = z
  have hd := Nat.div_add_mod z base9
  have hb : 0 < base9 := by decide
  have hq : z / base9 < 2 := (Nat.div_lt_iff_lt_mul hb).2 (by omega)
  refine ⟨?_, Nat.sub_le _ _, ?_⟩
  ·intro w hw
   rcases List.mem_append.1 hw with h | h
   ·exact h1 w h
   ·rw [List.mem_singleton.1 h]; exact Nat.mod_lt _ hb
  ·rw [limbV_snoc, hlen, Nat.pow_succ]
   have e : base9 ^ i * (z % base9) + base9 ^ i * base9 * (z / base9) = base9 ^ i * z := by
    rw [Nat.mul_assoc, ← Nat.mul_add, Nat.add_comm, hd]
   have e2 : base9 ^ i * z + base9 ^ i * y + base9 ^ i * A.2 = base9 ^ i * x + base9 ^ i * base9 := by
    rw [← Nat.mul_add, ← Nat.mul_add, ← Nat.mul_add]; congr 1; omega
   have e3 : base9 ^ i * base9 * (1 - z / base9) + base9 ^ i * base9 * (z / base9) = base9 ^ i * base9 := by
    rw [← Nat.mul_add]
    generalize z / base9 = q at *
    rw [show 1 - q + q = 1 by omega, Nat.mul_one]
   omega
theorem subL_spec {l m : List Nat} (hl : okL l) (hm : okL m) (hlen : m.length ≤ l.length) (h : limbV m ≤ limbV l) : okL (subL l m) ∧ limbV (subL l m) = limbV l - limbV m := by
 obtain ⟨h1, h2, h3⟩ := subF_spec hl hm l.length
 have hlt := limbV_lt h1
 rw [subF_len] at hlt
 rw [List.take_of_length_le (Nat.le_refl _), List.take_of_length_le hlen] at h3
 have h0 : (subF l m l.length).2 = 0 := by
  rcases Nat.eq_zero_or_pos (subF l m l.length).2 with h0 | h0
  ·exact h0
  ·have : (subF l m l.length).2 = 1 := by omega
   rw [this, Nat.mul_one] at h3; omega
 rw [h0, Nat.mul_zero] at h3
 unfold subL
 exact ⟨trimL0_ok h1, by rw [trimL0_val]; omega⟩
theorem subL_len (l m : List Nat) : (subL l m).length ≤ l.length := by
 unfold subL
 have := trimL0_len (subF l m l.length).1
 rwa [subF_len] at this
end Go.Proofs.YtdojfdaglbphlaaGreatDoor
