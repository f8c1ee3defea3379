import Derived.Test.YtdojfdaglbphlaaGreatDoorK2
import Derived.Lib.ItoaLen
namespace Go.Proofs.YtdojfdaglbphlaaGreatDoor
open Sy Go
set_option maxRecDepth 100000
set_option linter.unusedSimpArgs false
set_option linter.unusedVariables false
def yU : Nat → Nat → List UInt8
 | 0, _ => []
 | w + 1, v => UInt8.ofNat (48 + v / 10 ^ w % 10) :: yU w v
theorem kO : ∀ w v, (yU w v).length = w
 | 0, _ => rfl
 | w + 1, v => by simp [yU, kO w v]
theorem vI {n : Nat} (h : n < 10) : (UInt8.ofNat (48 + n)).toNat = 48 + n := by rw [UInt8.toNat_ofNat']; omega
theorem uN : ∀ w v, (yU w v).all qG = true
 | 0, _ => rfl
 | w + 1, v => by
  have h : v / 10 ^ w % 10 < 10 := Nat.mod_lt _ (by decide)
  simp only [yU, List.all_cons, uN w v, Bool.and_true]
  rw [zS, vI h]; omega
theorem uM : ∀ w v, qK (yU w v) = v % 10 ^ w
 | 0, v => by simp [yU, qK, Nat.mod_one]
 | w + 1, v => by
  have h : v / 10 ^ w % 10 < 10 := Nat.mod_lt _ (by decide)
  simp only [yU]
  rw [yL, uM w v, kO, vI h, Nat.mod_pow_succ, Nat.mul_comm (10 ^ w)]
  rw [show 48 + v / 10 ^ w % 10 - 48 = v / 10 ^ w % 10 by omega]; omega
theorem zEQ {s : List UInt8} (h : s.all qG = true) : s = yU s.length (qK s) :=
 qOU _ _ (kO _ _).symm h (uN _ _) (by rw [uM, Nat.mod_eq_of_lt (kI h)])
def jD (neg : Bool) (v scale : Nat) : Dc × Int := yK neg (Lib.decDigits v) scale
theorem qOY (u : Nat) : qK (Lib.decDigits u) = u := by
 induction u using Nat.strongRecOn with
 | _ u ih =>
  rw [Lib.decDigits]
  split
  ·rename_i h
   simp only [qK, List.foldl_cons, List.foldl_nil, vI h]; omega
  ·rename_i h
   rw [vQ, ih (u / 10) (by omega), vI (Nat.mod_lt _ (by decide))]; omega
theorem qIW (u : Nat) : (Lib.decDigits u).all qG = true := by
 induction u using Nat.strongRecOn with
 | _ u ih =>
  rw [Lib.decDigits]
  split
  ·rename_i h
   simp only [List.all_cons, List.all_nil, Bool.and_true]
   rw [zS, vI h]; omega
  ·rename_i h
   rw [List.all_append, ih (u / 10) (by omega)]
   simp only [List.all_cons, List.all_nil, Bool.and_true, Bool.true_and]
   rw [zS, vI (Nat.mod_lt _ (by decide))]; omega
theorem vR : ∀ s : List UInt8, qK (qR s) = qK s
 | [] => rfl
 | b :: s => by
  unfold qR
  rw [List.dropWhile_cons]
  by_cases h : b = 48
  ·subst h
   simp only [beq_self_eq_true, if_true]
   have := vR s
   unfold qR at this
   rw [this, yL]; simp
  ·rw [if_neg (by simpa using h)]
theorem vT (s : List UInt8) (h : 0 < (qR s).length) : qS (qR s) 0 ≠ 48 := by
 unfold qR at h ⊢
 have := List.head?_dropWhile_not (fun b : UInt8 => b == 48) s
 cases hs : s.dropWhile (fun b => b == 48) with
 | nil => rw [hs] at h; simp at h
 | cons b r =>
  rw [hs] at this
  simp only [List.head?_cons] at this
  have hb : ¬ b = 48 := by simpa using this
  unfold qS
  simp only [List.getD_cons_zero]
  intro e
  exact hb (UInt8.toNat_inj.1 (by show b.toNat = 48; omega))
theorem xR {s : List UInt8} (h : s.all qG = true) : (qR s).all qG = true := by
 rw [List.all_eq_true] at h ⊢
 exact fun b hb => h b ((List.dropWhile_sublist _).subset hb)
theorem qWW {x y : List UInt8} (hx : x.all qG = true) (hy : y.all qG = true) (h : qK x = qK y) : qR x = qR y := by
 rw [← vR x, ← vR y] at h
 have z : ∀ s : List UInt8, s.all qG = true → 0 < (qR s).length → qK (qR s) ≠ 0 := fun s hs hl e => by
  have := uG (xR hs) hl (vT s hl)
  have := Nat.pow_pos (n := (qR s).length - 1) (show 0 < 10 by omega)
  omega
 by_cases h1 : 0 < (qR x).length
 ·by_cases h2 : 0 < (qR y).length
  ·exact qOU _ _ (qYQ (xR hx) (xR hy) h1 h2 (vT x h1) (vT y h2) h) (xR hx) (xR hy) h
  ·have e : qR y = [] := List.length_eq_zero_iff.1 (by omega)
   rw [e] at h
   exact absurd h (z x hx h1)
 ·have e : qR x = [] := List.length_eq_zero_iff.1 (by omega)
  by_cases h2 : 0 < (qR y).length
  ·rw [e] at h
   exact absurd h.symm (z y hy h2)
  ·rw [e, List.length_eq_zero_iff.1 (show (qR y).length = 0 by omega)]
theorem qXZ (neg : Bool) {s : List UInt8} (h : s.all qG = true) (sc : Nat) : yK neg s sc = jD neg (qK s) sc := by
 unfold jD yK
 rw [qWW h (qIW (qK s)) (qOY _).symm]
def xC (l m : List Nat) : Nat → List Nat × Nat
 | 0 => ([], 0)
 | i + 1 => ((xC l m i).1 ++ [(l.getD i 0 + m.getD i 0 + (xC l m i).2) % qH], (l.getD i 0 + m.getD i 0 + (xC l m i).2) / qH)
def qVS (l m : List Nat) : List Nat := yE ((xC l m (max l.length m.length)).1 ++ [(xC l m (max l.length m.length)).2])
theorem xE {l : List Nat} (h : okL l) (i : Nat) : l.getD i 0 < qH := by
 rw [List.getD_eq_getElem?_getD]
 cases hi : l[i]? with
 | none => simp [qH]
 | some x => exact h x (List.mem_of_getElem? hi)
theorem qCG {l : List Nat} (i : Nat) : qM (l.take (i + 1)) = qM (l.take i) + qH ^ i * l.getD i 0 := by
 by_cases h : i < l.length
 ·rw [qGT h, jH, List.length_take, Nat.min_eq_left (by omega)]
 ·rw [List.take_of_length_le (by omega), List.take_of_length_le (by omega)]
  simp [List.getD_eq_getElem?_getD, List.getElem?_eq_none (show l.length ≤ i by omega)]
theorem qFP (l m : List Nat) : ∀ i, (xC l m i).1.length = i
 | 0 => rfl
 | i + 1 => by simp [xC, qFP l m i]
theorem qKL {l m : List Nat} (hl : okL l) (hm : okL m) : ∀ i, okL (xC l m i).1 ∧ (xC l m i).2 ≤ 1 ∧ qM (xC l m i).1 + qH ^ i * (xC l m i).2 = qM (l.take i) + qM (m.take i)
 | 0 => ⟨(by intro x hx; cases hx), by simp [xC], by simp [xC, qM]⟩
 | i + 1 => by
  obtain ⟨h1, h2, h3⟩ := qKL hl hm i
  have hlen := qFP l m i
  have a1 := xE hl i
  have a2 := xE hm i
  rw [qCG, qCG]
  simp only [xC]
  generalize xC l m i = A at *
  generalize l.getD i 0 = x at *
  generalize m.getD i 0 = y at *
  have hd := Nat.div_add_mod (x + y + A.2) qH
  have hb : 0 < qH := by decide
  refine ⟨?_, ?_, ?_⟩
  ·intro z hz
   rcases List.mem_append.1 hz with h | h
   ·exact h1 z h
   ·rw [List.mem_singleton.1 h]; exact Nat.mod_lt _ hb
  ·have : (x + y + A.2) / qH < 2 := (Nat.div_lt_iff_lt_mul hb).2 (by omega)
   omega
  ·rw [jH, hlen, Nat.pow_succ]
   have e : qH ^ i * ((x + y + A.2) % qH) + qH ^ i * qH * ((x + y + A.2) / qH) = qH ^ i * (x + y + A.2) := by
    rw [Nat.mul_assoc, ← Nat.mul_add, Nat.add_comm, hd]
   have e2 : qH ^ i * (x + y + A.2) = qH ^ i * x + qH ^ i * y + qH ^ i * A.2 := by rw [Nat.mul_add, Nat.mul_add]
   omega
theorem zIM {l m : List Nat} (hl : okL l) (hm : okL m) : okL (qVS l m) ∧ qM (qVS l m) = qM l + qM m := by
 obtain ⟨h1, h2, h3⟩ := qKL hl hm (max l.length m.length)
 have hlen := qFP l m (max l.length m.length)
 unfold qVS
 refine ⟨qFS ?_, ?_⟩
 ·intro z hz
  rcases List.mem_append.1 hz with h | h
  ·exact h1 z h
  ·rw [List.mem_singleton.1 h]; unfold qH; omega
 ·rw [qDC, jH, hlen, h3, List.take_of_length_le (by omega), List.take_of_length_le (by omega)]
theorem qGR (l : List Nat) : (yE l).length ≤ l.length := by
 unfold yE; rw [List.length_reverse]; have := (List.dropWhile_sublist (fun x : Nat => x == 0) (l := l.reverse)).length_le; simpa using this
theorem zND (l m : List Nat) : (qVS l m).length ≤ max l.length m.length + 1 := by
 unfold qVS
 have := qGR ((xC l m (max l.length m.length)).1 ++ [(xC l m (max l.length m.length)).2])
 rw [List.length_append, qFP] at this
 simpa using this
def xX (l m : List Nat) : Nat → List Nat × Nat
 | 0 => ([], 0)
 | i + 1 => ((xX l m i).1 ++ [(l.getD i 0 + qH - m.getD i 0 - (xX l m i).2) % qH], 1 - (l.getD i 0 + qH - m.getD i 0 - (xX l m i).2) / qH)
def qTU (l m : List Nat) : List Nat := yE (xX l m l.length).1
theorem qEM (l m : List Nat) : ∀ i, (xX l m i).1.length = i
 | 0 => rfl
 | i + 1 => by simp [xX, qEM l m i]
theorem qJN {l m : List Nat} (hl : okL l) (hm : okL m) : ∀ i, okL (xX l m i).1 ∧ (xX l m i).2 ≤ 1 ∧ qM (xX l m i).1 + qM (m.take i) = qM (l.take i) + qH ^ i * (xX l m i).2
 | 0 => ⟨(by intro x hx; cases hx), by simp [xX], by simp [xX, qM]⟩
 | i + 1 => by
  obtain ⟨h1, h2, h3⟩ := qJN hl hm i
  have hlen := qEM l m i
  have a1 := xE hl i
  have a2 := xE hm i
  rw [qCG, qCG]
  simp only [xX]
  generalize xX l m i = A at *
  generalize l.getD i 0 = x at *
  generalize m.getD i 0 = y at *
  generalize hz : x + qH - y - A.2 = z
  have hd := Nat.div_add_mod z qH
  have hb : 0 < qH := by decide
  have hq : z / qH < 2 := (Nat.div_lt_iff_lt_mul hb).2 (by omega)
  refine ⟨?_, Nat.sub_le _ _, ?_⟩
  ·intro w hw
   rcases List.mem_append.1 hw with h | h
   ·exact h1 w h
   ·rw [List.mem_singleton.1 h]; exact Nat.mod_lt _ hb
  ·rw [jH, hlen, Nat.pow_succ]
   have e : qH ^ i * (z % qH) + qH ^ i * qH * (z / qH) = qH ^ i * z := by
    rw [Nat.mul_assoc, ← Nat.mul_add, Nat.add_comm, hd]
   have e2 : qH ^ i * z + qH ^ i * y + qH ^ i * A.2 = qH ^ i * x + qH ^ i * qH := by
    rw [← Nat.mul_add, ← Nat.mul_add, ← Nat.mul_add]; congr 1; omega
   have e3 : qH ^ i * qH * (1 - z / qH) + qH ^ i * qH * (z / qH) = qH ^ i * qH := by
    rw [← Nat.mul_add]
    generalize z / qH = q at *
    rw [show 1 - q + q = 1 by omega, Nat.mul_one]
   omega
theorem qQW {l m : List Nat} (hl : okL l) (hm : okL m) (hlen : m.length ≤ l.length) (h : qM m ≤ qM l) : okL (qTU l m) ∧ qM (qTU l m) = qM l - qM m := by
 obtain ⟨h1, h2, h3⟩ := qJN hl hm l.length
 have hlt := qFA h1
 rw [qEM] at hlt
 rw [List.take_of_length_le (Nat.le_refl _), List.take_of_length_le hlen] at h3
 have h0 : (xX l m l.length).2 = 0 := by
  rcases Nat.eq_zero_or_pos (xX l m l.length).2 with h0 | h0
  ·exact h0
  ·have : (xX l m l.length).2 = 1 := by omega
   rw [this, Nat.mul_one] at h3; omega
 rw [h0, Nat.mul_zero] at h3
 unfold qTU
 exact ⟨qFS h1, by rw [qDC]; omega⟩
theorem qWV (l m : List Nat) : (qTU l m).length ≤ l.length := by
 unfold qTU
 have := qGR (xX l m l.length).1
 rwa [qEM] at this
theorem zHF {l : List Nat} : ∀ {j : Nat} {v : Nat}, j < l.length → qM (l.set j v) + qH ^ j * l.getD j 0 = qM l + qH ^ j * v := by
 induction l with
 | nil => intro j v h; simp at h
 | cons a l ih =>
  intro j v h
  cases j with
  | zero => simp [qM]; omega
  | succ j =>
   have := ih (j := j) (v := v) (by simpa using h)
   simp only [List.set_cons_succ, qM, List.getD_cons_succ, Nat.pow_succ]
   have e : ∀ t : Nat, qH ^ j * qH * t = qH * (qH ^ j * t) := fun t => by rw [Nat.mul_comm (qH ^ j), Nat.mul_assoc]
   rw [e, e]
   have := congrArg (qH * ·) this
   simp only [Nat.mul_add] at this
   omega
def uI (m : List Nat) (x i : Nat) (out : List Nat) : Nat → List Nat × Nat
 | 0 => (out, 0)
 | k + 1 => let A := uI m x i out k; (A.1.set (i + k) ((A.1.getD (i + k) 0 + x * m.getD k 0 + A.2) % qH), (A.1.getD (i + k) 0 + x * m.getD k 0 + A.2) / qH)
def qBV (l m : List Nat) : Nat → List Nat
 | 0 => List.replicate (l.length + m.length + 1) 0
 | i + 1 => (uI m (l.getD i 0) i (qBV l m i) (m.length + 1)).1
def qYD (l m : List Nat) : List Nat := yE (qBV l m l.length)
theorem qHW (m : List Nat) (x i : Nat) (out : List Nat) : ∀ k, (uI m x i out k).1.length = out.length
 | 0 => rfl
 | k + 1 => by simp [uI, qHW m x i out k]
theorem qNC (m : List Nat) (x i : Nat) (out : List Nat) : ∀ k j, i + k ≤ j → (uI m x i out k).1.getD j 0 = out.getD j 0
 | 0, j, _ => rfl
 | k + 1, j, h => by
  have ih := qNC m x i out k j (by omega)
  simp only [uI]
  rw [← ih]
  simp only [List.getD_eq_getElem?_getD]
  rw [List.getElem?_set_ne (by omega)]
theorem qFX {m : List Nat} {x i : Nat} {out : List Nat} (hm : okL m) (hx : x < qH) (ho : okL out) : ∀ k, i + k ≤ out.length → okL (uI m x i out k).1 ∧ (uI m x i out k).2 < qH ∧ qM (uI m x i out k).1 + qH ^ (i + k) * (uI m x i out k).2 = qM out + qH ^ i * x * qM (m.take k)
 | 0, _ => ⟨ho, (by show 0 < qH; decide), by simp [uI, qM]⟩
 | k + 1, h => by
  obtain ⟨h1, h2, h3⟩ := qFX (i := i) hm hx ho k (by omega)
  have hlen := qHW m x i out k
  have a2 := xE hm k
  have a1 := xE h1 (i + k)
  rw [qCG]
  simp only [uI]
  generalize uI m x i out k = A at *
  have hset := zHF (l := A.1) (j := i + k) (v := (A.1.getD (i + k) 0 + x * m.getD k 0 + A.2) % qH) (by omega)
  generalize A.1.getD (i + k) 0 = o at *
  generalize m.getD k 0 = y at *
  have hxy : x * y ≤ (qH - 1) * (qH - 1) := Nat.mul_le_mul (by omega) (by omega)
  have hdx : (qH - 1) * (qH - 1) + (qH - 1) + (qH - 1) < qH * qH := by decide
  generalize hz : o + x * y + A.2 = z at *
  have hd := Nat.div_add_mod z qH
  have hb : 0 < qH := by decide
  refine ⟨?_, (Nat.div_lt_iff_lt_mul hb).2 (by omega), ?_⟩
  ·intro w hw
   rcases List.mem_or_eq_of_mem_set hw with h | h
   ·exact h1 w h
   ·rw [h]; exact Nat.mod_lt _ hb
  ·rw [show qH ^ (i + (k + 1)) = qH ^ (i + k) * qH from Nat.pow_succ _ _]
   have e : qH ^ (i + k) * (z % qH) + qH ^ (i + k) * qH * (z / qH) = qH ^ (i + k) * z := by
    rw [Nat.mul_assoc, ← Nat.mul_add, Nat.add_comm (z % qH), hd]
   have e2 : qH ^ (i + k) * z = qH ^ (i + k) * o + qH ^ i * x * (qH ^ k * y) + qH ^ (i + k) * A.2 := by
    rw [← hz, Nat.mul_add, Nat.mul_add]
    congr 2
    rw [Nat.pow_add]
    simp only [Nat.mul_assoc, Nat.mul_left_comm, Nat.mul_comm]
   rw [Nat.mul_add]
   omega
theorem qIF (l m : List Nat) : ∀ i, (qBV l m i).length = l.length + m.length + 1
 | 0 => by simp [qBV]
 | i + 1 => by simp only [qBV]; rw [qHW, qIF l m i]
theorem qYP (n : Nat) : qM (List.replicate n 0) = 0 := by
 induction n with
 | zero => rfl
 | succ n ih => simp [List.replicate_succ, qM, ih]
theorem qJT {l m : List Nat} (hl : okL l) (hm : okL m) : ∀ i, i ≤ l.length → okL (qBV l m i) ∧ qM (qBV l m i) = qM (l.take i) * qM m ∧ ∀ j, i + m.length ≤ j → (qBV l m i).getD j 0 = 0
 | 0, _ => ⟨by intro x hx; rw [(List.mem_replicate.1 hx).2]; decide, by simp [qBV, qYP, qM], fun j _ => by
   simp only [qBV, List.getD_eq_getElem?_getD, List.getElem?_replicate]; split <;> rfl⟩
 | i + 1, h => by
  obtain ⟨h1, h2, h3⟩ := qJT hl hm i (by omega)
  have hx := xE hl i
  have hlen := qIF l m i
  obtain ⟨g1, g2, g3⟩ := qFX (i := i) hm hx h1 (m.length + 1) (by omega)
  obtain ⟨f1, f2, f3⟩ := qFX (i := i) hm hx h1 m.length (by omega)
  have hg := qNC m (l.getD i 0) i (qBV l m i) m.length (i + m.length) (by omega)
  rw [h3 _ (by omega)] at hg
  have hn : m.getD m.length 0 = 0 := by simp [List.getD_eq_getElem?_getD]
  have hc : (uI m (l.getD i 0) i (qBV l m i) (m.length + 1)).2 = 0 := by
   simp only [uI]
   rw [hg, hn, Nat.mul_zero, Nat.zero_add]
   exact Nat.div_eq_of_lt f2
  rw [hc, Nat.mul_zero, Nat.add_zero, List.take_of_length_le (by omega)] at g3
  simp only [qBV]
  refine ⟨g1, ?_, fun j hj => ?_⟩
  ·rw [g3, h2, qCG, Nat.add_mul, Nat.mul_assoc]
  ·rw [qNC _ _ _ _ _ _ (by omega)]; exact h3 j (by omega)
theorem zGV {l m : List Nat} (hl : okL l) (hm : okL m) : okL (qYD l m) ∧ qM (qYD l m) = qM l * qM m := by
 obtain ⟨h1, h2, _⟩ := qJT hl hm l.length (Nat.le_refl _)
 unfold qYD
 rw [List.take_length] at h2
 exact ⟨qFS h1, by rw [qDC, h2]⟩
theorem zKT (l m : List Nat) : (qYD l m).length ≤ l.length + m.length + 1 := by
 unfold qYD
 have := qGR (qBV l m l.length)
 rwa [qIF] at this
end Go.Proofs.YtdojfdaglbphlaaGreatDoor
