import Derived.Test.YtdojfdaglbphlaaGreatDoorSRefDecLaw
import Derived.Lib.ItoaLen
namespace Go.Proofs.YtdojfdaglbphlaaGreatDoor
open Sy Go
set_option maxRecDepth 100000
set_option linter.unusedSimpArgs false
set_option linter.unusedVariables false
def yX : Nat → Nat → List UInt8
 | 0, _ => []
 | w + 1, v => UInt8.ofNat (48 + v / 10 ^ w % 10) :: yX w v
theorem kY : ∀ w v, (yX w v).length = w
 | 0, _ => rfl
 | w + 1, v => by simp [yX, kY w v]
theorem vV {n : Nat} (h : n < 10) : (UInt8.ofNat (48 + n)).toNat = 48 + n := by rw [UInt8.toNat_ofNat']; omega
theorem uV : ∀ w v, (yX w v).all qG = true
 | 0, _ => rfl
 | w + 1, v => by
  have h : v / 10 ^ w % 10 < 10 := Nat.mod_lt _ (by decide)
  simp only [yX, List.all_cons, uV w v, Bool.and_true]
  rw [zS, vV h]; omega
theorem uU : ∀ w v, qL (yX w v) = v % 10 ^ w
 | 0, v => by simp [yX, qL, Nat.mod_one]
 | w + 1, v => by
  have h : v / 10 ^ w % 10 < 10 := Nat.mod_lt _ (by decide)
  simp only [yX]
  rw [yM, uU w v, kY, vV h, Nat.mod_pow_succ, Nat.mul_comm (10 ^ w)]
  rw [show 48 + v / 10 ^ w % 10 - 48 = v / 10 ^ w % 10 by omega]; omega
theorem zGD {s : List UInt8} (h : s.all qG = true) : s = yX s.length (qL s) :=
 qWW _ _ (kY _ _).symm h (uV _ _) (by rw [uU, Nat.mod_eq_of_lt (kP h)])
def jR (neg : Bool) (v scale : Nat) : Dc × Int := yL neg (Lib.decDigits v) scale
theorem qQB (u : Nat) : qL (Lib.decDigits u) = u := by
 induction u using Nat.strongRecOn with
 | _ u ih =>
  rw [Lib.decDigits]
  split
  ·rename_i h
   simp only [qL, List.foldl_cons, List.foldl_nil, vV h]; omega
  ·rename_i h
   rw [qAP, ih (u / 10) (by omega), vV (Nat.mod_lt _ (by decide))]; omega
theorem qJU (u : Nat) : (Lib.decDigits u).all qG = true := by
 induction u using Nat.strongRecOn with
 | _ u ih =>
  rw [Lib.decDigits]
  split
  ·rename_i h
   simp only [List.all_cons, List.all_nil, Bool.and_true]
   rw [zS, vV h]; omega
  ·rename_i h
   rw [List.all_append, ih (u / 10) (by omega)]
   simp only [List.all_cons, List.all_nil, Bool.and_true, Bool.true_and]
   rw [zS, vV (Nat.mod_lt _ (by decide))]; omega
theorem uC : ∀ s : List UInt8, qL (qU s) = qL s
 | [] => rfl
 | b :: s => by
  unfold qU
  rw [List.dropWhile_cons]
  by_cases h : b = 48
  ·subst h
   simp only [beq_self_eq_true, if_true]
   have := uC s
   unfold qU at this
   rw [this, yM]; simp
  ·rw [if_neg (by simpa using h)]
theorem uD (s : List UInt8) (h : 0 < (qU s).length) : qT (qU s) 0 ≠ 48 := by
 unfold qU at h ⊢
 have := List.head?_dropWhile_not (fun b : UInt8 => b == 48) s
 cases hs : s.dropWhile (fun b => b == 48) with
 | nil => rw [hs] at h; simp at h
 | cons b r =>
  rw [hs] at this
  simp only [List.head?_cons] at this
  have hb : ¬ b = 48 := by simpa using this
  unfold qT
  simp only [List.getD_cons_zero]
  intro e
  exact hb (UInt8.toNat_inj.1 (by show b.toNat = 48; omega))
theorem vC {s : List UInt8} (h : s.all qG = true) : (qU s).all qG = true := by
 rw [List.all_eq_true] at h ⊢
 exact fun b hb => h b ((List.dropWhile_sublist _).subset hb)
theorem qYM {x y : List UInt8} (hx : x.all qG = true) (hy : y.all qG = true) (h : qL x = qL y) : qU x = qU y := by
 rw [← uC x, ← uC y] at h
 have z : ∀ s : List UInt8, s.all qG = true → 0 < (qU s).length → qL (qU s) ≠ 0 := fun s hs hl e => by
  have := qAW (vC hs) hl (uD s hl)
  have := Nat.pow_pos (n := (qU s).length - 1) (show 0 < 10 by omega)
  omega
 by_cases h1 : 0 < (qU x).length
 ·by_cases h2 : 0 < (qU y).length
  ·exact qWW _ _ (zMO (vC hx) (vC hy) h1 h2 (uD x h1) (uD y h2) h) (vC hx) (vC hy) h
  ·have e : qU y = [] := List.length_eq_zero_iff.1 (by omega)
   rw [e] at h
   exact absurd h (z x hx h1)
 ·have e : qU x = [] := List.length_eq_zero_iff.1 (by omega)
  by_cases h2 : 0 < (qU y).length
  ·rw [e] at h
   exact absurd h.symm (z y hy h2)
  ·rw [e, List.length_eq_zero_iff.1 (show (qU y).length = 0 by omega)]
theorem qZK (neg : Bool) {s : List UInt8} (h : s.all qG = true) (sc : Nat) : yL neg s sc = jR neg (qL s) sc := by
 unfold jR yL
 rw [qYM h (qJU (qL s)) (qQB _).symm]
def xQ (l m : List Nat) : Nat → List Nat × Nat
 | 0 => ([], 0)
 | i + 1 => ((xQ l m i).1 ++ [(l.getD i 0 + m.getD i 0 + (xQ l m i).2) % qH], (l.getD i 0 + m.getD i 0 + (xQ l m i).2) / qH)
def qXI (l m : List Nat) : List Nat := yD ((xQ l m (max l.length m.length)).1 ++ [(xQ l m (max l.length m.length)).2])
theorem xR {l : List Nat} (h : okL l) (i : Nat) : l.getD i 0 < qH := by
 rw [List.getD_eq_getElem?_getD]
 cases hi : l[i]? with
 | none => simp [qH]
 | some x => exact h x (List.mem_of_getElem? hi)
theorem qCO {l : List Nat} (i : Nat) : qP (l.take (i + 1)) = qP (l.take i) + qH ^ i * l.getD i 0 := by
 by_cases h : i < l.length
 ·rw [qHP h, jV, List.length_take, Nat.min_eq_left (by omega)]
 ·rw [List.take_of_length_le (by omega), List.take_of_length_le (by omega)]
  simp [List.getD_eq_getElem?_getD, List.getElem?_eq_none (show l.length ≤ i by omega)]
theorem qGF (l m : List Nat) : ∀ i, (xQ l m i).1.length = i
 | 0 => rfl
 | i + 1 => by simp [xQ, qGF l m i]
theorem qLJ {l m : List Nat} (hl : okL l) (hm : okL m) : ∀ i, okL (xQ l m i).1 ∧ (xQ l m i).2 ≤ 1 ∧ qP (xQ l m i).1 + qH ^ i * (xQ l m i).2 = qP (l.take i) + qP (m.take i)
 | 0 => ⟨(by intro x hx; cases hx), by simp [xQ], by simp [xQ, qP]⟩
 | i + 1 => by
  obtain ⟨h1, h2, h3⟩ := qLJ hl hm i
  have hlen := qGF l m i
  have a1 := xR hl i
  have a2 := xR hm i
  rw [qCO, qCO]
  simp only [xQ]
  generalize xQ l m i = A at *
  generalize l.getD i 0 = x at *
  generalize m.getD i 0 = y at *
  have hd := Nat.div_add_mod (x + y + A.2) qH
  have hb : 0 < qH := by decide
  refine ⟨?_, ?_, ?_⟩
  ·intro z hz
   rcases List.mem_append.1 hz with h | h
   ·exact h1 z h
   ·rw [List.mem_singleton.1 h]; exact Nat.mod_lt _ hb
  ·have : (x + y + A.2) / qH < 2 := (Nat.div_lt_iff_lt_mul hb).2 (by omega)
   omega
  ·rw [jV, hlen, Nat.pow_succ]
   have e : qH ^ i * ((x + y + A.2) % qH) + qH ^ i * qH * ((x + y + A.2) / qH) = qH ^ i * (x + y + A.2) := by
    rw [Nat.mul_assoc, ← Nat.mul_add, Nat.add_comm, hd]
   have e2 : qH ^ i * (x + y + A.2) = qH ^ i * x + qH ^ i * y + qH ^ i * A.2 := by rw [Nat.mul_add, Nat.mul_add]
   omega
theorem zJV {l m : List Nat} (hl : okL l) (hm : okL m) : okL (qXI l m) ∧ qP (qXI l m) = qP l + qP m := by
 obtain ⟨h1, h2, h3⟩ := qLJ hl hm (max l.length m.length)
 have hlen := qGF l m (max l.length m.length)
 unfold qXI
 refine ⟨qGJ ?_, ?_⟩
 ·intro z hz
  rcases List.mem_append.1 hz with h | h
  ·exact h1 z h
  ·rw [List.mem_singleton.1 h]; unfold qH; omega
 ·rw [qDQ, jV, hlen, h3, List.take_of_length_le (by omega), List.take_of_length_le (by omega)]
theorem qHN (l : List Nat) : (yD l).length ≤ l.length := by
 unfold yD; rw [List.length_reverse]; have := (List.dropWhile_sublist (fun x : Nat => x == 0) (l := l.reverse)).length_le; simpa using this
theorem zOL (l m : List Nat) : (qXI l m).length ≤ max l.length m.length + 1 := by
 unfold qXI
 have := qHN ((xQ l m (max l.length m.length)).1 ++ [(xQ l m (max l.length m.length)).2])
 rw [List.length_append, qGF] at this
 simpa using this
def vI (l m : List Nat) : Nat → List Nat × Nat
 | 0 => ([], 0)
 | i + 1 => ((vI l m i).1 ++ [(l.getD i 0 + qH - m.getD i 0 - (vI l m i).2) % qH], 1 - (l.getD i 0 + qH - m.getD i 0 - (vI l m i).2) / qH)
def qVH (l m : List Nat) : List Nat := yD (vI l m l.length).1
theorem qEZ (l m : List Nat) : ∀ i, (vI l m i).1.length = i
 | 0 => rfl
 | i + 1 => by simp [vI, qEZ l m i]
theorem qKK {l m : List Nat} (hl : okL l) (hm : okL m) : ∀ i, okL (vI l m i).1 ∧ (vI l m i).2 ≤ 1 ∧ qP (vI l m i).1 + qP (m.take i) = qP (l.take i) + qH ^ i * (vI l m i).2
 | 0 => ⟨(by intro x hx; cases hx), by simp [vI], by simp [vI, qP]⟩
 | i + 1 => by
  obtain ⟨h1, h2, h3⟩ := qKK hl hm i
  have hlen := qEZ l m i
  have a1 := xR hl i
  have a2 := xR hm i
  rw [qCO, qCO]
  simp only [vI]
  generalize vI l m i = A at *
  generalize l.getD i 0 = x at *
  generalize m.getD i 0 = y at *
  generalize hz : x + qH - y - A.2 = z
  have hd := Nat.div_add_mod z qH
  have hb : 0 < qH := by decide
  have hq : z / qH < 2 := (Nat.div_lt_iff_lt_mul hb).2 (by omega)
  refine ⟨?_, Nat.sub_le _ _, ?_⟩
  ·intro w hw
   rcases List.mem_append.1 hw with h | h
   ·exact h1 w h
   ·rw [List.mem_singleton.1 h]; exact Nat.mod_lt _ hb
  ·rw [jV, hlen, Nat.pow_succ]
   have e : qH ^ i * (z % qH) + qH ^ i * qH * (z / qH) = qH ^ i * z := by
    rw [Nat.mul_assoc, ← Nat.mul_add, Nat.add_comm, hd]
   have e2 : qH ^ i * z + qH ^ i * y + qH ^ i * A.2 = qH ^ i * x + qH ^ i * qH := by
    rw [← Nat.mul_add, ← Nat.mul_add, ← Nat.mul_add]; congr 1; omega
   have e3 : qH ^ i * qH * (1 - z / qH) + qH ^ i * qH * (z / qH) = qH ^ i * qH := by
    rw [← Nat.mul_add]
    generalize z / qH = q at *
    rw [show 1 - q + q = 1 by omega, Nat.mul_one]
   omega
theorem qSE {l m : List Nat} (hl : okL l) (hm : okL m) (hlen : m.length ≤ l.length) (h : qP m ≤ qP l) : okL (qVH l m) ∧ qP (qVH l m) = qP l - qP m := by
 obtain ⟨h1, h2, h3⟩ := qKK hl hm l.length
 have hlt := qFO h1
 rw [qEZ] at hlt
 rw [List.take_of_length_le (Nat.le_refl _), List.take_of_length_le hlen] at h3
 have h0 : (vI l m l.length).2 = 0 := by
  rcases Nat.eq_zero_or_pos (vI l m l.length).2 with h0 | h0
  ·exact h0
  ·have : (vI l m l.length).2 = 1 := by omega
   rw [this, Nat.mul_one] at h3; omega
 rw [h0, Nat.mul_zero] at h3
 unfold qVH
 exact ⟨qGJ h1, by rw [qDQ]; omega⟩
theorem qYL (l m : List Nat) : (qVH l m).length ≤ l.length := by
 unfold qVH
 have := qHN (vI l m l.length).1
 rwa [qEZ] at this
theorem zIS {l : List Nat} : ∀ {j : Nat} {v : Nat}, j < l.length → qP (l.set j v) + qH ^ j * l.getD j 0 = qP l + qH ^ j * v := by
 induction l with
 | nil => intro j v h; simp at h
 | cons a l ih =>
  intro j v h
  cases j with
  | zero => simp [qP]; omega
  | succ j =>
   have := ih (j := j) (v := v) (by simpa using h)
   simp only [List.set_cons_succ, qP, List.getD_cons_succ, Nat.pow_succ]
   have e : ∀ t : Nat, qH ^ j * qH * t = qH * (qH ^ j * t) := fun t => by rw [Nat.mul_comm (qH ^ j), Nat.mul_assoc]
   rw [e, e]
   have := congrArg (qH * ·) this
   simp only [Nat.mul_add] at this
   omega
def uP (m : List Nat) (x i : Nat) (out : List Nat) : Nat → List Nat × Nat
 | 0 => (out, 0)
 | k + 1 => let A := uP m x i out k; (A.1.set (i + k) ((A.1.getD (i + k) 0 + x * m.getD k 0 + A.2) % qH), (A.1.getD (i + k) 0 + x * m.getD k 0 + A.2) / qH)
def qCF (l m : List Nat) : Nat → List Nat
 | 0 => List.replicate (l.length + m.length + 1) 0
 | i + 1 => (uP m (l.getD i 0) i (qCF l m i) (m.length + 1)).1
def qZO (l m : List Nat) : List Nat := yD (qCF l m l.length)
theorem qIT (m : List Nat) (x i : Nat) (out : List Nat) : ∀ k, (uP m x i out k).1.length = out.length
 | 0 => rfl
 | k + 1 => by simp [uP, qIT m x i out k]
theorem qOG (m : List Nat) (x i : Nat) (out : List Nat) : ∀ k j, i + k ≤ j → (uP m x i out k).1.getD j 0 = out.getD j 0
 | 0, j, _ => rfl
 | k + 1, j, h => by
  have ih := qOG m x i out k j (by omega)
  simp only [uP]
  rw [← ih]
  simp only [List.getD_eq_getElem?_getD]
  rw [List.getElem?_set_ne (by omega)]
theorem qGN {m : List Nat} {x i : Nat} {out : List Nat} (hm : okL m) (hx : x < qH) (ho : okL out) : ∀ k, i + k ≤ out.length → okL (uP m x i out k).1 ∧ (uP m x i out k).2 < qH ∧ qP (uP m x i out k).1 + qH ^ (i + k) * (uP m x i out k).2 = qP out + qH ^ i * x * qP (m.take k)
 | 0, _ => ⟨ho, (by show 0 < qH; decide), by simp [uP, qP]⟩
 | k + 1, h => by
  obtain ⟨h1, h2, h3⟩ := qGN (i := i) hm hx ho k (by omega)
  have hlen := qIT m x i out k
  have a2 := xR hm k
  have a1 := xR h1 (i + k)
  rw [qCO]
  simp only [uP]
  generalize uP m x i out k = A at *
  have hset := zIS (l := A.1) (j := i + k) (v := (A.1.getD (i + k) 0 + x * m.getD k 0 + A.2) % qH) (by omega)
  generalize A.1.getD (i + k) 0 = o at *
  generalize m.getD k 0 = y at *
  have hxy : x * y ≤ (qH - 1) * (qH - 1) := Nat.mul_le_mul (by omega) (by omega)
  have hdx : (qH - 1) * (qH - 1) + (qH - 1) + (qH - 1) < qH * qH := by decide
  generalize hz : o + x * y + A.2 = z at *
  have hd := Nat.div_add_mod z qH
  have hb : 0 < qH := by decide
  refine ⟨?_, (Nat.div_lt_iff_lt_mul hb).2 (by omega), ?_⟩
  ·intro w hw
   rcases List.mem_or_eq_of_mem_set hw with h | h
   ·exact h1 w h
   ·rw [h]; exact Nat.mod_lt _ hb
  ·rw [show qH ^ (i + (k + 1)) = qH ^ (i + k) * qH from Nat.pow_succ _ _]
   have e : qH ^ (i + k) * (z % qH) + qH ^ (i + k) * qH * (z / qH) = qH ^ (i + k) * z := by
    rw [Nat.mul_assoc, ← Nat.mul_add, Nat.add_comm (z % qH), hd]
   have e2 : qH ^ (i + k) * z = qH ^ (i + k) * o + qH ^ i * x * (qH ^ k * y) + qH ^ (i + k) * A.2 := by
    rw [← hz, Nat.mul_add, Nat.mul_add]
    congr 2
    rw [Nat.pow_add]
    simp only [Nat.mul_assoc, Nat.mul_left_comm, Nat.mul_comm]
   rw [Nat.mul_add]
   omega
theorem qJF (l m : List Nat) : ∀ i, (qCF l m i).length = l.length + m.length + 1
 | 0 => by simp [qCF]
 | i + 1 => by simp only [qCF]; rw [qIT, qJF l m i]
theorem zAA (n : Nat) : qP (List.replicate n 0) = 0 := by
 induction n with
 | zero => rfl
 | succ n ih => simp [List.replicate_succ, qP, ih]
theorem qKQ {l m : List Nat} (hl : okL l) (hm : okL m) : ∀ i, i ≤ l.length → okL (qCF l m i) ∧ qP (qCF l m i) = qP (l.take i) * qP m ∧ ∀ j, i + m.length ≤ j → (qCF l m i).getD j 0 = 0
 | 0, _ => ⟨by intro x hx; rw [(List.mem_replicate.1 hx).2]; decide, by simp [qCF, zAA, qP], fun j _ => by
   simp only [qCF, List.getD_eq_getElem?_getD, List.getElem?_replicate]; split <;> rfl⟩
 | i + 1, h => by
  obtain ⟨h1, h2, h3⟩ := qKQ hl hm i (by omega)
  have hx := xR hl i
  have hlen := qJF l m i
  obtain ⟨g1, g2, g3⟩ := qGN (i := i) hm hx h1 (m.length + 1) (by omega)
  obtain ⟨f1, f2, f3⟩ := qGN (i := i) hm hx h1 m.length (by omega)
  have hg := qOG m (l.getD i 0) i (qCF l m i) m.length (i + m.length) (by omega)
  rw [h3 _ (by omega)] at hg
  have hn : m.getD m.length 0 = 0 := by simp [List.getD_eq_getElem?_getD]
  have hc : (uP m (l.getD i 0) i (qCF l m i) (m.length + 1)).2 = 0 := by
   simp only [uP]
   rw [hg, hn, Nat.mul_zero, Nat.zero_add]
   exact Nat.div_eq_of_lt f2
  rw [hc, Nat.mul_zero, Nat.add_zero, List.take_of_length_le (by omega)] at g3
  simp only [qCF]
  refine ⟨g1, ?_, fun j hj => ?_⟩
  ·rw [g3, h2, qCO, Nat.add_mul, Nat.mul_assoc]
  ·rw [qOG _ _ _ _ _ _ (by omega)]; exact h3 j (by omega)
theorem zII {l m : List Nat} (hl : okL l) (hm : okL m) : okL (qZO l m) ∧ qP (qZO l m) = qP l * qP m := by
 obtain ⟨h1, h2, _⟩ := qKQ hl hm l.length (Nat.le_refl _)
 unfold qZO
 rw [List.take_length] at h2
 exact ⟨qGJ h1, by rw [qDQ, h2]⟩
theorem zMF (l m : List Nat) : (qZO l m).length ≤ l.length + m.length + 1 := by
 unfold qZO
 have := qHN (qCF l m l.length)
 rwa [qJF] at this
end Go.Proofs.YtdojfdaglbphlaaGreatDoor
