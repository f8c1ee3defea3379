import Derived.Test.YtdojfdaglbphlaaGreatDoorSRefDecLaw
import Derived.Lib.ItoaLen
namespace Go.Proofs.YtdojfdaglbphlaaGreatDoor
open Sy Go
set_option maxRecDepth 100000
set_option linter.unusedSimpArgs false
set_option linter.unusedVariables false
def yL : Nat → Nat → List UInt8
 | 0, _ => []
 | w + 1, v => UInt8.ofNat (48 + v / 10 ^ w % 10) :: yL w v
theorem yZ : ∀ w v, (yL w v).length = w
 | 0, _ => rfl
 | w + 1, v => by simp [yL, yZ w v]
theorem xN {n : Nat} (h : n < 10) : (UInt8.ofNat (48 + n)).toNat = 48 + n := by rw [UInt8.toNat_ofNat']; omega
theorem vI : ∀ w v, (yL w v).all qG = true
 | 0, _ => rfl
 | w + 1, v => by
  have h : v / 10 ^ w % 10 < 10 := Nat.mod_lt _ (by decide)
  simp only [yL, List.all_cons, vI w v, Bool.and_true]
  rw [zP, xN h]; omega
theorem vH : ∀ w v, qJ (yL w v) = v % 10 ^ w
 | 0, v => by simp [yL, qJ, Nat.mod_one]
 | w + 1, v => by
  have h : v / 10 ^ w % 10 < 10 := Nat.mod_lt _ (by decide)
  simp only [yL]
  rw [yD, vH w v, yZ, xN h, Nat.mod_pow_succ, Nat.mul_comm (10 ^ w)]
  rw [show 48 + v / 10 ^ w % 10 - 48 = v / 10 ^ w % 10 by omega]; omega
theorem digW_of {s : List UInt8} (h : s.all qG = true) : s = yL s.length (qJ s) :=
 qSE _ _ (yZ _ _).symm h (vI _ _) (by rw [vH, Nat.mod_eq_of_lt (yV h)])
def yA (neg : Bool) (v scale : Nat) : Dc × Int := wD neg (Lib.decDigits v) scale
theorem uT (u : Nat) : qJ (Lib.decDigits u) = u := by
 induction u using Nat.strongRecOn with
 | _ u ih =>
  rw [Lib.decDigits]
  split
  ·rename_i h
   simp only [qJ, List.foldl_cons, List.foldl_nil, xN h]; omega
  ·rename_i h
   rw [xV, ih (u / 10) (by omega), xN (Nat.mod_lt _ (by decide))]; omega
theorem qBN (u : Nat) : (Lib.decDigits u).all qG = true := by
 induction u using Nat.strongRecOn with
 | _ u ih =>
  rw [Lib.decDigits]
  split
  ·rename_i h
   simp only [List.all_cons, List.all_nil, Bool.and_true]
   rw [zP, xN h]; omega
  ·rename_i h
   rw [List.all_append, ih (u / 10) (by omega)]
   simp only [List.all_cons, List.all_nil, Bool.and_true, Bool.true_and]
   rw [zP, xN (Nat.mod_lt _ (by decide))]; omega
theorem kV : ∀ s : List UInt8, qJ (qL s) = qJ s
 | [] => rfl
 | b :: s => by
  unfold qL
  rw [List.dropWhile_cons]
  by_cases h : b = 48
  ·subst h
   simp only [beq_self_eq_true, if_true]
   have := kV s
   unfold qL at this
   rw [this, yD]; simp
  ·rw [if_neg (by simpa using h)]
theorem xW (s : List UInt8) (h : 0 < (qL s).length) : qM (qL s) 0 ≠ 48 := by
 unfold qL at h ⊢
 have := List.head?_dropWhile_not (fun b : UInt8 => b == 48) s
 cases hs : s.dropWhile (fun b => b == 48) with
 | nil => rw [hs] at h; simp at h
 | cons b r =>
  rw [hs] at this
  simp only [List.head?_cons] at this
  have hb : ¬ b = 48 := by simpa using this
  unfold qM
  simp only [List.getD_cons_zero]
  intro e
  exact hb (UInt8.toNat_inj.1 (by show b.toNat = 48; omega))
theorem jW {s : List UInt8} (h : s.all qG = true) : (qL s).all qG = true := by
 rw [List.all_eq_true] at h ⊢
 exact fun b hb => h b ((List.dropWhile_sublist _).subset hb)
theorem qKM {x y : List UInt8} (hx : x.all qG = true) (hy : y.all qG = true) (h : qJ x = qJ y) : qL x = qL y := by
 rw [← kV x, ← kV y] at h
 have z : ∀ s : List UInt8, s.all qG = true → 0 < (qL s).length → qJ (qL s) ≠ 0 := fun s hs hl e => by
  have := xD (jW hs) hl (xW s hl)
  have := Nat.pow_pos (n := (qL s).length - 1) (show 0 < 10 by omega)
  omega
 by_cases h1 : 0 < (qL x).length
 ·by_cases h2 : 0 < (qL y).length
  ·exact qSE _ _ (lead_len (jW hx) (jW hy) h1 h2 (xW x h1) (xW y h2) h) (jW hx) (jW hy) h
  ·have e : qL y = [] := List.length_eq_zero_iff.1 (by omega)
   rw [e] at h
   exact absurd h (z x hx h1)
 ·have e : qL x = [] := List.length_eq_zero_iff.1 (by omega)
  by_cases h2 : 0 < (qL y).length
  ·rw [e] at h
   exact absurd h.symm (z y hy h2)
  ·rw [e, List.length_eq_zero_iff.1 (show (qL y).length = 0 by omega)]
theorem qGQ (neg : Bool) {s : List UInt8} (h : s.all qG = true) (sc : Nat) : wD neg s sc = yA neg (qJ s) sc := by
 unfold yA wD
 rw [qKM h (qBN (qJ s)) (uT _).symm]
def jM (l m : List Nat) : Nat → List Nat × Nat
 | 0 => ([], 0)
 | i + 1 => ((jM l m i).1 ++ [(l.getD i 0 + m.getD i 0 + (jM l m i).2) % qI], (l.getD i 0 + m.getD i 0 + (jM l m i).2) / qI)
def qSO (l m : List Nat) : List Nat := wV ((jM l m (max l.length m.length)).1 ++ [(jM l m (max l.length m.length)).2])
theorem jN {l : List Nat} (h : okL l) (i : Nat) : l.getD i 0 < qI := by
 rw [List.getD_eq_getElem?_getD]
 cases hi : l[i]? with
 | none => simp [qI]
 | some x => exact h x (List.mem_of_getElem? hi)
theorem qAY {l : List Nat} (i : Nat) : qP (l.take (i + 1)) = qP (l.take i) + qI ^ i * l.getD i 0 := by
 by_cases h : i < l.length
 ·rw [qFH h, kR, List.length_take, Nat.min_eq_left (by omega)]
 ·rw [List.take_of_length_le (by omega), List.take_of_length_le (by omega)]
  simp [List.getD_eq_getElem?_getD, List.getElem?_eq_none (show l.length ≤ i by omega)]
theorem qEG (l m : List Nat) : ∀ i, (jM l m i).1.length = i
 | 0 => rfl
 | i + 1 => by simp [jM, qEG l m i]
theorem qIP {l m : List Nat} (hl : okL l) (hm : okL m) : ∀ i, okL (jM l m i).1 ∧ (jM l m i).2 ≤ 1 ∧ qP (jM l m i).1 + qI ^ i * (jM l m i).2 = qP (l.take i) + qP (m.take i)
 | 0 => ⟨(by intro x hx; cases hx), by simp [jM], by simp [jM, qP]⟩
 | i + 1 => by
  obtain ⟨h1, h2, h3⟩ := qIP hl hm i
  have hlen := qEG l m i
  have a1 := jN hl i
  have a2 := jN hm i
  rw [qAY, qAY]
  simp only [jM]
  generalize jM l m i = A at *
  generalize l.getD i 0 = x at *
  generalize m.getD i 0 = y at *
  have hd := Nat.div_add_mod (x + y + A.2) qI
  have hb : 0 < qI := by decide
  refine ⟨?_, ?_, ?_⟩
  ·intro z hz
   rcases List.mem_append.1 hz with h | h
   ·exact h1 z h
   ·rw [List.mem_singleton.1 h]; exact Nat.mod_lt _ hb
  ·have : (x + y + A.2) / qI < 2 := (Nat.div_lt_iff_lt_mul hb).2 (by omega)
   omega
  ·rw [kR, hlen, Nat.pow_succ]
   have e : qI ^ i * ((x + y + A.2) % qI) + qI ^ i * qI * ((x + y + A.2) / qI) = qI ^ i * (x + y + A.2) := by
    rw [Nat.mul_assoc, ← Nat.mul_add, Nat.add_comm, hd]
   have e2 : qI ^ i * (x + y + A.2) = qI ^ i * x + qI ^ i * y + qI ^ i * A.2 := by rw [Nat.mul_add, Nat.mul_add]
   omega
theorem addL_spec {l m : List Nat} (hl : okL l) (hm : okL m) : okL (qSO l m) ∧ qP (qSO l m) = qP l + qP m := by
 obtain ⟨h1, h2, h3⟩ := qIP hl hm (max l.length m.length)
 have hlen := qEG l m (max l.length m.length)
 unfold qSO
 refine ⟨qEL ?_, ?_⟩
 ·intro z hz
  rcases List.mem_append.1 hz with h | h
  ·exact h1 z h
  ·rw [List.mem_singleton.1 h]; unfold qI; omega
 ·rw [qBU, kR, hlen, h3, List.take_of_length_le (by omega), List.take_of_length_le (by omega)]
theorem qFF (l : List Nat) : (wV l).length ≤ l.length := by
 unfold wV; rw [List.length_reverse]; have := (List.dropWhile_sublist (fun x : Nat => x == 0) (l := l.reverse)).length_le; simpa using this
theorem addL_len (l m : List Nat) : (qSO l m).length ≤ max l.length m.length + 1 := by
 unfold qSO
 have := qFF ((jM l m (max l.length m.length)).1 ++ [(jM l m (max l.length m.length)).2])
 rw [List.length_append, qEG] at this
 simpa using this
def xF (l m : List Nat) : Nat → List Nat × Nat
 | 0 => ([], 0)
 | i + 1 => ((xF l m i).1 ++ [(l.getD i 0 + qI - m.getD i 0 - (xF l m i).2) % qI], 1 - (l.getD i 0 + qI - m.getD i 0 - (xF l m i).2) / qI)
def qQV (l m : List Nat) : List Nat := wV (xF l m l.length).1
theorem qDE (l m : List Nat) : ∀ i, (xF l m i).1.length = i
 | 0 => rfl
 | i + 1 => by simp [xF, qDE l m i]
theorem qHU {l m : List Nat} (hl : okL l) (hm : okL m) : ∀ i, okL (xF l m i).1 ∧ (xF l m i).2 ≤ 1 ∧ qP (xF l m i).1 + qP (m.take i) = qP (l.take i) + qI ^ i * (xF l m i).2
 | 0 => ⟨(by intro x hx; cases hx), by simp [xF], by simp [xF, qP]⟩
 | i + 1 => by
  obtain ⟨h1, h2, h3⟩ := qHU hl hm i
  have hlen := qDE l m i
  have a1 := jN hl i
  have a2 := jN hm i
  rw [qAY, qAY]
  simp only [xF]
  generalize xF l m i = A at *
  generalize l.getD i 0 = x at *
  generalize m.getD i 0 = y at *
  generalize hz : x + qI - y - A.2 = z
  have hd := Nat.div_add_mod z qI
  have hb : 0 < qI := by decide
  have hq : z / qI < 2 := (Nat.div_lt_iff_lt_mul hb).2 (by omega)
  refine ⟨?_, Nat.sub_le _ _, ?_⟩
  ·intro w hw
   rcases List.mem_append.1 hw with h | h
   ·exact h1 w h
   ·rw [List.mem_singleton.1 h]; exact Nat.mod_lt _ hb
  ·rw [kR, hlen, Nat.pow_succ]
   have e : qI ^ i * (z % qI) + qI ^ i * qI * (z / qI) = qI ^ i * z := by
    rw [Nat.mul_assoc, ← Nat.mul_add, Nat.add_comm, hd]
   have e2 : qI ^ i * z + qI ^ i * y + qI ^ i * A.2 = qI ^ i * x + qI ^ i * qI := by
    rw [← Nat.mul_add, ← Nat.mul_add, ← Nat.mul_add]; congr 1; omega
   have e3 : qI ^ i * qI * (1 - z / qI) + qI ^ i * qI * (z / qI) = qI ^ i * qI := by
    rw [← Nat.mul_add]
    generalize z / qI = q at *
    rw [show 1 - q + q = 1 by omega, Nat.mul_one]
   omega
theorem qOI {l m : List Nat} (hl : okL l) (hm : okL m) (hlen : m.length ≤ l.length) (h : qP m ≤ qP l) : okL (qQV l m) ∧ qP (qQV l m) = qP l - qP m := by
 obtain ⟨h1, h2, h3⟩ := qHU hl hm l.length
 have hlt := qDT h1
 rw [qDE] at hlt
 rw [List.take_of_length_le (Nat.le_refl _), List.take_of_length_le hlen] at h3
 have h0 : (xF l m l.length).2 = 0 := by
  rcases Nat.eq_zero_or_pos (xF l m l.length).2 with h0 | h0
  ·exact h0
  ·have : (xF l m l.length).2 = 1 := by omega
   rw [this, Nat.mul_one] at h3; omega
 rw [h0, Nat.mul_zero] at h3
 unfold qQV
 exact ⟨qEL h1, by rw [qBU]; omega⟩
theorem qTO (l m : List Nat) : (qQV l m).length ≤ l.length := by
 unfold qQV
 have := qFF (xF l m l.length).1
 rwa [qDE] at this
theorem limbV_set {l : List Nat} : ∀ {j : Nat} {v : Nat}, j < l.length → qP (l.set j v) + qI ^ j * l.getD j 0 = qP l + qI ^ j * v := by
 induction l with
 | nil => intro j v h; simp at h
 | cons a l ih =>
  intro j v h
  cases j with
  | zero => simp [qP]; omega
  | succ j =>
   have := ih (j := j) (v := v) (by simpa using h)
   simp only [List.set_cons_succ, qP, List.getD_cons_succ, Nat.pow_succ]
   have e : ∀ t : Nat, qI ^ j * qI * t = qI * (qI ^ j * t) := fun t => by rw [Nat.mul_comm (qI ^ j), Nat.mul_assoc]
   rw [e, e]
   have := congrArg (qI * ·) this
   simp only [Nat.mul_add] at this
   omega
def vD (m : List Nat) (x i : Nat) (out : List Nat) : Nat → List Nat × Nat
 | 0 => (out, 0)
 | k + 1 => let A := vD m x i out k; (A.1.set (i + k) ((A.1.getD (i + k) 0 + x * m.getD k 0 + A.2) % qI), (A.1.getD (i + k) 0 + x * m.getD k 0 + A.2) / qI)
def qAQ (l m : List Nat) : Nat → List Nat
 | 0 => List.replicate (l.length + m.length + 1) 0
 | i + 1 => (vD m (l.getD i 0) i (qAQ l m i) (m.length + 1)).1
def qUO (l m : List Nat) : List Nat := wV (qAQ l m l.length)
theorem qGK (m : List Nat) (x i : Nat) (out : List Nat) : ∀ k, (vD m x i out k).1.length = out.length
 | 0 => rfl
 | k + 1 => by simp [vD, qGK m x i out k]
theorem qKY (m : List Nat) (x i : Nat) (out : List Nat) : ∀ k j, i + k ≤ j → (vD m x i out k).1.getD j 0 = out.getD j 0
 | 0, j, _ => rfl
 | k + 1, j, h => by
  have ih := qKY m x i out k j (by omega)
  simp only [vD]
  rw [← ih]
  simp only [List.getD_eq_getElem?_getD]
  rw [List.getElem?_set_ne (by omega)]
theorem qEO {m : List Nat} {x i : Nat} {out : List Nat} (hm : okL m) (hx : x < qI) (ho : okL out) : ∀ k, i + k ≤ out.length → okL (vD m x i out k).1 ∧ (vD m x i out k).2 < qI ∧ qP (vD m x i out k).1 + qI ^ (i + k) * (vD m x i out k).2 = qP out + qI ^ i * x * qP (m.take k)
 | 0, _ => ⟨ho, (by show 0 < qI; decide), by simp [vD, qP]⟩
 | k + 1, h => by
  obtain ⟨h1, h2, h3⟩ := qEO (i := i) hm hx ho k (by omega)
  have hlen := qGK m x i out k
  have a2 := jN hm k
  have a1 := jN h1 (i + k)
  rw [qAY]
  simp only [vD]
  generalize vD m x i out k = A at *
  have hset := limbV_set (l := A.1) (j := i + k) (v := (A.1.getD (i + k) 0 + x * m.getD k 0 + A.2) % qI) (by omega)
  generalize A.1.getD (i + k) 0 = o at *
  generalize m.getD k 0 = y at *
  have hxy : x * y ≤ (qI - 1) * (qI - 1) := Nat.mul_le_mul (by omega) (by omega)
  have hdx : (qI - 1) * (qI - 1) + (qI - 1) + (qI - 1) < qI * qI := by decide
  generalize hz : o + x * y + A.2 = z at *
  have hd := Nat.div_add_mod z qI
  have hb : 0 < qI := by decide
  refine ⟨?_, (Nat.div_lt_iff_lt_mul hb).2 (by omega), ?_⟩
  ·intro w hw
   rcases List.mem_or_eq_of_mem_set hw with h | h
   ·exact h1 w h
   ·rw [h]; exact Nat.mod_lt _ hb
  ·rw [show qI ^ (i + (k + 1)) = qI ^ (i + k) * qI from Nat.pow_succ _ _]
   have e : qI ^ (i + k) * (z % qI) + qI ^ (i + k) * qI * (z / qI) = qI ^ (i + k) * z := by
    rw [Nat.mul_assoc, ← Nat.mul_add, Nat.add_comm (z % qI), hd]
   have e2 : qI ^ (i + k) * z = qI ^ (i + k) * o + qI ^ i * x * (qI ^ k * y) + qI ^ (i + k) * A.2 := by
    rw [← hz, Nat.mul_add, Nat.mul_add]
    congr 2
    rw [Nat.pow_add]
    simp only [Nat.mul_assoc, Nat.mul_left_comm, Nat.mul_comm]
   rw [Nat.mul_add]
   omega
theorem qGT (l m : List Nat) : ∀ i, (qAQ l m i).length = l.length + m.length + 1
 | 0 => by simp [qAQ]
 | i + 1 => by simp only [qAQ]; rw [qGK, qGT l m i]
theorem qVA (n : Nat) : qP (List.replicate n 0) = 0 := by
 induction n with
 | zero => rfl
 | succ n ih => simp [List.replicate_succ, qP, ih]
theorem qIB {l m : List Nat} (hl : okL l) (hm : okL m) : ∀ i, i ≤ l.length → okL (qAQ l m i) ∧ qP (qAQ l m i) = qP (l.take i) * qP m ∧ ∀ j, i + m.length ≤ j → (qAQ l m i).getD j 0 = 0
 | 0, _ => ⟨by intro x hx; rw [(List.mem_replicate.1 hx).2]; decide, by simp [qAQ, qVA, qP], fun j _ => by
   simp only [qAQ, List.getD_eq_getElem?_getD, List.getElem?_replicate]; split <;> rfl⟩
 | i + 1, h => by
  obtain ⟨h1, h2, h3⟩ := qIB hl hm i (by omega)
  have hx := jN hl i
  have hlen := qGT l m i
  obtain ⟨g1, g2, g3⟩ := qEO (i := i) hm hx h1 (m.length + 1) (by omega)
  obtain ⟨f1, f2, f3⟩ := qEO (i := i) hm hx h1 m.length (by omega)
  have hg := qKY m (l.getD i 0) i (qAQ l m i) m.length (i + m.length) (by omega)
  rw [h3 _ (by omega)] at hg
  have hn : m.getD m.length 0 = 0 := by simp [List.getD_eq_getElem?_getD]
  have hc : (vD m (l.getD i 0) i (qAQ l m i) (m.length + 1)).2 = 0 := by
   simp only [vD]
   rw [hg, hn, Nat.mul_zero, Nat.zero_add]
   exact Nat.div_eq_of_lt f2
  rw [hc, Nat.mul_zero, Nat.add_zero, List.take_of_length_le (by omega)] at g3
  simp only [qAQ]
  refine ⟨g1, ?_, fun j hj => ?_⟩
  ·rw [g3, h2, qAY, Nat.add_mul, Nat.mul_assoc]
  ·rw [qKY _ _ _ _ _ _ (by omega)]; exact h3 j (by omega)
theorem mulL_spec {l m : List Nat} (hl : okL l) (hm : okL m) : okL (qUO l m) ∧ qP (qUO l m) = qP l * qP m := by
 obtain ⟨h1, h2, _⟩ := qIB hl hm l.length (Nat.le_refl _)
 unfold qUO
 rw [List.take_length] at h2
 exact ⟨qEL h1, by rw [qBU, h2]⟩
theorem mulL_len (l m : List Nat) : (qUO l m).length ≤ l.length + m.length + 1 := by
 unfold qUO
 have := qFF (qAQ l m l.length)
 rwa [qGT] at this
end Go.Proofs.YtdojfdaglbphlaaGreatDoor
