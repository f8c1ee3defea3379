import Derived.Test.YtgoepemmcibdaaaGreatDoorSDecMay
import Derived.Lib.Repeat
/-
  A PLAIN LAW: decimals: the value of digits; limbs; their order.
-/
namespace Go.Proofs.YtgoepemmcibdaaaGreatDoor
open Sy Go
set_option linter.unusedSimpArgs false
set_option linter.unusedVariables false
/-- The value of digits. -/
def valD (s : List UInt8) : Nat := s.foldl (fun n b => n * 10 + (b.toNat - 48)) 0
def dv (b : UInt8) : Nat := b.toNat - 48
theorem isDig_iff (b : UInt8) : isDig b = true ↔ 48 ≤ b.toNat ∧ b.toNat ≤ 57 := by simp [isDig, digitM]; omega
theorem valD_foldl (s : List UInt8) : ∀ n, s.foldl (fun n b => n * 10 + (b.toNat - 48)) n = n * 10 ^ s.length + valD s := by
  induction s with
  | nil => intro n; simp [valD]
  | cons b s ih =>
    intro n
    have e : valD (b :: s) = (b.toNat - 48) * 10 ^ s.length + valD s := by unfold valD; rw [List.foldl_cons, ih]; simp [valD]
    rw [List.foldl_cons, ih, e, List.length_cons, Nat.pow_succ, Nat.add_mul, Nat.mul_assoc, Nat.mul_comm 10, Nat.add_assoc]
theorem valD_cons (b : UInt8) (s : List UInt8) : valD (b :: s) = (b.toNat - 48) * 10 ^ s.length + valD s := by
  unfold valD; rw [List.foldl_cons, valD_foldl]; simp [valD]
theorem valD_append (s t : List UInt8) : valD (s ++ t) = valD s * 10 ^ t.length + valD t := by
  unfold valD; rw [List.foldl_append, valD_foldl]; rfl
theorem valD_snoc (s : List UInt8) (b : UInt8) : valD (s ++ [b]) = valD s * 10 + (b.toNat - 48) := by rw [valD_append]; simp [valD]
theorem valD_nil : valD [] = 0 := rfl
theorem valD_lt {s : List UInt8} (h : s.all isDig = true) : valD s < 10 ^ s.length := by
  induction s with
  | nil => simp [valD]
  | cons b s ih =>
    simp only [List.all_cons, Bool.and_eq_true] at h
    have h1 := (isDig_iff b).1 h.1
    have h2 := ih h.2
    rw [valD_cons, List.length_cons, Nat.pow_succ]
    have : b.toNat - 48 ≤ 9 := by omega
    have := Nat.mul_le_mul_right (10 ^ s.length) this
    omega
theorem zeros_rep (n : Nat) : Lib.repeatL [48] n = List.replicate n 48 := by
  induction n with
  | zero => rfl
  | succ n ih => simp [Lib.repeatL, ih, List.replicate_succ]
theorem valD_zeros (n : Nat) : valD (List.replicate n 48) = 0 := by
  induction n with
  | zero => rfl
  | succ n ih => rw [List.replicate_succ, valD_cons, ih]; simp
theorem valD_pad (s : List UInt8) (n : Nat) : valD (s ++ List.replicate n 48) = valD s * 10 ^ n := by rw [valD_append, valD_zeros]; simp
theorem dig_pad {s : List UInt8} (h : s.all isDig = true) (n : Nat) : (s ++ List.replicate n 48).all isDig = true := by
  rw [List.all_append, h]
  have : (List.replicate n (48 : UInt8)).all isDig = true := List.all_eq_true.2 fun b hb => by rw [(List.mem_replicate.1 hb).2]; rfl
  rw [this]; rfl
/-! ### Limbs -/
def base9 : Nat := 1000000000
def limbV : List Nat → Nat
  | [] => 0
  | x :: xs => x + base9 * limbV xs
def okL (l : List Nat) : Prop := ∀ x ∈ l, x < base9
def trimL0 (l : List Nat) : List Nat := (l.reverse.dropWhile (· == 0)).reverse
def limbAt (s : List UInt8) (e : Nat) : Nat := valD ((s.take e).drop (e - 9))
def limbsF (s : List UInt8) : Nat → Nat → List Nat
  | 0, _ => []
  | f + 1, e => if 0 < e then limbAt s e :: limbsF s f (e - 9) else []
theorem limbsF_fuel (s : List UInt8) : ∀ (f g e : Nat), e ≤ f → e ≤ g → limbsF s f e = limbsF s g e
  | 0, 0, _, _, _ => rfl
  | 0, g + 1, e, h, _ => by simp only [limbsF]; rw [if_neg (by omega)]
  | f + 1, 0, e, _, h => by simp only [limbsF]; rw [if_neg (by omega)]
  | f + 1, g + 1, e, h1, h2 => by
    simp only [limbsF]
    split
    · rw [limbsF_fuel s f g _ (by omega) (by omega)]
    · rfl
def limbs (s : List UInt8) (e : Nat) : List Nat := limbsF s e e
theorem limbs_pos {s : List UInt8} {e : Nat} (h : 0 < e) : limbs s e = limbAt s e :: limbs s (e - 9) := by
  unfold limbs
  rw [show e = (e - 1) + 1 by omega]
  simp only [limbsF]
  rw [if_pos (by omega), limbsF_fuel s (e - 1) (e - 1 + 1 - 9) _ (by omega) (by omega)]
theorem limbs_zero (s : List UInt8) : limbs s 0 = [] := rfl
theorem all_take {s : List UInt8} (h : s.all isDig = true) (n : Nat) : (s.take n).all isDig = true := by
  rw [List.all_eq_true] at h ⊢; exact fun b hb => h b (List.mem_of_mem_take hb)
theorem all_drop {s : List UInt8} (h : s.all isDig = true) (n : Nat) : (s.drop n).all isDig = true := by
  rw [List.all_eq_true] at h ⊢; exact fun b hb => h b (List.mem_of_mem_drop hb)
theorem limbAt_lt {s : List UInt8} (h : s.all isDig = true) (e : Nat) : limbAt s e < base9 := by
  have h1 := valD_lt (all_drop (all_take h e) (e - 9))
  have h2 : ((s.take e).drop (e - 9)).length ≤ 9 := by simp; omega
  have := Nat.pow_le_pow_right (n := 10) (by omega) h2
  unfold limbAt base9; omega
theorem limbs_ok {s : List UInt8} (h : s.all isDig = true) : ∀ (f e : Nat), e ≤ f → okL (limbs s e)
  | 0, e, he => by rw [show e = 0 by omega, limbs_zero]; intro x hx; cases hx
  | f + 1, e, he => by
    by_cases hp : 0 < e
    · rw [limbs_pos hp]
      intro x hx
      rcases List.mem_cons.1 hx with rfl | hx
      · exact limbAt_lt h e
      · exact limbs_ok h f (e - 9) (by omega) x hx
    · rw [show e = 0 by omega, limbs_zero]; intro x hx; cases hx
theorem limbs_val {s : List UInt8} (h : s.all isDig = true) : ∀ (f e : Nat), e ≤ f → e ≤ s.length → limbV (limbs s e) = valD (s.take e)
  | 0, e, he, _ => by rw [show e = 0 by omega, limbs_zero]; rfl
  | f + 1, e, he, hs => by
    by_cases hp : 0 < e
    · rw [limbs_pos hp]
      simp only [limbV]
      rw [limbs_val h f (e - 9) (by omega) (by omega)]
      have e1 : s.take e = s.take (e - 9) ++ (s.take e).drop (e - 9) := by
        have h2 := List.take_append_drop (e - 9) (s.take e)
        rw [List.take_take, Nat.min_eq_left (by omega)] at h2
        exact h2.symm
      have e2 : valD (s.take e) = valD (s.take (e - 9)) * 10 ^ ((s.take e).drop (e - 9)).length + limbAt s e := by
        rw [e1, valD_append, ← e1]; rfl
      rw [e2]
      by_cases h9 : 9 ≤ e
      · have : ((s.take e).drop (e - 9)).length = 9 := by simp; omega
        rw [this]; unfold base9; omega
      · rw [show e - 9 = 0 by omega]; simp [valD]
    · rw [show e = 0 by omega, limbs_zero]; rfl
theorem trimL0_snoc (l : List Nat) (x : Nat) : trimL0 (l ++ [x]) = if x = 0 then trimL0 l else l ++ [x] := by
  unfold trimL0
  rw [List.reverse_append]
  simp only [List.reverse_cons, List.reverse_nil, List.nil_append, List.singleton_append, List.dropWhile_cons]
  by_cases h : x = 0
  · simp [h]
  · simp [h]
theorem limbV_snoc (l : List Nat) (x : Nat) : limbV (l ++ [x]) = limbV l + base9 ^ l.length * x := by
  induction l with
  | nil => simp [limbV]
  | cons a l ih => simp only [List.cons_append, limbV, ih, List.length_cons, Nat.pow_succ, Nat.mul_add]; rw [Nat.add_assoc, Nat.mul_comm (base9 ^ l.length) base9, Nat.mul_assoc]
theorem snocRec {p : List Nat → Prop} (h0 : p []) (h1 : ∀ l x, p l → p (l ++ [x])) (l : List Nat) : p l := by
  have : ∀ r : List Nat, p r.reverse := by
    intro r
    induction r with
    | nil => exact h0
    | cons a r ih => rw [List.reverse_cons]; exact h1 _ _ ih
  simpa using this l.reverse
theorem trimL0_val (l : List Nat) : limbV (trimL0 l) = limbV l := by
  refine snocRec (p := fun l => limbV (trimL0 l) = limbV l) rfl (fun l x ih => ?_) l
  rw [trimL0_snoc]
  split
  · rename_i h; rw [ih, limbV_snoc, h]; simp
  · rfl
theorem trimL0_ok {l : List Nat} (h : okL l) : okL (trimL0 l) := by
  intro x hx
  unfold trimL0 at hx
  rw [List.mem_reverse] at hx
  exact h x (List.mem_reverse.1 ((List.dropWhile_sublist _).subset hx))
/-- Nothing but a limb that is not nought stands at the end. -/
def canL (l : List Nat) : Prop := okL l ∧ l.getLast? ≠ some 0
theorem trimL0_can {l : List Nat} (h : okL l) : canL (trimL0 l) := by
  refine ⟨trimL0_ok h, ?_⟩
  refine snocRec (p := fun l => (trimL0 l).getLast? ≠ some 0) (by simp [trimL0]) (fun l x ih => ?_) l
  rw [trimL0_snoc]
  split
  · exact ih
  · rename_i h; simp; exact h
theorem limbV_lt {l : List Nat} (h : okL l) : limbV l < base9 ^ l.length := by
  induction l with
  | nil => simp [limbV]
  | cons a l ih =>
    have h1 := h a (by simp)
    have h2 := ih fun x hx => h x (by simp [hx])
    simp only [limbV, List.length_cons, Nat.pow_succ]
    have : base9 * (limbV l + 1) ≤ base9 * base9 ^ l.length := Nat.mul_le_mul_left _ h2
    rw [Nat.mul_comm (base9 ^ l.length)]
    rw [Nat.mul_add] at this; omega
theorem limbV_ge {l : List Nat} (h : l ≠ []) (hc : l.getLast? ≠ some 0) : base9 ^ (l.length - 1) ≤ limbV l := by
  have hs : l = l.dropLast ++ [l.getLast h] := (List.dropLast_concat_getLast h).symm
  have hx : l.getLast h ≠ 0 := fun e => hc (by rw [← e]; exact List.getLast?_eq_some_getLast h)
  have hv : limbV l = limbV l.dropLast + base9 ^ l.dropLast.length * l.getLast h := by
    conv => lhs; rw [hs]
    exact limbV_snoc _ _
  rw [hv, List.length_dropLast]
  have : base9 ^ (l.length - 1) * 1 ≤ base9 ^ (l.length - 1) * l.getLast h := Nat.mul_le_mul_left _ (by omega)
  omega
theorem limb_len {l m : List Nat} (hl : canL l) (hm : canL m) (h : l.length < m.length) : limbV l < limbV m := by
  have h1 := limbV_lt hl.1
  have h2 := limbV_ge (l := m) (by rintro rfl; simp at h) hm.2
  have h3 : base9 ^ l.length ≤ base9 ^ (m.length - 1) := Nat.pow_le_pow_right (by decide) (by omega)
  omega
/-- How the program orders rows of limbs. -/
def topCmp (l m : List Nat) : Nat → Int
  | 0 => 0
  | i + 1 => if l.getD i 0 = m.getD i 0 then topCmp l m i else if l.getD i 0 < m.getD i 0 then -1 else 1
def natCmp (l m : List Nat) : Int := if l.length ≠ m.length then (l.length : Int) - m.length else topCmp l m l.length
theorem take_snocD {l : List Nat} {i : Nat} (h : i < l.length) : l.take (i + 1) = l.take i ++ [l.getD i 0] := by
  rw [List.take_succ_eq_append_getElem h]; simp [List.getD_eq_getElem?_getD, h]
theorem topCmp_spec {l m : List Nat} (hl : okL l) (hm : okL m) (hlen : l.length = m.length) : ∀ i, i ≤ l.length →
    topCmp l m i = if limbV (l.take i) < limbV (m.take i) then -1 else if limbV (l.take i) = limbV (m.take i) then 0 else 1
  | 0, _ => by simp [topCmp, limbV]
  | i + 1, hi => by
    have h1 := limbV_lt (l := l.take i) fun x hx => hl x (List.mem_of_mem_take hx)
    have h2 := limbV_lt (l := m.take i) fun x hx => hm x (List.mem_of_mem_take hx)
    have e1 : (l.take i).length = i := by simp; omega
    have e2 : (m.take i).length = i := by simp; omega
    rw [e1] at h1
    rw [e2] at h2
    rw [take_snocD (by omega), take_snocD (by omega), limbV_snoc, limbV_snoc, e1, e2]
    simp only [topCmp]
    by_cases h : l.getD i 0 = m.getD i 0
    · rw [if_pos h, topCmp_spec hl hm hlen i (by omega), h]
      have a1 : (limbV (l.take i) + base9 ^ i * m.getD i 0 < limbV (m.take i) + base9 ^ i * m.getD i 0) = (limbV (l.take i) < limbV (m.take i)) := propext (by omega)
      have a2 : (limbV (l.take i) + base9 ^ i * m.getD i 0 = limbV (m.take i) + base9 ^ i * m.getD i 0) = (limbV (l.take i) = limbV (m.take i)) := propext (by omega)
      simp only [a1, a2]
    · rw [if_neg h]
      by_cases h3 : l.getD i 0 < m.getD i 0
      · rw [if_pos h3]
        have := Nat.mul_le_mul_left (base9 ^ i) (show l.getD i 0 + 1 ≤ m.getD i 0 by omega)
        rw [Nat.mul_add, Nat.mul_one] at this
        rw [if_pos (by omega)]
      · rw [if_neg h3]
        have := Nat.mul_le_mul_left (base9 ^ i) (show m.getD i 0 + 1 ≤ l.getD i 0 by omega)
        rw [Nat.mul_add, Nat.mul_one] at this
        rw [if_neg (by omega), if_neg (by omega)]
def sgn (n : Int) : Int := if n < 0 then -1 else if n = 0 then 0 else 1
theorem natCmp_spec {l m : List Nat} (hl : canL l) (hm : canL m) : sgn (natCmp l m) = sgn ((limbV l : Int) - limbV m) := by
  unfold natCmp
  by_cases h : l.length = m.length
  · rw [if_neg (by omega), topCmp_spec hl.1 hm.1 h l.length (Nat.le_refl _), List.take_length, h, List.take_length]
    unfold sgn
    split
    · rw [if_pos (by omega), if_pos (by omega)]
    · split
      · rw [if_neg (by omega), if_pos rfl, if_neg (by omega), if_pos (by omega)]
      · rw [if_neg (by omega), if_neg (by omega), if_neg (by omega), if_neg (by omega)]
  · rw [if_pos h]
    unfold sgn
    rcases Nat.lt_or_gt_of_ne h with h1 | h1
    · have := limb_len hl hm h1
      rw [if_pos (by omega), if_pos (by omega)]
    · have := limb_len hm hl h1
      rw [if_neg (by omega), if_neg (by omega), if_neg (by omega), if_neg (by omega)]
theorem natCmp_range (l m : List Nat) (h1 : l.length ≤ 1000000) (h2 : m.length ≤ 1000000) : -1000000 ≤ natCmp l m ∧ natCmp l m ≤ 1000000 := by
  unfold natCmp
  split
  · omega
  · have : ∀ i, -1 ≤ topCmp l m i ∧ topCmp l m i ≤ 1 := by
      intro i
      induction i with
      | zero => simp [topCmp]
      | succ i ih => simp only [topCmp]; split; · exact ih
                     · split <;> omega
    have := this l.length; omega
def natL (s : List UInt8) : List Nat := trimL0 (limbs s s.length)
theorem natL_can {s : List UInt8} (h : s.all isDig = true) : canL (natL s) := trimL0_can (limbs_ok h _ _ (Nat.le_refl _))
theorem natL_val {s : List UInt8} (h : s.all isDig = true) : limbV (natL s) = valD s := by
  unfold natL; rw [trimL0_val, limbs_val h _ _ (Nat.le_refl _) (Nat.le_refl _), List.take_length]
theorem limbs_len (s : List UInt8) : ∀ (f e : Nat), e ≤ f → (limbs s e).length ≤ e
  | 0, e, he => by rw [show e = 0 by omega, limbs_zero]; simp
  | f + 1, e, he => by
    by_cases hp : 0 < e
    · rw [limbs_pos hp]; have := limbs_len s f (e - 9) (by omega); simp; omega
    · rw [show e = 0 by omega, limbs_zero]; simp
theorem natL_len (s : List UInt8) : (natL s).length ≤ s.length := by
  have h1 : (natL s).length ≤ (limbs s s.length).length := by
    unfold natL trimL0; rw [List.length_reverse]; have := (List.dropWhile_sublist (fun x : Nat => x == 0) (l := (limbs s s.length).reverse)).length_le; simpa using this
  have := limbs_len s _ s.length (Nat.le_refl _); omega
end Go.Proofs.YtgoepemmcibdaaaGreatDoor
