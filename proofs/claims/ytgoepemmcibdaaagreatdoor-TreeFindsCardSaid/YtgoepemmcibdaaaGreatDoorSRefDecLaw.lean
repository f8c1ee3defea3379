import Derived.Test.YtgoepemmcibdaaaGreatDoorSDecLaw
import Derived.Test.YtgoepemmcibdaaaGreatDoorSRef1P
/-
  A PLAIN LAW: decimals: the order of digits of one length, and of decimals by them.
-/
namespace Go.Proofs.YtgoepemmcibdaaaGreatDoor
open Sy Go
set_option linter.unusedSimpArgs false
set_option linter.unusedVariables false
theorem digLess : ∀ (x y : List UInt8), x.length = y.length → x.all isDig = true → y.all isDig = true → (Op.bytesLess x y = true ↔ valD x < valD y)
  | [], [], _, _, _ => by simp [Op.bytesLess]
  | [], _ :: _, h, _, _ => by simp at h
  | _ :: _, [], h, _, _ => by simp at h
  | a :: x, b :: y, h, hx, hy => by
    simp only [List.all_cons, Bool.and_eq_true] at hx hy
    have hl : x.length = y.length := by simpa using h
    have ih := digLess x y hl hx.2 hy.2
    have da := (isDig_iff a).1 hx.1
    have db := (isDig_iff b).1 hy.1
    have lx := valD_lt hx.2
    have ly := valD_lt hy.2
    rw [valD_cons, valD_cons, hl]
    rw [hl] at lx
    simp only [Op.bytesLess, Bool.or_eq_true, Bool.and_eq_true, decide_eq_true_eq, beq_iff_eq, UInt8.lt_iff_toNat_lt, ih]
    by_cases h1 : a.toNat < b.toNat
    · have := Nat.mul_le_mul_right (10 ^ y.length) (show a.toNat - 48 + 1 ≤ b.toNat - 48 by omega)
      rw [Nat.add_mul, Nat.one_mul] at this
      exact ⟨fun _ => by omega, fun _ => .inl h1⟩
    · by_cases h2 : a = b
      · subst h2
        exact ⟨fun h => by rcases h with h | h; · omega
                           · omega, fun h => .inr ⟨rfl, by omega⟩⟩
      · have h3 : b.toNat < a.toNat := by have : a.toNat ≠ b.toNat := fun e => h2 (UInt8.toNat_inj.1 e); omega
        have := Nat.mul_le_mul_right (10 ^ y.length) (show b.toNat - 48 + 1 ≤ a.toNat - 48 by omega)
        rw [Nat.add_mul, Nat.one_mul] at this
        exact ⟨fun h => by rcases h with h | h; · omega
                           · exact (h2 h.1).elim, fun h => by omega⟩
theorem digInj : ∀ (x y : List UInt8), x.length = y.length → x.all isDig = true → y.all isDig = true → valD x = valD y → x = y
  | [], [], _, _, _, _ => rfl
  | [], _ :: _, h, _, _, _ => by simp at h
  | _ :: _, [], h, _, _, _ => by simp at h
  | a :: x, b :: y, h, hx, hy, he => by
    simp only [List.all_cons, Bool.and_eq_true] at hx hy
    have hl : x.length = y.length := by simpa using h
    have da := (isDig_iff a).1 hx.1
    have db := (isDig_iff b).1 hy.1
    have lx := valD_lt hx.2
    have ly := valD_lt hy.2
    rw [valD_cons, valD_cons, hl] at he
    rw [hl] at lx
    have hab : a.toNat = b.toNat := by
      by_cases h1 : a.toNat < b.toNat
      · have := Nat.mul_le_mul_right (10 ^ y.length) (show a.toNat - 48 + 1 ≤ b.toNat - 48 by omega)
        rw [Nat.add_mul, Nat.one_mul] at this; omega
      · by_cases h3 : b.toNat < a.toNat
        · have := Nat.mul_le_mul_right (10 ^ y.length) (show b.toNat - 48 + 1 ≤ a.toNat - 48 by omega)
          rw [Nat.add_mul, Nat.one_mul] at this; omega
        · omega
    rw [hab] at he
    rw [UInt8.toNat_inj.1 hab, digInj x y hl hx.2 hy.2 (by omega)]
/-- Digits without noughts ahead. -/
theorem lead_len {x y : List UInt8} (hx : x.all isDig = true) (hy : y.all isDig = true) (lx : 0 < x.length) (ly : 0 < y.length) (h1 : byteAt x 0 ≠ 48) (h2 : byteAt y 0 ≠ 48) (h : valD x = valD y) : x.length = y.length := by
  have a1 := valD_pos hx lx h1
  have a2 := valD_pos hy ly h2
  have b1 := valD_lt hx
  have b2 := valD_lt hy
  by_cases h3 : x.length < y.length
  · have := Nat.pow_le_pow_right (show 0 < 10 by omega) (show x.length ≤ y.length - 1 by omega); omega
  · by_cases h4 : y.length < x.length
    · have := Nat.pow_le_pow_right (show 0 < 10 by omega) (show y.length ≤ x.length - 1 by omega); omega
    · omega
theorem may_parts {d : Dc} (h : dcMay d = true) : (d.digits = [48] ∧ d.scale = 0 ∧ d.neg = false) ∨ (byteAt d.digits 0 ≠ 48 ∧ (d.scale = 0 ∨ byteAt d.digits (d.digits.length - 1) ≠ 48)) := by
  unfold dcMay at h
  simp only [Bool.and_eq_true] at h
  obtain ⟨_, h3⟩ := h
  split at h3
  · rename_i h4; simp at h3; exact .inl ⟨h4, h3.1, h3.2⟩
  · simp at h3; exact .inr h3
theorem last_ten {s : List UInt8} (h : 0 < s.length) (hd : s.all isDig = true) : ((valD s % 10 : Nat) : Int) = byteAt s (s.length - 1) - 48 := by
  obtain ⟨t, b, rfl⟩ : ∃ t b, s = t ++ [b] := ⟨s.dropLast, s.getLast (List.length_pos_iff.1 h), (List.dropLast_concat_getLast (List.length_pos_iff.1 h)).symm⟩
  rw [List.all_append] at hd
  simp at hd
  have db := (isDig_iff b).1 hd.2
  rw [valD_snoc]
  have : byteAt (t ++ [b]) ((t ++ [b]).length - 1) = (b.toNat : Int) := by simp [byteAt]
  rw [this]; omega
theorem qN_inj {a b : Dc} (ha : dcMay a = true) (hb : dcMay b = true) (hq : qN a = qN b) : a.digits = b.digits ∧ a.scale = b.scale := by
  obtain ⟨⟨a1, a2, a3, a4⟩, a5, a6⟩ := dcMay_ok ha
  obtain ⟨⟨b1, b2, b3, b4⟩, b5, b6⟩ := dcMay_ok hb
  have la : 0 < a.digits.length := by unfold dcMay at ha; simp at ha; omega
  have lb : 0 < b.digits.length := by unfold dcMay at hb; simp at hb; omega
  have key : ∀ a b : Dc, dcMay a = true → dcMay b = true → qN a = qN b → a.scale < b.scale → False := by
    intro a b ha hb hq hlt
    obtain ⟨⟨a1, a2, a3, a4⟩, a5, a6⟩ := dcMay_ok ha
    obtain ⟨⟨b1, b2, b3, b4⟩, b5, b6⟩ := dcMay_ok hb
    have lb : 0 < b.digits.length := by unfold dcMay at hb; simp at hb; omega
    rcases may_parts hb with h | h
    · omega
    · have hl := h.2.resolve_left (by omega)
      unfold qN at hq
      have e : 60 - a.scale.toNat = ((b.scale - a.scale).toNat - 1) + 1 + (60 - b.scale.toNat) := by omega
      rw [e, Nat.pow_add, ← Nat.mul_assoc] at hq
      have hq' := Nat.eq_of_mul_eq_mul_right (Nat.pow_pos (n := 60 - b.scale.toNat) (show 0 < 10 by omega)) hq
      have h10 : valD b.digits % 10 = 0 := by rw [← hq', Nat.pow_succ, ← Nat.mul_assoc]; exact Nat.mul_mod_left _ _
      have h11 := last_ten lb b4
      rw [h10] at h11
      have hb' : 48 ≤ byteAt b.digits (b.digits.length - 1) := by
        obtain ⟨t, c, e⟩ : ∃ t c, b.digits = t ++ [c] := ⟨b.digits.dropLast, b.digits.getLast (List.length_pos_iff.1 lb), (List.dropLast_concat_getLast (List.length_pos_iff.1 lb)).symm⟩
        rw [e] at b4 ⊢
        rw [List.all_append] at b4
        simp at b4
        have := (isDig_iff c).1 b4.2
        simp [byteAt]; omega
      omega
  have hs : a.scale = b.scale := by
    by_cases h1 : a.scale < b.scale
    · exact (key a b ha hb hq h1).elim
    · by_cases h2 : b.scale < a.scale
      · exact (key b a hb ha hq.symm h2).elim
      · omega
  refine ⟨?_, hs⟩
  unfold qN at hq
  rw [hs] at hq
  have hv := Nat.eq_of_mul_eq_mul_right (Nat.pow_pos (n := 60 - b.scale.toNat) (show 0 < 10 by omega)) hq
  have hz : ∀ d : Dc, dcMay d = true → 0 < d.digits.length → byteAt d.digits 0 ≠ 48 → valD d.digits ≠ 0 := fun d hd hl h0 h => by
    have := valD_pos (dcMay_ok hd).1.2.2.2 hl h0
    have := Nat.pow_pos (n := d.digits.length - 1) (show 0 < 10 by omega)
    omega
  have v0 : valD [48] = 0 := by simp [valD]
  rcases may_parts ha with h1 | h1 <;> rcases may_parts hb with h2 | h2
  · rw [h1.1, h2.1]
  · rw [h1.1, v0] at hv; exact (hz b hb lb h2.1 hv.symm).elim
  · rw [h2.1, v0] at hv; exact (hz a ha la h1.1 hv).elim
  · exact digInj _ _ (lead_len a4 b4 la lb h1.1 h2.1 hv) a4 b4 hv
def padX (a b : Dc) : List UInt8 := a.digits ++ zerosM (maxS a b - a.scale).toNat
def padY (a b : Dc) : List UInt8 := b.digits ++ zerosM (maxS a b - b.scale).toNat
def alX (p q : List UInt8) : List UInt8 := zerosM ((if p.length < q.length then (q.length : Int) else (p.length : Int)) - p.length).toNat ++ p
def alY (p q : List UInt8) : List UInt8 := zerosM ((if p.length < q.length then (q.length : Int) else (p.length : Int)) - q.length).toNat ++ q
theorem al_len (p q : List UInt8) : (alX p q).length = (alY p q).length := by
  unfold alX alY zerosM; simp only [List.length_append, List.length_replicate]; split <;> omega
theorem al_all {p q : List UInt8} (hp : p.all isDig = true) (hq : q.all isDig = true) : (alX p q).all isDig = true ∧ (alY p q).all isDig = true := by
  unfold alX alY; rw [List.all_append, List.all_append, hp, hq, zerosM_all', zerosM_all']; exact ⟨rfl, rfl⟩
where zerosM_all' (n : Nat) : (zerosM n).all isDig = true := List.all_eq_true.2 fun b hb => by rw [(List.mem_replicate.1 hb).2]; rfl
theorem al_val (p q : List UInt8) : valD (alX p q) = valD p ∧ valD (alY p q) = valD q := by
  unfold alX alY zerosM; rw [valD_append, valD_append, valD_zeros, valD_zeros]; simp
theorem less_spec {a b : Dc} (ha : dcMay a = true) (hb : dcMay b = true) : (Op.bytesLess (alX (padX a b) (padY a b)) (alY (padX a b) (padY a b)) = true ↔ qN a < qN b) ∧ (Op.bytesLess (alY (padX a b) (padY a b)) (alX (padX a b) (padY a b)) = true ↔ qN b < qN a) := by
  obtain ⟨⟨a1, a2, a3, a4⟩, a5, a6⟩ := dcMay_ok ha
  obtain ⟨⟨b1, b2, b3, b4⟩, b5, b6⟩ := dcMay_ok hb
  have hm1 : a.scale ≤ maxS a b := by unfold maxS; split <;> omega
  have hm2 : b.scale ≤ maxS a b := by unfold maxS; split <;> omega
  have hm3 : maxS a b ≤ 60 := by unfold maxS; split <;> omega
  have dx : (padX a b).all isDig = true := dig_pad a4 _
  have dy : (padY a b).all isDig = true := dig_pad b4 _
  have hal := al_all dx dy
  have hv := al_val (padX a b) (padY a b)
  have ea : qN a = valD (padX a b) * 10 ^ (60 - (maxS a b).toNat) := by
    unfold padX zerosM; rw [valD_pad, Nat.mul_assoc, ← Nat.pow_add, show (maxS a b - a.scale).toNat + (60 - (maxS a b).toNat) = 60 - a.scale.toNat by omega]; rfl
  have eb : qN b = valD (padY a b) * 10 ^ (60 - (maxS a b).toNat) := by
    unfold padY zerosM; rw [valD_pad, Nat.mul_assoc, ← Nat.pow_add, show (maxS a b - b.scale).toNat + (60 - (maxS a b).toNat) = 60 - b.scale.toNat by omega]; rfl
  have hp := Nat.pow_pos (n := 60 - (maxS a b).toNat) (show 0 < 10 by omega)
  rw [digLess _ _ (al_len _ _) hal.1 hal.2, digLess _ _ (al_len _ _).symm hal.2 hal.1, hv.1, hv.2, ea, eb]
  exact ⟨(Nat.mul_lt_mul_right hp).symm, (Nat.mul_lt_mul_right hp).symm⟩
theorem refCmpD_law {a b : Dc} (ha : dcMay a = true) (hb : dcMay b = true) (hne : a ≠ b) :
    cmpD a b = if (if a.neg = b.neg then (if a.neg = true then Op.bytesLess (alY (padX a b) (padY a b)) (alX (padX a b) (padY a b)) else Op.bytesLess (alX (padX a b) (padY a b)) (alY (padX a b) (padY a b))) else a.neg) = true then -1 else 1 := by
  obtain ⟨l1, l2⟩ := less_spec ha hb
  by_cases hn : a.neg = b.neg
  · have hq : qN a ≠ qN b := fun h => by
      obtain ⟨h1, h2⟩ := qN_inj ha hb h
      exact hne (Dc.ext' hn h1 h2)
    rw [cmpD_spec ha hb, if_pos hn]
    unfold qD
    rw [← hn]
    cases a.neg with
    | true =>
      simp only [if_true]
      by_cases h : qN b < qN a
      · rw [if_pos (l2.2 h)]; unfold sgn; rw [if_pos (by omega)]
      · rw [if_neg (fun e => h (l2.1 e))]; unfold sgn; rw [if_neg (by omega), if_neg (by omega)]
    | false =>
      simp only [Bool.false_eq_true, if_false]
      by_cases h : qN a < qN b
      · rw [if_pos (l1.2 h)]; unfold sgn; rw [if_pos (by omega)]
      · rw [if_neg (fun e => h (l1.1 e))]; unfold sgn; rw [if_neg (by omega), if_neg (by omega)]
  · unfold cmpD
    rw [if_neg hn, if_neg hn]
theorem cmpD_self {a : Dc} (ha : dcMay a = true) : cmpD a a = 0 := by rw [cmpD_spec ha ha]; unfold sgn; rw [if_neg (by omega), if_pos (by omega)]
end Go.Proofs.YtgoepemmcibdaaaGreatDoor
