import Derived.Test.YtgoepemmcibdaaaGreatDoorSTreeCmp
/-
  A PLAIN LAW: the order of values: it turns, and it goes on.
-/
namespace Go.Proofs.YtgoepemmcibdaaaGreatDoor
open Sy Go
set_option linter.unusedSimpArgs false
set_option linter.unusedVariables false
/-- An order on what is in 'S'. -/
structure Ord {α : Type} (p : α → α → Int) (S : α → Prop) : Prop where
  anti : ∀ x y, S x → S y → p x y = - p y x
  tr : ∀ x y z, S x → S y → S z → p x y ≤ 0 → p y z ≤ 0 → p x z ≤ 0
theorem Ord.refl {α : Type} {p : α → α → Int} {S : α → Prop} (h : Ord p S) {x : α} (hx : S x) : p x x = 0 := by have := h.anti x x hx hx; omega
theorem Ord.lt_le {α : Type} {p : α → α → Int} {S : α → Prop} (h : Ord p S) {x y z : α} (hx : S x) (hy : S y) (hz : S z) (h1 : p x y < 0) (h2 : p y z ≤ 0) : p x z < 0 := by
  have h3 := h.tr x y z hx hy hz (by omega) h2
  by_cases h4 : p x z = 0
  · have a1 := h.anti x z hx hz
    have a2 := h.anti x y hx hy
    have := h.tr y z x hy hz hx h2 (by omega)
    omega
  · omega
theorem Ord.le_lt {α : Type} {p : α → α → Int} {S : α → Prop} (h : Ord p S) {x y z : α} (hx : S x) (hy : S y) (hz : S z) (h1 : p x y ≤ 0) (h2 : p y z < 0) : p x z < 0 := by
  have h3 := h.tr x y z hx hy hz h1 (by omega)
  by_cases h4 : p x z = 0
  · have a1 := h.anti x z hx hz
    have a2 := h.anti y z hy hz
    have := h.tr z x y hz hx hy (by omega) h1
    omega
  · omega
theorem Ord.eq_eq {α : Type} {p : α → α → Int} {S : α → Prop} (h : Ord p S) {x y z : α} (hx : S x) (hy : S y) (hz : S z) (h1 : p x y = 0) (h2 : p y z = 0) : p x z = 0 := by
  have a1 := h.anti x y hx hy
  have a2 := h.anti y z hy hz
  have a3 := h.anti x z hx hz
  have := h.tr x y z hx hy hz (by omega) (by omega)
  have := h.tr z y x hz hy hx (by omega) (by omega)
  omega
/-- First by one order, then by another. -/
theorem Ord.then {α : Type} {p q : α → α → Int} {S : α → Prop} (hp : Ord p S) (hq : Ord q S) : Ord (fun x y => if p x y ≠ 0 then p x y else q x y) S := by
  refine ⟨fun x y hx hy => ?_, fun x y z hx hy hz h1 h2 => ?_⟩
  · have a1 := hp.anti x y hx hy
    have a2 := hq.anti x y hx hy
    by_cases h : p x y = 0
    · rw [if_neg (by omega), if_neg (by omega)]; exact a2
    · rw [if_pos h, if_pos (by omega)]; exact a1
  · by_cases e1 : p x y = 0
    · rw [if_neg (by omega)] at h1
      by_cases e2 : p y z = 0
      · rw [if_neg (by omega)] at h2
        rw [if_neg (by have := hp.eq_eq hx hy hz e1 e2; omega)]
        exact hq.tr x y z hx hy hz h1 h2
      · rw [if_pos e2] at h2
        have := hp.le_lt hx hy hz (by omega) (show p y z < 0 by omega)
        rw [if_pos (by omega)]; omega
    · rw [if_pos e1] at h1
      by_cases e2 : p y z = 0
      · have := hp.lt_le hx hy hz (show p x y < 0 by omega) (by omega)
        rw [if_pos (by omega)]; omega
      · rw [if_pos e2] at h2
        have := hp.lt_le hx hy hz (show p x y < 0 by omega) h2
        rw [if_pos (by omega)]; omega
theorem Ord.of_key {α : Type} {p : α → α → Int} {S : α → Prop} (k : α → Int) (h : ∀ x y, S x → S y → p x y = sgn (k x - k y)) : Ord p S := by
  refine ⟨fun x y hx hy => ?_, fun x y z hx hy hz h1 h2 => ?_⟩
  · rw [h x y hx hy, h y x hy hx]; unfold sgn; (repeat' split) <;> omega
  · rw [h x y hx hy] at h1; rw [h y z hy hz] at h2; rw [h x z hx hz]
    have e1 : k x ≤ k y := by unfold sgn at h1; split at h1; · omega
                              · split at h1 <;> omega
    have e2 : k y ≤ k z := by unfold sgn at h2; split at h2; · omega
                              · split at h2 <;> omega
    unfold sgn; split; · omega
    · split <;> omega
theorem cmpI_sgn (a b : Int) : cmpI a b = sgn (a - b) := by unfold cmpI sgn; (repeat' split) <;> omega
theorem Ord.map {α β : Type} {p : β → β → Int} {S : β → Prop} (h : Ord p S) (f : α → β) {S' : α → Prop} (hS : ∀ x, S' x → S (f x)) : Ord (fun x y => p (f x) (f y)) S' :=
  ⟨fun x y hx hy => h.anti _ _ (hS x hx) (hS y hy), fun x y z hx hy hz => h.tr _ _ _ (hS x hx) (hS y hy) (hS z hz)⟩
theorem Ord.list {α : Type} {p : α → α → Int} {S : α → Prop} (h : Ord p S) : Ord (cmpL p) (fun l => ∀ x ∈ l, S x) := by
  constructor
  · intro l
    induction l with
    | nil => intro m _ _; cases m <;> simp [cmpL]
    | cons x l ih =>
      intro m hl hm
      cases m with
      | nil => simp [cmpL]
      | cons y m =>
        simp only [cmpL]
        have a := h.anti x y (hl x (by simp)) (hm y (by simp))
        have := ih m (fun z hz => hl z (by simp [hz])) (fun z hz => hm z (by simp [hz]))
        by_cases e : p x y = 0
        · rw [if_neg (by omega), if_neg (by omega)]; exact this
        · rw [if_pos e, if_pos (by omega)]; exact a
  · intro l
    induction l with
    | nil => intro m n _ _ _ _ _; cases n <;> simp [cmpL]
    | cons x l ih =>
      intro m n hl hm hn h1 h2
      cases m with
      | nil => simp [cmpL] at h1
      | cons y m =>
        cases n with
        | nil => simp [cmpL] at h2
        | cons z n =>
          have sx := hl x (by simp); have sy := hm y (by simp); have sz := hn z (by simp)
          simp only [cmpL] at h1 h2 ⊢
          by_cases e1 : p x y = 0
          · rw [if_neg (by omega)] at h1
            by_cases e2 : p y z = 0
            · rw [if_neg (by omega)] at h2
              rw [if_neg (by have := h.eq_eq sx sy sz e1 e2; omega)]
              exact ih m n (fun w hw => hl w (by simp [hw])) (fun w hw => hm w (by simp [hw])) (fun w hw => hn w (by simp [hw])) h1 h2
            · rw [if_pos e2] at h2
              have := h.le_lt sx sy sz (by omega) (show p y z < 0 by omega)
              rw [if_pos (by omega)]; omega
          · rw [if_pos e1] at h1
            by_cases e2 : p y z = 0
            · have := h.lt_le sx sy sz (show p x y < 0 by omega) (by omega)
              rw [if_pos (by omega)]; omega
            · rw [if_pos e2] at h2
              have := h.lt_le sx sy sz (show p x y < 0 by omega) h2
              rw [if_pos (by omega)]; omega
/-- Texts by their bytes. -/
def bytesC (a b : List UInt8) : Int := cmpL (fun x y : UInt8 => cmpI x.toNat y.toNat) a b
theorem bytesC_ord : Ord bytesC (fun _ => True) :=
  let h := (Ord.of_key (p := fun x y : UInt8 => cmpI x.toNat y.toNat) (S := fun _ => True) (fun x => (x.toNat : Int)) fun x y _ _ => cmpI_sgn _ _).list
  ⟨fun x y _ _ => h.anti x y (fun _ _ => trivial) (fun _ _ => trivial), fun x y z _ _ _ => h.tr x y z (fun _ _ => trivial) (fun _ _ => trivial) (fun _ _ => trivial)⟩
theorem bytesC_cons (a b : UInt8) (al bs : List UInt8) : bytesC (a :: al) (b :: bs) = if cmpI a.toNat b.toNat ≠ 0 then cmpI a.toNat b.toNat else bytesC al bs := rfl
theorem cmpI_lt {a b : Int} (h : a < b) : cmpI a b = -1 := if_pos h
theorem cmpI_gt {a b : Int} (h : b < a) : cmpI a b = 1 := by unfold cmpI; rw [if_neg (by omega), if_pos h]
theorem cmpI_self (a : Int) : cmpI a a = 0 := by unfold cmpI; rw [if_neg (by omega), if_neg (by omega)]
theorem compareBytes_eq : ∀ a b : List UInt8, Lib.compareBytes a b = bytesC a b
  | [], [] => rfl
  | [], _ :: _ => rfl
  | _ :: _, [] => rfl
  | a :: al, b :: bs => by
    simp only [Lib.compareBytes, bytesC_cons, UInt8.lt_iff_toNat_lt]
    by_cases h1 : a.toNat < b.toNat
    · rw [if_pos h1, cmpI_lt (by omega)]; simp
    · by_cases h2 : b.toNat < a.toNat
      · rw [if_neg h1, if_pos h2, cmpI_gt (by omega)]; simp
      · rw [if_neg h1, if_neg h2, show a.toNat = b.toNat by omega, cmpI_self]; simpa using compareBytes_eq al bs
theorem cmpS_eq : ∀ a b : List UInt8, cmpS a b = bytesC a b
  | [], [] => rfl
  | [], b :: bs => by simp [cmpS, Op.bytesLess, bytesC, cmpL]
  | a :: al, [] => by simp [cmpS, Op.bytesLess, bytesC, cmpL]
  | a :: al, b :: bs => by
    have ih := cmpS_eq al bs
    rw [bytesC_cons, ← ih]
    by_cases h1 : a.toNat < b.toNat
    · rw [cmpI_lt (by omega)]; simp [cmpS, Op.bytesLess, UInt8.lt_iff_toNat_lt, h1]
    · by_cases h2 : b.toNat < a.toNat
      · have hne : a ≠ b := by rintro rfl; omega
        rw [cmpI_gt (by omega)]; simp [cmpS, Op.bytesLess, UInt8.lt_iff_toNat_lt, h1, hne]
      · have he : a = b := UInt8.toNat_inj.1 (by omega)
        subst he
        rw [cmpI_self]; simp [cmpS, Op.bytesLess]
theorem cmpS_ord : Ord cmpS (fun _ => True) := by
  rw [show cmpS = bytesC from funext fun a => funext fun b => cmpS_eq a b]; exact bytesC_ord
theorem compare_ord : Ord Lib.compareBytes (fun _ => True) := by
  rw [show Lib.compareBytes = bytesC from funext fun a => funext fun b => compareBytes_eq a b]; exact bytesC_ord
theorem cmpD_ord : Ord cmpD (fun d => dcMay d = true) := Ord.of_key qD fun x y hx hy => cmpD_spec hx hy
/-- The order of values of one kind. -/
def bodyF (f : Nat) (k : Int) (a b : Val) : Int :=
  if k = 4 then cmpD a.num b.num else if k = 5 then Lib.compareBytes a.text b.text else if k = 6 then cmpL (cmpF f) a.kids b.kids
  else if k = 8 then cmpI a.code b.code
  else if k = 7 then (if cmpL cmpS (sortK a.keys) (sortK b.keys) ≠ 0 then cmpL cmpS (sortK a.keys) (sortK b.keys) else cmpL (cmpF f) (kidsS a) (kidsS b)) else 0
theorem cmpF_succ (f : Nat) (a b : Val) : cmpF (f + 1) a b = if cmpI a.kind b.kind ≠ 0 then cmpI a.kind b.kind else bodyF f a.kind a b := by
  simp only [cmpF, bodyF]
  by_cases h : a.kind = b.kind
  · rw [if_neg (by simpa using h), h, cmpI_self]; simp
  · rw [if_pos h, if_pos (by unfold cmpI; split; · omega
                             · split <;> omega)]
theorem body_ord {f : Nat} (ih : Ord (cmpF f) (fun v => mayT v = true)) (k : Int) : Ord (bodyF f k) (fun v => mayT v = true ∧ v.kind = k) := by
  by_cases h4 : k = 4
  · have : bodyF f k = fun a b => cmpD a.num b.num := by funext a b; simp [bodyF, h4]
    rw [this]; exact cmpD_ord.map Val.num fun x hx => may_num hx.1 (by omega)
  by_cases h5 : k = 5
  · have : bodyF f k = fun a b => Lib.compareBytes a.text b.text := by funext a b; simp [bodyF, h5]
    rw [this]; exact compare_ord.map Val.text fun x hx => trivial
  by_cases h6 : k = 6
  · have : bodyF f k = fun a b => cmpL (cmpF f) a.kids b.kids := by funext a b; simp [bodyF, h6]
    rw [this]; exact ih.list.map Val.kids fun x hx y hy => may_kid hx.1 hy
  by_cases h8 : k = 8
  · have : bodyF f k = fun a b => cmpI a.code b.code := by funext a b; simp [bodyF, h8]
    rw [this]; exact Ord.of_key Val.code fun x y _ _ => cmpI_sgn _ _
  by_cases h7 : k = 7
  · have : bodyF f k = fun a b => if cmpL cmpS (sortK a.keys) (sortK b.keys) ≠ 0 then cmpL cmpS (sortK a.keys) (sortK b.keys) else cmpL (cmpF f) (kidsS a) (kidsS b) := by funext a b; simp [bodyF, h7]
    rw [this]
    refine Ord.then (p := fun a b : Val => cmpL cmpS (sortK a.keys) (sortK b.keys)) (q := fun a b => cmpL (cmpF f) (kidsS a) (kidsS b)) ?_ ?_
    · exact cmpS_ord.list.map (fun v : Val => sortK v.keys) fun x hx y hy => trivial
    · exact ih.list.map kidsS fun x hx y hy => may_kid hx.1 (kidsS_mem (by have := may_obj hx.1 (by omega); omega) hy)
  · have : bodyF f k = fun a b => 0 := by funext a b; simp [bodyF, h4, h5, h6, h7, h8]
    rw [this]; exact ⟨fun _ _ _ _ => by simp, fun _ _ _ _ _ _ _ _ => by simp⟩
theorem cmpI_zero {a b : Int} (h : cmpI a b = 0) : a = b := by unfold cmpI at h; split at h; · omega
                                                               · split at h <;> omega
theorem cmpF_ord : ∀ f, Ord (cmpF f) (fun v => mayT v = true)
  | 0 => ⟨fun _ _ _ _ => by simp [cmpF], fun _ _ _ _ _ _ _ _ => by simp [cmpF]⟩
  | f + 1 => by
    have ihb := body_ord (cmpF_ord f)
    have hk : Ord (fun a b : Val => cmpI a.kind b.kind) (fun v => mayT v = true) := Ord.of_key Val.kind fun x y _ _ => cmpI_sgn _ _
    refine ⟨fun x y hx hy => ?_, fun x y z hx hy hz h1 h2 => ?_⟩
    · rw [cmpF_succ, cmpF_succ]
      have a1 := hk.anti x y hx hy
      by_cases e : cmpI x.kind y.kind = 0
      · have he := cmpI_zero e
        rw [if_neg (by omega), if_neg (by omega), he]
        exact (ihb y.kind).anti x y ⟨hx, he⟩ ⟨hy, rfl⟩
      · rw [if_pos e, if_pos (by omega)]; exact a1
    · rw [cmpF_succ] at h1 h2 ⊢
      by_cases e1 : cmpI x.kind y.kind = 0
      · rw [if_neg (by omega)] at h1
        by_cases e2 : cmpI y.kind z.kind = 0
        · rw [if_neg (by omega)] at h2
          have := hk.eq_eq hx hy hz e1 e2
          rw [if_neg (by omega)]
          have k1 := cmpI_zero e1
          have k2 := cmpI_zero e2
          rw [← k1] at h2
          exact (ihb x.kind).tr x y z ⟨hx, rfl⟩ ⟨hy, k1.symm⟩ ⟨hz, by omega⟩ h1 h2
        · rw [if_pos e2] at h2
          have := hk.le_lt hx hy hz (by show cmpI x.kind y.kind ≤ 0; omega) (show cmpI y.kind z.kind < 0 by omega)
          rw [if_pos (by omega)]; omega
      · rw [if_pos e1] at h1
        have e3 : cmpI y.kind z.kind ≤ 0 := by
          by_cases e2 : cmpI y.kind z.kind = 0
          · omega
          · rw [if_pos e2] at h2; exact h2
        have := hk.lt_le hx hy hz (show cmpI x.kind y.kind < 0 by omega) e3
        rw [if_pos (by omega)]; omega
end Go.Proofs.YtgoepemmcibdaaaGreatDoor
