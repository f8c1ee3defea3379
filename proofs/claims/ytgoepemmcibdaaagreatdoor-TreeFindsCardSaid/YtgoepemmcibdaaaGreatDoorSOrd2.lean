import Derived.Test.YtgoepemmcibdaaaGreatDoorSOrd
import Derived.Test.YtgoepemmcibdaaaGreatDoorSTreeMapL
/-
  A PLAIN LAW: the order of values: how deep it looks does not matter, nor masks.
-/
namespace Go.Proofs.YtgoepemmcibdaaaGreatDoor
open Sy Go
set_option linter.unusedSimpArgs false
set_option linter.unusedVariables false
theorem cmpL_congr {α : Type} {p q : α → α → Int} : ∀ {l m : List α}, (∀ x ∈ l, ∀ y ∈ m, p x y = q x y) → cmpL p l m = cmpL q l m
  | [], [], _ => rfl
  | [], _ :: _, _ => rfl
  | _ :: _, [], _ => rfl
  | x :: l, y :: m, h => by
    simp only [cmpL]
    rw [h x (by simp) y (by simp), cmpL_congr (fun a ha b hb => h a (by simp [ha]) b (by simp [hb]))]
theorem cmpL_map {α β : Type} {p : β → β → Int} (g : α → β) : ∀ {l m : List α}, cmpL p (l.map g) (m.map g) = cmpL (fun x y => p (g x) (g y)) l m
  | [], [] => rfl
  | [], _ :: _ => rfl
  | _ :: _, [] => rfl
  | x :: l, y :: m => by simp only [List.map_cons, cmpL, cmpL_map g]
theorem cmpF_fuel : ∀ (f g : Nat) (a b : Val), mayT a = true → mayT b = true → Val.sz a < f → Val.sz a < g → cmpF f a b = cmpF g a b
  | 0, _, a, _, _, _, h, _ => by omega
  | _ + 1, 0, a, _, _, _, _, h => by omega
  | f + 1, g + 1, a, b, ha, hb, hf, hg => by
    have key : ∀ l m : List Val, (∀ x ∈ l, x ∈ a.kids) → (∀ y ∈ m, y ∈ b.kids) → cmpL (cmpF f) l m = cmpL (cmpF g) l m := fun l m hl hm => cmpL_congr fun x hx y hy => by
      have := Val.sz_kid (hl x hx)
      exact cmpF_fuel f g x y (may_kid ha (hl x hx)) (may_kid hb (hm y hy)) (by omega) (by omega)
    rw [cmpF_succ, cmpF_succ]
    by_cases hk : cmpI a.kind b.kind = 0
    · rw [if_neg (by omega), if_neg (by omega)]
      have hkk := cmpI_zero hk
      unfold bodyF
      rw [key a.kids b.kids (fun _ h => h) (fun _ h => h)]
      by_cases h7 : a.kind = 7
      · rw [key (kidsS a) (kidsS b) (fun x hx => kidsS_mem (by have := may_obj ha h7; omega) hx) (fun y hy => kidsS_mem (by have := may_obj hb (by omega); omega) hy)]
      · by_cases h4 : a.kind = 4
        · simp [h4]
        by_cases h5 : a.kind = 5
        · simp [h5]
        by_cases h6 : a.kind = 6
        · simp [h6]
        by_cases h8 : a.kind = 8
        · simp [h8]
        simp [h4, h5, h6, h7, h8]
    · rw [if_pos hk, if_pos hk]
theorem cmpT_fuel {a b : Val} (ha : mayT a = true) (hb : mayT b = true) {n : Nat} (h : Val.sz a < n) : cmpT a b = cmpF n a b := cmpF_fuel _ _ a b ha hb (by omega) h
theorem cmpT_ord : Ord cmpT (fun v => mayT v = true) := by
  refine ⟨fun x y hx hy => ?_, fun x y z hx hy hz h1 h2 => ?_⟩
  · rw [cmpT_fuel (n := Val.sz x + Val.sz y + 1) hx hy (by omega), cmpT_fuel (n := Val.sz x + Val.sz y + 1) hy hx (by omega)]
    exact (cmpF_ord _).anti x y hx hy
  · rw [cmpT_fuel (n := Val.sz x + Val.sz y + 1) hx hy (by omega)] at h1
    rw [cmpT_fuel (n := Val.sz x + Val.sz y + 1) hy hz (by omega)] at h2
    rw [cmpT_fuel (n := Val.sz x + Val.sz y + 1) hx hz (by omega)]
    exact (cmpF_ord _).tr x y z hx hy hz h1 h2
/-! ### Masks -/
theorem bareV_eq (v : Val) : bareV v = .mk v.kind 0 v.num v.text v.keys (v.kids.map bareV) v.code := by
  unfold bareV; rw [mapV_eq]; rfl
theorem bare_null : bareV nullV = nullV := by rw [bareV_eq]; rfl
theorem kidOf_bare (v : Val) (s : List UInt8) : kidOf (bareV v) s = bareV (kidOf v s) := by
  unfold kidOf
  rw [bareV_eq v]
  simp only [Val.kids_mk, Val.keys_mk, List.getD_eq_getElem?_getD, List.getElem?_map]
  cases v.kids[v.keys.idxOf s]? with
  | none => simp [bare_null]
  | some x => rfl
theorem kidsS_bare (v : Val) : kidsS (bareV v) = (kidsS v).map bareV := by
  have : (bareV v).keys = v.keys := by rw [bareV_eq]; rfl
  unfold kidsS
  rw [this, List.map_map]
  exact List.map_congr_left fun s _ => kidOf_bare v s
theorem cmpF_bare : ∀ (f : Nat) (a b : Val), cmpF f (bareV a) (bareV b) = cmpF f a b
  | 0, _, _ => rfl
  | f + 1, a, b => by
    have hl : ∀ l m : List Val, cmpL (cmpF f) (l.map bareV) (m.map bareV) = cmpL (cmpF f) l m := fun l m => by
      rw [cmpL_map]; exact cmpL_congr fun x _ y _ => cmpF_bare f x y
    have e : ∀ v : Val, (bareV v).kind = v.kind ∧ (bareV v).num = v.num ∧ (bareV v).text = v.text ∧ (bareV v).keys = v.keys ∧ (bareV v).kids = v.kids.map bareV ∧ (bareV v).code = v.code := fun v => by
      rw [bareV_eq]; exact ⟨rfl, rfl, rfl, rfl, rfl, rfl⟩
    obtain ⟨a1, a2, a3, a4, a5, a6⟩ := e a
    obtain ⟨b1, b2, b3, b4, b5, b6⟩ := e b
    simp only [cmpF, a1, a2, a3, a4, a5, a6, b1, b2, b3, b4, b5, b6, kidsS_bare, hl]
theorem bare_bare (v : Val) : bareV (bareV v) = bareV v := by
  refine Val.induct (p := fun v => bareV (bareV v) = bareV v) (fun v ih => ?_) v
  rw [bareV_eq (bareV v), bareV_eq v]
  simp only [Val.kind_mk, Val.num_mk, Val.text_mk, Val.keys_mk, Val.kids_mk, Val.code_mk, List.map_map]
  congr 1
  exact List.map_congr_left fun k hk => ih k hk
theorem cmpF_bare1 (f : Nat) (a b : Val) : cmpF f (bareV a) b = cmpF f a b := by
  rw [← cmpF_bare f (bareV a) b, bare_bare, cmpF_bare]
theorem bare_sz (v : Val) : Val.sz (bareV v) = Val.sz v := by
  have hsz : ∀ l : List Val, Val.szL l = (l.map Val.sz).sum := by
    intro l; induction l with
    | nil => simp [Val.szL]
    | cons x l ih => simp [Val.szL, ih]
  refine Val.induct (p := fun v => Val.sz (bareV v) = Val.sz v) (fun v ih => ?_) v
  rw [bareV_eq]
  cases v with
  | mk k m n t ks vs c =>
    simp only [Val.sz, hsz, Val.kids_mk, List.map_map] at ih ⊢
    congr 2
    exact List.map_congr_left fun x hx => ih x hx
theorem bare_may (v : Val) : mayT (bareV v) = mayT v := by
  refine Val.induct (p := fun v => mayT (bareV v) = mayT v) (fun v ih => ?_) v
  have e : mayT (bareV v) = (boundsT v && partsT v && (v.kids.map bareV).all mayT) := by
    have h0 : boundsT (bareV v) = boundsT v := by rw [bareV_eq]; simp [boundsT]
    have h1 : codeT (bareV v) = codeT v := by rw [bareV_eq]; rfl
    have h2 : numT (bareV v) = numT v := by rw [bareV_eq]; rfl
    have h3 : textT (bareV v) = textT v := by rw [bareV_eq]; rfl
    have h4 : namedT (bareV v) = namedT v := by
      rw [bareV_eq]
      show (if v.kind = 7 then decide ((v.keys.length : Int) = ((v.kids.map bareV).length : Int)) && keysT v.keys else decide (v.keys = [])) = namedT v
      rw [List.length_map]; rfl
    have h5 : kidsT (bareV v) = kidsT v := by
      rw [bareV_eq]
      show (decide (v.kids.map bareV = []) || decide (v.kind = 6) || decide (v.kind = 7)) = kidsT v
      rw [kidsT, show decide (v.kids.map bareV = []) = decide (v.kids = []) by simp]
    have h6 : (bareV v).kids = v.kids.map bareV := by rw [bareV_eq]; rfl
    rw [mayT_eq, h0, h6, partsT, h1, h2, h3, h4, h5]; rfl
  rw [e, mayT_eq]
  congr 1
  rw [List.all_map]
  rw [Bool.eq_iff_iff, List.all_eq_true, List.all_eq_true]
  exact ⟨fun h k hk => by rw [← ih k hk]; exact h k hk, fun h k hk => by simp only [Function.comp]; rw [ih k hk]; exact h k hk⟩
end Go.Proofs.YtgoepemmcibdaaaGreatDoor
