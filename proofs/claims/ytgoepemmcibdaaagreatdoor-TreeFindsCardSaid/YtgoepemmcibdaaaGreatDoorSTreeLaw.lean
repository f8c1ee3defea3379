import Derived.Test.YtgoepemmcibdaaaGreatDoorSTreeL2
import Derived.Test.YtgoepemmcibdaaaGreatDoorSOrd2
import Derived.Test.YtgoepemmcibdaaaGreatDoorSBuiltMay
import Derived.Test.YtgoepemmcibdaaaGreatDoorSTreeSame
/-
  PLAIN LAWS: masks, sizes, tidy values; what is built is small, and its masks are of 64 bits.
-/
namespace Go.Proofs.YtgoepemmcibdaaaGreatDoor
open Sy Go
set_option linter.unusedSimpArgs false
set_option linter.unusedVariables false
theorem same_self (v : Val) : sameT v v = true := (sameT_iff v v).2 rfl
theorem setM_may (v : Val) (m : Int) : mayT (setM v m) = mayT v := by rw [mayT_eq, mayT_eq v]; rfl
theorem with_may (v : Val) (m : Int) : mayT (withV v m) = mayT v := setM_may v _
theorem setK_may (v : Val) (f : Val → Val) (h : ∀ k ∈ v.kids, mayT (f k) = mayT k) : mayT (setK v (v.kids.map f)) = mayT v := by
  have h0 : boundsT (setK v (v.kids.map f)) = boundsT v := by simp [boundsT]
  have h4 : namedT (setK v (v.kids.map f)) = namedT v := by
    show (if v.kind = 7 then decide ((v.keys.length : Int) = ((v.kids.map f).length : Int)) && keysT v.keys else decide (v.keys = [])) = namedT v
    rw [List.length_map]; rfl
  have h5 : kidsT (setK v (v.kids.map f)) = kidsT v := by
    show (decide (v.kids.map f = []) || decide (v.kind = 6) || decide (v.kind = 7)) = kidsT v
    rw [kidsT, show decide (v.kids.map f = []) = decide (v.kids = []) by simp]
  have e : mayT (setK v (v.kids.map f)) = (boundsT v && partsT v && (v.kids.map f).all mayT) := by
    rw [mayT_eq, h0, partsT, h4, h5]; rfl
  rw [e, mayT_eq]
  congr 1
  rw [List.all_map, Bool.eq_iff_iff, List.all_eq_true, List.all_eq_true]
  exact ⟨fun hh k hk => by rw [← h k hk]; exact hh k hk, fun hh k hk => by simp only [Function.comp]; rw [h k hk]; exact hh k hk⟩
theorem tidy_may (v : Val) : mayT (tidyV v) = mayT v := by
  refine Val.induct (p := fun v => mayT (tidyV v) = mayT v) (fun v ih => ?_) v
  rw [tidyV_eq]
  split
  · exact setK_may v tidyV ih
  · rw [setM_may, bare_may]
theorem szL_map (f : Val → Val) : ∀ l : List Val, (∀ k ∈ l, Val.sz (f k) = Val.sz k) → Val.szL (l.map f) = Val.szL l
  | [], _ => rfl
  | x :: l, h => by simp only [List.map_cons, Val.szL, h x (by simp), szL_map f l fun k hk => h k (by simp [hk])]
theorem with_sz (v : Val) (m : Int) : Val.sz (withV v m) = Val.sz v := by rw [sz_eq, sz_eq v]; rfl
theorem setM_sz (v : Val) (m : Int) : Val.sz (setM v m) = Val.sz v := by rw [sz_eq, sz_eq v]; rfl
theorem tidy_sz (v : Val) : Val.sz (tidyV v) = Val.sz v := by
  refine Val.induct (p := fun v => Val.sz (tidyV v) = Val.sz v) (fun v ih => ?_) v
  rw [tidyV_eq]
  split
  · rw [sz_eq, sz_eq v, setK_kids, szL_map tidyV v.kids ih]
  · rw [setM_sz, bare_sz]
/-! ### All masks -/
theorem deepL_or : ∀ (l : List Val) (a b : Int), deepL (orM a b) l = orM (deepL a l) b
  | [], a, b => by simp
  | x :: l, a, b => by
    simp only [deepL]
    rw [← deepL_or l (orM a (deepV x)) b, or_assoc, or_comm b, ← or_assoc]
theorem deepL_le : ∀ (l : List Val) {a b : Int}, LeM a b → LeM a (deepL b l)
  | [], a, b, h => by simpa using h
  | x :: l, a, b, h => by simp only [deepL]; exact deepL_le l (h.trans (.or_left _ _))
theorem deepL_mem : ∀ {l : List Val} {k : Val} (m : Int), k ∈ l → LeM (deepV k) (deepL m l)
  | x :: l, k, m, h => by
    simp only [deepL]
    rcases List.mem_cons.1 h with rfl | h
    · exact deepL_le l (.or_right _ _)
    · exact deepL_mem _ h
theorem deepL_bound : ∀ {l : List Val} {m b : Int}, LeM m b → (∀ k ∈ l, LeM (deepV k) b) → LeM (deepL m l) b
  | [], m, b, h, _ => by simpa using h
  | x :: l, m, b, h, hk => by
    simp only [deepL]
    exact deepL_bound (h.or (hk x (by simp))) fun k hk' => hk k (by simp [hk'])
theorem mask_le (v : Val) (h : InV v) : LeM v.mask (deepV v) := by rw [deepV_eq]; exact deepL_le _ (.refl (InV_mask h))
theorem deep_with (v : Val) (m : Int) : deepV (withV v m) = orM (deepV v) m := by rw [deepV_eq, deepV_eq v]; exact deepL_or _ _ _
theorem deep_bare (v : Val) : deepV (bareV v) = 0 := by
  refine Val.induct (p := fun v => deepV (bareV v) = 0) (fun v ih => ?_) v
  rw [deepV_eq, bareV_mask, bareV_kids]
  have : ∀ l : List Val, (∀ k ∈ l, deepV (bareV k) = 0) → deepL 0 (l.map bareV) = 0 := by
    intro l
    induction l with
    | nil => intro _; simp
    | cons x l ihl => intro h; simp only [List.map_cons, deepL, h x (by simp)]; exact ihl fun k hk => h k (by simp [hk])
  exact this _ ih
theorem bare_in (v : Val) : InV (bareV v) := by
  refine Val.induct (p := fun v => InV (bareV v)) (fun v ih => ?_) v
  rw [InV_iff, bareV_mask, bareV_kids]
  refine ⟨by unfold InM; omega, fun k hk => ?_⟩
  obtain ⟨x, hx, rfl⟩ := List.mem_map.1 hk
  exact ih x hx
theorem setM_in {v : Val} {m : Int} (h : InV v) (hm : InM m) : InV (setM v m) := by
  rw [InV_iff] at h ⊢; exact ⟨hm, h.2⟩
theorem with_in {v : Val} (h : InV v) (m : Int) : InV (withV v m) := setM_in h (or_in _ _)
theorem tidy_in {v : Val} : InV v → InV (tidyV v) := by
  refine Val.induct (p := fun v => InV v → InV (tidyV v)) (fun v ih h => ?_) v
  rw [tidyV_eq]
  split
  · rw [InV_iff]
    refine ⟨(show InM v.mask from InV_mask h), fun k hk => ?_⟩
    obtain ⟨x, hx, rfl⟩ := List.mem_map.1 hk
    exact ih x hx (InV_kid h hx)
  · exact setM_in (bare_in v) (deep_in h)
theorem deepL_map (f : Val → Val) : ∀ (l : List Val) (m : Int), (∀ k ∈ l, deepV (f k) = deepV k) → deepL m (l.map f) = deepL m l
  | [], m, _ => rfl
  | x :: l, m, h => by simp only [List.map_cons, deepL, h x (by simp)]; exact deepL_map f l _ fun k hk => h k (by simp [hk])
theorem deepL_bare (v : Val) (m : Int) (hm : InM m) : deepV (setM (bareV v) m) = m := by
  rw [deepV_eq, setM_mask, setM_kids, bareV_kids]
  have : ∀ (l : List Val) (m : Int), InM m → deepL m (l.map bareV) = m := by
    intro l
    induction l with
    | nil => intro m _; simp
    | cons x l ihl => intro m hm; simp only [List.map_cons, deepL, deep_bare, or_zero hm]; exact ihl m hm
  exact this _ _ hm
theorem deep_tidy {v : Val} : InV v → deepV (tidyV v) = deepV v := by
  refine Val.induct (p := fun v => InV v → deepV (tidyV v) = deepV v) (fun v ih h => ?_) v
  rw [tidyV_eq]
  split
  · rw [deepV_eq, deepV_eq v]
    exact deepL_map tidyV _ _ fun k hk => ih k hk (InV_kid h hk)
  · exact deepL_bare v _ (deep_in h)
theorem bare_setM (v : Val) (m : Int) : bareV (setM v m) = bareV v := by rw [bareV_setK, bareV_setK v]; rfl
theorem bare_tidy (v : Val) : bareV (tidyV v) = bareV v := by
  refine Val.induct (p := fun v => bareV (tidyV v) = bareV v) (fun v ih => ?_) v
  rw [tidyV_eq]
  split
  · rw [bareV_setK, bareV_setK v]
    simp only [setK_kids, List.map_map]
    have : v.kids.map (bareV ∘ tidyV) = v.kids.map bareV := List.map_congr_left fun k hk => ih k hk
    rw [this]; rfl
  · rw [bare_setM, bare_bare]
theorem setK_self (v : Val) (f : Val → Val) (h : ∀ k ∈ v.kids, f k = k) : setK v (v.kids.map f) = v := by
  have : v.kids.map f = v.kids := by conv => rhs; rw [← List.map_id v.kids]
                                     exact List.map_congr_left h
  rw [this]; cases v; rfl
theorem bare_tidy_self (v : Val) : tidyV (bareV v) = bareV v := by
  refine Val.induct (p := fun v => tidyV (bareV v) = bareV v) (fun v ih => ?_) v
  rw [tidyV_eq, if_pos (bareV_mask v)]
  refine setK_self _ _ fun k hk => ?_
  rw [bareV_kids] at hk
  obtain ⟨x, hx, rfl⟩ := List.mem_map.1 hk
  exact ih x hx
theorem deep_zero {v : Val} (h : InV v) (hd : deepV v = 0) : v.mask = 0 := by
  have := mask_le v h
  rw [hd] at this
  unfold LeM at this
  exact or_eq_zero (InV_mask h) this
theorem tidy_tidy {v : Val} : InV v → tidyV (tidyV v) = tidyV v := by
  refine Val.induct (p := fun v => InV v → tidyV (tidyV v) = tidyV v) (fun v ih h => ?_) v
  by_cases hm : v.mask = 0
  · have e : tidyV v = setK v (v.kids.map tidyV) := by rw [tidyV_eq, if_pos hm]
    rw [e, tidyV_eq, if_pos (show (setK v (v.kids.map tidyV)).mask = 0 from hm)]
    refine setK_self _ _ fun k hk => ?_
    rw [setK_kids] at hk
    obtain ⟨x, hx, rfl⟩ := List.mem_map.1 hk
    exact ih x hx (InV_kid h hx)
  · have e : tidyV v = setM (bareV v) (deepV v) := by rw [tidyV_eq, if_neg hm]
    have hd : deepV v ≠ 0 := fun hd => hm (deep_zero h hd)
    rw [e, tidyV_eq, if_neg (show (setM (bareV v) (deepV v)).mask ≠ 0 from hd), deepL_bare v _ (deep_in h), bare_setM, bare_bare]
mutual
/-- No mask stands below another one. -/
def flatV (below : Bool) : Val → Bool
  | .mk _ m _ _ _ vs _ => !(below && decide (m ≠ 0)) && flatL (below || decide (m ≠ 0)) vs
def flatL (below : Bool) : List Val → Bool
  | [] => true
  | v :: vs => flatV below v && flatL below vs
end
theorem flatL_all (b : Bool) : ∀ l, flatL b l = l.all (flatV b)
  | [] => by simp only [flatL, List.all_nil]
  | v :: vs => by simp only [flatL, List.all_cons, flatL_all b vs]
theorem flatV_eq (b : Bool) (v : Val) : flatV b v = (!(b && decide (v.mask ≠ 0)) && v.kids.all (flatV (b || decide (v.mask ≠ 0)))) := by
  cases v; simp only [flatV, flatL_all, Val.mask_mk, Val.kids_mk]; rfl
theorem flat_bare (v : Val) (b : Bool) : flatV b (bareV v) = true := by
  refine Val.induct (p := fun v => ∀ b, flatV b (bareV v) = true) (fun v ih b => ?_) v b
  rw [flatV_eq, bareV_mask, bareV_kids]
  simp only [ne_eq, not_true, decide_false, Bool.and_false, Bool.not_false, Bool.true_and, Bool.or_false, List.all_eq_true]
  intro k hk
  obtain ⟨x, hx, rfl⟩ := List.mem_map.1 hk
  exact ih x hx b
theorem flat_tidy (v : Val) : flatV false (tidyV v) = true := by
  refine Val.induct (p := fun v => flatV false (tidyV v) = true) (fun v ih => ?_) v
  rw [tidyV_eq, flatV_eq]
  split
  · rename_i h
    rw [setK_mask, h, setK_kids]
    simp only [ne_eq, not_true, decide_false, Bool.and_false, Bool.not_false, Bool.true_and, Bool.or_false, List.all_eq_true]
    intro k hk
    obtain ⟨x, hx, rfl⟩ := List.mem_map.1 hk
    exact ih x hx
  · rw [setM_kids, bareV_kids]
    simp only [Bool.false_and, Bool.not_false, Bool.true_and, List.all_eq_true]
    intro k hk
    obtain ⟨x, hx, rfl⟩ := List.mem_map.1 hk
    exact flat_bare x _
theorem held_bare (v : Val) : heldV (bareV v) = Val.sz v := by
  refine Val.induct (p := fun v => heldV (bareV v) = Val.sz v) (fun v ih => ?_) v
  rw [heldV_eq, bareV_mask, if_pos rfl, bareV_kids, sz_eq]
  have : ∀ l : List Val, (∀ k ∈ l, heldV (bareV k) = Val.sz k) → heldL (l.map bareV) = Val.szL l := by
    intro l
    induction l with
    | nil => intro _; simp
    | cons x l ihl => intro h; simp only [List.map_cons, heldL, Val.szL, h x (by simp), ihl fun k hk => h k (by simp [hk])]
  rw [this _ ih]
theorem held_with (v : Val) {m : Int} (h : orM v.mask m ≠ 0) : heldV (withV v m) = 1 := by rw [heldV_eq, withV_mask, if_neg h]
theorem held_tidy {v : Val} : InV v → heldV (tidyV v) = heldV v := by
  refine Val.induct (p := fun v => InV v → heldV (tidyV v) = heldV v) (fun v ih h => ?_) v
  rw [tidyV_eq]
  split
  · rename_i hm
    rw [heldV_eq, heldV_eq v, setK_mask, if_pos hm, if_pos hm, setK_kids]
    have : ∀ l : List Val, (∀ k ∈ l, heldV (tidyV k) = heldV k) → heldL (l.map tidyV) = heldL l := by
      intro l
      induction l with
      | nil => intro _; simp
      | cons x l ihl => intro h; simp only [List.map_cons, heldL, h x (by simp), ihl fun k hk => h k (by simp [hk])]
    rw [this _ fun k hk => ih k hk (InV_kid h hk)]
  · rename_i hm
    have hd : deepV v ≠ 0 := fun hd => hm (deep_zero h hd)
    rw [heldV_eq, heldV_eq v, setM_mask, if_neg hd, if_neg hm]
theorem tidy_mask {v : Val} (h : InV v) : andM (tidyV v).mask v.mask = v.mask := by
  rw [tidyV_eq]
  split
  · exact (LeM.refl (InV_mask h)).and (InV_mask h)
  · exact (mask_le v h).and (InV_mask h)
theorem or_one (m : Int) : orM m 1 ≠ 0 := by
  intro h
  have h1 := LeM.or_right m 1
  rw [h] at h1
  have := or_eq_zero (a := 1) (by unfold InM; omega) h1
  omega
/-! ### What is built -/
theorem built_key {P : List Val → Prop} {Q : Item → Prop} (h0 : P []) (hs : ∀ a x, Q x → P a → P (itemM a x)) (l : List Item) (hl : ∀ x ∈ l, Q x) : P (aloneM l) := by
  have key : ∀ (l : List Item) (a : List Val), (∀ x ∈ l, Q x) → P a → P (l.foldl itemM a) := by
    intro l
    induction l with
    | nil => exact fun a _ h => h
    | cons x l ih => exact fun a hq h => ih _ (fun y hy => hq y (by simp [hy])) (hs a x (hq x (by simp)) h)
  exact key _ [] (fun x hx => hl x (List.mem_of_mem_take hx)) h0
theorem built_in {l : List Item} (h : ∀ x ∈ l, InM x.mask) : InV (builtM l) := by
  have := built_key (P := fun a => ∀ v ∈ a, InV v) (Q := fun x => InM x.mask) (by simp) (fun a x hx ha v hv => by
    unfold itemM at hv
    rcases List.mem_append.1 hv with hv | hv
    · unfold itemRest at hv; split at hv
      · exact ha v (List.mem_of_mem_take hv)
      · exact ha v hv
    · simp at hv; rw [hv, InV_iff]
      exact ⟨hx, fun k hk => ha k (itemKids_mem hk)⟩) l h
  unfold builtM
  rw [List.getLastD_eq_getLast?]
  cases hx : (aloneM l).getLast? with
  | none => show InV nullV; rw [InV_iff]; exact ⟨by show InM 0; unfold InM; omega, fun k hk => by cases hk⟩
  | some v => exact this v (List.mem_of_getLast? hx)
theorem item_szL (a : List Val) (x : Item) : Val.szL (itemM a x) = Val.szL a + 1 := by
  have h1 : Val.szL (itemRest a x) + Val.szL (itemKids a x) = Val.szL a := by
    unfold itemRest itemKids
    split
    · rw [← szL_append, List.take_append_drop]
    · simp
  have h2 : Val.sz (itemV a x) = 1 + Val.szL (itemKids a x) := sz_eq _
  unfold itemM
  rw [szL_append, szL_one, h2]; omega
theorem alone_szL (l : List Item) : Val.szL (aloneM l) ≤ 80 := by
  have : ∀ (l : List Item) (a : List Val), Val.szL (l.foldl itemM a) = Val.szL a + l.length := by
    intro l
    induction l with
    | nil => intro a; rfl
    | cons x l ih => intro a; rw [List.foldl_cons, ih, item_szL, List.length_cons]; omega
  unfold aloneM
  rw [this, szL_nil, List.length_take]; omega
theorem built_sz (l : List Item) : Val.sz (builtM l) ≤ 80 := by
  unfold builtM
  rw [List.getLastD_eq_getLast?]
  cases hx : (aloneM l).getLast? with
  | none => show Val.sz nullV ≤ 80; decide +kernel
  | some v => exact Nat.le_trans (Val.szL_mem (List.mem_of_getLast? hx)) (alone_szL l)
end Go.Proofs.YtgoepemmcibdaaaGreatDoor
