import Derived.Test.YtdjjmppnnkkloaaGreatDoorSLabL
import Derived.Test.YtdjjmppnnkkloaaGreatDoorSTreeLaw
import Derived.Test.YtdjjmppnnkkloaaGreatDoorSPathLaw
namespace Go.Proofs.YtdjjmppnnkkloaaGreatDoor
open Sy Go
set_option linter.unusedSimpArgs false
set_option linter.unusedVariables false
theorem zero_in : InM 0 := by unfold InM; omega
theorem one_in : InM 1 := by unfold InM; omega
theorem maskF_in (pl : List Step) : ∀ (ms : List Mk) (m : Int), InM m → InM (maskF pl ms m)
 | [], m, h => h
 | x :: ms, m, h => by
  simp only [maskF]
  split
  ·exact maskF_in pl ms _ (or_in _ _)
  ·exact maskF_in pl ms _ h
theorem maskAt_in (ms : List Mk) (pl : List Step) : InM (maskAtM ms pl) := maskF_in pl ms 0 zero_in
theorem maskF_or (pl : List Step) : ∀ (ms : List Mk) (a b : Int), maskF pl ms (orM a b) = orM (maskF pl ms a) b
 | [], a, b => rfl
 | x :: ms, a, b => by
  simp only [maskF]
  split
  ·rw [or_assoc, or_comm b, ← or_assoc, maskF_or pl ms]
  ·exact maskF_or pl ms a b
theorem maskF_zero (pl : List Step) (ms : List Mk) {m : Int} (h : InM m) : maskF pl ms m = orM (maskAtM ms pl) m := by
 have := maskF_or pl ms 0 m
 rw [zero_or h] at this; exact this
theorem maskF_append (pl : List Step) : ∀ (ms ns : List Mk) (m : Int), maskF pl (ms ++ ns) m = maskF pl ns (maskF pl ms m)
 | [], ns, m => rfl
 | x :: ms, ns, m => by simp only [List.cons_append, maskF]; exact maskF_append pl ms ns _
theorem maskAt_append (ms ns : List Mk) (pl : List Step) : maskAtM (ms ++ ns) pl = orM (maskAtM ms pl) (maskAtM ns pl) := by
 show maskF pl (ms ++ ns) 0 = _
 rw [maskF_append, show maskF pl ms 0 = maskAtM ms pl from rfl, maskF_zero pl ns (maskAt_in ms pl), or_comm]
theorem maskAt_one (l : List Step) (m : Int) (pl : List Step) (hm : InM m) : maskAtM [⟨l, m⟩] pl = if matchM l pl = true then m else 0 := by
 simp only [maskAtM, maskF, zero_or hm]
theorem maskAt_drop (ms : List Mk) (pl : List Step) : LeM (maskAtM (ms.drop 1) pl) (maskAtM ms pl) := by
 cases ms with
 | nil => exact .refl (maskAt_in _ _)
 | cons x ms =>
  rw [show x :: ms = [x] ++ ms from rfl, maskAt_append]
  exact .or_right _ _
theorem LeM.anti {a b : Int} (h1 : LeM a b) (h2 : LeM b a) : a = b := by
 unfold LeM at *; rw [or_comm, h1] at h2; exact h2.symm
theorem LeM.zero {a : Int} (h : LeM a 0) (ha : InM a) : a = 0 := or_eq_zero ha h
theorem zero_le {a : Int} (h : InM a) : LeM 0 a := zero_or h
@[simp] theorem lab_kind (ms : List Mk) (v : Val) (pl : List Step) : (labT ms v pl).kind = v.kind := by rw [labT_eq]; rfl
@[simp] theorem lab_mask (ms : List Mk) (v : Val) (pl : List Step) : (labT ms v pl).mask = maskAtM ms pl := by rw [labT_eq]; rfl
@[simp] theorem lab_num (ms : List Mk) (v : Val) (pl : List Step) : (labT ms v pl).num = v.num := by rw [labT_eq]; rfl
@[simp] theorem lab_text (ms : List Mk) (v : Val) (pl : List Step) : (labT ms v pl).text = v.text := by rw [labT_eq]; rfl
@[simp] theorem lab_keys (ms : List Mk) (v : Val) (pl : List Step) : (labT ms v pl).keys = v.keys := by rw [labT_eq]; rfl
@[simp] theorem lab_kids (ms : List Mk) (v : Val) (pl : List Step) : (labT ms v pl).kids = labK ms v pl := by rw [labT_eq]; rfl
@[simp] theorem lab_code (ms : List Mk) (v : Val) (pl : List Step) : (labT ms v pl).code = v.code := by rw [labT_eq]; rfl
theorem labK_len (ms : List Mk) (v : Val) (pl : List Step) : (labK ms v pl).length = v.kids.length := by unfold labK; rw [labTs_len]
theorem labK_get (ms : List Mk) (v : Val) (pl : List Step) (j : Nat) : (labK ms v pl)[j]? = (v.kids[j]?).map fun x => labT ms x (pl ++ [stepOf v.kind v.keys j]) := by unfold labK; rw [labTs_get]; simp
theorem labK_mem {ms : List Mk} {v : Val} {pl : List Step} {y : Val} (h : y ∈ labK ms v pl) : ∃ j x, v.kids[j]? = some x ∧ y = labT ms x (pl ++ [stepOf v.kind v.keys j]) := by
 obtain ⟨j, hj⟩ := List.mem_iff_getElem?.1 h
 rw [labK_get] at hj
 cases hx : v.kids[j]? with
 | none => rw [hx] at hj; cases hj
 | some x => rw [hx] at hj; exact ⟨j, x, hx, (Option.some.inj hj).symm⟩
theorem labK_of {ms : List Mk} {v x : Val} {pl : List Step} {j : Nat} (h : v.kids[j]? = some x) : (labK ms v pl)[j]? = some (labT ms x (pl ++ [stepOf v.kind v.keys j])) := by rw [labK_get, h]; rfl
theorem bare_lab (ms : List Mk) (v : Val) : ∀ pl, bareV (labT ms v pl) = bareV v := by
 refine Val.induct (p := fun v => ∀ pl, bareV (labT ms v pl) = bareV v) (fun v ih pl => ?_) v
 have hk : (labK ms v pl).map bareV = v.kids.map bareV := by
  apply List.ext_getElem?
  intro j
  rw [List.getElem?_map, List.getElem?_map, labK_get]
  cases hx : v.kids[j]? with
  | none => rfl
  | some x => simp only [Option.map_some, ih x (List.mem_of_getElem? hx)]
 refine Val.ext ?_ ?_ ?_ ?_ ?_ ?_ ?_ <;> simp [hk, -List.map_inj_left]
theorem lab_bare (ms : List Mk) (v : Val) : ∀ pl, labT ms (bareV v) pl = labT ms v pl := by
 refine Val.induct (p := fun v => ∀ pl, labT ms (bareV v) pl = labT ms v pl) (fun v ih pl => ?_) v
 have hk : labK ms (bareV v) pl = labK ms v pl := by
  apply List.ext_getElem?
  intro j
  rw [labK_get, labK_get, bareV_kids, List.getElem?_map, bareV_kind, bareV_keys]
  cases hx : v.kids[j]? with
  | none => rfl
  | some x => simp only [Option.map_some, ih x (List.mem_of_getElem? hx)]
 refine Val.ext ?_ ?_ ?_ ?_ ?_ ?_ ?_ <;> simp [hk]
theorem lab_may (ms : List Mk) (v : Val) (pl : List Step) : mayT (labT ms v pl) = mayT v := by rw [← bare_may, bare_lab, bare_may]
theorem lab_in (ms : List Mk) (v : Val) : ∀ pl, InV (labT ms v pl) := by
 refine Val.induct (p := fun v => ∀ pl, InV (labT ms v pl)) (fun v ih pl => ?_) v
 rw [InV_iff, lab_mask, lab_kids]
 refine ⟨maskAt_in _ _, fun k hk => ?_⟩
 obtain ⟨j, x, hx, rfl⟩ := labK_mem hk
 exact ih x (List.mem_of_getElem? hx) _
theorem deep_lab_le {ms : List Mk} {b : Int} (v : Val) : ∀ pl : List Step, (∀ q, LeM (maskAtM ms (pl ++ q)) b) → LeM (deepV (labT ms v pl)) b := by
 refine Val.induct (p := fun v => ∀ pl : List Step, (∀ q, LeM (maskAtM ms (pl ++ q)) b) → LeM (deepV (labT ms v pl)) b) (fun v ih pl h => ?_) v
 rw [deepV_eq, lab_mask, lab_kids]
 refine deepL_bound (by simpa using h []) fun k hk => ?_
 obtain ⟨j, x, hx, rfl⟩ := labK_mem hk
 refine ih x (List.mem_of_getElem? hx) _ fun q => ?_
 rw [List.append_assoc]; exact h _
theorem deep_lab_mono {ms ns : List Mk} (h : ∀ q, LeM (maskAtM ms q) (maskAtM ns q)) (v : Val) : ∀ pl : List Step, LeM (deepV (labT ms v pl)) (deepV (labT ns v pl)) := by
 refine Val.induct (p := fun v => ∀ pl : List Step, LeM (deepV (labT ms v pl)) (deepV (labT ns v pl))) (fun v ih pl => ?_) v
 rw [deepV_eq (labT ms v pl), lab_mask, lab_kids, deepV_eq (labT ns v pl), lab_mask, lab_kids]
 refine deepL_bound (deepL_le _ (h pl)) fun k hk => ?_
 obtain ⟨j, x, hx, rfl⟩ := labK_mem hk
 exact (ih x (List.mem_of_getElem? hx) _).trans (deepL_mem _ (List.mem_of_getElem? (labK_of hx)))
theorem deep_lab_nil (v : Val) (pl : List Step) : deepV (labT [] v pl) = 0 :=
 (deep_lab_le (ms := []) (b := 0) v pl fun q => .refl zero_in).zero (deep_in (lab_in _ _ _))
theorem deepMark_at (pl : List Step) : maskAtM [⟨[⟨5, [], 0⟩], 1⟩] pl = 1 := by rw [maskAt_one _ _ _ one_in, if_pos (match_deep rfl pl)]
theorem noMark_at (pl : List Step) : maskAtM [⟨[], 1⟩] pl = if pl = [] then 1 else 0 := by
 rw [maskAt_one _ _ _ one_in, match_plain (by simp)]
 cases pl <;> simp
theorem match_step {t : Step} (ht : t.kind = 1 ∨ t.kind = 2) (pl : List Step) : maskAtM [⟨[t], 1⟩] pl = if pl = [t] then 1 else 0 := by
 rw [maskAt_one _ _ _ one_in, match_plain (by simpa using ht)]
 by_cases h : pl = [t]
 ·subst h; simp
 ·rw [if_neg h, if_neg]; simp; exact fun e => h e.symm
theorem stepOf_kind (k : Int) (ks : List (List UInt8)) (j : Nat) : (stepOf k ks j).kind = 1 ∨ (stepOf k ks j).kind = 2 := by
 unfold stepOf; split
 ·exact .inl rfl
 ·exact .inr rfl
theorem stepOf_inj {v : Val} (hv : mayT v = true) {i j : Nat} (hi : i < v.kids.length) (hj : j < v.kids.length) : stepOf v.kind v.keys i = stepOf v.kind v.keys j ↔ i = j := by
 constructor
 ·intro h
  unfold stepOf at h
  split at h
  ·rename_i h7
   obtain ⟨h1, h2, h3⟩ := may_obj hv h7
   simp only [Step.mk.injEq, true_and, and_true, List.getD_eq_getElem?_getD, List.getElem?_eq_getElem (show i < v.keys.length by omega), List.getElem?_eq_getElem (show j < v.keys.length by omega), Option.getD_some] at h
   have a := List.Nodup.idxOf_getElem h3 i (by omega)
   have b := List.Nodup.idxOf_getElem h3 j (by omega)
   rw [← a, ← b, h]
  ·simp only [Step.mk.injEq, true_and] at h; omega
 ·rintro rfl; rfl
theorem none_kids (v : Val) (j : Nat) {y : Val} (h : (labK [⟨[], 1⟩] v [])[j]? = some y) : deepV y = 0 := by
 rw [labK_get] at h
 cases hx : v.kids[j]? with
 | none => rw [hx] at h; cases h
 | some x =>
  rw [hx] at h; cases h
  refine LeM.zero (deep_lab_le (b := 0) x _ fun q => ?_) (deep_in (lab_in _ _ _))
  rw [noMark_at, if_neg (by simp)]; exact .refl zero_in
theorem key_kid (v : Val) (hv : mayT v = true) {i j : Nat} (hi : i < v.kids.length) {y : Val} (h : (labK [⟨[stepOf v.kind v.keys i], 1⟩] v [])[j]? = some y) : y.mask = if j = i then 1 else 0 := by
 rw [labK_get] at h
 cases hx : v.kids[j]? with
 | none => rw [hx] at h; cases h
 | some x =>
  rw [hx] at h; cases h
  rw [lab_mask, match_step (stepOf_kind _ _ _)]
  have hj := (List.getElem?_eq_some_iff.1 hx).1
  simp only [List.nil_append, List.cons.injEq, and_true, stepOf_inj hv hj hi]
theorem key_deep (v : Val) (hv : mayT v = true) {i : Nat} (hi : i < v.kids.length) : deepV (labT [⟨[stepOf v.kind v.keys i], 1⟩] v []) = 1 := by
 refine LeM.anti (deep_lab_le v [] fun q => ?_) ?_
 ·rw [match_step (stepOf_kind _ _ _)]
  split
  ·exact .refl one_in
  ·exact zero_le one_in
 ·have hg := labK_of (ms := [⟨[stepOf v.kind v.keys i], 1⟩]) (v := v) (pl := []) (List.getElem?_eq_getElem hi)
  have hm := key_kid v hv hi hg
  rw [if_pos rfl] at hm
  have h1 := mask_le _ (lab_in [⟨[stepOf v.kind v.keys i], 1⟩] v.kids[i] ([] ++ [stepOf v.kind v.keys i]))
  rw [hm] at h1
  rw [deepV_eq, lab_kids]
  exact h1.trans (deepL_mem _ (List.mem_of_getElem? hg))
end Go.Proofs.YtdjjmppnnkkloaaGreatDoor
