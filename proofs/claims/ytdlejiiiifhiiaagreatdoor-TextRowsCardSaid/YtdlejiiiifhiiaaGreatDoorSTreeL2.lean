import Derived.Test.YtdlejiiiifhiiaaGreatDoorSTreeMapL
import Derived.Test.YtdlejiiiifhiiaaGreatDoorSMasks
/-
  PLAIN: all masks of a value, how much there is, what is held, tidy values, kids.
-/
namespace Go.Proofs.YtdlejiiiifhiiaaGreatDoor
open Sy Go
set_option linter.unusedSimpArgs false
set_option linter.unusedVariables false
def zeroV : Val := .mk 0 0 dc0 [] [] [] 0
@[simp] theorem zeroV_kind : zeroV.kind = 0 := rfl
@[simp] theorem zeroV_mask : zeroV.mask = 0 := rfl
@[simp] theorem zeroV_neg : zeroV.num.neg = false := rfl
@[simp] theorem zeroV_digits : zeroV.num.digits = [] := rfl
@[simp] theorem zeroV_scale : zeroV.num.scale = 0 := rfl
@[simp] theorem zeroV_text : zeroV.text = [] := rfl
@[simp] theorem zeroV_keys : zeroV.keys = [] := rfl
@[simp] theorem zeroV_kids : zeroV.kids = [] := rfl
@[simp] theorem zeroV_code : zeroV.code = 0 := rfl
@[simp] def zeroN : List V := [.p (.int .i64 0), .p (.int .u64 0), .p (.bool false), .p (.str []), .p (.int .i64 0), .p (.str []), .nilsl, .nilsl, .p (.int .i64 0)]
/-- With this mask. -/
def setM (v : Val) (m : Int) : Val := .mk v.kind m v.num v.text v.keys v.kids v.code
@[simp] theorem setM_kind (u : Val) (m : Int) : (setM u m).kind = u.kind := rfl
@[simp] theorem setM_mask (u : Val) (m : Int) : (setM u m).mask = m := rfl
@[simp] theorem setM_num (u : Val) (m : Int) : (setM u m).num = u.num := rfl
@[simp] theorem setM_text (u : Val) (m : Int) : (setM u m).text = u.text := rfl
@[simp] theorem setM_keys (u : Val) (m : Int) : (setM u m).keys = u.keys := rfl
@[simp] theorem setM_kids (u : Val) (m : Int) : (setM u m).kids = u.kids := rfl
@[simp] theorem setM_code (u : Val) (m : Int) : (setM u m).code = u.code := rfl
/-- With these kids. -/
def setK (v : Val) (l : List Val) : Val := .mk v.kind v.mask v.num v.text v.keys l v.code
@[simp] theorem setK_kind (u : Val) (m : List Val) : (setK u m).kind = u.kind := rfl
@[simp] theorem setK_mask (u : Val) (m : List Val) : (setK u m).mask = u.mask := rfl
@[simp] theorem setK_num (u : Val) (m : List Val) : (setK u m).num = u.num := rfl
@[simp] theorem setK_text (u : Val) (m : List Val) : (setK u m).text = u.text := rfl
@[simp] theorem setK_keys (u : Val) (m : List Val) : (setK u m).keys = u.keys := rfl
@[simp] theorem setK_kids (u : Val) (m : List Val) : (setK u m).kids = m := rfl
@[simp] theorem setK_code (u : Val) (m : List Val) : (setK u m).code = u.code := rfl
def withV (v : Val) (m : Int) : Val := setM v (orM v.mask m)
@[simp] theorem withV_kind (u : Val) (m : Int) : (withV u m).kind = u.kind := rfl
@[simp] theorem withV_mask (u : Val) (m : Int) : (withV u m).mask = orM u.mask m := rfl
@[simp] theorem withV_num (u : Val) (m : Int) : (withV u m).num = u.num := rfl
@[simp] theorem withV_text (u : Val) (m : Int) : (withV u m).text = u.text := rfl
@[simp] theorem withV_keys (u : Val) (m : Int) : (withV u m).keys = u.keys := rfl
@[simp] theorem withV_kids (u : Val) (m : Int) : (withV u m).kids = u.kids := rfl
@[simp] theorem withV_code (u : Val) (m : Int) : (withV u m).code = u.code := rfl
theorem bareV_setK (v : Val) : bareV v = setK (setM v 0) (v.kids.map bareV) := by
  show mapV bare1 v = _
  rw [mapV_eq]; rfl
@[simp] theorem bareV_kind (u : Val) : (bareV u).kind = u.kind := by rw [bareV_setK]; rfl
@[simp] theorem bareV_mask (u : Val) : (bareV u).mask = 0 := by rw [bareV_setK]; rfl
@[simp] theorem bareV_num (u : Val) : (bareV u).num = u.num := by rw [bareV_setK]; rfl
@[simp] theorem bareV_text (u : Val) : (bareV u).text = u.text := by rw [bareV_setK]; rfl
@[simp] theorem bareV_keys (u : Val) : (bareV u).keys = u.keys := by rw [bareV_setK]; rfl
@[simp] theorem bareV_kids (u : Val) : (bareV u).kids = u.kids.map bareV := by rw [bareV_setK]; rfl
@[simp] theorem bareV_code (u : Val) : (bareV u).code = u.code := by rw [bareV_setK]; rfl
theorem mapV_id (v : Val) : mapV id v = v := by
  induction v using Val.induct with
  | h v ih =>
    rw [mapV_eq]
    have : v.kids.map (mapV id) = v.kids := by
      conv => rhs; rw [← List.map_id v.kids]
      exact List.map_congr_left fun k hk => ih k hk
    rw [this]; cases v; rfl
mutual
/-- All masks. -/
def deepV : Val → Int
  | .mk _ m _ _ _ vs _ => deepL m vs
def deepL (m : Int) : List Val → Int
  | [] => m
  | v :: vs => deepL (orM m (deepV v)) vs
end
theorem deepV_eq (v : Val) : deepV v = deepL v.mask v.kids := by cases v; simp only [deepV, Val.mask_mk, Val.kids_mk]
theorem deepL_append (l : List Val) (x : Val) : ∀ m, deepL m (l ++ [x]) = orM (deepL m l) (deepV x) := by
  induction l with
  | nil => intro m; simp only [List.nil_append, deepL]
  | cons y l ih => intro m; simp only [List.cons_append, deepL, ih]
theorem deepL_take {m : Int} {l : List Val} {k : Nat} {x : Val} (h : l[k]? = some x) : deepL m (l.take (k + 1)) = orM (deepL m (l.take k)) (deepV x) := by
  rw [List.take_add_one, h]; exact deepL_append _ _ _
@[simp] theorem deepL_nil (m : Int) : deepL m [] = m := by simp only [deepL]
mutual
/-- All masks are of 64 bits. -/
def InV : Val → Prop
  | .mk _ m _ _ _ vs _ => InM m ∧ InVL vs
def InVL : List Val → Prop
  | [] => True
  | v :: vs => InV v ∧ InVL vs
end
theorem InVL_all : ∀ l, InVL l ↔ ∀ v ∈ l, InV v
  | [] => by simp [InVL]
  | v :: vs => by simp [InVL, InVL_all vs]
theorem InV_iff (v : Val) : InV v ↔ InM v.mask ∧ ∀ k ∈ v.kids, InV k := by cases v; simp only [InV, InVL_all, Val.mask_mk, Val.kids_mk]
theorem InV_kid {v k : Val} (h : InV v) (hk : k ∈ v.kids) : InV k := ((InV_iff v).1 h).2 k hk
theorem InV_mask {v : Val} (h : InV v) : InM v.mask := ((InV_iff v).1 h).1
theorem deepL_in : ∀ {l : List Val} {m : Int}, InM m → InM (deepL m l)
  | [], m, h => by simpa using h
  | v :: vs, m, h => by simp only [deepL]; exact deepL_in (or_in _ _)
theorem deep_in {v : Val} (h : InV v) : InM (deepV v) := by rw [deepV_eq]; exact deepL_in (InV_mask h)
mutual
/-- How deep. -/
def depV : Val → Nat
  | .mk _ _ _ _ _ vs _ => depL 0 vs + 1
def depL (d : Nat) : List Val → Nat
  | [] => d
  | v :: vs => depL (max d (depV v)) vs
end
theorem depV_eq (v : Val) : depV v = depL 0 v.kids + 1 := by cases v; simp only [depV, Val.kids_mk]
theorem depL_append (l : List Val) (x : Val) : ∀ m, depL m (l ++ [x]) = max (depL m l) (depV x) := by
  induction l with
  | nil => intro m; simp only [List.nil_append, depL]
  | cons y l ih => intro m; simp only [List.cons_append, depL, ih]
theorem depL_take {m : Nat} {l : List Val} {k : Nat} {x : Val} (h : l[k]? = some x) : depL m (l.take (k + 1)) = max (depL m (l.take k)) (depV x) := by
  rw [List.take_add_one, h]; exact depL_append _ _ _
@[simp] theorem depL_nil (m : Nat) : depL m [] = m := by simp only [depL]
theorem sz_eq (v : Val) : Val.sz v = 1 + Val.szL v.kids := by cases v; simp only [Val.sz, Val.kids_mk]
theorem szL_append (l m : List Val) : Val.szL (l ++ m) = Val.szL l + Val.szL m := by
  induction l with
  | nil => simp [Val.szL]
  | cons y l ih => simp only [List.cons_append, Val.szL, ih]; omega
@[simp] theorem szL_nil : Val.szL [] = 0 := by simp only [Val.szL]
@[simp] theorem szL_one (x : Val) : Val.szL [x] = Val.sz x := by simp only [Val.szL, Nat.add_zero]
theorem sz_pos (v : Val) : 1 ≤ Val.sz v := by rw [sz_eq]; omega
theorem szL_len : ∀ l : List Val, l.length ≤ Val.szL l
  | [] => by simp
  | v :: l => by simp only [Val.szL, List.length_cons]; have := szL_len l; have := sz_pos v; omega
theorem kids_le_sz {v : Val} {n : Nat} (h : Val.sz v ≤ n) : v.kids.length ≤ n := by rw [sz_eq] at h; have := szL_len v.kids; omega
theorem szL_take {l : List Val} {k : Nat} {x : Val} (h : l[k]? = some x) : Val.szL (l.take (k + 1)) = Val.szL (l.take k) + Val.sz x := by
  rw [List.take_add_one, h, Option.toList_some, szL_append, szL_one]
theorem szL_take_le (l : List Val) (k : Nat) : Val.szL (l.take k) ≤ Val.szL l := by
  have := szL_append (l.take k) (l.drop k)
  rw [List.take_append_drop] at this; omega
theorem depL_le {d : Nat} {l : List Val} {b : Nat} (hd : d ≤ b) (h : ∀ v ∈ l, depV v ≤ b) : depL d l ≤ b := by
  induction l generalizing d with
  | nil => simpa using hd
  | cons y l ih =>
    simp only [depL]
    exact ih (by have := h y (by simp); omega) fun v hv => h v (by simp [hv])
theorem dep_le_sz (v : Val) : depV v ≤ Val.sz v := by
  induction v using Val.induct with
  | h v ih =>
    rw [depV_eq, sz_eq]
    have : depL 0 v.kids ≤ Val.szL v.kids := depL_le (by omega) fun k hk => Nat.le_trans (ih k hk) (Val.szL_mem hk)
    omega
theorem dep_pos (v : Val) : 1 ≤ depV v := by rw [depV_eq]; omega
mutual
/-- How much is held. -/
def heldV : Val → Nat
  | .mk _ m _ _ _ vs _ => if m = 0 then 1 + heldL vs else 1
def heldL : List Val → Nat
  | [] => 0
  | v :: vs => heldV v + heldL vs
end
theorem heldV_eq (v : Val) : heldV v = if v.mask = 0 then 1 + heldL v.kids else 1 := by cases v; simp only [heldV, Val.mask_mk, Val.kids_mk]; rfl
@[simp] theorem heldL_nil : heldL [] = 0 := by simp only [heldL]
theorem heldL_append (l m : List Val) : heldL (l ++ m) = heldL l + heldL m := by
  induction l with
  | nil => simp [heldL]
  | cons y l ih => simp only [List.cons_append, heldL, ih]; omega
@[simp] theorem heldL_one (x : Val) : heldL [x] = heldV x := by simp only [heldL, Nat.add_zero]
theorem heldL_take {l : List Val} {k : Nat} {x : Val} (h : l[k]? = some x) : heldL (l.take (k + 1)) = heldL (l.take k) + heldV x := by
  rw [List.take_add_one, h, Option.toList_some, heldL_append, heldL_one]
theorem heldL_le {l : List Val} (h : ∀ v ∈ l, heldV v ≤ Val.sz v) : heldL l ≤ Val.szL l := by
  induction l with
  | nil => simp
  | cons y l ih => simp only [heldL, Val.szL]; have := h y (by simp); have := ih fun v hv => h v (by simp [hv]); omega
theorem held_le_sz (v : Val) : heldV v ≤ Val.sz v := by
  induction v using Val.induct with
  | h v ih =>
    rw [heldV_eq, sz_eq]
    have := heldL_le ih
    split <;> omega
theorem heldL_take_le (l : List Val) (k : Nat) : heldL (l.take k) ≤ heldL l := by
  have := heldL_append (l.take k) (l.drop k)
  rw [List.take_append_drop] at this; omega
mutual
/-- A tidy value. -/
def tidyV : Val → Val
  | .mk k m n t ks vs c => if m = 0 then .mk k m n t ks (tidyL vs) c else setM (bareV (.mk k m n t ks vs c)) (deepL m vs)
def tidyL : List Val → List Val
  | [] => []
  | v :: vs => tidyV v :: tidyL vs
end
theorem tidyL_map : ∀ l, tidyL l = l.map tidyV
  | [] => by simp only [tidyL, List.map_nil]
  | v :: vs => by simp only [tidyL, List.map_cons, tidyL_map vs]
theorem tidyV_eq (v : Val) : tidyV v = if v.mask = 0 then setK v (v.kids.map tidyV) else setM (bareV v) (deepV v) := by
  cases v; simp only [tidyV, Val.mask_mk, tidyL_map, deepV]; rfl
/-- A kid by its key. -/
def getV (v : Val) (s : List UInt8) : Val × Bool := if v.kind = 7 ∧ s ∈ v.keys then (withV (kidOf v s) v.mask, true) else (zeroV, false)
def atI (v : Val) (i : Int) : Int := if i < 0 then i + v.kids.length else i
/-- A kid by its place. -/
def atV (v : Val) (i : Int) : Val × Bool := if v.kind = 6 ∧ 0 ≤ atI v i ∧ atI v i < v.kids.length then (withV (v.kids.getD (atI v i).toNat zeroV) v.mask, true) else (zeroV, false)
/-- Kids of which the first 'k' are changed. -/
def partK (f : Val → Val) (l : List Val) (k : Nat) : List PD := (l.take k).map (fun u => (f u).enc) ++ (l.drop k).map Val.enc
theorem partK_len (f : Val → Val) (l : List Val) (k : Nat) : (partK f l k).length = l.length := by
  simp only [partK, List.length_append, List.length_map, List.length_take, List.length_drop]; omega
@[simp] theorem partK_zero (f : Val → Val) (l : List Val) : partK f l 0 = l.map Val.enc := by simp only [partK, List.take_zero, List.map_nil, List.nil_append, List.drop_zero]
theorem partK_get {f : Val → Val} {l : List Val} {x : Val} {k : Nat} (hx : l[k]? = some x) : (partK f l k)[k]? = some x.enc := by
  have hk := (List.getElem?_eq_some_iff.1 hx).1
  have h0 : ((l.take k).map (fun u => (f u).enc)).length = k := by simp only [List.length_map, List.length_take]; omega
  rw [partK, List.getElem?_append_right (by omega), h0, Nat.sub_self, List.getElem?_map, List.getElem?_drop, Nat.add_zero, hx]; rfl
theorem partK_set {f : Val → Val} {l : List Val} {x : Val} {k : Nat} (hx : l[k]? = some x) : (partK f l k).set k (f x).enc = partK f l (k + 1) := by
  have hk := (List.getElem?_eq_some_iff.1 hx).1
  have hxk := (List.getElem?_eq_some_iff.1 hx).2
  have h0 : ((l.take k).map (fun u => (f u).enc)).length = k := by simp only [List.length_map, List.length_take]; omega
  rw [partK, List.set_append_right _ _ (by omega), h0, Nat.sub_self, List.drop_eq_getElem_cons hk, partK, List.take_succ_eq_append_getElem hk, hxk]
  simp only [List.map_cons, List.set_cons_zero, List.map_append, List.map_nil, List.append_assoc, List.cons_append, List.nil_append]
theorem partK_full (f : Val → Val) (l : List Val) : partK f l l.length = (l.map f).map Val.enc := by
  simp only [partK, List.take_length, List.drop_length, List.map_nil, List.append_nil, List.map_map]; rfl
end Go.Proofs.YtdlejiiiifhiiaaGreatDoor
