import Derived.Test.YtdjjmppnnkkloaaGreatDoorSTreeMapL
import Derived.Test.YtdjjmppnnkkloaaGreatDoorK1
namespace Go.Proofs.YtdjjmppnnkkloaaGreatDoor
open Sy Go
set_option linter.unusedSimpArgs false
set_option linter.unusedVariables false
@[simp] def zeroN : List V := [.p (.int .i64 0), .p (.int .u64 0), .p (.bool false), .p (.str []), .p (.int .i64 0), .p (.str []), .nilsl, .nilsl, .p (.int .i64 0)]
def setM (v : Val) (m : Int) : Val := .mk v.kind m v.num v.text v.keys v.kids v.code
@[simp] theorem setM_kind (u : Val) (m : Int) : (setM u m).kind = u.kind := rfl
@[simp] theorem setM_mask (u : Val) (m : Int) : (setM u m).mask = m := rfl
@[simp] theorem setM_num (u : Val) (m : Int) : (setM u m).num = u.num := rfl
@[simp] theorem setM_text (u : Val) (m : Int) : (setM u m).text = u.text := rfl
@[simp] theorem setM_keys (u : Val) (m : Int) : (setM u m).keys = u.keys := rfl
@[simp] theorem setM_kids (u : Val) (m : Int) : (setM u m).kids = u.kids := rfl
@[simp] theorem setM_code (u : Val) (m : Int) : (setM u m).code = u.code := rfl
def setK (v : Val) (l : List Val) : Val := .mk v.kind v.mask v.num v.text v.keys l v.code
@[simp] theorem setK_kind (u : Val) (m : List Val) : (setK u m).kind = u.kind := rfl
@[simp] theorem setK_mask (u : Val) (m : List Val) : (setK u m).mask = u.mask := rfl
@[simp] theorem setK_num (u : Val) (m : List Val) : (setK u m).num = u.num := rfl
@[simp] theorem setK_text (u : Val) (m : List Val) : (setK u m).text = u.text := rfl
@[simp] theorem setK_keys (u : Val) (m : List Val) : (setK u m).keys = u.keys := rfl
@[simp] theorem setK_kids (u : Val) (m : List Val) : (setK u m).kids = m := rfl
@[simp] theorem setK_code (u : Val) (m : List Val) : (setK u m).code = u.code := rfl
theorem bareV_setK (v : Val) : bareV v = setK (setM v 0) (v.kids.map bareV) := by
 show mapV bare1 v = _
 rw [mapV_eq]; rfl
@[simp] theorem bareV_kind (u : Val) : (bareV u).kind = u.kind := by rw [bareV_setK]; rfl
@[simp] theorem bareV_mask (u : Val) : (bareV u).mask = 0 := by rw [bareV_setK]; rfl
@[simp] theorem bareV_num (u : Val) : (bareV u).num = u.num := by rw [bareV_setK]; rfl
@[simp] theorem bareV_text (u : Val) : (bareV u).text = u.text := by rw [bareV_setK]; rfl
@[simp] theorem bareV_keys (u : Val) : (bareV u).keys = u.keys := by rw [bareV_setK]; rfl
@[simp] theorem bareV_kids (u : Val) : (bareV u).kids = u.kids.map bareV := by rw [bareV_setK]; rfl
@[simp] theorem bareV_code (u : Val) : (bareV u).code = u.code := by rw [bareV_setK]; rfl
mutual
def deepV : Val → Int
 | .mk _ m _ _ _ vs _ => deepL m vs
def deepL (m : Int) : List Val → Int
 | [] => m
 | v :: vs => deepL (orM m (deepV v)) vs
end
theorem deepV_eq (v : Val) : deepV v = deepL v.mask v.kids := by cases v; simp only [deepV, Val.mask_mk, Val.kids_mk]
theorem deepL_append (l : List Val) (x : Val) : ∀ m, deepL m (l ++ [x]) = orM (deepL m l) (deepV x) := by
 induction l with
 | nil => intro m; simp only [List.nil_append, deepL]
 | cons y l ih => intro m; simp only [List.cons_append, deepL, ih]
theorem deepL_take {m : Int} {l : List Val} {k : Nat} {x : Val} (h : l[k]? = some x) : deepL m (l.take (k + 1)) = orM (deepL m (l.take k)) (deepV x) := by
 rw [List.take_add_one, h]; exact deepL_append _ _ _
@[simp] theorem deepL_nil (m : Int) : deepL m [] = m := by simp only [deepL]
mutual
def InV : Val → Prop
 | .mk _ m _ _ _ vs _ => InM m ∧ InVL vs
def InVL : List Val → Prop
 | [] => True
 | v :: vs => InV v ∧ InVL vs
end
theorem InVL_all : ∀ l, InVL l ↔ ∀ v ∈ l, InV v
 | [] => by simp [InVL]
 | v :: vs => by simp [InVL, InVL_all vs]
theorem InV_iff (v : Val) : InV v ↔ InM v.mask ∧ ∀ k ∈ v.kids, InV k := by cases v; simp only [InV, InVL_all, Val.mask_mk, Val.kids_mk]
theorem InV_mask {v : Val} (h : InV v) : InM v.mask := ((InV_iff v).1 h).1
theorem deepL_in : ∀ {l : List Val} {m : Int}, InM m → InM (deepL m l)
 | [], m, h => by simpa using h
 | v :: vs, m, h => by simp only [deepL]; exact deepL_in (or_in _ _)
theorem deep_in {v : Val} (h : InV v) : InM (deepV v) := by rw [deepV_eq]; exact deepL_in (InV_mask h)
theorem sz_eq (v : Val) : Val.sz v = 1 + Val.szL v.kids := by cases v; simp only [Val.sz, Val.kids_mk]
theorem szL_append (l m : List Val) : Val.szL (l ++ m) = Val.szL l + Val.szL m := by
 induction l with
 | nil => simp [Val.szL]
 | cons y l ih => simp only [List.cons_append, Val.szL, ih]; omega
@[simp] theorem szL_nil : Val.szL [] = 0 := by simp only [Val.szL]
@[simp] theorem szL_one (x : Val) : Val.szL [x] = Val.sz x := by simp only [Val.szL, Nat.add_zero]
end Go.Proofs.YtdjjmppnnkkloaaGreatDoor
