import Derived.Test.YtlmedakhioiahaaGreatDoorK3
namespace Go.Proofs.YtlmedakhioiahaaGreatDoor
open Sy Go
set_option linter.unusedSimpArgs false
set_option linter.unusedVariables false
def eqL {α:Type} (p:α→α→Bool):List α→List α→Bool
 | [],[]=>true
 | x::l,y::m=>p x y && eqL p l m
 | _,_=>false
theorem qXS {α:Type} {p:α→α→Bool}:∀ {l m:List α},eqL p l m=true→l.length=m.length
 | [],[],_=>rfl
 | x::l,y::m,h=>by simp only [eqL,Bool.and_eq_true] at h; simp [qXS h.2]
 | [],_::_,h=>by simp [eqL] at h
 | _::_,[],h=>by simp [eqL] at h
theorem zDA {α:Type} {p:α→α→Bool} {l m:List α} {k:Nat} {x y:α} (hx:l[k]?=some x) (hy:m[k]?=some y):eqL p (l.drop k) (m.drop k)=(p x y && eqL p (l.drop (k+1)) (m.drop (k+1))):=by
 obtain ⟨h1,rfl⟩:=List.getElem?_eq_some_iff.1 hx
 obtain ⟨h2,rfl⟩:=List.getElem?_eq_some_iff.1 hy
 rw [List.drop_eq_getElem_cons h1,List.drop_eq_getElem_cons h2]; rfl
theorem zGM {α:Type} {p:α→α→Bool} {l m:List α} {k:Nat} (h1:l.length≤k) (h2:l.length=m.length):eqL p (l.drop k) (m.drop k)=true:=by
 rw [List.drop_eq_nil_of_le h1,List.drop_eq_nil_of_le (by omega)]; rfl
def eqS (a b:List UInt8):Bool:=decide (a=b)
end Go.Proofs.YtlmedakhioiahaaGreatDoor
