import Derived.Test.YtgcbapchinideaaGreatDoorK1
namespace Go.Proofs.YtgcbapchinideaaGreatDoor
open Sy Go
set_option linter.unusedSimpArgs false
set_option linter.unusedVariables false
def eqL {α:Type} (p:α→α→Bool):List α→List α→Bool
 | [],[]=>true
 | x::l,y::m=>p x y && eqL p l m
 | _,_=>false
theorem qVA {α:Type} {p:α→α→Bool}:∀ {l m:List α},eqL p l m=true→l.length=m.length
 | [],[],_=>rfl
 | x::l,y::m,h=>by simp only [eqL,Bool.and_eq_true] at h; simp [qVA h.2]
 | [],_::_,h=>by simp [eqL] at h
 | _::_,[],h=>by simp [eqL] at h
theorem qQL {α:Type} {p:α→α→Bool} {l m:List α} {k:Nat} {x y:α} (hx:l[k]?=some x) (hy:m[k]?=some y):eqL p (l.drop k) (m.drop k)=(p x y && eqL p (l.drop (k+1)) (m.drop (k+1))):=by
 obtain ⟨h1,rfl⟩:=List.getElem?_eq_some_iff.1 hx
 obtain ⟨h2,rfl⟩:=List.getElem?_eq_some_iff.1 hy
 rw [List.drop_eq_getElem_cons h1,List.drop_eq_getElem_cons h2]; rfl
theorem qVB {α:Type} {p:α→α→Bool} {l m:List α} {k:Nat} (h1:l.length≤k) (h2:l.length=m.length):eqL p (l.drop k) (m.drop k)=true:=by
 rw [List.drop_eq_nil_of_le h1,List.drop_eq_nil_of_le (by omega)]; rfl
theorem qHP {α:Type} {p:α→α→Bool} (hp:∀ x y,p x y=true↔x=y):∀ {l m:List α},eqL p l m=true↔l=m
 | [],[]=>by simp [eqL]
 | x::l,y::m=>by simp [eqL,hp,qHP hp]
 | [],_::_=>by simp [eqL]
 | _::_,[]=>by simp [eqL]
def eqS (a b:List UInt8):Bool:=decide (a=b)
noncomputable def kC (a b:Val):Bool := @decide (a=b) (Classical.propDecidable _)
theorem xW (a b:Val):kC a b=true↔a=b:=by unfold kC; exact @decide_eq_true_iff _ (Classical.propDecidable _)
theorem qYX (a b:Val):kC a b=(decide (a.kind=b.kind) && decide (a.mask=b.mask) && decide (a.num.neg=b.num.neg∧a.num.digits=b.num.digits∧a.num.scale=b.num.scale) && decide (a.text=b.text) && decide (a.code=b.code) && eqL eqS a.keys b.keys && eqL kC a.kids b.kids):=by
 rw [Bool.eq_iff_iff,xW]
 simp only [Bool.and_eq_true,decide_eq_true_eq,qHP xW,qHP (p:=eqS) (fun x y=>by simp [eqS])]
 constructor
 ·rintro rfl; simp
 rintro ⟨⟨⟨⟨⟨⟨h1,h2⟩,h3⟩,h4⟩,h5⟩,h6⟩,h7⟩
 exact Val.ext h1 h2 (Dc.ext' h3.1 h3.2.1 h3.2.2) h4 h6 h7 h5
end Go.Proofs.YtgcbapchinideaaGreatDoor
