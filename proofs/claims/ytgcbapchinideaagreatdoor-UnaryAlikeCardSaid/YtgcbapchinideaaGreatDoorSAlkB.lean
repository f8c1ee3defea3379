import Derived.Test.YtgcbapchinideaaGreatDoorK5
import Derived.Test.YtgcbapchinideaaGreatDoorK4
namespace Go.Proofs.YtgcbapchinideaaGreatDoor
open Sy Go
set_option maxRecDepth 100000
set_option linter.all false
mutual
def Alk (c:Int):Val->Val->Prop
 | .mk k m d s ks vs e,b=>(yV m c≠0/\yV b.mask c≠0)\/(yV m c=0/\yV b.mask c=0/\k=b.kind/\m=b.mask/\d=b.num/\s=b.text/\ks=b.keys/\e=b.code/\kH c vs b.kids)
def kH (c:Int):List Val->List Val->Prop
 | [],[]=>True
 | x::l,y::m=>Alk c x y/\kH c l m
 | [],_::_=>False
 | _::_,[]=>False
end
theorem qEU (c:Int) (a b:Val):Alk c a b↔(yV a.mask c≠0/\yV b.mask c≠0)\/(yV a.mask c=0/\yV b.mask c=0/\a.kind=b.kind/\a.mask=b.mask/\a.num=b.num/\a.text=b.text/\a.keys=b.keys/\a.code=b.code/\kH c a.kids b.kids):=by
 cases a;simp only[Alk,Val.kind_mk,Val.mask_mk,Val.num_mk,Val.text_mk,Val.keys_mk,Val.kids_mk,Val.code_mk]
theorem qKV {c:Int}:∀ {l m:List Val},kH c l m->l.length=m.length
 | [],[],_=>rfl
 | x::l,y::m,h=>by simp only[kH]at h;simp[qKV h.2]
 | [],_::_,h=>by simp only[kH]at h
 | _::_,[],h=>by simp only[kH]at h
theorem zDC {c:Int}:∀ {l m:List Val},kH c l m->∀ {k:Nat} {x y:Val},l[k]?=some x->m[k]?=some y->Alk c x y
 | [],[],_,k,x,y,h,_=>by simp at h
 | u::l,v::m,h,k,x,y,hx,hy=>by
  simp only[kH]at h
  cases k with
  | zero=>simp at hx hy;subst hx;subst hy;exact h.1
  | succ k=>simp at hx hy;exact zDC h.2 hx hy
 | [],_::_,h,_,_,_,_,_=>by simp only[kH]at h
 | _::_,[],h,_,_,_,_,_=>by simp only[kH]at h
theorem zIS {c:Int}:∀ {l m:List Val},l.length=m.length->(∀ (k:Nat) (x y:Val),l[k]?=some x->m[k]?=some y->Alk c x y)->kH c l m
 | [],[],_,_=>by simp only[kH]
 | u::l,v::m,hl,h=>by
  simp only[kH]
  exact⟨h 0 u v rfl rfl,zIS (by simpa using hl) fun k x y hx hy=>h (k+1) x y (by simpa using hx) (by simpa using hy)⟩
 | [],_::_,h,_=>by simp at h
 | _::_,[],h,_=>by simp at h
theorem qDI (c:Int) (v:Val):Alk c v v:=by
 induction v using Val.induct with
 | h v ih =>
  rw[qEU]
  by_cases h:yV v.mask c=0
  ·exact .inr ⟨h,h,rfl,rfl,rfl,rfl,rfl,rfl,zIS rfl fun k x y hx hy=>by rw[hx]at hy;cases hy;exact ih x (List.mem_of_getElem? hx)⟩
  exact .inl ⟨h,h⟩
theorem qNS {c:Int}:∀ {l m l' m':List Val},kH c l m->kH c l' m'->kH c (l++l') (m++m')
 | [],[],_,_,_,h=>by simpa using h
 | x::l,y::m,_,_,h,h'=>by
  simp only[kH]at h
  simp only[List.cons_append,kH]
  exact⟨h.1,qNS h.2 h'⟩
 | [],_::_,_,_,h,_=>by simp only[kH]at h
 | _::_,[],_,_,h,_=>by simp only[kH]at h
theorem zDP (m n c:Int):yV (orM m n) c=0↔yV m c=0/\yV n c=0:=by
 unfold yV
 rw[qJV,Nat.and_or_distrib_right]
 have e:∀ x:Nat,((x:Nat):Int)=0↔x=0:=fun x=>by omega
 rw[e,e,e,Nat.or_eq_zero_iff]
theorem sub_le {m n c:Int} (h:LeM m n) (hn:yV n c=0):yV m c=0:=by
 unfold LeM at h
 rw[<-h]at hn
 exact((zDP m n c).1 hn).1
theorem qUX (c:Int):∀ (l:List Val) (m:Int),yV (uF m l) c=0↔yV m c=0/\∀ k∈l,yV (zJ k) c=0
 | [],m=>by simp[uF]
 | v::l,m=>by
  simp only[uF]
  rw[qUX c l,zDP]
  simp only[List.mem_cons,forall_eq_or_imp]
  constructor
  ·rintro⟨⟨h1,h2⟩,h3⟩;exact⟨h1,h2,h3⟩
  rintro⟨h1,h2,h3⟩;exact⟨⟨h1,h2⟩,h3⟩
theorem qGB (c:Int) (v:Val):yV (zJ v) c=0↔yV v.mask c=0/\∀ k∈v.kids,yV (zJ k) c=0:=by rw[qRF];exact qUX c _ _
theorem zQZ (c:Int) (a:Val):∀ b,Alk c a b->(yV (zJ a) c=0↔yV (zJ b) c=0)/\(yV (zJ a) c=0->a=b):=by
 induction a using Val.induct with
 | h a ih =>
  intro b h
  rw[qEU]at h
  rcases h with⟨h1,h2⟩|⟨h1,h2,e1,e2,e3,e4,e5,e6,hL⟩
  ·have n1:¬ yV (zJ a) c=0:=fun h=>h1 ((qGB c a).1 h).1
   have n2:¬ yV (zJ b) c=0:=fun h=>h2 ((qGB c b).1 h).1
   exact⟨⟨fun h=>absurd h n1,fun h=>absurd h n2⟩,fun h=>absurd h n1⟩
  have hl:=qKV hL
  have key:∀ (k:Nat) (x y:Val),a.kids[k]?=some x->b.kids[k]?=some y->(yV (zJ x) c=0↔yV (zJ y) c=0)/\(yV (zJ x) c=0->x=y):=fun k x y hx hy=>ih x (List.mem_of_getElem? hx) y (zDC hL hx hy)
  refine⟨?_,fun h => ?_⟩
  ·rw[qGB,qGB]
   refine⟨fun⟨_,h⟩=>⟨h2,fun y hy => ?_⟩,fun⟨_,h⟩=>⟨h1,fun x hx => ?_⟩⟩
   ·obtain⟨k,hk⟩:=List.mem_iff_getElem?.1 hy
    have hlt:=(List.getElem?_eq_some_iff.1 hk).1
    obtain⟨x,hx⟩:∃ x,a.kids[k]?=some x:=⟨a.kids[k]'(by omega),List.getElem?_eq_getElem _⟩
    exact(key k x y hx hk).1.1 (h x (List.mem_of_getElem? hx))
   obtain⟨k,hk⟩:=List.mem_iff_getElem?.1 hx
   have hlt:=(List.getElem?_eq_some_iff.1 hk).1
   obtain⟨y,hy⟩:∃ y,b.kids[k]?=some y:=⟨b.kids[k]'(by omega),List.getElem?_eq_getElem _⟩
   exact(key k x y hk hy).1.2 (h y (List.mem_of_getElem? hy))
  have hd:=((qGB c a).1 h).2
  have hk:a.kids=b.kids:=by
   apply List.ext_getElem?
   intro k
   by_cases hk:k<a.kids.length
   ·have hx:a.kids[k]?=some a.kids[k]:=List.getElem?_eq_getElem hk
    have hy:b.kids[k]?=some (b.kids[k]'(by omega)):=List.getElem?_eq_getElem _
    rw[hx,hy,(key k _ _ hx hy).2 (hd _ (List.mem_of_getElem? hx))]
   rw[List.getElem?_eq_none (by omega),List.getElem?_eq_none (by omega)]
  cases a;cases b
  simp only[Val.kind_mk,Val.mask_mk,Val.num_mk,Val.text_mk,Val.keys_mk,Val.kids_mk,Val.code_mk]at *
  subst e1;subst e2;subst e3;subst e4;subst e5;subst e6;subst hk;rfl
theorem zIM {c:Int} {x y:Val} (h1:yV x.mask c≠0) (h2:yV y.mask c≠0):Alk c x y:=(qEU c x y).2 (.inl ⟨h1,h2⟩)
theorem zQY {c:Int} (k m:Int) (d:Dc) (s:List UInt8) (ks:List (List UInt8)) {vs ws:List Val} (e:Int) (h:kH c vs ws):Alk c (.mk k m d s ks vs e) (.mk k m d s ks ws e):=by
 rw[qEU]
 by_cases hm:yV m c=0
 ·exact .inr ⟨hm,hm,rfl,rfl,rfl,rfl,rfl,rfl,h⟩
 exact .inl ⟨hm,hm⟩
end Go.Proofs.YtgcbapchinideaaGreatDoor
