import Derived.Test.YtgcbapchinideaaGreatDoorK3
import Derived.Test.YtgcbapchinideaaGreatDoorK2
import Derived.Test.YtgcbapchinideaaGreatDoorM3
import Derived.Test.YtgcbapchinideaaGreatDoorK1
import Derived.Test.YtgcbapchinideaaGreatDoorM4
import Derived.Lib.Bytealg
import Derived.Shelf.Strings.Builder1
import Derived.Shelf.Unicode.DecodeAny
import Derived.Lib.MapLaws
import Derived.Shelf.Strings.OnBuilder
set_option linter.all false
namespace Go.Proofs.YtgcbapchinideaaGreatDoor
open Sy Go
structure Ord {α:Type} (p:α->α->Int) (S:α->Prop):Prop where
 anti:∀ x y,S x->S y->p x y = - p y x
 tr:∀ x y z,S x->S y->S z->p x y<=0->p y z<=0->p x z<=0
theorem Ord.refl {α:Type} {p:α->α->Int} {S:α->Prop} (h:Ord p S) {x:α} (hx:S x):p x x=0:=by have:=h.anti x x hx hx;omega
theorem Ord.lt_le {α:Type} {p:α->α->Int} {S:α->Prop} (h:Ord p S) {x y z:α} (hx:S x) (hy:S y) (hz:S z) (h1:p x y<0) (h2:p y z<=0):p x z<0:=by
 have h3:=h.tr x y z hx hy hz (by omega) h2;by_cases h4:p x z=0
 ·have a1:=h.anti x z hx hz;have a2:=h.anti x y hx hy;have:=h.tr y z x hy hz hx h2 (by omega);omega
 omega
theorem Ord.le_lt {α:Type} {p:α->α->Int} {S:α->Prop} (h:Ord p S) {x y z:α} (hx:S x) (hy:S y) (hz:S z) (h1:p x y<=0) (h2:p y z<0):p x z<0:=by
 have h3:=h.tr x y z hx hy hz h1 (by omega);by_cases h4:p x z=0
 ·have a1:=h.anti x z hx hz;have a2:=h.anti y z hy hz;have:=h.tr z x y hz hx hy (by omega) h1;omega
 omega
theorem Ord.eq_eq {α:Type} {p:α->α->Int} {S:α->Prop} (h:Ord p S) {x y z:α} (hx:S x) (hy:S y) (hz:S z) (h1:p x y=0) (h2:p y z=0):p x z=0:=by
 have a1:=h.anti x y hx hy;have a2:=h.anti y z hy hz;have a3:=h.anti x z hx hz;have:=h.tr x y z hx hy hz (by omega) (by omega);have:=h.tr z y x hz hy hx (by omega) (by omega);omega
theorem pL {α:Type} {p q:α->α->Int} {S:α->Prop} (hp:Ord p S) (hq:Ord q S):Ord (fun x y=>if p x y≠0 then p x y else q x y) S:=by
 refine⟨fun x y hx hy => ?_,fun x y z hx hy hz h1 h2 => ?_⟩
 ·have a1:=hp.anti x y hx hy;have a2:=hq.anti x y hx hy;by_cases h:p x y=0
  ·rw[bD (by omega),bD (by omega)];exact a2
  rw[bE h,bE (by omega)];exact a1
 by_cases e1:p x y=0
 ·rw[bD (by omega)]at h1;by_cases e2:p y z=0
  ·rw[bD (by omega)]at h2;rw[bD (by have:=hp.eq_eq hx hy hz e1 e2;omega)];exact hq.tr x y z hx hy hz h1 h2
  rw[bE e2]at h2;have:=hp.le_lt hx hy hz (by omega) (show p y z<0 by omega);rw[bE (by omega)];omega
 rw[bE e1]at h1;by_cases e2:p y z=0
 ·have:=hp.lt_le hx hy hz (show p x y<0 by omega) (by omega);rw[bE (by omega)];omega
 rw[bE e2]at h2;have:=hp.lt_le hx hy hz (show p x y<0 by omega) h2;rw[bE (by omega)];omega
theorem mP {α:Type} {p:α->α->Int} {S:α->Prop} (k:α->Int) (h:∀ x y,S x->S y->p x y=sgn (k x-k y)):Ord p S:=by
 refine⟨fun x y hx hy => ?_,fun x y z hx hy hz h1 h2 => ?_⟩
 ·rw[h x y hx hy,h y x hy hx];unfold sgn;(repeat' split) <;> omega
 rw[h x y hx hy]at h1;rw[h y z hy hz]at h2;rw[h x z hx hz]
 have e1 : k x ≤ k y := by unfold sgn at h1; split at h1; · omega
                           ·split at h1 <;> omega
 have e2 : k y ≤ k z := by unfold sgn at h2; split at h2; · omega
                           ·split at h2 <;> omega
 unfold sgn; split; · omega
 split <;> omega
theorem qTX (a b:Int):kU a b=sgn (a-b):=by unfold kU sgn;(repeat' split) <;> omega
theorem Ord.map {α β:Type} {p:β->β->Int} {S:β->Prop} (h:Ord p S) (f:α->β) {S':α->Prop} (hS:∀ x,S' x->S (f x)):Ord (fun x y=>p (f x) (f y)) S' :=
 ⟨fun x y hx hy=>h.anti _ _ (hS x hx) (hS y hy),fun x y z hx hy hz=>h.tr _ _ _ (hS x hx) (hS y hy) (hS z hz)⟩
theorem Ord.list {α:Type} {p:α->α->Int} {S:α->Prop} (h:Ord p S):Ord (wL p) (fun l=>∀ x∈l,S x):=by
 constructor
 ·intro l;induction l with
  | nil=>intro m _ _;cases m <;> simp[wL]
  | cons x l ih =>
   intro m hl hm;cases m with
   | nil=>simp[wL]
   | cons y m =>
    simp only[wL];have a:=h.anti x y (hl x (by simp)) (hm y (by simp));have:=ih m (fun z hz=>hl z (by simp[hz])) (fun z hz=>hm z (by simp[hz]));by_cases e:p x y=0
    ·rw[bD (by omega),bD (by omega)];exact this
    rw[bE e,bE (by omega)];exact a
 intro l;induction l with
 | nil=>intro m n _ _ _ _ _;cases n <;> simp[wL]
 | cons x l ih =>
  intro m n hl hm hn h1 h2;cases m with
  | nil=>simp[wL]at h1
  | cons y m =>
   cases n with
   | nil=>simp[wL]at h2
   | cons z n =>
    have sx:=hl x (by simp);have sy:=hm y (by simp);have sz:=hn z (by simp);simp only[wL]at h1 h2 ⊢;by_cases e1:p x y=0
    ·rw[bD (by omega)]at h1;by_cases e2:p y z=0
     ·rw[bD (by omega)]at h2;rw[bD (by have:=h.eq_eq sx sy sz e1 e2;omega)];exact ih m n (fun w hw=>hl w (by simp[hw])) (fun w hw=>hm w (by simp[hw])) (fun w hw=>hn w (by simp[hw])) h1 h2
     rw[bE e2]at h2;have:=h.le_lt sx sy sz (by omega) (show p y z<0 by omega);rw[bE (by omega)];omega
    rw[bE e1]at h1;by_cases e2:p y z=0
    ·have:=h.lt_le sx sy sz (show p x y<0 by omega) (by omega);rw[bE (by omega)];omega
    rw[bE e2]at h2;have:=h.lt_le sx sy sz (show p x y<0 by omega) h2;rw[bE (by omega)];omega
def qGH (a b:List UInt8):Int:=wL (fun x y:UInt8=>kU x.toNat y.toNat) a b
theorem qUC:Ord qGH (fun _=>True) :=
 let h:=(mP (p:=fun x y:UInt8=>kU x.toNat y.toNat) (S:=fun _=>True) (fun x=>(x.toNat:Int)) fun x y _ _=>qTX _ _).list
 ⟨fun x y _ _=>h.anti x y (fun _ _=>trivial) (fun _ _=>trivial),fun x y z _ _ _=>h.tr x y z (fun _ _=>trivial) (fun _ _=>trivial) (fun _ _=>trivial)⟩
theorem qPU (a b:UInt8) (al bs:List UInt8):qGH (a::al) (b::bs)=if kU a.toNat b.toNat≠0 then kU a.toNat b.toNat else qGH al bs:=rfl
theorem zMC {a b:Int} (h:a<b):kU a b = -1:=bE h
theorem zMD {a b:Int} (h:b<a):kU a b=1:=by unfold kU;rw[bD (by omega),bE h]
theorem qOH (a:Int):kU a a=0:=by unfold kU;rw[bD (by omega),bD (by omega)]
theorem qGW:∀ a b:List UInt8,Lib.compareBytes a b=qGH a b
 | [],[]=>rfl
 | [],_::_=>rfl
 | _::_,[]=>rfl
 | a::al,b::bs=>by
  simp only[Lib.compareBytes,qPU,fT];by_cases h1:a.toNat<b.toNat
  ·rw[bE h1,zMC (by omega)];simp
  by_cases h2:b.toNat<a.toNat
  ·rw[bD h1,bE h2,zMD (by omega)];simp
  rw[bD h1,bD h2,show a.toNat=b.toNat by omega,qOH];simpa using qGW al bs
theorem zMB:∀ a b:List UInt8,jW a b=qGH a b
 | [],[]=>rfl
 | [],b::bs=>by simp[jW,Op.bytesLess,qGH,wL]
 | a::al,[]=>by simp[jW,Op.bytesLess,qGH,wL]
 | a::al,b::bs=>by
  have ih:=zMB al bs;rw[qPU,<-ih];by_cases h1:a.toNat<b.toNat
  ·rw[zMC (by omega)];simp[jW,Op.bytesLess,fT,h1]
  by_cases h2:b.toNat<a.toNat
  ·have hne:a≠b:=by rintro rfl;omega
   rw[zMD (by omega)];simp[jW,Op.bytesLess,fT,h1,hne]
  have he:a=b:=dU.1 (by omega);subst he;rw[qOH];simp[jW,Op.bytesLess]
theorem zUO:Ord jW (fun _=>True):=by
 rw[show jW=qGH from funext fun a=>funext fun b=>zMB a b];exact qUC
theorem zFL:Ord Lib.compareBytes (fun _=>True):=by
 rw[show Lib.compareBytes=qGH from funext fun a=>funext fun b=>qGW a b];exact qUC
theorem zUR:Ord qHY (fun d=>zJ d=true):=mP qD fun x y hx hy=>zPU hx hy
def qBG (f:Nat) (k:Int) (a b:Val):Int :=
 if k=4 then qHY a.num b.num else if k=5 then Lib.compareBytes a.text b.text else if k=6 then wL (yP f) a.kids b.kids
 else if k=8 then kU a.code b.code
 else if k=7 then(if wL jW (zW a.keys) (zW b.keys)≠0 then wL jW (zW a.keys) (zW b.keys) else wL (yP f) (yR a) (yR b)) else 0
theorem qFC (f:Nat) (a b:Val):yP (f+1) a b=if kU a.kind b.kind≠0 then kU a.kind b.kind else qBG f a.kind a b:=by
 simp only[yP,qBG];by_cases h:a.kind=b.kind
 ·rw[bD (by simpa using h),h,qOH];simp
 rw[bE h,bE (by unfold kU;split <;> (try split) <;> omega)]
theorem zVB {f:Nat} (ih:Ord (yP f) (fun v=>qU v=true)) (k:Int):Ord (qBG f k) (fun v=>qU v=true/\v.kind=k):=by
 by_cases h4:k=4
 ·have:qBG f k=fun a b=>qHY a.num b.num:=by funext a b;simp[qBG,h4]
  rw[this];exact zUR.map Val.num fun x hx=>xP hx.1 (by omega)
 by_cases h5:k=5
 ·have:qBG f k=fun a b=>Lib.compareBytes a.text b.text:=by funext a b;simp[qBG,h5]
  rw[this];exact zFL.map Val.text fun x hx=>trivial
 by_cases h6:k=6
 ·have:qBG f k=fun a b=>wL (yP f) a.kids b.kids:=by funext a b;simp[qBG,h6]
  rw[this];exact ih.list.map Val.kids fun x hx y hy=>yZ hx.1 hy
 by_cases h8:k=8
 ·have:qBG f k=fun a b=>kU a.code b.code:=by funext a b;simp[qBG,h8]
  rw[this];exact mP Val.code fun x y _ _=>qTX _ _
 by_cases h7:k=7
 ·have:qBG f k=fun a b=>if wL jW (zW a.keys) (zW b.keys)≠0 then wL jW (zW a.keys) (zW b.keys) else wL (yP f) (yR a) (yR b):=by funext a b;simp[qBG,h7]
  rw[this];refine pL (p:=fun a b:Val=>wL jW (zW a.keys) (zW b.keys)) (q:=fun a b=>wL (yP f) (yR a) (yR b)) ?_ ?_
  ·exact zUO.list.map (fun v:Val=>zW v.keys) fun x hx y hy=>trivial
  exact ih.list.map yR fun x hx y hy=>yZ hx.1 (qEU (by have:=qFU hx.1 (by omega);omega) hy)
 have:qBG f k=fun a b=>0:=by funext a b;simp[qBG,h4,h5,h6,h7,h8]
 rw[this];exact⟨fun _ _ _ _=>by simp,fun _ _ _ _ _ _ _ _=>by simp⟩
theorem qIZ {a b:Int} (h:kU a b=0):a=b:=by unfold kU at h;split at h <;> (try split at h) <;> omega
theorem qTY:∀ f,Ord (yP f) (fun v=>qU v=true)
 | 0=>⟨fun _ _ _ _=>by simp[yP],fun _ _ _ _ _ _ _ _=>by simp[yP]⟩
 | f+1=>by
  have ihb:=zVB (qTY f);have hk:Ord (fun a b:Val=>kU a.kind b.kind) (fun v=>qU v=true):=mP Val.kind fun x y _ _=>qTX _ _;refine⟨fun x y hx hy => ?_,fun x y z hx hy hz h1 h2 => ?_⟩
  ·rw[qFC,qFC];have a1:=hk.anti x y hx hy;by_cases e:kU x.kind y.kind=0
   ·have he:=qIZ e;rw[bD (by omega),bD (by omega),he];exact(ihb y.kind).anti x y ⟨hx,he⟩ ⟨hy,rfl⟩
   rw[bE e,bE (by omega)];exact a1
  rw[qFC]at h1 h2 ⊢;by_cases e1:kU x.kind y.kind=0
  ·rw[bD (by omega)]at h1;by_cases e2:kU y.kind z.kind=0
   ·rw[bD (by omega)]at h2;have:=hk.eq_eq hx hy hz e1 e2;rw[bD (by omega)];have k1:=qIZ e1;have k2:=qIZ e2;rw[<-k1]at h2;exact(ihb x.kind).tr x y z ⟨hx,rfl⟩ ⟨hy,k1.symm⟩ ⟨hz,by omega⟩ h1 h2
   rw[bE e2]at h2;have:=hk.le_lt hx hy hz (by show kU x.kind y.kind<=0;omega) (show kU y.kind z.kind<0 by omega);rw[bE (by omega)];omega
  rw[bE e1]at h1;have e3:kU y.kind z.kind<=0:=by
   by_cases e2:kU y.kind z.kind=0
   ·omega
   rw[bE e2]at h2;exact h2
  have:=hk.lt_le hx hy hz (show kU x.kind y.kind<0 by omega) e3;rw[bE (by omega)];omega
theorem wZ (v:Val):qP v = .mk v.kind 0 v.num v.text v.keys (v.kids.map qP) v.code:=by
 unfold qP;rw[qQL];rfl
theorem zMJ (v:Val):iR (qP v)=iR v:=by
 have hsz:∀ l:List Val,iT l=(l.map iR).sum:=by
  intro l;induction l with
  | nil=>simp[iT]
  | cons x l ih=>simp[iT,ih]
 refine iV (p:=fun v=>iR (qP v)=iR v) (fun v ih => ?_) v;rw[wZ];cases v with
 | mk k m n t ks vs c =>
  simp only[iR,hsz,lN,dT]at ih ⊢;congr 2
  exact dE fun x hx=>ih x hx
theorem qMQ (v:Val):qU (qP v)=qU v:=by
 refine iV (p:=fun v=>qU (qP v)=qU v) (fun v ih => ?_) v;have e:qU (qP v)=(yD v && yT v && (v.kids.map qP).all qU):=by
  have h0:yD (qP v)=yD v:=by rw[wZ];simp[yD]
  have h1:qBF (qP v)=qBF v:=by rw[wZ];rfl
  have h2:qBI (qP v)=qBI v:=by rw[wZ];rfl
  have h3:jY (qP v)=jY v:=by rw[wZ];rfl
  have h4:yU (qP v)=yU v:=by
   rw[wZ];show(if v.kind=7 then decide ((v.keys.length:Int)=((v.kids.map qP).length:Int)) && xU v.keys else decide (v.keys=[]))=yU v
   rw[cV];rfl
  have h5:uS (qP v)=uS v:=by
   rw[wZ];show(decide (v.kids.map qP=[]) || decide (v.kind=6) || decide (v.kind=7))=uS v
   rw[uS,show decide (v.kids.map qP=[])=decide (v.kids=[]) by simp]
  have h6:(qP v).kids=v.kids.map qP:=by rw[wZ];rfl
  rw[yB,h0,h6,yT,h1,h2,h3,h4,h5];rfl
 rw[e,yB];congr 1
 rw[List.all_map];rw[eM,bR,bR];exact⟨fun h k hk=>by rw[<-ih k hk];exact h k hk,fun h k hk=>by simp only[Function.comp];rw[ih k hk];exact h k hk⟩
theorem zQJ (v:Val):qP (qP v)=qP v:=by
 induction v using iV with
 | h v ih =>
  refine Val.ext ?_ ?_ ?_ ?_ ?_ ?_ ?_ <;> simp
  exact fun k hk=>ih k hk
theorem qKR {α:Type} {p q:α->α->Int}:∀ {l m:List α},(∀ x∈l, ∀ y∈m,p x y=q x y)->wL p l m=wL q l m
 | [],[],_=>rfl
 | [],_::_,_=>rfl
 | _::_,[],_=>rfl
 | x::l,y::m,h=>by
  simp only[wL];rw[h x (by simp) y (by simp),qKR (fun a ha b hb=>h a (by simp[ha]) b (by simp[hb]))]
theorem zFO {α β:Type} {p:β->β->Int} (g:α->β):∀ {l m:List α},wL p (l.map g) (m.map g)=wL (fun x y=>p (g x) (g y)) l m
 | [],[]=>rfl
 | [],_::_=>rfl
 | _::_,[]=>rfl
 | x::l,y::m=>by simp only[bA,wL,zFO g]
theorem qXW:∀ (f g:Nat) (a b:Val),qU a=true->qU b=true->iR a<f->iR a<g->yP f a b=yP g a b
 | 0,_,a,_,_,_,h,_=>by omega
 | _+1,0,a,_,_,_,_,h=>by omega
 | f+1,g+1,a,b,ha,hb,hf,hg=>by
  have key:∀ l m:List Val,(∀ x∈l,x∈a.kids)->(∀ y∈m,y∈b.kids)->wL (yP f) l m=wL (yP g) l m:=fun l m hl hm=>qKR fun x hx y hy=>by
   have:=mB (hl x hx);exact qXW f g x y (yZ ha (hl x hx)) (yZ hb (hm y hy)) (by omega) (by omega)
  rw[qFC,qFC];by_cases hk:kU a.kind b.kind=0
  ·rw[bD (by omega),bD (by omega)];have hkk:=qIZ hk;unfold qBG;rw[key a.kids b.kids (fun _ h=>h) (fun _ h=>h)];by_cases h7:a.kind=7
   ·rw[key (yR a) (yR b) (fun x hx=>qEU (by have:=qFU ha h7;omega) hx) (fun y hy=>qEU (by have:=qFU hb (by omega);omega) hy)]
   by_cases h4:a.kind=4
   ·simp[h4]
   by_cases h5:a.kind=5
   ·simp[h5]
   by_cases h6:a.kind=6
   ·simp[h6]
   by_cases h8:a.kind=8
   ·simp[h8]
   simp[h4,h5,h6,h7,h8]
  rw[bE hk,bE hk]
theorem qAA {a b:Val} (ha:qU a=true) (hb:qU b=true) {n:Nat} (h:iR a<n):wT a b=yP n a b:=qXW _ _ a b ha hb (by omega) h
theorem yO:Ord wT (fun v=>qU v=true):=by
 refine⟨fun x y hx hy => ?_,fun x y z hx hy hz h1 h2 => ?_⟩
 ·rw[qAA (n:=iR x+iR y+1) hx hy (by omega),qAA (n:=iR x+iR y+1) hy hx (by omega)];exact(qTY _).anti x y hx hy
 rw[qAA (n:=iR x+iR y+1) hx hy (by omega)]at h1;rw[qAA (n:=iR x+iR y+1) hy hz (by omega)]at h2;rw[qAA (n:=iR x+iR y+1) hx hz (by omega)];exact(qTY _).tr x y z hx hy hz h1 h2
theorem zQI:qP qPC=qPC:=by rw[wZ];rfl
theorem zID (v:Val) (s:List UInt8):qMA (qP v) s=qP (qMA v s):=by
 unfold qMA;rw[wZ v];simp only[lN,mU,bJ,bG];cases v.kids[v.keys.idxOf s]? with
 | none=>simp[zQI]
 | some x=>rfl
theorem zHZ (v:Val):yR (qP v)=(yR v).map qP:=by
 have:(qP v).keys=v.keys:=by rw[wZ];rfl
 unfold yR;rw[this,dT];exact dE fun s _=>zID v s
theorem qOI:∀ (f:Nat) (a b:Val),yP f (qP a) (qP b)=yP f a b
 | 0,_,_=>rfl
 | f+1,a,b=>by
  have hl:∀ l m:List Val,wL (yP f) (l.map qP) (m.map qP)=wL (yP f) l m:=fun l m=>by
   rw[zFO];exact qKR fun x _ y _=>qOI f x y
  have e:∀ v:Val,(qP v).kind=v.kind/\(qP v).num=v.num/\(qP v).text=v.text/\(qP v).keys=v.keys/\(qP v).kids=v.kids.map qP/\(qP v).code=v.code:=fun v=>by
   rw[wZ];exact⟨rfl,rfl,rfl,rfl,rfl,rfl⟩
  obtain⟨a1,a2,a3,a4,a5,a6⟩:=e a;obtain⟨b1,b2,b3,b4,b5,b6⟩:=e b;simp only[yP,a1,a2,a3,a4,a5,a6,b1,b2,b3,b4,b5,b6,zHZ,hl]
theorem zJD (f:Nat) (a b:Val):yP f (qP a) b=yP f a b:=by
 rw[<-qOI f (qP a) b,zQJ,qOI]
def qR (code m:Int):Val := .mk 8 m dc0 [] [] [] code
def xJ (r:Dc × Int) (m:Int):Val:=if r.2=0 then .mk 4 m r.1 [] [] [] 0 else qR r.2 m
def yH (b:Bool) (m:Int):Val := .mk (if b=true then 3 else 2) m dc0 [] [] [] 0
def splitB (c:UInt8):List UInt8->List (List UInt8)
 | []=>[[]]
 | b::r=>if b=c then[]::splitB c r else match splitB c r with
  | []=>[[b]]
  | h::t=>(b::h)::t
theorem zNL (c:UInt8):∀ s,splitB c s≠[]
 | []=>by simp[splitB]
 | b::r=>by
  simp only[splitB];split
  ·simp
  split <;> simp
theorem qRR (c:UInt8):∀ s,(splitB c s).length=s.count c+1
 | []=>by simp[splitB]
 | b::r=>by
  have ih:=qRR c r;simp only[splitB];split
  ·rename_i h;subst h;simp[ih]
  rename_i h;rw[List.count_cons_of_ne h,<-ih];split
  ·rename_i h2;exact absurd h2 (zNL c r)
  rename_i h2;rw[h2];simp
theorem qVV {c:UInt8}:∀ {s},c ∉ s->splitB c s=[s]
 | [],_=>rfl
 | b::r,h=>by
  simp only[bM,not_or]at h;simp only[splitB,qVV h.2];rw[bD (fun e=>h.1 e.symm)]
theorem qVW {c:UInt8}:∀ {a r:List UInt8},c ∉ a->splitB c (a++c::r)=a::splitB c r
 | [],r,_=>by simp[splitB]
 | b::a,r,h=>by
  simp only[bM,not_or]at h;simp only[cT,splitB];rw[bD (fun e=>h.1 e.symm),qVW h.2]
theorem qNT {c:UInt8}:∀ {a r:List UInt8},c ∉ a->Lib.indexByte (a++c::r) c=a.length
 | [],r,_=>by simp[Lib.indexByte]
 | b::a,r,h=>by
  simp only[bM,not_or]at h;have ih:=qNT (r:=r) h.2;simp only[cT,Lib.indexByte];rw[bD (by intro e;exact h.1 (eq_of_beq e).symm),ih,cA,bD (by intro e;have:=eq_of_beq e;omega)];omega
theorem qXH {c:UInt8}:∀ {s:List UInt8},c ∉ s->Lib.indexByte s c = -1
 | [],_=>rfl
 | b::a,h=>by
  simp only[bM,not_or]at h;simp only[Lib.indexByte];rw[bD (by intro e;exact h.1 (eq_of_beq e).symm),qXH h.2];rfl
theorem zOU {c:UInt8} {s:List UInt8} (h:c∈s):∃ a r,s=a++c::r/\c ∉ a:=by
 induction s with
 | nil=>cases h
 | cons b s ih =>
  by_cases e:b=c
  ·subst e;exact⟨[],s,rfl,by simp⟩
  obtain⟨a,r,rfl,hn⟩:=ih (by rcases bM.1 h with h|h;exact absurd h.symm e;exact h);exact⟨b::a,r,rfl,by simp only[bM,not_or];exact⟨fun h=>e h.symm,hn⟩⟩
theorem zUL {c:UInt8} {a r:List UInt8} (h:c ∉ a):(a++c::r).count c=r.count c+1:=by
 rw[List.count_append,List.count_cons_self,List.count_eq_zero.2 h];omega
set_option maxRecDepth 100000
def qBL (u:Nat):List UInt8:=if h:u=0 then[] else qBL (u / 10)++[UInt8.ofNat (48+u % 10)]
termination_by u
decreasing_by omega
theorem qFA:qBL 0=[]:=by rw[qBL];simp
theorem qTU {u:Nat} (h:0<u):qBL u=qBL (u / 10)++[UInt8.ofNat (48+u % 10)]:=by rw[qBL];rw[dif_neg (by omega)]
theorem qTV:∀ k u:Nat,u<10 ^ k->(qBL u).length<=k
 | 0,u,h=>by
  have:u=0:=by simpa using h
  subst this;rw[qFA];simp
 | k+1,u,h=>by
  rcases eP u with h0|h0
  ·subst h0;rw[qFA];simp
  rw[qTU h0,bU,dA];have:=qTV k (u / 10) (by rw[eZ]at h;omega);omega
def qGX (n:Int):Dc:=(yA (decide (n<0)) (qBL n.natAbs) 0).1
def qUS (l:List UInt8) (k:Nat):List UInt8:=(List.range l.length).map fun i=>if i<k\/l.length-k<=i then l.getD (l.length-1-i) 0 else l.getD i 0
theorem qEI (l:List UInt8) (k:Nat):(qUS l k).length=l.length:=by simp[qUS]
theorem qEJ (l:List UInt8) (k:Nat) {i:Nat} (h:i<l.length):(qUS l k)[i]?=some (if i<k\/l.length-k<=i then l.getD (l.length-1-i) 0 else l.getD i 0):=by
 simp[qUS,h]
theorem qID (L:List UInt8) (i:Nat) (b:UInt8):(qQ L).set i (.int .u8 b.toNat)=qQ (L.set i b):=by unfold qQ;rw[gZ]
theorem zNW (l:List UInt8):qUS l 0=l:=by
 apply dP;intro i;by_cases h:i<l.length
 ·rw[qEJ l 0 h,bD (by omega),bJ,cI h];rfl
 rw[cL (by rw[qEI];omega),cL (by omega)]
theorem zRZ (l:List UInt8) {k:Nat} (h:l.length<=2 * k+1):qUS l k=l.reverse:=by
 apply dP;intro i;by_cases hi:i<l.length
 ·rw[qEJ l k hi,List.getElem?_reverse hi];have h1:l[l.length-1-i]?=some (l[l.length-1-i]'(by omega)):=cI _;rw[h1];congr 1
  split
  ·rw[bJ,h1];rfl
  have h2:l[i]?=some (l[l.length-1-i]'(by omega)):=by rw[<-h1];congr 1;omega
  rw[bJ,h2];rfl
 rw[cL (by rw[qEI];omega),cL (by rw[gE];omega)]
theorem zNX (l:List UInt8) {k:Nat} (h:2 * k+1<l.length):((qUS l k).set k (l.getD (l.length-1-k) 0)).set (l.length-1-k) (l.getD k 0)=qUS l (k+1):=by
 apply dP;intro i;by_cases hi:i<l.length
 ·rw[qEJ l (k+1) hi,dO,dO];simp only[eO,qEI];by_cases h1:l.length-1-k=i
  ·subst h1;rw[bE rfl,bE (by omega),bE (.inr (by omega)),show l.length-1-(l.length-1-k)=k by omega]
  rw[bD h1];by_cases h2:k=i
  ·subst h2;rw[bE rfl,bE (by omega),bE (.inl (by omega))]
  rw[bD h2,qEJ l k hi];congr 1
  by_cases h3:i<k\/l.length-k<=i
  ·rw[bE h3,bE (by omega)]
  rw[bD h3,bD (by omega)]
 rw[cL (by simp[qEI];omega),cL (by rw[qEI];omega)]
theorem zUH (u:Nat):(qBL u).all qO=true:=by
 induction u using Nat.strongRecOn with
 | _ u ih =>
  rcases eP u with h|h
  ·subst h;rw[qFA];rfl
  rw[qTU h,dJ,ih (u / 10) (by omega)];have:qO (UInt8.ofNat (48+u % 10))=true:=by
   rw[kY,gM];omega
  rw[eF,this];rfl
theorem qYV (s:List UInt8) (h:zA s≠[]):qS (zA s) 0≠48:=by
 unfold zA at h ⊢;have:=List.head?_dropWhile_not (fun b:UInt8=>b == 48) s;cases hs:s.dropWhile (fun b=>b == 48)with
 | nil=>exact absurd hs h
 | cons b r =>
  rw[hs]at this;simp only[iG]at this;have hb:¬ b=48:=by simpa using this
  unfold qS;simp only[List.getD_cons_zero];intro e;exact hb (dU.1 (by show b.toNat=48;omega))
theorem qTI {n:Int} (h0 : -9223372036854775808<=n) (h1:n<=9223372036854775807):zJ (qGX n)=true:=by
 have hl:=qTV 20 n.natAbs (by omega);have hd:=zUH n.natAbs;have hsl:(zA (qBL n.natAbs)).length<=20:=dB (dF _).length_le hl;have hsd:(zA (qBL n.natAbs)).all qO=true:=by
  rw[bR]at hd ⊢;exact fun b hb=>hd b ((dF _).subset hb)
 have hh:=qYV (qBL n.natAbs);have e:qGX n=if zA (qBL n.natAbs)=[] then⟨false,[48],0⟩ else⟨decide (n<0),zA (qBL n.natAbs),0⟩:=by
  have ht:wN (zA (qBL n.natAbs)) 0=(zA (qBL n.natAbs),0):=rfl;unfold qGX yA;rw[ht];by_cases h:zA (qBL n.natAbs)=[]
  ·rw[bE h,bE h]
  rw[bD h,bD h,bD (by simp only;omega)];rfl
 rw[e];generalize zA (qBL n.natAbs)=s at *;split
 ·decide
 rename_i hne;have hpos:0<s.length:=bV.2 hne;have h48:¬ s=[48]:=by
  intro he;exact hh hne (by rw[he];rfl)
 unfold zJ;simp only;rw[bD h48,hsd];have:=hh hne;simp[this];omega
def qLS (m:Int):Val := .mk 1 m dc0 [] [] [] 0
def wM (s:List UInt8) (m:Int):Val:=if 4096<s.length then qR 3 m else .mk 5 m dc0 s [] [] 0
def yJ (l:List Val) (m:Int):Val:=if 200<l.length then qR 3 m else .mk 6 m dc0 [] [] l 0
def qEV (n:Int) (m:Int):Val:=xJ (qGX n,0) m
set_option maxHeartbeats 4000000
variable {G:qT}
theorem zRI (code m:Int):AFn Tryz.prog G 69 [.int .i64 code,.int .u64 m] ((qR code m).enc):=by
 refine AFn.introU tok Tryz.func69 (by kernel_rfl) rfl rfl ?_;simp only[Tryz.f69,qG,bA,bC];have e:qR code m = .mk 8 m dc0 [] [] [] code:=rfl;rw[e];refine rgn [] [[]] ?_;refine op3 ?_;refine qA (rgn [] [[],[],[4,7],[4]] ?_);iterate 4 refine op3 ?_
 refine qA ?_;exact AW.ret (qI (k:=by simp[dc0]))
def jF (v:Val):Bool × Bool:=if v.kind=8 then(false,false) else if v.kind=1\/v.kind=2 then(false,true) else(true,true)
theorem qVP (v:Val):AFn Tryz.prog G 33 [v.enc] (.tup [.bool (jF v).1,.bool (jF v).2]):=by
 refine AFn.introU tok Tryz.func33 (by kernel_rfl) rfl rfl ?_;simp only[Tryz.f33,qG,bA,bC];refine rgn [] [[],[],[1]] ?_;iterate 3 refine op3 ?_
 refine qA (AW.seq (rgn [] [[],[5]] ?_));iterate 2 refine op3 ?_
 refine qA (AW.block (rgn [] [[],[5,6]] ?_));iterate 2 refine op3 ?_
 refine qA (cnd ?_ ?_)
 ·intro h6;try simp at h6
  refine rgn [] [[],[]] ?_;iterate 2 refine op3 ?_
  refine qA ?_;exact AW.ret (qI (k:=by(first|(exfalso;omega)|(simp[jF, *];done))))
 intro h6;try simp at h6
 refine AW.seq (rgn [] [[],[5,8]] ?_);iterate 2 refine op3 ?_
 refine qA (cnd ?_ ?_)
 ·intro h8;try simp at h8
  refine AW.skip (cnd ?_ ?_)
  ·intro h8;try simp at h8
   refine rgn [] [[],[]] ?_;iterate 2 refine op3 ?_
   refine qA ?_;exact AW.ret (qI (k:=by(first|(exfalso;omega)|(simp[jF, *];done))))
  intro h8;try simp at h8
  refine AW.skip (rgn [] [[],[]] ?_);iterate 2 refine op3 ?_
  refine qA ?_;exact AW.ret (qI (k:=by(first|(exfalso;omega)|(simp[jF, *];done))))
 intro h8;try simp at h8
 refine rgz [] [[],[8]] ?_;iterate 2 refine op3 ?_
 refine qA (cnd ?_ ?_)
 ·intro h8;try simp at h8
  refine rgn [] [[],[]] ?_;iterate 2 refine op3 ?_
  refine qA ?_;exact AW.ret (qI (k:=by(first|(exfalso;omega)|(simp[jF, *];done))))
 intro h8;try simp at h8
 refine AW.skip (rgn [] [[],[]] ?_);iterate 2 refine op3 ?_
 refine qA ?_;exact AW.ret (qI (k:=by(first|(exfalso;omega)|(simp[jF, *];done))))
structure Item where
 kind:Int
 many:Int
 mask:Int
 num:List UInt8
 text:List UInt8
 keys:List (List UInt8)
@[simp] def Item.enc (x:Item):PD := .agg [.int .i64 x.kind,.int .i64 x.many,.int .u64 x.mask,.str x.num,.str x.text,.sl 1 (x.keys.map PD.str)]
def yG (a:Int):Nat:=(a % 2 ^ 64).toNat &&& 7
theorem qLY (a:Int):yG a<8:=Nat.and_lt_two_pow _ (n:=3) (by decide)
theorem qWS (a:Int):IntKind.i64.wrap (((a % 2 ^ IntKind.i64.bits).toNat &&& 7 % 2 ^ IntKind.i64.bits:Nat):Int)=(yG a:Int):=by
 have h:=qLY a;have e:((a % 2 ^ IntKind.i64.bits).toNat &&& 7 % 2 ^ IntKind.i64.bits:Nat)=yG a:=rfl;rw[e];simp[IntKind.wrap,IntKind.bits,IntKind.signed];omega
def qDW (s:List UInt8):Dc:=if(vW (xW s)).2=0 then(vW (xW s)).1 else⟨false,[55],0⟩
def zEJ (alone:List Val) (x:Item):Nat:=min (yG x.many) alone.length
def zK (alone:List Val) (x:Item):List Val:=if yG x.kind=5\/yG x.kind=6 then alone.drop (alone.length-zEJ alone x) else[]
def zR (alone:List Val) (x:Item):List Val:=if yG x.kind=5\/yG x.kind=6 then alone.take (alone.length-zEJ alone x) else alone
def wV (alone:List Val) (x:Item):Val :=
 .mk (yG x.kind+1) x.mask (if yG x.kind=3 then qDW x.num else dc0) (if yG x.kind=4 then qEC x.text else[])
  (if yG x.kind=6 then qHJ x.keys (zK alone x).length else[]) (zK alone x) (if yG x.kind=7 then 40 else 0)
def qBE (alone:List Val) (x:Item):List Val:=zR alone x++[wV alone x]
def qGN (l:List Item):List Val:=(l.take 80).foldl qBE []
def qAB (l:List Item):Val:=(qGN l).getLastD qPC
def qAC (l:List Item) (k:Nat):List Val:=(l.take k).foldl qBE []
theorem qDS {l:List Item} {k:Nat} {x:Item} (h:l[k]?=some x):qAC l (k+1)=qBE (qAC l k) x:=by
 unfold qAC;rw[bX,h];simp
theorem zPG (a:List Val) (x:Item):(qBE a x).length<=a.length+1:=by
 unfold qBE zR;split <;> simp <;> omega
theorem qKT (l:List Item):∀ k,(qAC l k).length<=k
 | 0=>by simp[qAC]
 | k+1=>by
  cases h:l[k]? with
  | none =>
   have h1:qAC l (k+1)=qAC l k:=by unfold qAC;rw[bX,h];simp
   have:=qKT l k;rw[h1];omega
  | some x =>
   rw[qDS h];have:=zPG (qAC l k) x;have:=qKT l k;omega
theorem zWD (l:List Item) (hl:∀ x∈l,x.keys.length<=140737488351232):AFn Tryz.prog G 10 [.sl 6 (l.map Item.enc)] ((qAB l).enc):=by
 refine AFn.introU tok Tryz.func10 (by kernel_rfl) rfl rfl ?_;simp only[Tryz.f10,qG,bA,bC];refine rgn [] [[]] ?_;refine op3 ?_;refine qA (rgn [] [[],[0,2,3]] ?_);iterate 2 refine op3 ?_
 refine qA (AW.seq (rgn [] [[]] ?_));refine op3 ?_;refine qA (AW.block ?_);refine AW.loop (α:=Nat) (fun k=>k<=l.length/\k<=80) (fun k=>⟨qZ 121 [(0,.p (.sl 6 (l.map Item.enc))),(2,.ptr 2 0),(3,.ms 11),(4,.p (.int .i64 k))],[],[(11,.row 31 9 ((qAC l k).map Val.enc)),(2,.vars 31 [.p (.int .i64 0),.p (.int .u64 0),.p (.bool false),.p (.str []),.p (.int .i64 0),.p (.str []),.nilsl,.nilsl,.p (.int .i64 0)])],0⟩) (fun k=>l.length-k) (0) ⟨by omega,by omega⟩ ⟨qE (by simp),rfl,by simp[qAC],by simp⟩ ?_;rintro k ⟨hk,hk8⟩;have hal:=qKT l k;generalize haa:qAC l k=alone at *;refine AW.seq (rgn [] [[],[],[],[],[0,2,3,4,16],[],[],[0,2,3,4,19]] ?_);iterate 5 refine op3 ?_
 iterate 2 refine op4 ?_
 refine op3 ?_;refine qA (cnd ?_ ?_)
 ·intro h19;try simp at h19
  obtain⟨x,hx⟩:∃ x,l[k]?=some x:=⟨l[k],by simp[h19.1]⟩;have hsh:=zCQ (G:=G) x.num;have hpa:=zVY (G:=G) (xW x.num) (by have:=qKC x.num;omega);have hwo:=zKB (G:=G) x.text;have h3k:=qLY x.kind;have hxl:=hl x (bH hx);refine AW.skip (AW.seq (AW.block (rgn [x.enc] [[],[],[],[],[0,2,3,4,26],[],[0,2,3,4,5]] ?_)));iterate 7 refine op3 ?_ (h:=by intro C;conv=>lhs;simp[qWS]) (hv:=by first|exact True.intro|(simp[hx];done)|omega|simp)
  refine qA (rgn [x.enc] [[],[],[],[],[0,2,3,4,29,32],[],[],[0,2,3,4,35],[],[0,2,3,4,6]] ?_);iterate 10 refine op3 ?_ (hv:=by first|exact True.intro|(simp[hx];done)|omega|simp)
  refine qA ?_;refine AW.join (α:=Unit) (fun _=>True) (fun a=>⟨qZ 121 [(0,.p (.sl 6 (l.map Item.enc))),(2,.ptr 2 0),(3,.ms 11),(4,.p (.int .i64 k)),(6,.ptr 6 0)],[],[(11,.row 31 9 ((zR alone x).map Val.enc)),(2,.vars 31 [.p (.int .i64 0),.p (.int .u64 0),.p (.bool false),.p (.str []),.p (.int .i64 0),.p (.str []),.nilsl,.nilsl,.p (.int .i64 0)]),(6,.vars 31 [.p (.int .i64 (yG x.kind+1)),.p (.int .u64 x.mask),.p (.bool (wV alone x).num.neg),.p (.str (wV alone x).num.digits),.p (.int .i64 (wV alone x).num.scale),.p (.str (wV alone x).text),.p (.sl 1 []),.p (.sl 9 ((zK alone x).map Val.enc)),.p (.int .i64 (wV alone x).code)])],0⟩) ?_ ?_
  ·
   refine lB [] ?_;refine qB.fill 6 [none,none,none,none,none,none,some 1,some 9] (by conv=>lhs;simp) ?_;refine qB.run [[],[0,2,3,4,6,37]] ?_;iterate 2 refine op3 ?_
   refine qA (AW.block (rgn [] [[],[0,2,3,4,6,37,38]] ?_));iterate 2 refine op3 ?_
   refine qA (cnd ?_ ?_)
   ·intro h38;try simp at h38
    have hq:yG x.kind=3:=by omega
    refine rgn [x.enc,.nilp,.str (xW x.num),.nilp,.tup [(vW (xW x.num)).1.enc,.int .i64 (vW (xW x.num)).2]] [[],[],[],[],[0,2,3,4,6,45],[],[],[],[],[0,2,3,4,6,48,49],[],[],[0,2,3,4,6,7,8]] ?_;iterate 13 refine op3 ?_ (hv:=by first|exact True.intro|exact hsh|exact hpa|simp[hx];done|omega|simp)
    refine qA (AW.seq (rgn [] [[],[0,2,3,4,6,7,51]] ?_));iterate 2 refine op3 ?_
    refine qA (cnd ?_ ?_)
    ·intro h51;try simp at h51
     refine rgz [] [[],[0,2,3,4,6,7]] ?_;iterate 2 refine op3 ?_
     refine qA (rgz [] [[],[],[0,2,3,4,6]] ?_);iterate 3 refine op3 ?_
     refine qA ?_;exact⟨(),trivial,qE (by simp[zR,wV,zK,qDW,dc0,Val.num,Val.text,Val.code,Val.keys,Val.kids,hq,h51]),rfl,by simp[zR,wV,zK,qDW,dc0,Val.num,Val.text,Val.code,Val.keys,Val.kids,hq,h51],by simp[zR,wV,zK,qDW,dc0,Val.num,Val.text,Val.code,Val.keys,Val.kids,hq,h51]⟩
    intro h51;try simp at h51
    refine AW.skip (rgz [] [[],[],[0,2,3,4,6]] ?_);iterate 3 refine op3 ?_
    refine qA ?_;exact⟨(),trivial,qE (by simp[zR,wV,zK,qDW,dc0,Val.num,Val.text,Val.code,Val.keys,Val.kids,hq,h51]),rfl,by simp[zR,wV,zK,qDW,dc0,Val.num,Val.text,Val.code,Val.keys,Val.kids,hq,h51],by simp[zR,wV,zK,qDW,dc0,Val.num,Val.text,Val.code,Val.keys,Val.kids,hq,h51]⟩
   intro h38;try simp at h38
   refine rgn [] [[],[0,2,3,4,6,37,55]] ?_;iterate 2 refine op3 ?_
   refine qA (cnd ?_ ?_)
   ·intro h55;try simp at h55
    have hq:yG x.kind=4:=by omega
    refine rgz [x.enc,.nilp,.str (qEC x.text)] [[],[],[],[],[0,2,3,4,6,61],[],[],[0,2,3,4,6]] ?_;iterate 8 refine op3 ?_ (hv:=by first|exact True.intro|exact hwo|simp[hx];done|omega|simp)
    refine qA ?_;exact⟨(),trivial,qE (by simp[zR,wV,zK,qDW,dc0,Val.num,Val.text,Val.code,Val.keys,Val.kids,hq]),rfl,by simp[zR,wV,zK,qDW,dc0,Val.num,Val.text,Val.code,Val.keys,Val.kids,hq],by simp[zR,wV,zK,qDW,dc0,Val.num,Val.text,Val.code,Val.keys,Val.kids,hq]⟩
   intro h55;try simp at h55
   refine rgn [] [[],[0,2,3,4,6,37,64]] ?_;iterate 2 refine op3 ?_
   refine qA (cnd ?_ ?_)
   ·intro h64;try simp at h64
    have hq:yG x.kind=7:=by omega
    refine rgz [] [[],[0,2,3,4,6]] ?_;iterate 2 refine op3 ?_
    refine qA ?_;exact⟨(),trivial,qE (by simp[zR,wV,zK,qDW,dc0,Val.num,Val.text,Val.code,Val.keys,Val.kids,hq]),rfl,by simp[zR,wV,zK,qDW,dc0,Val.num,Val.text,Val.code,Val.keys,Val.kids,hq],by simp[zR,wV,zK,qDW,dc0,Val.num,Val.text,Val.code,Val.keys,Val.kids,hq]⟩
   intro h64;try simp at h64
   refine AW.join (α:=Unit) (fun _=>True) (fun a=>⟨qZ 121 [(0,.p (.sl 6 (l.map Item.enc))),(2,.ptr 2 0),(3,.ms 11),(4,.p (.int .i64 k)),(6,.ptr 6 0),(67,.p (.bool (decide (yG x.kind=5\/yG x.kind=6))))],[],[(11,.row 31 9 (alone.map Val.enc)),(2,.vars 31 [.p (.int .i64 0),.p (.int .u64 0),.p (.bool false),.p (.str []),.p (.int .i64 0),.p (.str []),.nilsl,.nilsl,.p (.int .i64 0)]),(6,.vars 31 [.p (.int .i64 (yG x.kind+1)),.p (.int .u64 x.mask),.p (.bool false),.p (.str []),.p (.int .i64 0),.p (.str []),.p (.sl 1 []),.p (.sl 9 []),.p (.int .i64 0)])],0⟩) ?_ ?_
   ·
    refine rgn [] [[],[0,2,3,4,6,37,67]] ?_;iterate 2 refine op3 ?_
    refine qA (cnd ?_ ?_)
    ·intro h67;try simp at h67
     refine AW.skip ?_;exact⟨(),trivial,qE (by simp[show(yG x.kind=5\/yG x.kind=6)=True from eq_true (by omega),h67]),rfl,by simp[show(yG x.kind=5\/yG x.kind=6)=True from eq_true (by omega),h67],by simp[show(yG x.kind=5\/yG x.kind=6)=True from eq_true (by omega),h67]⟩
    intro h67;try simp at h67
    refine rgz [] [[],[0,2,3,4,6,67]] ?_;iterate 2 refine op3 ?_
    refine qA ?_;exact⟨(),trivial,qE (by simp[show(yG x.kind=5\/yG x.kind=6)=(yG x.kind=6) from propext (by omega),show((yG x.kind:Int)+1=7)=(yG x.kind=6) from propext (by omega)]),rfl,by simp[show(yG x.kind=5\/yG x.kind=6)=(yG x.kind=6) from propext (by omega),show((yG x.kind:Int)+1=7)=(yG x.kind=6) from propext (by omega)],by simp[show(yG x.kind=5\/yG x.kind=6)=(yG x.kind=6) from propext (by omega),show((yG x.kind:Int)+1=7)=(yG x.kind=6) from propext (by omega)]⟩
   ·
    rintro a hI;refine cnd ?_ ?_
    ·intro h67;try simp at h67
     have hmany:=qLY x.many;have hkn:((alone.length:Int)-if alone.length<yG x.many then(alone.length:Int) else(yG x.many:Int)).toNat=alone.length-zEJ alone x:=by unfold zEJ;split <;> omega
     have hq3:¬ yG x.kind=3:=by omega
     have hq4:¬ yG x.kind=4:=by omega
     have hq7:¬ yG x.kind=7:=by omega
     refine rgn [x.enc] [[],[],[],[],[0,2,3,4,6,74],[],[],[],[0,2,3,4,6,78],[0,2,3,4,6,9]] ?_;iterate 10 refine op3 ?_ (h:=by intro C;conv=>lhs;simp[qWS]) (hv:=by first|exact True.intro|(simp[hx];done)|omega|simp)
     refine qA (rgn [] [[],[],[],[0,2,3,4,6,82],[0,2,3,4,6,10]] ?_);iterate 5 refine op3 ?_
     refine qA ?_;refine lB [] ?_;refine qB.freeze 11 (by conv=>lhs;simp) ?_;refine qB.run [[],[],[],[],[0,2,3,4,6,10,87],[],[0,2,3,4,6,10]] ?_;iterate 7 refine op3 ?_
     refine qA (rgz [] [[],[],[],[0,2,4,6,89,92],[]] ?_);iterate 5 refine op3 ?_
     refine qJ ?_;refine qB.take 89 11 (by conv=>lhs;simp) ?_;refine qB.freeze 83 (by conv=>lhs;simp) ?_;refine qB.run [[0,2,3,4,6]] ?_;refine op3 ?_;refine qA ?_;exact⟨(),trivial,qE (by simp[zR,wV,zK,qDW,dc0,Val.num,Val.text,Val.code,Val.keys,Val.kids,hq3,hq4,hq7,hkn,h67,show List.take alone.length (alone.map Val.enc)=alone.map Val.enc from bK (by simp)]),rfl,by simp[zR,wV,zK,qDW,dc0,Val.num,Val.text,Val.code,Val.keys,Val.kids,hq3,hq4,hq7,hkn,h67,show List.take alone.length (alone.map Val.enc)=alone.map Val.enc from bK (by simp)],by simp[zR,wV,zK,qDW,dc0,Val.num,Val.text,Val.code,Val.keys,Val.kids,hq3,hq4,hq7,hkn,h67,show List.take alone.length (alone.map Val.enc)=alone.map Val.enc from bK (by simp)]⟩
    intro h67;try simp at h67
    have hq3:¬ yG x.kind=3:=by omega
    have hq4:¬ yG x.kind=4:=by omega
    have hq7:¬ yG x.kind=7:=by omega
    refine AW.skip ?_;exact⟨(),trivial,qE (by simp[zR,wV,zK,qDW,dc0,Val.num,Val.text,Val.code,Val.keys,Val.kids,hq3,hq4,hq7,h67]),rfl,by simp[zR,wV,zK,qDW,dc0,Val.num,Val.text,Val.code,Val.keys,Val.kids,hq3,hq4,hq7,h67],by simp[zR,wV,zK,qDW,dc0,Val.num,Val.text,Val.code,Val.keys,Val.kids,hq3,hq4,hq7,h67]⟩
  ·
   rintro a hI;refine AW.join (α:=Unit) (fun _=>True) (fun a=>⟨qZ 121 [(0,.p (.sl 6 (l.map Item.enc))),(2,.ptr 2 0),(3,.ms 11),(4,.p (.int .i64 k)),(6,.ptr 6 0)],[],[(11,.row 31 9 ((zR alone x).map Val.enc)),(2,.vars 31 [.p (.int .i64 0),.p (.int .u64 0),.p (.bool false),.p (.str []),.p (.int .i64 0),.p (.str []),.nilsl,.nilsl,.p (.int .i64 0)]),(6,.vars 31 [.p (.int .i64 (wV alone x).kind),.p (.int .u64 (wV alone x).mask),.p (.bool (wV alone x).num.neg),.p (.str (wV alone x).num.digits),.p (.int .i64 (wV alone x).num.scale),.p (.str (wV alone x).text),.p (.sl 1 ((wV alone x).keys.map PD.str)),.p (.sl 9 ((wV alone x).kids.map Val.enc)),.p (.int .i64 (wV alone x).code)])],0⟩) ?_ ?_
   ·
    refine rgn [] [[],[],[0,2,3,4,6,96]] ?_;iterate 3 refine op3 ?_
    refine qA (cnd ?_ ?_)
    ·intro h96;try simp at h96
     have hq:yG x.kind=6:=by omega
     have hkl:(zK alone x).length<=100000:=by unfold zK;split <;> simp <;> omega
     have hna:=zSX (G:=G) x.keys (zK alone x).length hxl hkl;refine mF tok mixed [0,2,3,4,6] 9 [[0],[4],[97,98],[99],[100],[6],[102],[103],[101,104]] [x.enc,.nilp,.sl 1 ((qHJ x.keys (zK alone x).length).map PD.str)] [] (by kernel_rfl) (by intro C;conv=>lhs;simp) (by first|(simp[hx];done)|(simp[hx];exact hna)) (by simp[Sm.sum,Sm.foot,Sm.tch,Sm.refs];kernel_rfl) (by intro C;conv=>lhs;simp) (by first|exact True.intro|omega|simp) ?_;exact⟨(),trivial,qE (by simp[wV,Val.kind,Val.mask,Val.keys,Val.kids,hq]),rfl,by simp[wV,Val.kind,Val.mask,Val.keys,Val.kids,hq],by simp[wV,Val.kind,Val.mask,Val.keys,Val.kids,hq]⟩
    intro h96;try simp at h96
    have hq:¬ yG x.kind=6:=by omega
    refine AW.skip ?_;exact⟨(),trivial,qE (by simp[wV,Val.kind,Val.mask,Val.keys,Val.kids,hq]),rfl,by simp[wV,Val.kind,Val.mask,Val.keys,Val.kids,hq],by simp[wV,Val.kind,Val.mask,Val.keys,Val.kids,hq]⟩
   ·
    rintro a hI;have hrl:(zR alone x).length<=alone.length:=by unfold zR;split <;> simp <;> omega
    refine rgz [(wV alone x).enc] [[],[],[],[0,2,4,110],[0,2,3,4]] ?_;iterate 5 refine op3 ?_ (hv:=by first|exact True.intro|(simp;done)|(simp;omega)|omega;done|omega|simp)
    refine qA (rgz [] [[],[],[0,2,3,4]] ?_);iterate 3 refine op3 ?_
    refine qA ?_;exact⟨k+1,⟨by omega,by omega⟩,by omega,qE (by simp[haa,qDS hx,qBE]),rfl,by simp[haa,qDS hx,qBE],by simp[haa,qDS hx,qBE]⟩
 intro h19;try simp at h19
 have hfin:qGN l=alone:=by
  rw[<-haa];unfold qGN qAC;congr 1
  by_cases h:k=80
  ·rw[h]
  have hkl:k=l.length:=by omega
  rw[hkl,dW,bK (by omega)]
 refine AW.exit ?_;simp;refine AW.seq (rgn [] [[],[],[2,3,113]] ?_);iterate 3 refine op3 ?_
 refine qA (cnd ?_ ?_)
 ·intro h113;try simp at h113
  have hB:qAB l=qPC:=by simp[qAB,hfin,h113]
  refine rgn [] [[],[2]] ?_;iterate 2 refine op3 ?_
  refine qA ?_;exact AW.ret (qI (k:=by simp[hB,qPC,dc0,Val.kind,Val.mask,Val.num,Val.text,Val.keys,Val.kids,Val.code]))
 intro h113;try simp at h113
 have hlast:alone[alone.length-1]?=some (qAB l):=by
  rw[qAB,hfin,fU,List.getLast?_eq_getElem?];have:alone.length-1<alone.length:=by
   have:alone≠[]:=h113;have:=bV.2 this;omega
  simp[this]
 have hpos:0<alone.length:=bV.2 h113;refine AW.skip (rgn [(qAB l).enc] [[],[],[],[],[2,119],[],[2]] ?_);iterate 7 refine op3 ?_ (hv:=by first|exact True.intro|(simp[hlast];done)|omega|simp)
 exact qA (AW.ret qI)
theorem zHV {v:Val} (h1:1<=v.kind/\v.kind<=8/\v.kids.length<=200) (h2:v.kind=8↔v.code≠0) (h3:v.kind=4->zJ v.num=true) (h3':v.kind≠4->v.num=dc0)
  (h4:v.kind=5->kJ v.text=true) (h4':v.kind≠5->v.text=[]) (h5:v.kind=7->v.keys.length=v.kids.length/\xU v.keys=true) (h5':v.kind≠7->v.keys=[]) (h6:v.kids=[]\/v.kind=6\/v.kind=7)
  (h7:∀ k∈v.kids,qU k=true):qU v=true:=by
 rw[yB];simp only[bI,yT];refine⟨⟨by simp[yD];omega,⟨⟨⟨⟨?_, ?_⟩, ?_⟩, ?_⟩, ?_⟩⟩,bR.2 h7⟩
 ·unfold qBF;by_cases h:v.kind=8
  ·simp[h,h2.1 h]
  ·have : v.code = 0 := by by_cases hc : v.code = 0; · exact hc
                           ·exact(h (h2.2 hc)).elim
   simp[h,this]
 ·unfold qBI;by_cases h:v.kind=4
  ·rw[bE h];exact h3 h
  rw[bD h,h3' h];simp[dc0]
 ·unfold jY;by_cases h:v.kind=5
  ·rw[bE h];exact h4 h
  rw[bD h,h4' h];simp
 ·unfold yU;by_cases h:v.kind=7
  ·rw[bE h,(h5 h).1,(h5 h).2];simp
  rw[bD h,h5' h];simp
 unfold uS;rcases h6 with h|h|h <;> simp[h]
theorem zGY {s:List UInt8} (h:s.all qO=true):(zA s).all qO=true:=by
 rw[bR]at h ⊢;exact fun b hb=>h b ((dF _).subset hb)
theorem zCI {s:List UInt8} (h:zA s≠[]):qS (zA s) 0≠48:=by
 induction s with
 | nil=>exact(h rfl).elim
 | cons b s ih =>
  by_cases hb:b=48
  ·have e:zA (b::s)=zA s:=by simp[zA,hb]
   rw[e]at h ⊢; exact ih h
  have e:zA (b::s)=b::s:=by simp[zA,hb]
  rw[e];intro h2;simp[qS]at h2;exact hb (dU.1 (by show b.toNat=48;omega))
theorem qRK:∀ (k:Nat) (d:List UInt8),(∃ r,d=(wN d k).1++r)/\((wN d k).2=0\/(wN d k).1.getLast?≠some 48)
 | 0,d=>⟨⟨[],by simp[wN]⟩,.inl rfl⟩
 | k+1,d=>by
  simp only[wN];split
  ·obtain⟨⟨r,hr⟩,h2⟩:=qRK k d.dropLast;refine⟨⟨r++d.drop (d.length-1), ?_⟩,h2⟩;have e:d.dropLast++d.drop (d.length-1)=d:=by rw[List.dropLast_eq_take,cE]
   rw[<-cD,<-hr,e]
  rename_i h;exact⟨⟨[],by simp⟩,.inr h⟩
theorem qJA {neg:Bool} {digits:List UInt8} {scale:Nat} (hd:digits.all qO=true) (h:(yA neg digits scale).2=0):zJ (yA neg digits scale).1=true:=by
 unfold yA at h ⊢;simp only at h ⊢;obtain⟨⟨r,hr⟩,hl⟩:=qRK scale (zA digits);generalize wN (zA digits) scale=x at *;split
 ·decide +kernel
 rename_i hne;rw[bD hne]at h;split
 ·rename_i hb;rw[bE hb]at h;simp at h
 rename_i hb;have hpos:0<x.1.length:=bV.2 hne;have hall:x.1.all qO=true:=by
  have:=zGY hd;rw[hr,dJ,bI]at this;exact this.1
 have hh:qS x.1 0≠48:=by
  have h1:=zCI (s:=digits) (by rw[hr];simp[hne]);rw[hr]at h1;obtain⟨c,d,hx⟩:∃ c d,x.1=c::d:=by
   cases hx:x.1 with
   | nil=>exact(hne hx).elim
   | cons c d=>exact⟨c,d,rfl⟩
  rw[hx]at h1 ⊢;simpa[qS]using h1
 rw[qXS (by simp only[];omega) hall];simp only;rw[bD (by intro e;rw[e]at hh;exact hh rfl)];have hlast:x.2=0\/qS x.1 (x.1.length-1)≠48:=hl.imp id fun h h2=>h ((qDQ hpos).1 h2);simp[hh];exact hlast
theorem zGK (n:Nat):(wB n).all qO=true:=bR.2 fun b hb=>by rw[(eY.1 hb).2];rfl
theorem zPB {neg:Bool} {digits:List UInt8} {sc:Int} (hd:digits.all qO=true) (h:(uR neg digits sc).2=0):zJ (uR neg digits sc).1=true:=by
 unfold uR at h ⊢;split
 ·rename_i hs;rw[bE hs]at h;exact qJA (by rw[dJ,hd,zGK];rfl) h
 rename_i hs;rw[bD hs]at h;exact qJA hd h
theorem zKS (s:List UInt8) (k:Nat):((s.take (k+zT s k)).drop k).all qO=true:=by
 have e:(s.take (k+zT s k)).drop k=(s.drop k).takeWhile fun b=>xZ b.toNat:=by
  rw[List.drop_take,show k+zT s k-k=zT s k by omega];unfold zT;have:∀ (l:List UInt8) (p:UInt8->Bool),l.take (l.takeWhile p).length=l.takeWhile p:=by
   intro l p;induction l with
   | nil=>rfl
   | cons a l ih => rw [fJ]; split
                    ·simp[ih]
                    rfl
  exact this _ _
 rw[e,bR];have:∀ (l:List UInt8) (p:UInt8->Bool) (b:UInt8),b∈l.takeWhile p->p b=true:=by
  intro l p b;induction l with
  | nil=>intro h;simp at h
  | cons a l ih =>
   intro h;rw[fJ]at h;split at h
   ·rename_i ha;rcases bM.1 h with rfl|h
    ·exact ha
    exact ih h
   simp at h
 exact fun b hb=>this _ _ b hb
theorem qWD {s:List UInt8} {neg:Bool} {digits:List UInt8} {scale:Nat} (hd:digits.all qO=true):∀ o,(qAZ s neg digits scale o).2=0->zJ (qAZ s neg digits scale o).1=true
 | none,h=>by simp[qAZ,xF]at h
 | some (k,up),h=>by
  simp only[qAZ]at h ⊢;split
  ·rename_i hk;rw[bE hk]at h;exact zPB hd h
  rename_i hk;rw[bD hk]at h;simp[xF]at h
theorem qUK {s:List UInt8} (h:(vW s).2=0):zJ (vW s).1=true:=by
 unfold vW at h ⊢;split
 ·rename_i hb;rw[bE hb]at h;simp[xF]at h
 rename_i hb;rw[bD hb]at h;have hd:=zKS s (a0M s);revert h
 generalize (s.take (a0M s+zT s (a0M s))).drop (a0M s)=d0 at *;generalize a0M s+zT s (a0M s)=k;intro h;unfold qGT at h ⊢;split
 ·rename_i hp;rw[bE hp]at h;split
  ·rename_i hz;rw[bE hz]at h;simp[qLG,xF]at h
  rename_i hz;rw[bD hz]at h;exact qWD (by rw[dJ,hd,zKS];rfl) _ h
 rename_i hp;rw[bD hp]at h;exact qWD hd _ h
theorem zBP (s:List UInt8):kJ (qEC s)=true:=by
 have hl:=qVI s;unfold kJ;rw[qED];have:qCD (qEC s)=true:=by
  unfold qEC;split
  ·assumption
  decide +kernel
 rw[this];simp;omega
theorem zGO {n:Nat} (h:n<=4096) (hv:qCD (qCR n)=true):kJ (qCR n)=true:=by
 unfold kJ;rw[qED,hv];simp[qCR];omega
theorem zIG:∀ n,n<=9->qCD (qCR n)=true:=by decide +kernel
theorem zHQ {l:List (List UInt8)} {i many:Nat} (hi:i<=l.length+many) (hm:many<=8):kJ (vT l i)=true:=by
 unfold vT;split
 ·exact zBP _
 exact zGO (by omega) (zIG _ (by omega))
theorem qFT {l:List (List UInt8)} {many:Nat} (hm:many<=8):∀ (f i:Nat) (out:List (List UInt8)),i+f=l.length+many+1->out.Nodup->(∀ s∈out,kJ s=true)->out.length<=many->(∀ t,1<=t->t+l.length<=i->qCR t∈out) ->
  (uI l many f i out).Nodup/\(∀ s∈uI l many f i out,kJ s=true)/\(uI l many f i out).length=many
 | 0,i,out,hf,_,_,h3,h4=>by
  have:=zLL (out:=out) (n:=many+1) fun t h1 h2=>h4 t h1 (by omega);omega
 | f+1,i,out,hf,h1,h2,h3,h4=>by
  simp only[uI];split
  ·rename_i hlt;have hw:=zHQ (l:=l) (i:=i) (many:=many) (by omega) hm;have hk:∀ t,1<=t->t+l.length<=i+1->qCR t∈qOM out (vT l i):=by
    intro t h5 h6;by_cases h7:t+l.length<=i
    ·have:=h4 t h5 h7;unfold qOM;split
     ·exact this
     simp[this]
    have:qCR t=vT l i:=by simp only[vT];rw[dif_neg (by omega)];congr 1;omega
    rw[this];unfold qOM;split
    ·assumption
    simp
   unfold qOM at hk ⊢;split at hk
   ·rename_i hin;rw[bE hin];exact qFT hm f (i+1) out (by omega) h1 h2 h3 hk
   rename_i hin;rw[bD hin];refine qFT hm f (i+1) (out++[vT l i]) (by omega) ?_ (fun s hs => ?_) (by simp;omega) hk
   ·rw[gS];exact⟨h1,by simp,by intro a ha b hb;simp at hb;subst hb;rintro rfl;exact hin ha⟩
   rcases bL.1 hs with h|h
   ·exact h2 s h
   simp at h;rw[h];exact hw
  exact⟨h1,h2,by omega⟩
theorem zHR {l:List (List UInt8)} {many:Nat} (hm:many<=8):xU (qHJ l many)=true/\(qHJ l many).length=many:=by
 obtain⟨h1,h2,h3⟩:=qFT (l:=l) hm (l.length+many+1) 0 [] (by omega) List.nodup_nil (by simp) (by simp) (by intro t h1 h2;omega);exact⟨by unfold xU;simp only[bI,bR,bY];exact⟨h2,h1⟩,h3⟩
theorem zSU (s:List UInt8):zJ (qDW s)=true:=by
 unfold qDW;split
 ·rename_i h;exact qUK h
 decide +kernel
theorem qMD (alone:List Val) (x:Item):(zK alone x).length<=8:=by
 have:=qLY x.many;unfold zK zEJ;split
 ·simp;omega
 simp
theorem qMC {alone:List Val} {x:Item} {k:Val} (h:k∈zK alone x):k∈alone:=by
 unfold zK at h;split at h
 ·exact cQ h
 cases h
theorem zPF {alone:List Val} (x:Item) (ha:∀ v∈alone,qU v=true):qU (wV alone x)=true:=by
 have hk:=qLY x.kind;have hn:=zHR (l:=x.keys) (qMD alone x);have hl:=qMD alone x;have hkid:¬ (yG x.kind=5\/yG x.kind=6)->zK alone x=[]:=fun h=>by unfold zK;rw[bD h]
 have hmem:=fun k (hk:k∈zK alone x)=>ha k (qMC hk);unfold wV;generalize zK alone x=kids at *;refine zHV ?_ ?_ ?_ ?_ ?_ ?_ ?_ ?_ ?_ ?_ <;> simp only[nT,oB,nS,mU,lN,nU]
 ·omega
 ·by_cases h:yG x.kind=7
  ·simp[h]
  simp[h];omega
 ·intro h;rw[bE (by omega)];exact zSU _
 ·intro h;rw[bD (by omega)]
 ·intro h;rw[bE (by omega)];exact zBP _
 ·intro h;rw[bD (by omega)]
 ·intro h;rw[bE (by omega)];exact⟨hn.2,hn.1⟩
 ·intro h;rw[bD (by omega)]
 ·by_cases h:yG x.kind=5\/yG x.kind=6
  ·right;omega
  left;exact hkid h
 exact hmem
theorem zQE (l:List Item):qU (qAB l)=true:=by
 have key:∀ (l:List Item) (alone:List Val),(∀ v∈alone,qU v=true)->∀ v∈l.foldl qBE alone,qU v=true:=by
  intro l;induction l with
  | nil=>exact fun alone h=>h
  | cons x l ih =>
   intro alone h;refine ih _ fun v hv => ?_;unfold qBE at hv;rcases bL.1 hv with hv|hv
   ·unfold zR at hv;split at hv
    ·exact h v (cB hv)
    exact h v hv
   simp at hv;rw[hv];exact zPF x h
 unfold qAB;rw[fU];cases hx:(qGN l).getLast? with
 | none=>decide +kernel
 | some v=>exact key _ [] (by simp) v (gB hx)
theorem zX (code m:Int):AFn Tryz.prog G 34 [.agg [.int .u64 m],.int .i64 code] ((qR code m).enc):=by
 refine AFn.introU tok Tryz.func34 (by kernel_rfl) rfl rfl ?_;simp only[Tryz.f34,qG,bA,bC];have hf:=zRI (G:=G) code m;simp only[iK]at hf;refine rgn [] [[],[1,2,4]] ?_;iterate 2 refine op3 ?_
 refine qA (rgn [.nilp,(qR code m).enc] [[],[],[],[4,8],[4]] ?_);iterate 5 refine oq1 tok hf ?_
 exact qA (AW.ret qI)
theorem zDT (m:Int):AFn Tryz.prog G 129 [.agg [.int .u64 m]] ((qLS m).enc):=by
 refine AFn.introU tok Tryz.func129 (by kernel_rfl) rfl rfl ?_;simp only[Tryz.f129,qG,bA,bC];have e:qLS m = .mk 1 m dc0 [] [] [] 0:=rfl;rw[e];refine rgn [] [[],[1,2]] ?_;iterate 2 refine op3 ?_
 refine qA (rgn [] [[],[],[],[2]] ?_);iterate 4 refine op3 ?_
 refine qA ?_;exact AW.ret (qI (k:=by simp[dc0]))
theorem qBW (x:Bool) (m:Int):AFn Tryz.prog G 35 [.agg [.int .u64 m],.bool x] ((yH x m).enc):=by
 refine AFn.introU tok Tryz.func35 (by kernel_rfl) rfl rfl ?_;simp only[Tryz.f35,qG,bA,bC];have e:yH x m = .mk (if x=true then 3 else 2) m dc0 [] [] [] 0:=rfl;rw[e];refine rgn [] [[],[1,2,4]] ?_;iterate 2 refine op3 ?_
 refine qA (AW.seq (rgn [] [[2,4,5]] ?_));refine op3 ?_;refine qA (cnd ?_ ?_)
 ·intro h5;try simp at h5
  rw[bE h5];refine rgn [] [[],[],[],[4]] ?_;iterate 4 refine op3 ?_
  refine qA ?_;exact AW.ret (qI (k:=by simp[dc0]))
 intro h5;try simp at h5
 rw[bD (by rw[h5];simp)];refine AW.skip (rgn [] [[],[],[],[4]] ?_);iterate 4 refine op3 ?_
 refine qA ?_;exact AW.ret (qI (k:=by simp[dc0]))
theorem qEO (s:List UInt8) (m:Int):AFn Tryz.prog G 36 [.agg [.int .u64 m],.str s] ((wM s m).enc):=by
 refine AFn.introU tok Tryz.func36 (by kernel_rfl) rfl rfl ?_;simp only[Tryz.f36,qG,bA,bC];have hf:=zX (G:=G) 3 m;have e:wM s m=if 4096<s.length then qR 3 m else .mk 5 m dc0 s [] [] 0:=rfl
 rw[e];simp only[iK]at hf;refine rgn [] [[],[1,2,4]] ?_;iterate 2 refine op3 ?_
 refine qA (AW.seq (rgn [] [[],[],[1,2,4,7]] ?_));iterate 3 refine op3 ?_
 refine qA (cnd ?_ ?_)
 ·intro h7;try simp at h7
  rw[bE (by omega)];refine rgn [.nilp,(qR 3 m).enc] [[],[],[4]] ?_;iterate 3 refine oq1 tok hf ?_
  exact qA (AW.ret qI)
 intro h7;try simp at h7
 rw[bD (by omega)];refine AW.skip (rgn [] [[],[],[],[4,13],[4]] ?_);iterate 5 refine op3 ?_
 refine qA ?_;exact AW.ret (qI (k:=by simp[dc0]))
theorem uU (r:Dc × Int) (m:Int):AFn Tryz.prog G 41 [.agg [.int .u64 m],r.1.enc,.int .i64 r.2] ((xJ r m).enc):=by
 refine AFn.introU tok Tryz.func41 (by kernel_rfl) rfl rfl ?_;simp only[Tryz.f41,qG,bA,bC];have hf:=zX (G:=G) r.2 m;have e:xJ r m=if r.2=0 then .mk 4 m r.1 [] [] [] 0 else qR r.2 m:=rfl
 rw[e];simp only[iK]at hf;refine rgn [] [[],[],[2,3,4,6]] ?_;iterate 3 refine op3 ?_
 refine qA (AW.seq (rgn [] [[],[2,3,4,6,8]] ?_));iterate 2 refine op3 ?_
 refine qA (cnd ?_ ?_)
 ·intro h8;try simp at h8
  rw[bD (by simpa using h8)];refine rgn [.nilp,(qR r.2 m).enc] [[],[],[6,11],[6]] ?_;iterate 4 refine oq1 tok hf ?_
  exact qA (AW.ret qI)
 intro h8;try simp at h8
 rw[bE (by simpa using h8)];refine AW.skip (rgn [] [[],[],[],[6,15],[6]] ?_);iterate 5 refine op3 ?_
 refine qA ?_;exact AW.ret (qI (k:=by simp[dc0]))
theorem qEP (l:List Val) (m:Int) (hl:∀ v∈l,Few v) (hn:l.length<=1000000):AFn Tryz.prog G 40 [.agg [.int .u64 m],.sl 9 (l.map Val.enc)] ((yJ l m).enc):=by
 refine AFn.introU tok Tryz.func40 (by kernel_rfl) rfl rfl ?_;simp only[Tryz.f40,qG,bA,bC];have hf:=zX (G:=G) 3 m;have hc:=qXX (G:=G) (.mk 6 m dc0 [] [] l 0) (.mk (by simp) (by simpa using hn) (by simpa using hl));have e:yJ l m=if 200<l.length then qR 3 m else .mk 6 m dc0 [] [] l 0:=rfl
 rw[e];simp only[iK]at hf hc;refine rgn [] [[],[1,2,4]] ?_;iterate 2 refine op3 ?_
 refine qA (AW.seq (rgn [] [[],[],[1,2,4,7]] ?_));iterate 3 refine op3 ?_
 refine qA (cnd ?_ ?_)
 ·intro h7;try simp at h7
  rw[bE (by omega)];refine rgn [.nilp,(qR 3 m).enc] [[],[],[4]] ?_;iterate 3 refine oq1 tok hf ?_
  exact qA (AW.ret qI)
 intro h7;try simp at h7
 rw[bD (by omega)];refine AW.skip (rgn [.nilp,(Val.mk 6 m dc0 [] [] l 0).enc] [[],[],[],[4,13],[],[4]] ?_);iterate 6 refine op3 ?_ (hv:=by first|exact True.intro|((simp[dc0]at hc ⊢; exact hc);done)|omega|simp)
 exact qA (AW.ret qI)
theorem zEV (s:List UInt8) (m:Int):Few (wM s m):=by
 unfold wM qR;split <;> exact .mk (by simp) (by simp) (by simp)
theorem zWR (s:List UInt8):AX Tryz.prog G 36 [.agg [.p (.int .u64 0)],.p (.str s)] [] (.p (wM s 0).enc) [] [] :=
 pE (qEO s 0) (by simp[iP,iS])
theorem zLW (ws:List (List UInt8)) (m:Int) (hn:ws.length<=1000000):AX Tryz.prog G 66 [.p (.agg [.int .u64 m]),.p (.sl 1 (ws.map PD.str)),.func (.func 36) [.agg [.p (.int .u64 0)]] []] [] (.agg (yJ (ws.map fun s=>wM s 0) m).cells) [] []:=by
 refine AX.introU tok 900 Tryz.func66 (by kernel_rfl) rfl rfl ?_;simp only[Tryz.f66,qG,bA,bC];have hl:=qEP (G:=G) (ws.map fun s=>wM s 0) m (by simp[zEV]) (by simpa using hn);generalize hws:(ws.map fun s=>wM s 0)=vs at *;have hvl:vs.length=ws.length:=by rw[<-hws];simp
 have hvg:∀ (k:Nat) s,ws[k]?=some s->vs[k]?=some (wM s 0):=fun k s h=>by rw[<-hws,bG,h];rfl
 simp only[iK]at hl;refine rgn [] [[],[1,2,3,6]] ?_;iterate 2 refine op3 ?_
 refine qA (rgn [] [[]] ?_);refine op3 ?_;refine qA (AW.seq (rgn [] [[],[],[2,3,6,7,10,11,12]] ?_));iterate 3 refine op3 ?_
 refine qA (AW.block ?_);refine lJ 7 50 31 9 (by simp) (by simp) (by conv=>lhs;simp) ?_;refine AW.loop (α:=Nat) (fun k=>k<=ws.length) (fun k=>⟨qZ 26 [(2,.func (.func 36) [.agg [.p (.int .u64 0)]] []),(3,.ptr 903 0),(6,.ptr 906 0),(7,.ms 50),(10,.p (.sl 1 (ws.map PD.str))),(11,.p (.int .i64 ws.length)),(12,.p (.int .i64 k))],[],[(903,.vars 61 [.p (.int .u64 m)]),(906,.vars 31 [.p (.int .i64 0),.p (.int .u64 0),.p (.bool false),.p (.str []),.p (.int .i64 0),.p (.str []),.nilsl,.nilsl,.p (.int .i64 0)]),(50,.row 31 9 ((vs.map Val.enc).take k))],900⟩) (fun k=>ws.length-k) (0) (by omega) ⟨qE (by simp),rfl,by simp,by simp⟩ ?_;rintro k hk;refine rgn [] [[]] ?_;refine op3 ?_;refine qA (AW.seq (cnd ?_ ?_))
 ·intro h13;try simp at h13
  obtain⟨s,hs⟩:∃ s,ws[k]?=some s:=⟨ws[k]'(by omega),by simp[show k<ws.length by omega]⟩;have hv:=hvg k s hs;have hgp:(vs.map Val.enc)[k]?=some (wM s 0).enc:=by rw[bG,hv];rfl
  have htk:(vs.map Val.enc).take k++[(wM s 0).enc]=(vs.map Val.enc).take (k+1):=by rw[bX,hgp];rfl
  have hw:=zWR (G:=G) s;simp only[iK]at htk hw;refine AW.skip (AW.seq (AW.block (rgn [.str s] [[],[],[2,3,6,7,9,10,11,12]] ?_)));iterate 3 refine op3 ?_ (hv:=by first|exact True.intro|((simp[hs]);done)|omega|simp)
  refine qA (rgz [(wM s 0).enc] [[],[],[]] ?_);iterate 3 refine op3 ?_
  refine qJ ?_;refine qB.stepK [2,3,6,10,11,12,16,19] (zI rfl hw (by simp)) (by conv=>lhs;simp) rfl ?_;refine qB.run [[],[],[2,3,6,7,10,11,12]] ?_;iterate 3 refine op3 ?_
  refine qA (rgz [] [[],[2,3,6,7,10,11,12]] ?_);iterate 2 refine op3 ?_
  refine qA ?_;exact⟨k+1,by omega,by omega,qE (by simp[htk]),rfl,by simp[htk],by simp[htk]⟩
 intro h13;try simp at h13
 obtain rfl:k=ws.length:=by omega
 have hall:(vs.map Val.enc).take ws.length=vs.map Val.enc:=bK (by simp[hvl]);simp only[hall];refine AW.exit ?_;simp;refine rgn [.nilp,(yJ vs m).enc] [[]] ?_;refine op3 ?_ (hv:=by first|exact True.intro|exact hl|(simp at hl ⊢; exact hl);done|omega|simp);refine qJ ?_;refine qB.freeze 50 (by conv=>lhs;simp) ?_;refine qB.run [[],[6,25],[6]] ?_;iterate 3 refine op3 ?_ (hv:=by first|exact True.intro|exact hl|(simp at hl ⊢; exact hl);done|omega|simp)
 refine qA ?_;exact AW.ret zC
theorem zER {s:List UInt8} {k:Nat} (h:k<s.length):s[k]?=some (s.getD k 0):=by simp[bJ,h]
theorem qPX (s:List UInt8) (c:UInt8):AFn Tryz.prog G 173 [.str s,.int .u8 c.toNat] (.str (s.dropWhile (fun b=>b == c))):=by
 refine AFn.introU tok Tryz.func173 (by kernel_rfl) rfl rfl ?_;simp only[Tryz.f173,qG,bA,bC];refine rgn [] [[0,1]] ?_;refine op3 ?_;refine qA (AW.seq (AW.block ?_));refine AW.loop (α:=List UInt8) (fun r=>r.dropWhile (fun b=>b == c)=s.dropWhile (fun b=>b == c)) (fun r=>⟨qZ 17 [(0,.p (.str r)),(1,.p (.int .u8 c.toNat))],[],[],0⟩) (fun r=>r.length) (s) rfl ⟨qE (by simp),rfl,by simp,by simp⟩ ?_;rintro r hr;have hix:0<r.length->r[0]?=some (r.getD 0 0):=fun h=>zER h;refine AW.seq (rgn [.int .u8 (r.getD 0 0).toNat] [[],[],[],[],[],[0,1,8,10],[],[],[0,1,13]] ?_);iterate 4 refine op3 ?_ (hv:=by first|exact True.intro|exact fun h=>⟨h,_,hix (by omega),rfl⟩|simp;done|omega|simp)
 iterate 4 refine op4 ?_ (hv:=by first|exact True.intro|exact fun h=>⟨h,_,hix (by omega),rfl⟩|simp;done|omega|simp)
 refine op3 ?_ (hv:=by first|exact True.intro|exact fun h=>⟨h,_,hix (by omega),rfl⟩|simp;done|omega|simp);refine qA (cnd ?_ ?_)
 ·intro h13;try simp at h13
  obtain⟨b,r,rfl⟩:∃ b r',r=b::r':=by
   cases r with
   | nil=>simp at h13
   | cons b r=>exact⟨b,r,rfl⟩
  have hb:b=c:=dU.1 (by have:=h13.2;simp at this;omega);subst hb;have hr2:List.dropWhile (fun b'=>b' == b) r=List.dropWhile (fun b'=>b' == b) s:=by rw[<-hr];simp
  refine AW.skip (AW.block (rgz [] [[],[],[0,1]] ?_));iterate 3 refine op3 ?_
  refine qA ?_;exact⟨r,hr2,by simp,qE (by simp),rfl,by simp,by simp⟩
 intro h13;try simp at h13
 have hr3:s.dropWhile (fun b=>b == c)=r:=by
  rw[<-hr];cases r with
  | nil=>rfl
  | cons b r =>
   have hb:b≠c:=by rintro rfl;simp at h13
   simp[hb]
 rw[hr3];refine AW.exit ?_;simp;refine rgn [] [[],[4]] ?_;iterate 2 refine op3 ?_
 exact qA (AW.ret qI)
theorem zCE (s:List UInt8) (c:UInt8):(decide (1<=(s.length:Int)) && decide (List.drop (s.length-1) s=[c]))=decide (s.getLast?=some c):=by
 by_cases h:s=[]
 ·subst h;simp
 obtain⟨a,b,rfl⟩:∃ a b,s=a++[b]:=⟨s.dropLast,s.getLast h,(fI h).symm⟩;rw[eM];simp;intro _;omega
theorem qUQ (s:List UInt8) (c:UInt8):AFn Tryz.prog G 104 [.str s,.str [c]] (.bool (decide (s.getLast?=some c))):=by
 refine AFn.introU tok Tryz.func104 (by kernel_rfl) rfl rfl ?_;simp only[Tryz.f104,qG,bA,bC];refine oX (i:=0) rfl (by decide) ?_;intro hlen;have hsuf:(decide (1<=(s.length:Int)) && decide (List.drop (s.length-1) s=[c]))=decide (s.getLast?=some c):=zCE s c;refine rgn [] [[0,1]] ?_;refine op3 ?_;refine qA (rgn [] [[],[],[],[],[0,1,9],[],[],[],[],[],[1,10,11,13,15],[],[1,10,17],[],[],[20],[4]] ?_);iterate 6 refine op3 ?_
 iterate 9 refine op4 ?_
 iterate 2 refine op3 ?_
 refine qA ?_;exact AW.ret (qI (k:=by simp[hsuf]))
theorem zBH (s:List UInt8) (c:UInt8):AFn Tryz.prog G 73 [.str s,.str [c]] (.bool (decide (s.getLast?=some c))):=by
 refine AFn.introU tok Tryz.func73 (by kernel_rfl) rfl rfl ?_;simp only[Tryz.f73,qG,bA,bC];refine rgn [] [[0,1]] ?_;refine op3 ?_;refine qA (rgn [.nilp,.bool (decide (s.getLast?=some c))] [[],[],[7],[4]] ?_);iterate 4 refine op3 ?_ (hv:=by first|exact True.intro|(exact qUQ s c;done)|omega|simp)
 exact qA (AW.ret qI)
theorem zBD (s:List UInt8) (c:UInt8) (hc:c.toNat<128):AFn Tryz.prog G 136 [.str s,.str [c]] (.str (s.dropWhile (fun b=>b == c))):=by
 refine AFn.introU tok Tryz.func136 (by kernel_rfl) rfl rfl ?_;simp only[Tryz.f136,qG,bA,bC];refine rgn [] [[0,1]] ?_;refine op3 ?_;refine qA (AW.seq (rgn [] [[],[],[],[],[],[0,1,12]] ?_));iterate 3 refine op3 ?_
 iterate 2 refine op4 ?_
 refine op3 ?_;refine qA (cnd ?_ ?_)
 ·intro h12;try simp at h12
  subst h12;refine rgn [] [[],[4]] ?_;iterate 2 refine op3 ?_
  exact qA (AW.ret qI)
 intro h12;try simp at h12
 refine AW.skip (AW.seq (rgn [.int .u8 c.toNat] [[],[],[],[],[],[0,1,17,19],[],[0,1,21]] ?_));iterate 4 refine op3 ?_ (hv:=by first|exact True.intro|(simp;done)|omega|simp)
 iterate 3 refine op4 ?_ (hv:=by first|exact True.intro|(simp;done)|omega|simp)
 refine op3 ?_ (hv:=by first|exact True.intro|(simp;done)|omega|simp);refine qA (cnd ?_ ?_)
 ·intro h21;try simp at h21
  refine rgn [.int .u8 c.toNat,.nilp,.str (s.dropWhile (fun b=>b == c))] [[],[],[],[25],[4]] ?_;iterate 5 refine op3 ?_ (hv:=by first|exact True.intro|exact qPX s c|simp;done|omega|simp)
  exact qA (AW.ret qI)
 intro h21;try simp at h21
 omega
theorem zCD (s:List UInt8):(if s.all (fun b => !qDV b.toNat) then(-1:Int) else(((s.takeWhile fun b => !qDV b.toNat).length:Nat):Int))=if s.all qO then -1 else((s.takeWhile qO).length:Int):=by
 have e:(fun b:UInt8 => !qDV b.toNat)=qO:=by funext b;rw[zOJ];simp
 rw[e]
theorem zEO (s:List UInt8):qDY qDV s=if s.all qO then -1 else((s.takeWhile qO).length:Int):=by
 rw[zAH (fun n h=>by simp[qDV] <;> omega),zCD]
theorem zVP {s:List UInt8} (h:s.all qO=true):s.takeWhile qO=s/\s.dropWhile qO=[]:=by
 have:=zBZ (W:=s) (F:=[]) h (by simp);simpa using this
theorem zXB (s:List UInt8):s.take (s.takeWhile qO).length=s.takeWhile qO/\s.drop (s.takeWhile qO).length=s.dropWhile qO:=by
 have h:=gD (p:=qO) (l:=s);generalize s.takeWhile qO=A at *;generalize s.dropWhile qO=B at *;subst h;simp
theorem zRJ (s:List UInt8):(s.takeWhile qO).length<=s.length:=(List.takeWhile_sublist _).length_le
theorem wAJ (s:List UInt8):(s.dropWhile qO).length<=s.length:=(dF _).length_le
theorem zBA {s:List UInt8} {n:Int} (hc:(if s.all qO=true then(-1:Int) else((s.takeWhile qO).length:Int))=n) (h:n<0):(s.takeWhile qO).length=s.length:=by
 split at hc
 ·rename_i ha;rw[(zVP ha).1]
 omega
theorem qRU {s:List UInt8} {n:Int} (hc:(if s.all qO=true then(-1:Int) else((s.takeWhile qO).length:Int))=n) (h:0<=n):n=((s.takeWhile qO).length:Int):=by
 split at hc
 ·omega
 omega
theorem qKI (s:List UInt8):AFn Tryz.prog G 106 [.str s] (.tup [.str (s.takeWhile qO),.str (s.dropWhile qO)]):=by
 refine AFn.introU tok Tryz.func106 (by kernel_rfl) rfl rfl ?_;simp only[Tryz.f106,qG,bA,bC];have hI:=zBF (G:=G) s 146 qDV zSO;rw[zEO]at hI;have htw:=zXB s;have hle:=zRJ s;generalize hc:(if s.all qO=true then(-1:Int) else((s.takeWhile qO).length:Int))=n at hI;refine rgn [] [[],[0]] ?_;iterate 2 refine op3 ?_
 refine qA (rgn [.nilp,.int .i64 n] [[],[],[0,4]] ?_);iterate 3 refine oq1 tok hI ?_
 refine qA ?_;refine AW.join (α:=Unit) (fun _=>True) (fun a=>⟨qZ 17 [(0,.p (.str s)),(4,.p (.int .i64 (s.takeWhile qO).length))],[],[],0⟩) ?_ ?_
 ·
  refine rgn [] [[],[0,4,8]] ?_;iterate 2 refine op3 ?_
  refine qA (cnd ?_ ?_)
  ·intro h8;try simp at h8
   refine rgz [] [[],[],[0,4]] ?_;iterate 3 refine op3 ?_
   refine qA ?_;exact⟨(),trivial,qE (by simp[zBA hc h8]),rfl,by simp[zBA hc h8],by simp[zBA hc h8]⟩
  intro h8;try simp at h8
  refine AW.skip ?_;exact⟨(),trivial,qE (by simp[qRU hc h8]),rfl,by simp[qRU hc h8],by simp[qRU hc h8]⟩
 ·
  rintro a hI;refine iL tok mixed [2,3] 7 [[0],[4],[11,12],[0],[4],[14,15],[13]] [] [] (by kernel_rfl) (by intro C;conv=>lhs;simp) (by omega) (by simp[Sm.sum,Sm.foot,Sm.tch,Sm.refs];kernel_rfl) (by intro C;conv=>lhs;simp) (by first|exact True.intro|omega|simp) ?_;exact AW.ret (qI (k:=by simp[htw.1,htw.2]))
theorem zYP (s:List UInt8):(zA s).length<=s.length:=(dF _).length_le
theorem qCB {d:Dc} (h:zJ d=true):1<=d.digits.length/\d.digits.length<=60/\0<=d.scale/\d.scale<=60:=by
 unfold zJ at h;simp only[bI,bY]at h;omega
theorem qQO (t:List UInt8) (c:UInt8):kG t [c]=decide (t.head?=some c):=by cases t <;> simp[kG]
theorem qVL (D:List UInt8) (c:UInt8):qFM (D++[c])=qFM D * 10+(c.toNat-48):=by simp[qFM]
theorem zKC {D:List UInt8} (h:D.all qO=true):qFM D<10 ^ D.length:=by
 have key:∀ (r:List UInt8),r.all qO=true->qFM r.reverse<10 ^ r.length:=by
  intro r;induction r with
  | nil=>intro _;decide
  | cons b r ih =>
   intro h;simp only[eF,bI,qO,xZ,bY]at h;have:=ih h.2;rw[List.reverse_cons,qVL,cA,eZ];omega
 have:=key D.reverse (by simpa using h);simpa using this
theorem zRK (s:List UInt8):(s.takeWhile qO).all qO=true:=List.all_takeWhile
theorem zXL (t:List UInt8):(kA t).length<=t.length:=by unfold kA;split <;> simp
theorem wGI {t:List UInt8} {a b:Bool} (h1:a=decide (t.head?=some 45)) (h2:b=decide (t.head?=some 43)) (h:a=true\/b=true):t.tail=kA t/\1<=t.length:=by
 subst h1;subst h2;simp only[bY]at h;unfold kA;rw[bE h];refine⟨by simp, ?_⟩;cases t with
 | nil=>simp at h
 | cons a t=>simp
theorem zRS {t:List UInt8} {a b:Bool} (h1:a=decide (t.head?=some 45)) (h2:b=decide (t.head?=some 43)) (h:a=false/\b=false):t=kA t:=by
 subst h1;subst h2;simp only[dZ]at h;unfold kA;rw[bD (fun h'=>h'.elim h.1 h.2)]
theorem zEW (s:List UInt8) (hs:s.length<=1000000000000):AFn Tryz.prog G 107 [.str s] (.tup [.int .i64 ((qEY s).getD 0),.bool (qEY s).isSome]):=by
 refine AFn.introU tok Tryz.func107 (by kernel_rfl) rfl rfl ?_;simp only[Tryz.f107,qG,bA,bC];refine rgn [] [[],[0]] ?_;iterate 2 refine op3 ?_
 refine qA (AW.seq (rgn [] [[],[0,11]] ?_));iterate 2 refine op3 ?_
 refine qA (cnd ?_ ?_)
 ·intro h11;try simp at h11
  subst h11;refine rgn [] [[],[]] ?_;iterate 2 refine op3 ?_
  refine qA ?_;exact AW.ret (qI (k:=by simp[qEY]))
 intro h11;try simp at h11
 obtain⟨b,t,rfl⟩:∃ b t,s=b::t:=by
  cases s with
  | nil=>exact absurd rfl h11
  | cons b t=>exact⟨b,t,rfl⟩
 have hp1:=qQO t 45;have hp2:=qQO t 43;have hlt:=zXL t;simp only[cA]at hs;refine AW.skip (AW.seq (rgn [.int .u8 b.toNat,.int .u8 b.toNat] [[],[],[],[],[],[0,15,17],[],[0,19]] ?_));iterate 4 refine op3 ?_ (hv:=by first|exact True.intro|(simp;done)|omega|simp)
 iterate 3 refine op4 ?_ (hv:=by first|exact True.intro|(simp;done)|omega|simp)
 refine op3 ?_ (hv:=by first|exact True.intro|(simp;done)|omega|simp);refine qA (cnd ?_ ?_)
 ·intro h19;try simp at h19
  have he:qEY (b::t)=none:=by
   unfold qEY;simp only;rw[bE ⟨by rintro rfl;exact h19.1 rfl,by rintro rfl;exact h19.2 rfl⟩]
  refine rgn [] [[],[]] ?_;iterate 2 refine op3 ?_
  refine qA ?_;exact AW.ret (qI (k:=by simp[he]))
 intro h19;try simp at h19
 have hb:¬ (b≠101/\b≠69):=by
  rintro⟨h1,h2⟩;have h1':b.toNat≠101:=fun e=>h1 (dU.1 e);have h2':b.toNat≠69:=fun e=>h2 (dU.1 e);have:=h19 (by omega);omega
 have he:qEY (b::t)=if(kA t).dropWhile qO≠[]\/((kA t).takeWhile qO).length<1\/2<((kA t).takeWhile qO).length then none
   else some (if t.head?=some 45 then-(qFM ((kA t).takeWhile qO):Int) else qFM ((kA t).takeWhile qO)):=by
  unfold qEY;simp only;rw[bD hb]
 rw[he];clear he
 have hlead:=qKI (G:=G) (kA t);have hall:=zRK (kA t);refine AW.skip (rgn [] [[],[],[0]] ?_);iterate 3 refine op3 ?_
 refine qA (rgn [.nilp,.bool (kG t [45])] [[],[],[0,4]] ?_);iterate 3 refine op3 ?_
 refine qA ?_;refine AW.join (α:=Unit) (fun _=>True) (fun a=>⟨qZ 63 [(0,.p (.str (kA t))),(4,.p (.bool (kG t [45])))],[],[],0⟩) ?_ ?_
 ·
  refine rgn [.nilp,.bool (kG t [43])] [[],[],[],[],[0,4,28]] ?_;iterate 2 refine op3 ?_
  iterate 2 refine op4 ?_
  refine op3 ?_;refine qA (cnd ?_ ?_)
  ·intro h28;try simp at h28
   have hsT:=wGI hp1 hp2 h28;refine rgz [] [[],[],[0,4]] ?_;iterate 3 refine op3 ?_
   refine qA ?_;exact⟨(),trivial,qE (by simp[hsT.1]),rfl,by simp[hsT.1],by simp[hsT.1]⟩
  intro h28;try simp at h28
  refine AW.skip ?_;exact⟨(),trivial,qE (by simp[(zRS hp1 hp2 h28).symm]),rfl,by simp[(zRS hp1 hp2 h28).symm],by simp[(zRS hp1 hp2 h28).symm]⟩
 ·
  rintro a hI;generalize kA t=u at *;generalize u.takeWhile qO=D at *;generalize u.dropWhile qO=E at *;refine rgn [.nilp,.tup [.str D,.str E]] [[],[],[],[],[4,34,35],[],[4,5,6]] ?_;iterate 7 refine oq1 tok hlead ?_
  refine qA (AW.seq (rgn [] [[],[],[],[],[4,5,38,40],[],[],[4,5,43],[],[],[],[4,5,47]] ?_));iterate 12 first|refine op3 ?_|refine op4 ?_
  refine qA (cnd ?_ ?_)
  ·intro h47;try simp at h47
   rw[bE (h47.elim (fun h=>h.elim .inl (fun h => .inr (.inl (by omega)))) (fun h => .inr (.inr (by omega))))];refine rgn [] [[],[]] ?_;iterate 2 refine op3 ?_
   exact qA (AW.ret qI)
  intro h47;try simp at h47
  rw[bD (by
   rintro(h|h)
   ·exact h h47.1.1
   omega)]
  have hD2:D.length<=2:=by omega
  refine AW.skip (rgn [] [[]] ?_);refine op3 ?_;refine qA (AW.seq (rgn [] [[],[4,7,49]] ?_));iterate 2 refine op3 ?_
  refine qA (AW.block ?_);refine AW.loop (α:=Nat) (fun pos=>pos<=D.length) (fun pos=>⟨qZ 63 [(4,.p (.bool (kG t [45]))),(7,.p (.int .i64 (qFM (D.take pos)))),(49,.it 49)],[],[(49,.iter D pos)],0⟩) (fun pos=>D.length-pos) (0) (by omega) ⟨qE (by simp[qFM]),rfl,by simp,by simp⟩ ?_;rintro pos hp;have hvl:qFM (D.take pos)<10 ^ (D.take pos).length:=zKC (qIH hall pos);have hpw:10 ^ (D.take pos).length<=10 ^ 2:=dI (by omega) (by simp;omega);by_cases hs14:pos<D.length
  ·
   refine rgn [.bool true] [[],[]] ?_;iterate 2 refine oq1 tok hs14 ?_
   refine qA (AW.seq (cnd ?_ ?_))
   ·intro h51;try simp at h51
    obtain⟨c,hc⟩:∃ c,D[pos]?=some c:=⟨D[pos],by simp[hs14]⟩;have hcd:qO c=true:=bR.1 hall c (bH hc);have hcd2:48<=c.toNat/\c.toNat<=57:=by simp[qO,xZ]at hcd;omega
    have hdl:qAW D pos=(c.toNat,1):=by
     have hg:D.getD pos 0=c:=by simp[bJ,hc]
     have:=qKQ (s:=D) (pos:=pos) hs14 (by rw[hg];omega);rw[hg]at this;exact this
    have hsn:qFM (D.take (pos+1))=qFM (D.take pos) * 10+(c.toNat-48):=by rw[bX,hc];exact qVL _ _
    rw[hdl];refine AW.skip (AW.block (rgn [] [[],[4,7,9,49]] ?_));iterate 2 refine op3 ?_
    refine qA (rgz [] [[],[],[],[4,49,54,56],[],[],[4,7,49]] ?_);iterate 7 refine op3 ?_ (hv:=by first|exact True.intro|(omega;done)|omega|simp)
    refine qA ?_;exact⟨pos+1,by omega,by omega,qE (by simp[hsn,(show((c.toNat-48:Nat):Int)=(c.toNat:Int)-48 by omega)]),rfl,by simp[hsn,(show((c.toNat-48:Nat):Int)=(c.toNat:Int)-48 by omega)],by simp[hsn,(show((c.toNat-48:Nat):Int)=(c.toNat:Int)-48 by omega)]⟩
   intro h51;try simp at h51
  ·
   refine rgn [.bool false] [[],[]] ?_;iterate 2 refine oq1 tok hs14 ?_
   refine qA (AW.seq (cnd ?_ ?_))
   ·intro h51;try simp at h51
   intro h51;try simp at h51
   have hpD:D.take pos=D:=bK (by omega);rw[hpD]at hvl hpw ⊢;refine AW.exit ?_;simp;refine AW.seq (rgn [] [[7,59]] ?_);refine op3 ?_;refine qA (cnd ?_ ?_)
   ·intro h59;try simp at h59
    rw[hp1]at h59;have ht:t.head?=some 45:=by simpa using h59
    rw[bE ht];have hw:IntKind.i64.wrap (-(qFM D:Int)) = -(qFM D:Int):=by simp[IntKind.wrap,IntKind.bits,IntKind.signed];omega
    refine rgz [] [[],[],[7]] ?_;iterate 3 refine op3 ?_ (hv:=by first|exact True.intro|(omega;done)|omega|simp)
    refine qA (rgn [] [[],[],[2,3]] ?_);iterate 3 refine op3 ?_
    refine qA ?_;exact AW.ret (qI (k:=by simp[hw]))
   intro h59;try simp at h59
   rw[hp1]at h59;have ht:¬ t.head?=some 45:=by simpa using h59
   rw[bD ht];refine AW.skip (rgn [] [[],[],[2,3]] ?_);iterate 3 refine op3 ?_
   exact qA (AW.ret qI)
theorem qQM (neg:Bool) (digits:List UInt8) (scale:Nat) (hd:digits.length<=10000000000) (hs:scale<=10000000000):AFn Tryz.prog G 95 [.bool neg,.str digits,.int .i64 scale] (.tup [(yA neg digits scale).1.enc,.int .i64 (yA neg digits scale).2]):=by
 refine AFn.introU tok Tryz.func95 (by kernel_rfl) rfl rfl ?_;simp only[Tryz.f95,qG,bA,bC];have hstr:(zA digits).length<=digits.length:=zYP digits;refine rgn [] [[],[0,1,2,6]] ?_;iterate 2 refine op3 ?_
 refine qA (rgn [.nilp,.str (zA digits)] [[],[],[0,1,2,6]] ?_);iterate 3 refine op3 ?_ (hv:=by first|exact True.intro|(exact zBD digits 48 (by decide);done)|omega|simp)
 refine qA (AW.seq (AW.block ?_));refine AW.loop (α:=List UInt8 × Nat) (fun a=>wN (zA digits) scale=wN a.1 a.2/\a.2<=scale/\a.1.length<=digits.length) (fun a=>⟨qZ 40 [(0,.p (.bool neg)),(1,.p (.str a.1)),(2,.p (.int .i64 a.2)),(6,.ptr 6 0)],[],[(6,.vars 26 [.p (.bool false),.p (.str []),.p (.int .i64 0)])],0⟩) (fun a=>a.2) ((zA digits,scale)) ⟨rfl,bP _,hstr⟩ ⟨qE (by simp),rfl,by simp,by simp⟩ ?_;rintro⟨d,k⟩ ⟨ht,hk,hdl⟩;simp only at ht hk hdl;have hsf:=zBH (G:=G) d 48;refine AW.seq (rgn [.nilp,.bool (decide (d.getLast?=some 48))] [[],[],[],[],[],[0,1,2,6,15]] ?_);iterate 3 refine op3 ?_ (hv:=by first|exact True.intro|exact fun h=>⟨h,hsf⟩|simp;done|omega|simp)
 iterate 2 refine op4 ?_ (hv:=by first|exact True.intro|exact fun h=>⟨h,hsf⟩|simp;done|omega|simp)
 refine op3 ?_ (hv:=by first|exact True.intro|exact fun h=>⟨h,hsf⟩|simp;done|omega|simp);refine qA (cnd ?_ ?_)
 ·intro h15;try simp at h15
  obtain⟨k,rfl⟩:∃ k',k=k'+1:=⟨k-1,by omega⟩;have hl:d.getLast?=some 48:=by simpa using h15.2
  have hpos:0<d.length:=by cases d with
   | nil=>simp at hl
   | cons=>simp
  have ht':wN (zA digits) scale=wN d.dropLast k:=by rw[ht];simp only[wN];rw[bE hl]
  refine AW.skip (AW.block (rgz [] [[],[],[],[],[0,2,6,20],[],[],[],[0,1,2,6]] ?_));iterate 9 refine op3 ?_ (hv:=by first|exact True.intro|(omega;done)|omega|simp)
  refine qA ?_;exact⟨(d.dropLast,k),⟨ht',by simp only[];omega,by simp;omega⟩,by simp,qE (by simp[qBS]),rfl,by simp[qBS],by simp[qBS]⟩
 intro h15;try simp at h15
 have htl:wN (zA digits) scale=(d,k):=by
  rw[ht];cases k with
  | zero=>rfl
  | succ k =>
   simp only[wN];rw[bD];intro hl;have:=h15 (by omega);simp[hl]at this
 have hN:yA neg digits scale=if d=[] then(⟨false,[48],0⟩,0) else if 60<d.length\/60<k then(⟨false,[],0⟩,3) else(⟨neg,d,k⟩,0):=by unfold yA;simp only[htl]
 rw[hN];refine AW.exit ?_;simp;refine AW.seq (AW.block (rgn [] [[],[],[0,1,2,6,23]] ?_));iterate 3 refine op3 ?_
 refine qA (cnd ?_ ?_)
 ·intro h23;try simp at h23
  subst h23;refine rgn [] [[],[],[6,7]] ?_;iterate 3 refine op3 ?_
  exact qA (AW.ret qI)
 intro h23;try simp at h23
 rw[bD h23];refine rgn [] [[],[],[],[],[],[0,1,2,6,31,33],[],[0,1,2,6,27]] ?_;iterate 4 refine op3 ?_
 iterate 2 refine op4 ?_
 iterate 2 refine op3 ?_
 refine qA (cnd ?_ ?_)
 ·intro h27;try simp at h27
  rw[bE (by omega)];refine rgn [] [[],[],[6,7]] ?_;iterate 3 refine op3 ?_
  exact qA (AW.ret qI)
 intro h27;try simp at h27
 rw[bD (by omega)];refine AW.skip (rgn [] [[],[],[],[6,39],[],[6,7]] ?_);iterate 6 refine op3 ?_
 exact qA (AW.ret qI)
theorem zVA (s:List UInt8):qDZ s [45]=qAM s/\kG s [45]=qUU s:=by
 have h:=qQO s 45;unfold qDZ qAM qUU;rw[h];refine⟨?_,rfl⟩;simp
theorem zZD (s:List UInt8):(qAM s).length<=s.length:=by unfold qAM;split <;> simp
theorem wCI {W:List UInt8} (h:(((W[0]?.getD 0).toNat:Nat):Int)=48):W.head?=some 48:=by
 cases W with
 | nil=>simp at h
 | cons b W=>simp at h ⊢; exact dU.1 (by show b.toNat=48;omega)
theorem wAD (n:Nat):Lib.repeatL [48] n=wB n:=by
 unfold wB;induction n with
 | zero=>rfl
 | succ n ih=>simp only[Lib.repeatL,eU,ih];rfl
theorem zIS (q:List UInt8) : -99<=(qEY q).getD 0/\(qEY q).getD 0<=99:=by
 unfold qEY;split
 ·simp
 rename_i b t;split
 ·simp
 split
 ·simp
 rename_i h;have h1:=zKC (zRK (kA t));have h2:10 ^ ((kA t).takeWhile qO).length<=10 ^ 2:=dI (by omega) (by omega);simp only[dM];split <;> omega
theorem qPW (s:List UInt8) (hs:s.length<=1000000000):AFn Tryz.prog G 74 [.str s] (.tup [(kR s).1.enc,.int .i64 (kR s).2]):=by
 refine AFn.introU tok Tryz.func74 (by kernel_rfl) rfl rfl ?_;simp only[Tryz.f74,qG,bA,bC];have hbp:=zVA s;have hbl:=zZD s;have hP:kR s=match qDO ((qAM s).dropWhile qO)with
  | none=>xF
  | some (P,r)=>zAN (qUU s) ((qAM s).takeWhile qO) P (qEY r):=rfl
 rw[hP];clear hP
 have hl1:=qKI (G:=G) (qAM s);have hw1:=zRJ (qAM s);have hw2:=wAJ (qAM s);have hcp:=qMV (G:=G) s [45];rw[hbp.1,hbp.2]at hcp;generalize qAM s=u at *;generalize qUU s=ng at *;generalize u.takeWhile qO=W at *;generalize u.dropWhile qO=r at *;have hcr:=qMV (G:=G) r [46];have hr46:=qQO r 46;have hcut:qDZ r [46]=if r.head?=some 46 then r.drop 1 else r:=by unfold qDZ;rw[hr46];simp
 have hl2:=qKI (G:=G) (r.drop 1);have hv1:=zRJ (r.drop 1);have hv2:=wAJ (r.drop 1);rw[bQ]at hv1 hv2;refine rgn [] [[],[0,2]] ?_;iterate 2 refine op3 ?_
 refine qA (rgn [.nilp,.tup [.str u,.bool ng]] [[],[],[],[],[2,17,18],[],[2,4,5]] ?_);iterate 7 refine oq1 tok hcp ?_
 refine qA (rgn [.nilp,.tup [.str W,.str r]] [[],[],[],[],[2,5,22,23],[],[2,4,5,6]] ?_);iterate 7 refine oq1 tok hl1 ?_
 refine qA (rgn [] [[]] ?_);refine op3 ?_;refine qA ?_;refine AW.join (α:=List UInt8 × List UInt8) (fun a=>qDO r=some (a.1,a.2)/\a.1.length<=s.length/\a.2.length<=s.length) (fun a=>⟨qZ 80 [(2,.ptr 2 0),(4,.p (.str a.2)),(5,.p (.bool ng)),(6,.p (.str W)),(7,.p (.str a.1))],[],[(2,.vars 26 [.p (.bool false),.p (.str []),.p (.int .i64 0)])],0⟩) ?_ ?_
 ·
  refine rgn [.nilp,.tup [.str (qDZ r [46]),.bool (kG r [46])]] [[],[],[],[],[],[2,4,5,6,7,8,28],[2,4,5,6,7,8,9]] ?_;iterate 7 refine oq1 tok hcr ?_
  refine qA (rgn [] [[2,4,5,6,7,8,29]] ?_);refine op3 ?_;refine qA (cnd ?_ ?_)
  ·intro h29;try simp at h29
   have hh:r.head?=some 46:=by rw[hr46]at h29;simpa using h29
   rw[bE hh]at hcut;rw[hcut];have hF:qDO r=if(r.drop 1).takeWhile qO=[] then none else some ((r.drop 1).takeWhile qO,(r.drop 1).dropWhile qO):=by unfold qDO;rw[bE hh]
   rw[hF];generalize (r.drop 1).takeWhile qO=P at *;generalize (r.drop 1).dropWhile qO=q at *;rw[List.drop_one]at hl2;refine rgn [.nilp,.tup [.str P,.str q]] [[],[],[],[],[2,5,6,33,34],[],[2,4,5,6,7]] ?_;iterate 7 refine oq1 tok hl2 ?_
   refine qA (rgn [] [[],[2,4,5,6,7,36]] ?_);iterate 2 refine op3 ?_
   refine qA (cnd ?_ ?_)
   ·intro h36;try simp at h36
    rw[bE h36];refine rgn [] [[],[],[2,3]] ?_;iterate 3 refine op3 ?_
    refine qA ?_;exact AW.ret (qI (k:=by simp[xF]))
   intro h36;try simp at h36
   rw[bD h36];refine AW.skip ?_;exact⟨(P,q),⟨rfl,by simp only[];omega,by simp only[];omega⟩,qE (by simp),rfl,by simp,by simp⟩
  intro h29;try simp at h29
  have hh:¬ r.head?=some 46:=by rw[hr46]at h29;simpa using h29
  have hF:qDO r=some ([],r):=by unfold qDO;rw[bD hh]
  rw[hF];refine AW.skip ?_;exact⟨([],r),⟨rfl,by simp,by simp only[];omega⟩,qE (by simp),rfl,by simp,by simp⟩
 ·
  rintro⟨P,q⟩ ⟨hf,hpl,hql⟩;simp only at hpl hql;rw[hf];simp only;have hex:=zEW (G:=G) q (by omega);have hrg:=zIS q;generalize qEY q=e at *;have hix:∀ h:W≠[],W[0]?=some (W.getD 0 0):=fun h=>zER (bV.2 h);refine rgn [.nilp,.tup [.int .i64 (e.getD 0),.bool e.isSome]] [[],[],[],[],[2,5,6,7,41,42],[],[2,5,6,7,10,11]] ?_;iterate 7 refine oq1 tok hex ?_
  refine qA (AW.seq (rgn [.int .u8 (W.getD 0 0).toNat] [[],[],[],[],[2,5,6,7,10,45,47],[],[],[],[2,5,6,7,10,49,51],[],[],[],[],[2,5,6,7,10,49,53,56],[],[2,5,6,7,10,58]] ?_));iterate 16 first|refine op3 ?_ (hv:=by first|exact True.intro|exact fun h1 h2 h3=>⟨⟨⟨h1,h2⟩,h3⟩,_,hix h2,rfl⟩|exact fun h1 h2=>⟨⟨h1,h2⟩,fun h3=>⟨⟨h1,h2⟩,h3⟩⟩|simp;done|omega|simp)|refine op4 ?_ (hv:=by first|exact True.intro|(first|exact fun h1 h2 h3=>⟨⟨⟨h1,h2⟩,h3⟩,_,hix h2,rfl⟩|exact fun h1 h2=>⟨⟨h1,h2⟩,fun h3=>⟨⟨h1,h2⟩,h3⟩⟩|simp;done)|omega|simp)
  refine qA (cnd ?_ ?_)
  ·intro h58;try simp at h58
   have hbad:zAN ng W P e=xF:=by
    cases e with
    | none=>rfl
    | some up =>
     simp only[zAN];rw[bE];rcases h58 with(h|h)|h
     ·cases h
     ·exact .inl h
     exact .inr ⟨by omega,wCI h.2⟩
   rw[hbad];refine rgn [] [[],[],[2,3]] ?_;iterate 3 refine op3 ?_
   refine qA ?_;exact AW.ret (qI (k:=by simp[xF]))
  intro h58;try simp at h58
  obtain⟨up,rfl⟩:∃ up,e=some up:=by
   cases e with
   | none=>exact absurd rfl h58.1.1
   | some up=>exact⟨up,rfl⟩
  have hend:zAN ng W P (some up)=uR ng (W++P) (P.length-up):=by
   simp only[zAN];rw[bD];rintro(h|⟨h,h'⟩)
   ·exact h58.1.2 h
   refine h58.2 (by omega) ?_;cases W with
   | nil=>simp at h'
   | cons b W=>simp at h';subst h';rfl
  rw[hend];simp only[dM]at hrg ⊢;have hWP:(W++P).length<=2000000000:=by simp;omega
  refine AW.skip (rgn [] [[],[],[],[2,5,10,62,63],[],[],[2,5,62,66],[],[2,5,12,13]] ?_);iterate 9 refine op3 ?_
  refine qA (AW.seq (rgn [] [[],[2,5,12,13,68]] ?_));iterate 2 refine op3 ?_
  refine qA (cnd ?_ ?_)
  ·intro h68;try simp at h68
   obtain⟨z,hz⟩:∃ z:Nat,(z:Int)=up-P.length:=⟨(up-P.length).toNat,by omega⟩;have hw3:IntKind.i64.wrap (-((P.length:Int)-up))=(z:Int):=by simp[IntKind.wrap,IntKind.bits,IntKind.signed];omega
   have hrp:=qOO (G:=G) [48] z (by simp;omega);rw[wAD]at hrp;have hL:uR ng (W++P) ((P.length:Int)-up)=yA ng (W++(P++wB z)) 0:=by
    unfold uR;rw[bE h68,show(-((P.length:Int)-up)).toNat=z by omega,cD]
   have hzl:(wB z).length=z:=by simp[wB]
   rw[hL];have hmd:=qQM (G:=G) ng (W++(P++wB z)) 0 (by simp[wB]at hWP ⊢; omega) (by omega);refine rgz [.nilp,.str (wB z)] [[],[],[],[2,5,69,72],[],[],[2,5,12,13]] ?_;iterate 7 refine op3 ?_ (hv:=by first|exact True.intro|(rw[hw3];exact hrp)|(simp at hWP;omega);done|omega|simp)
   refine qA (rgn [.nilp,.tup [(yA ng (W++(P++wB z)) 0).1.enc,.int .i64 (yA ng (W++(P++wB z)) 0).2]] [[],[],[],[2,77],[],[],[],[2,3]] ?_);iterate 8 refine oq1 tok hmd ?_
   exact qA (AW.ret qI)
  intro h68;try simp at h68
  obtain⟨sc,hsc⟩:∃ sc:Nat,(sc:Int)=P.length-up:=⟨((P.length:Int)-up).toNat,by omega⟩;have hL:uR ng (W++P) ((P.length:Int)-up)=yA ng (W++P) sc:=by
   unfold uR;rw[bD (by omega),show((P.length:Int)-up).toNat=sc by omega]
  rw[hL];have hmd:=qQM (G:=G) ng (W++P) sc (by omega) (by omega);rw[hsc]at hmd;refine AW.skip (rgn [.nilp,.tup [(yA ng (W++P) sc).1.enc,.int .i64 (yA ng (W++P) sc).2]] [[],[],[],[2,77],[],[],[],[2,3]] ?_);iterate 8 refine oq1 tok hmd ?_
  exact qA (AW.ret qI)
theorem qPV (d:Dc) (hd:zJ d=true):AFn Tryz.prog G 114 [d.enc] (.str (xN d)):=by
 refine AFn.introU tok Tryz.func114 (by kernel_rfl) rfl rfl ?_;simp only[Tryz.f114,qG,bA,bC];have hb:=qCB hd;have hrp:=qOO (G:=G) [48] (d.scale.toNat+1-d.digits.length) (by simp;omega);rw[wAD]at hrp;have hmx:(if(d.digits.length:Int)<d.scale+1 then d.scale+1-d.digits.length else 0)=((d.scale.toNat+1-d.digits.length:Nat):Int):=by split <;> omega
 have hzl:(wB (d.scale.toNat+1-d.digits.length)).length=d.scale.toNat+1-d.digits.length:=by simp[wB]
 have hpl:(yC d).length=d.scale.toNat+1-d.digits.length+d.digits.length:=by simp[yC,wB]
 have hP:xN d=(if d.neg=true then[45] else[])++(if d.scale=0 then yC d else(yC d).take ((yC d).length-d.scale.toNat)++46::(yC d).drop ((yC d).length-d.scale.toNat)):=rfl;have hpad:wB (d.scale.toNat+1-d.digits.length)++d.digits=yC d:=rfl;rw[hP];refine rgn [] [[],[1]] ?_;iterate 2 refine op3 ?_
 refine qA ?_;refine iL tok mixed [1,3] 12 [[1],[6],[7],[1],[9],[10],[8,11],[12],[13],[1],[15],[14,16]] [.nilp,.str (wB (d.scale.toNat+1-d.digits.length))] [] (by kernel_rfl) (by intro C;conv=>lhs;simp) (by rw[hmx];refine⟨by omega,by omega,hrp,by omega⟩) (by simp[Sm.sum,Sm.foot,Sm.tch,Sm.refs];kernel_rfl) (by intro C;conv=>lhs;simp) (by first|exact True.intro|omega|simp) ?_;refine rgn [] [[]] ?_;refine op3 ?_;refine qA ?_;refine AW.join (α:=Unit) (fun _=>True) (fun a=>⟨qZ 41 [(1,.ptr 1 0),(3,.p (.str (yC d))),(4,.p (.str (if d.neg=true then[45] else[])))],[],[(1,.vars 26 [.p (.bool d.neg),.p (.str d.digits),.p (.int .i64 d.scale)])],0⟩) ?_ ?_
 ·
  refine rgn [] [[],[1,3,4,19]] ?_;iterate 2 refine op3 ?_
  refine qA (cnd ?_ ?_)
  ·intro h19;try simp at h19
   refine rgz [] [[]] ?_;refine op3 ?_;refine qA ?_;exact⟨(),trivial,qE (by simp[hpad,h19]),rfl,by simp[hpad,h19],by simp[hpad,h19]⟩
  intro h19;try simp at h19
  refine AW.skip ?_;exact⟨(),trivial,qE (by simp[hpad,h19]),rfl,by simp[hpad,h19],by simp[hpad,h19]⟩
 ·
  rintro a hI;have hsg:(if d.neg=true then[45] else[]:List UInt8).length<=1:=by split <;> simp
  generalize (if d.neg=true then[45] else[]:List UInt8)=sg at *;have hk:((yC d).length-d.scale).toNat=(yC d).length-d.scale.toNat:=by omega
  generalize yC d=pd at *;refine AW.seq (rgn [] [[],[],[1,3,4,22]] ?_);iterate 3 refine op3 ?_
  refine qA (cnd ?_ ?_)
  ·intro h22;try simp at h22
   refine rgn [] [[],[],[25],[2]] ?_;iterate 4 refine op3 ?_ (hv:=by first|exact True.intro|(omega;done)|omega|simp)
   refine qA ?_;exact AW.ret (qI (k:=by simp[h22]))
  intro h22;try simp at h22
  refine AW.skip (rgn [] [[],[],[],[],[3,4,30],[3,4,5]] ?_);iterate 6 refine op3 ?_
  refine qA ?_;refine iL tok mixed [2] 10 [[4],[3],[5],[32,33],[31,34],[35],[3],[5],[37,38],[36,39]] [] [] (by kernel_rfl) (by intro C;conv=>lhs;simp) (by omega) (by simp[Sm.sum,Sm.foot,Sm.tch,Sm.refs];kernel_rfl) (by intro C;conv=>lhs;simp) (by first|exact True.intro|omega|simp) ?_;exact AW.ret (qI (k:=by simp[h22,hk]))
theorem zXQ (l:List UInt8) (hl:l.length<=1000000):AX Tryz.prog G 94 [.ms 90] [(90,.row 5 1 (qQ l))] (.tuple []) [90] [(90,.row 5 1 (qQ l.reverse))]:=by
 refine AX.introU tok 700 Tryz.func94 (by kernel_rfl) rfl rfl ?_;simp only[Tryz.f94,qG,bA,bC];refine rgn [] [[],[],[],[],[0,2,3]] ?_;iterate 5 refine op3 ?_
 refine qA (AW.block ?_);refine AW.loop (α:=Nat) (fun k=>k<=l.length) (fun k=>⟨qZ 28 [(0,.ms 90),(2,.p (.int .i64 k)),(3,.p (.int .i64 ((l.length:Int)-1-k)))],[90],[(90,.row 5 1 (qQ (qUS l k)))],700⟩) (fun k=>l.length-k) (0) (by omega) ⟨qE (by simp),rfl,by simp[zNW],by simp⟩ ?_;rintro k hk;have hlen:=qEI l k;refine AW.seq (rgn [] [[],[],[0,2,3,9]] ?_);iterate 3 refine op3 ?_
 refine qA (cnd ?_ ?_)
 ·intro h9;try simp at h9
  have h2:2 * k+1<l.length:=by omega
  have g1:=qEJ l k (i:=k) (by omega);have g2:=qEJ l k (i:=l.length-1-k) (by omega);rw[bD (by omega)]at g1 g2;have hst:=zNX l h2;generalize l.getD k 0=x at *;generalize l.getD (l.length-1-k) 0=y at *;generalize qUS l k=R at *;have hix:((l.length:Int)-1-k).toNat=l.length-1-k:=by omega
  have b1:(qQ R)[k]?=some (.int .u8 x.toNat):=qCX g1;have b2:(qQ R)[l.length-1-k]?=some (.int .u8 y.toNat):=qCX g2;have b3:((qQ R).set k (.int .u8 y.toNat))[l.length-1-k]?=some (.int .u8 y.toNat):=by rw[fB (by omega)];exact b2
  refine AW.skip (AW.seq (AW.block ?_));refine lR mixed 14 [[0],[2],[0],[3],[0],[3],[18,19],[20],[0],[2],[22,23],[24],[14,15],[26,21]] [.int .u8 y.toNat,.int .u8 x.toNat] (by kernel_rfl) ?_;iterate 2 refine iN tok (hv:=by first|exact True.intro|(simp[b1,b2,hix,hlen];done)|(simp[b1,b2,hix,hlen];omega);done|omega|simp) (k := ?_)
  refine wI.q [90] (.ms 90) rfl (qFI tok (orc:=[]) (orc':=[]) (v:=True) (by conv=>lhs;simp) trivial) (by simp) (by kernel_rfl) (by conv=>lhs;simp) ?_;iterate 4 refine iN tok (hv:=by first|exact True.intro|(simp[b1,b2,hix,hlen];done)|(simp[b1,b2,hix,hlen];omega);done|omega|simp) (k := ?_)
  refine iW tok (orc:=[.int .u8 y.toNat]) (hv:=by first|exact True.intro|(simp[b1,b2,hix,hlen];done)|(simp[b1,b2,hix,hlen];omega);done|omega|simp) (k := ?_);iterate 3 refine iN tok (hv:=by first|exact True.intro|(simp[b1,b2,hix,hlen];done)|(simp[b1,b2,hix,hlen];omega);done|omega|simp) (k := ?_)
  refine iW tok (orc:=[.int .u8 x.toNat]) (hv:=by first|exact True.intro|(simp[b1,b2,hix,hlen];done)|(simp[b1,b2,hix,hlen];omega);done|omega|simp) (k := ?_);refine iN tok (hv:=by first|exact True.intro|(simp[b1,b2,hix,hlen];done)|(simp[b1,b2,hix,hlen];omega);done|omega|simp) (k := ?_);refine iW tok (orc:=[.int .u8 x.toNat,.int .u8 y.toNat]) (hv:=by first|exact True.intro|(simp[b1,b2,hix,hlen];done)|(simp[b1,b2,hix,hlen];omega);done|omega|simp) (k := ?_);refine wI.nil (by kernel_rfl) ⟨by kernel_rfl, ?_⟩;refine qB.run [[],[0,2,3]] ?_;iterate 2 refine op3 ?_ (hv:=by first|exact True.intro|(simp[b3,hix,hlen];done)|(simp[b3,hix,hlen];omega);done|omega|simp)
  refine qA (rgz [] [[],[],[],[0,11,13],[],[0,2,3]] ?_);iterate 6 refine op3 ?_
  refine qA ?_;exact⟨k+1,by omega,by omega,qE (by simp[<-hst,qID,show(l.length:Int)-1-k-1=l.length-1-(k+1) from by omega]),rfl,by simp[<-hst,qID,show(l.length:Int)-1-k-1=l.length-1-(k+1) from by omega],by simp[<-hst,qID,show(l.length:Int)-1-k-1=l.length-1-(k+1) from by omega]⟩
 intro h9;try simp at h9
 have hall:=zRZ l (k:=k) (by omega);rw[<-hall];refine AW.exit ?_;simp;exact qDP
theorem qFG (n:Int) (h0 : -9223372036854775808<=n) (h1:n<=9223372036854775807):AFn Tryz.prog G 64 [.int .i64 n] ((qGX n).enc):=by
 refine AFn.introU tok Tryz.func64 (by kernel_rfl) rfl rfl ?_;simp only[Tryz.f64,qG,bA,bC];have hU:n.natAbs<10 ^ 20:=by omega
 have hdl:=qTV 20 n.natAbs hU;have hmd:=qQM (G:=G) (decide (n<0)) (qBL n.natAbs) 0 (by omega) (by omega);have hI:qGX n=(yA (decide (n<0)) (qBL n.natAbs) 0).1:=rfl;rw[hI];generalize yA (decide (n<0)) (qBL n.natAbs) 0=r1 at *;obtain⟨q1,e1⟩:=r1;simp only[Dc.enc]at hmd;refine rgn [] [[]] ?_;refine op3 ?_;refine qA (rgn [] [[],[],[0,2,3]] ?_);iterate 3 refine op3 ?_
 refine qA ?_;refine AW.join (α:=Unit) (fun _=>True) (fun a=>⟨qZ 35 [(0,.p (.int .i64 n)),(2,.ptr 2 0),(3,.p (.int .u64 (n.natAbs:Nat)))],[],[(2,.vars 26 [.p (.bool false),.p (.str []),.p (.int .i64 0)])],0⟩) ?_ ?_
 ·
  refine rgn [] [[],[0,2,3,10]] ?_;iterate 2 refine op3 ?_
  refine qA (cnd ?_ ?_)
  ·intro h10;try simp at h10
   have hw:IntKind.u64.wrap (-(IntKind.u64.wrap n))=(n.natAbs:Nat):=by simp[IntKind.wrap,IntKind.bits,IntKind.signed];omega
   refine rgz [] [[],[],[0,2,3]] ?_;iterate 3 refine op3 ?_
   refine qA ?_;exact⟨(),trivial,qE (by simp[hw]),rfl,by simp[hw],by simp[hw]⟩
  intro h10;try simp at h10
  have hw:IntKind.u64.wrap n=(n.natAbs:Nat):=by simp[IntKind.wrap,IntKind.bits,IntKind.signed];omega
  refine AW.skip ?_;exact⟨(),trivial,qE (by simp[hw]),rfl,by simp[hw],by simp[hw]⟩
 ·
  rintro a hI;refine rgn [] [[]] ?_;refine op3 ?_;refine qA (AW.seq (AW.block ?_));refine lJ 4 90 5 1 (by simp) (by simp) (by conv=>lhs;simp) ?_;refine AW.loop (α:=Nat × List UInt8) (fun s=>qBL n.natAbs=qBL s.1++s.2.reverse/\s.1<=n.natAbs) (fun s=>⟨qZ 35 [(0,.p (.int .i64 n)),(2,.ptr 2 0),(3,.p (.int .u64 (s.1:Nat))),(4,.ms 90)],[],[(2,.vars 26 [.p (.bool false),.p (.str []),.p (.int .i64 0)]),(90,.row 5 1 (qQ s.2))],0⟩) (fun s=>s.1) ((n.natAbs,[])) ⟨by simp,bP _⟩ ⟨qE (by simp),rfl,by simp[qQ],by simp⟩ ?_;rintro⟨u,l⟩ ⟨hu,hle⟩;simp only at hu hle;have hll:l.length<=20:=by have:=congrArg List.length hu;simp at this;omega
  refine AW.seq (rgn [] [[],[0,2,3,4,14]] ?_);iterate 2 refine op3 ?_
  refine qA (cnd ?_ ?_)
  ·intro h14;try simp at h14
   have hup:0<u:=by omega
   rw[qTU hup,cD]at hu;have hd:u % 10<10:=eQ _ (by decide);have dm:(u:Int).tmod 10=((u % 10:Nat):Int):=(iI u 10).symm;have dc:IntKind.u8.wrap (IntKind.u64.wrap (48+(u:Int) % 10))=((UInt8.ofNat (48+u % 10)).toNat:Int):=by
    rw[show(UInt8.ofNat (48+u % 10)).toNat=48+u % 10 by rw[gM];omega,show(u:Int) % 10=((u % 10:Nat):Int) from rfl];simp[IntKind.wrap,IntKind.bits,IntKind.signed];omega
   have dq:IntKind.u64.wrap ((u:Int) / 10)=((u / 10:Nat):Int):=by simp[IntKind.wrap,IntKind.bits,IntKind.signed];omega
   generalize UInt8.ofNat (48+u % 10)=D at *;refine AW.skip (AW.seq (AW.block (rgz [.int .u8 D.toNat] [[],[],[],[],[0,2,3,17,21],[],[],[0,2,3,4]] ?_)));iterate 8 refine op3 ?_ (h:=by intro C;conv=>lhs;simp[dm,dc]) (hv:=by first|exact True.intro|((simp[dm,dc]);done)|omega|simp)
   refine qA (rgz [] [[],[],[0,2,3,4]] ?_);iterate 3 refine op3 ?_
   refine qA ?_;exact⟨(u / 10,l++[D]),⟨by simp only[List.reverse_append,List.reverse_singleton];exact hu,by simp only;omega⟩,by simp only;omega,qE (by simp[dq,qQ]),rfl,by simp[dq,qQ],by simp[dq,qQ]⟩
  intro h14;try simp at h14
  obtain rfl:u=0:=by omega
  rw[qFA,dH]at hu;have hrv:=zXQ (G:=G) l (by omega);rw[<-hu]at hrv;refine AW.exit ?_;simp;refine rgn [] [[]] ?_;refine op3 ?_;refine qJ ?_;refine qB.stepK [0,2,4] (zI rfl hrv (by simp)) (by conv=>lhs;simp) rfl ?_;refine qB.nil ?_;refine rgn [.str (qBL n.natAbs),.nilp,.tup [q1.enc,.int .i64 e1]] [[],[],[],[2,28,30],[],[],[],[2,32,33],[],[],[2,5]] ?_;iterate 11 refine oq1 tok hmd ?_
  refine qA (rgn [] [[],[2]] ?_);iterate 2 refine op3 ?_
  exact qA (AW.ret qI)
theorem zAF (n m:Int):AFn Tryz.prog G 41 [.agg [.int .u64 m],(qGX n).enc,.int .i64 0] (qEV n m).enc:=uU (qGX n,0) m
def qLZ (runes:List UInt8->Nat) (v:Val) (m:Int):Val :=
 if v.kind=1 then qEV 0 m else if v.kind=5 then qEV (runes v.text) m else if v.kind=6\/v.kind=7 then qEV v.kids.length m
 else if v.kind=4 then .mk 4 m ⟨false,v.num.digits,v.num.scale⟩ [] [] [] 0 else qR 40 m
theorem zPA (runes:List UInt8->Nat) (v:Val) (m:Int) (hr:v.kind=5->AFn Tryz.prog G 65 [.str v.text] (.int .i64 (runes v.text:Nat))/\runes v.text<=1000000) (hk:v.kids.length<=1000000):AFn Tryz.prog G 31 [.agg [.int .u64 m],v.enc] ((qLZ runes v m).enc):=by
 refine AFn.introU tok Tryz.func31 (by kernel_rfl) rfl rfl ?_;simp only[Tryz.f31,qG,bA,bC];have d0:=qFG (G:=G) 0 (by decide) (by decide);have d1:=qFG (G:=G) v.kids.length (by omega) (by omega);have d2:=fun h:v.kind=5=>qFG (G:=G) (runes v.text) (by omega) (by have:=(hr h).2;omega);have n0:=zAF (G:=G) 0 m;have n1:=zAF (G:=G) v.kids.length m;have n2:=zAF (G:=G) (runes v.text) m;have n3:=uU (G:=G) (⟨false,v.num.digits,v.num.scale⟩,0) m;have hf:=zX (G:=G) 40 m;have e3:xJ (⟨false,v.num.digits,v.num.scale⟩,0) m = .mk 4 m ⟨false,v.num.digits,v.num.scale⟩ [] [] [] 0:=rfl;rw[e3]at n3;unfold qLZ;generalize qGX 0=D0 at *;generalize qGX v.kids.length=D1 at *;generalize qGX (runes v.text)=D2 at *;generalize qEV 0 m=V0 at *;generalize qEV v.kids.length m=V1 at *;generalize qEV (runes v.text) m=V2 at *;simp only[iK,Dc.enc]at d0 d1 d2 n0 n1 n2 n3 hf;refine rgn [] [[],[],[2,3,4]] ?_;iterate 3 refine op3 ?_
 refine qA (AW.seq (rgn [] [[],[2,3,4,6]] ?_));iterate 2 refine op3 ?_
 refine qA (AW.block (rgn [] [[],[2,3,4,6,7]] ?_));iterate 2 refine op3 ?_
 refine qA (cnd ?_ ?_)
 ·intro h7;try simp at h7
  rw[bE h7];refine iL tok mixed [4] 2 [[2],[]] [.nilp,D0.enc] [.nilp,V0.enc] (by kernel_rfl) (by intro C;conv=>lhs;simp) (by exact d0) (by simp[Sm.sum,Sm.foot,Sm.tch,Sm.refs];kernel_rfl) (by intro C;conv=>lhs;simp) (by exact n0) ?_;exact AW.ret qI
 intro h7;try simp at h7
 rw[bD h7];refine rgn [] [[],[2,3,4,6,12]] ?_;iterate 2 refine op3 ?_
 refine qA (cnd ?_ ?_)
 ·intro h12;try simp at h12
  rw[bE h12];obtain⟨r1,r2⟩:=hr h12;have d2:=d2 h12;refine iL tok mixed [4] 6 [[2],[3],[15],[16],[17],[14,18]] [.nilp,.int .i64 (runes v.text:Nat),.nilp,D2.enc,.nilp,V2.enc] [] (by kernel_rfl) (by intro C;conv=>lhs;simp) (by exact⟨r1,d2,n2⟩) (by simp[Sm.sum,Sm.foot,Sm.tch,Sm.refs];kernel_rfl) (by intro C;conv=>lhs;simp) (by first|exact True.intro|omega|simp) ?_;exact AW.ret qI
 intro h12;try simp at h12
 rw[bD h12];refine AW.seq (rgn [] [[],[2,3,4,6,20]] ?_);iterate 2 refine op3 ?_
 refine qA (cnd ?_ ?_)
 ·intro h20;try simp at h20
  rw[bE (show v.kind=6\/v.kind=7 by omega)];refine AW.skip (cnd ?_ ?_)
  ·intro h20;try simp at h20
   refine iL tok mixed [4] 6 [[2],[3],[24],[25],[26],[23,27]] [.nilp,D1.enc,.nilp,V1.enc] [] (by kernel_rfl) (by intro C;conv=>lhs;simp) (by exact⟨d1,n1⟩) (by simp[Sm.sum,Sm.foot,Sm.tch,Sm.refs];kernel_rfl) (by intro C;conv=>lhs;simp) (by first|exact True.intro|omega|simp) ?_;exact AW.ret qI
  intro h20;try simp at h20
  exfalso;omega
 intro h20;try simp at h20
 refine rgz [] [[],[2,3,4,6,20]] ?_;iterate 2 refine op3 ?_
 refine qA (cnd ?_ ?_)
 ·intro h20;try simp at h20
  rw[bE (show v.kind=6\/v.kind=7 by omega)];refine iL tok mixed [4] 6 [[2],[3],[24],[25],[26],[23,27]] [.nilp,D1.enc,.nilp,V1.enc] [] (by kernel_rfl) (by intro C;conv=>lhs;simp) (by exact⟨d1,n1⟩) (by simp[Sm.sum,Sm.foot,Sm.tch,Sm.refs];kernel_rfl) (by intro C;conv=>lhs;simp) (by first|exact True.intro|omega|simp) ?_;exact AW.ret qI
 intro h20;try simp at h20
 rw[bD (show ¬ (v.kind=6\/v.kind=7) by omega)];refine rgn [] [[],[2,3,4,29]] ?_;iterate 2 refine op3 ?_
 refine qA (cnd ?_ ?_)
 ·intro h29;try simp at h29
  rw[bE h29];refine rgn [] [[],[],[2,3,4]] ?_;iterate 3 refine op3 ?_
  refine qA (rgn [.nilp,(Val.mk 4 m ⟨false,v.num.digits,v.num.scale⟩ [] [] [] 0).enc] [[],[],[],[4,36],[4]] ?_);iterate 5 refine op3 ?_ (hv:=by first|exact True.intro|exact n3|(simp;done)|(simp at n3 ⊢; exact n3);done|omega|simp)
  exact qA (AW.ret qI)
 intro h29;try simp at h29
 rw[bD h29];refine AW.skip (rgn [.nilp,(qR 40 m).enc] [[],[],[4]] ?_);iterate 3 refine oq1 tok hf ?_
 exact qA (AW.ret qI)
def qMB (v:Val) (m:Int):Val :=
 if v.kind=7 then yJ ((zW v.keys).map fun s=>wM s 0) m
 else if v.kind=6 then yJ ((List.range v.kids.length).map fun i:Nat=>qEV i 0) m else qR 40 m
theorem zYN (r:Dc × Int) (m:Int):Few (xJ r m):=by
 unfold xJ qR;split <;> exact .mk (by simp) (by simp) (by simp)
theorem zTB (v:Val) (m:Int) (hk:v.kids.length<=1000000) (hn:v.keys.length<=1000000):AFn Tryz.prog G 32 [.agg [.int .u64 m],v.enc] ((qMB v m).enc):=by
 refine AFn.introU tok Tryz.func32 (by kernel_rfl) rfl rfl ?_;simp only[Tryz.f32,qG,bA,bC];have hf:=zX (G:=G) 40 m;have he:=zLW (G:=G) (zW v.keys) m (by rw[qNK];omega);have hl:=qEP (G:=G) ((List.range v.kids.length).map fun i:Nat=>qEV i 0) m (by simp[qEV,zYN]) (by simp;omega);have e:qMB v m=if v.kind=7 then yJ ((zW v.keys).map fun s=>wM s 0) m else if v.kind=6 then yJ ((List.range v.kids.length).map fun i:Nat=>qEV i 0) m else qR 40 m:=rfl
 rw[e];generalize yJ ((zW v.keys).map fun s=>wM s 0) m=L1 at *;generalize hvs:((List.range v.kids.length).map fun i:Nat=>qEV i 0)=vs at *;have hvl:vs.length=v.kids.length:=by rw[<-hvs];simp
 have hvg:∀ k,k<v.kids.length->vs[k]?=some (qEV k 0):=fun k h=>by rw[<-hvs];simp[h]
 simp only[iK]at hf he hl;refine rgn [] [[],[],[2,3,4]] ?_;iterate 3 refine op3 ?_
 refine qA (AW.seq (rgn [] [[],[2,3,4,8]] ?_));iterate 2 refine op3 ?_
 refine qA (AW.block (rgn [] [[],[2,3,4,8,9]] ?_));iterate 2 refine op3 ?_
 refine qA (cnd ?_ ?_)
 ·intro h9;try simp at h9
  rw[bE h9];refine lF mixed 8 [[2],[3],[12],[13],[14],[],[16],[11,15,17]] [L1.enc] (by kernel_rfl) ?_;iterate 3 refine iN tok (k := ?_)
  refine wI.call [901] (qVJ v.keys) rfl rfl (by simp) (by simp) (by simp) (by simp) (by simp) (by first|(simp;done)|(simp;omega)) (by first|(simp;done)|(simp;omega)) (by kernel_rfl) (by conv=>lhs;simp) ?_;refine wI.call [] (qVY 901 v.keys (by omega)) rfl rfl (by simp) (by simp) (by simp) (by simp) (by simp) (by first|(simp;done)|(simp;omega)) (by first|(simp;done)|(simp;omega)) (by kernel_rfl) (by conv=>lhs;simp) ?_;iterate 2 refine iN tok (k := ?_)
  refine wI.call [] he rfl rfl (by simp) (by simp) (by simp) (by simp) (by simp) (by first|(simp;done)|(simp;omega)) (by first|(simp;done)|(simp;omega)) (by kernel_rfl) (by conv=>lhs;simp) ?_;refine wI.nil (by kernel_rfl) ⟨by kernel_rfl, ?_⟩;refine qB.run [[4]] ?_;refine op3 ?_;exact qA (AW.ret qI)
 intro h9;try simp at h9
 rw[bD h9];refine rgn [] [[],[2,3,4,19]] ?_;iterate 2 refine op3 ?_
 refine qA (cnd ?_ ?_)
 ·intro h19;try simp at h19
  rw[bE h19];refine rgn [] [[]] ?_;refine op3 ?_;refine qA (AW.seq (rgn [] [[],[],[],[2,4,5,23,24]] ?_));iterate 4 refine op3 ?_
  refine qA (AW.block ?_);refine lJ 5 50 31 9 (by simp) (by simp) (by conv=>lhs;simp) ?_;refine AW.loop (α:=Nat) (fun k=>k<=v.kids.length) (fun k=>⟨qZ 40 [(2,.ptr 2 0),(4,.ptr 4 0),(5,.ms 50),(23,.p (.int .i64 v.kids.length)),(24,.p (.int .i64 k))],[],[(2,.vars 61 [.p (.int .u64 m)]),(4,.vars 31 [.p (.int .i64 0),.p (.int .u64 0),.p (.bool false),.p (.str []),.p (.int .i64 0),.p (.str []),.nilsl,.nilsl,.p (.int .i64 0)]),(50,.row 31 9 ((vs.map Val.enc).take k))],0⟩) (fun k=>v.kids.length-k) (0) (by omega) ⟨qE (by simp),rfl,by simp,by simp⟩ ?_;rintro k hkk;refine rgn [] [[]] ?_;refine op3 ?_;refine qA (AW.seq (cnd ?_ ?_))
  ·intro h25;try simp at h25
   have hv:=hvg k (by omega);have hgp:(vs.map Val.enc)[k]?=some (qEV k 0).enc:=by rw[bG,hv];rfl
   have htk:(vs.map Val.enc).take k++[(qEV k 0).enc]=(vs.map Val.enc).take (k+1):=by rw[bX,hgp];rfl
   have dk:=qFG (G:=G) k (by omega) (by omega);have nk:=zAF (G:=G) k 0;generalize qGX (k:Int)=Dk at *;generalize qEV (k:Int) 0=Vk at *;simp only[iK,Dc.enc]at htk dk nk;refine AW.skip (AW.seq (AW.block (rgn [] [[],[2,4,5,6,23,24]] ?_)));iterate 2 refine op3 ?_
   refine qA (rgz [.nilp,Dk.enc,.nilp,Vk.enc,Vk.enc] [[],[],[],[],[2,4,23,24,27,31],[],[],[2,4,5,23,24]] ?_);iterate 8 refine op3 ?_ (hv:=by first|exact True.intro|exact dk|exact nk|(simp;done)|(simp at nk ⊢; exact nk);done|omega|simp)
   refine qA (rgz [] [[],[2,4,5,23,24]] ?_);iterate 2 refine op3 ?_
   refine qA ?_;exact⟨k+1,by omega,by omega,qE (by simp[htk]),rfl,by simp[htk],by simp[htk]⟩
  intro h25;try simp at h25
  obtain rfl:k=v.kids.length:=by omega
  have hall:(vs.map Val.enc).take v.kids.length=vs.map Val.enc:=bK (by simp[hvl]);simp only[hall];refine AW.exit ?_;simp;refine rgn [.nilp,(yJ vs m).enc] [[]] ?_;refine op3 ?_ (hv:=by first|exact True.intro|exact hl|(simp at hl ⊢; exact hl);done|omega|simp);refine qJ ?_;refine qB.freeze 50 (by conv=>lhs;simp) ?_;refine qB.run [[],[4,37],[4]] ?_;iterate 3 refine op3 ?_ (hv:=by first|exact True.intro|exact hl|(simp at hl ⊢; exact hl);done|omega|simp)
  exact qA (AW.ret qI)
 intro h19;try simp at h19
 rw[bD h19];refine AW.skip (rgn [.nilp,(qR 40 m).enc] [[],[],[4]] ?_);iterate 3 refine oq1 tok hf ?_
 exact qA (AW.ret qI)
def qJC {α:Type} [DecidableEq α] (l:List α) (x:α):Int:=if x∈l then(l.idxOf x:Int) else -1
theorem zLP {α:Type} [DecidableEq α] {l:List α} {k:Nat} {x:α} (hk:k<l.length) (hx:l[k]?=some x) (hno:x ∉ l.take k):qJC l x=k:=by
 have hm:x∈l:=bH hx;unfold qJC;rw[bE hm];have:l.idxOf x=k:=by
  obtain⟨h1,h2⟩:=bB.1 hx;have h3:=cE k l;rw[<-h3,List.idxOf_append,bD hno,cJ h1,h2,List.idxOf_cons_self];simp;omega
 rw[this]
theorem zLO {α:Type} [DecidableEq α] (l:List α) (x:α):0<=qJC l x↔x∈l:=by
 unfold qJC;split <;> simp[*]
theorem zTV (l:List (List UInt8)) (s:List UInt8):AFn Tryz.prog G 112 [.sl 1 (l.map PD.str),.str s] (.int .i64 (qJC l s)):=by
 refine AFn.introU tok Tryz.func112 (by kernel_rfl) rfl rfl ?_;simp only[Tryz.f112,qG,bA,bC];refine rgn [] [[0,1]] ?_;refine op3 ?_;refine qA (AW.seq (rgn [] [[],[],[0,1,7,8]] ?_));iterate 3 refine op3 ?_
 refine qA (AW.block ?_);refine lG (i:=7) rfl (by decide) ?_;intro hlen;simp at hlen;refine AW.loop (α:=Nat) (fun k=>k<=l.length/\s ∉ l.take k) (fun k=>⟨qZ 19 [(0,.p (.sl 1 (l.map PD.str))),(1,.p (.str s)),(7,.p (.int .i64 l.length)),(8,.p (.int .i64 k))],[],[],0⟩) (fun k=>l.length-k) (0) ⟨by omega,by simp⟩ ⟨qE (by simp),rfl,by simp,by simp⟩ ?_;rintro k ⟨hk,hno⟩;refine rgn [] [[]] ?_;refine op3 ?_;refine qA (AW.seq (cnd ?_ ?_))
 ·intro h9;try simp at h9
  obtain⟨x,hx⟩:∃ x,l[k]?=some x:=⟨l[k],by simp[h9]⟩;refine AW.skip (AW.seq (AW.block (rgn [] [[],[0,1,5,7,8]] ?_)));iterate 2 refine op3 ?_
  refine qA (rgn [.str x] [[],[],[],[],[],[0,1,5,7,8,16]] ?_);iterate 6 refine op3 ?_ (hv:=by first|exact True.intro|(simp[hx];done)|omega|simp)
  refine qA (cnd ?_ ?_)
  ·intro h16;try simp at h16
   have hR:qJC l s=k:=zLP h9 (h16 ▸ hx) hno;refine rgn [] [[],[4]] ?_;iterate 2 refine op3 ?_
   refine qA ?_;exact AW.ret (qI (k:=by simp[hR]))
  intro h16;try simp at h16
  refine AW.skip (rgz [] [[],[0,1,7,8]] ?_);iterate 2 refine op3 ?_
  refine qA ?_;exact⟨k+1,⟨by omega,by rw[bX,hx];simp;exact⟨hno,h16⟩⟩,by omega,qE (by simp),rfl,by simp,by simp⟩
 intro h9;try simp at h9
 have hR:qJC l s = -1:=by rw[bK h9]at hno;unfold qJC;rw[bD hno]
 refine AW.exit ?_;simp;refine rgn [] [[]] ?_;refine op3 ?_;refine qA ?_;exact AW.ret (qI (k:=by simp[hR]))
theorem zTX (l:List (List UInt8)) (s:List UInt8):AFn Tryz.prog G 79 [.sl 1 (l.map PD.str),.str s] (.bool (decide (s∈l))):=by
 refine AFn.introU tok Tryz.func79 (by kernel_rfl) rfl rfl ?_;simp only[Tryz.f79,qG,bA,bC];have h1:=zTV (G:=G) l s;have h2:decide (s∈l)=decide (0<=qJC l s):=decide_eq_decide.2 (zLO l s).symm;rw[h2];generalize qJC l s=i at *;refine rgn [] [[0,1]] ?_;refine op3 ?_;refine qA (rgn [.nilp,.int .i64 i] [[],[],[7],[],[4]] ?_);iterate 5 refine oq1 tok h1 ?_
 exact qA (AW.ret qI)
theorem zTW (l:List Int) (s:Int):AFn Tryz.prog G 206 [.sl 1 (l.map (PD.int .i64)),.int .i64 s] (.int .i64 (qJC l s)):=by
 refine AFn.introU tok Tryz.func206 (by kernel_rfl) rfl rfl ?_;simp only[Tryz.f206,qG,bA,bC];refine rgn [] [[0,1]] ?_;refine op3 ?_;refine qA (AW.seq (rgn [] [[],[],[0,1,7,8]] ?_));iterate 3 refine op3 ?_
 refine qA (AW.block ?_);refine lG (i:=7) rfl (by decide) ?_;intro hlen;simp at hlen;refine AW.loop (α:=Nat) (fun k=>k<=l.length/\s ∉ l.take k) (fun k=>⟨qZ 19 [(0,.p (.sl 1 (l.map (PD.int .i64)))),(1,.p (.int .i64 s)),(7,.p (.int .i64 l.length)),(8,.p (.int .i64 k))],[],[],0⟩) (fun k=>l.length-k) (0) ⟨by omega,by simp⟩ ⟨qE (by simp),rfl,by simp,by simp⟩ ?_;rintro k ⟨hk,hno⟩;refine rgn [] [[]] ?_;refine op3 ?_;refine qA (AW.seq (cnd ?_ ?_))
 ·intro h9;try simp at h9
  obtain⟨x,hx⟩:∃ x,l[k]?=some x:=⟨l[k],by simp[h9]⟩;refine AW.skip (AW.seq (AW.block (rgn [] [[],[0,1,5,7,8]] ?_)));iterate 2 refine op3 ?_
  refine qA (rgn [.int .i64 x] [[],[],[],[],[],[0,1,5,7,8,16]] ?_);iterate 6 refine op3 ?_ (hv:=by first|exact True.intro|(simp[hx];done)|omega|simp)
  refine qA (cnd ?_ ?_)
  ·intro h16;try simp at h16
   have hR:qJC l s=k:=zLP h9 (h16 ▸ hx) hno;refine rgn [] [[],[4]] ?_;iterate 2 refine op3 ?_
   refine qA ?_;exact AW.ret (qI (k:=by simp[hR]))
  intro h16;try simp at h16
  refine AW.skip (rgz [] [[],[0,1,7,8]] ?_);iterate 2 refine op3 ?_
  refine qA ?_;exact⟨k+1,⟨by omega,by rw[bX,hx];simp;exact⟨hno,h16⟩⟩,by omega,qE (by simp),rfl,by simp,by simp⟩
 intro h9;try simp at h9
 have hR:qJC l s = -1:=by rw[bK h9]at hno;unfold qJC;rw[bD hno]
 refine AW.exit ?_;simp;refine rgn [] [[]] ?_;refine op3 ?_;refine qA ?_;exact AW.ret (qI (k:=by simp[hR]))
theorem zTY (l:List Int) (s:Int):AFn Tryz.prog G 169 [.sl 1 (l.map (PD.int .i64)),.int .i64 s] (.bool (decide (s∈l))):=by
 refine AFn.introU tok Tryz.func169 (by kernel_rfl) rfl rfl ?_;simp only[Tryz.f169,qG,bA,bC];have h1:=zTW (G:=G) l s;have h2:decide (s∈l)=decide (0<=qJC l s):=decide_eq_decide.2 (zLO l s).symm;rw[h2];generalize qJC l s=i at *;refine rgn [] [[0,1]] ?_;refine op3 ?_;refine qA (rgn [.nilp,.int .i64 i] [[],[],[7],[],[4]] ?_);iterate 5 refine oq1 tok h1 ?_
 exact qA (AW.ret qI)
theorem zIJ (l:List Val) (g:FuncId) (cs:List PD) (p:Val->Bool) (hg:∀ v∈l,AFn Tryz.prog G g [v.enc,.ref cs] (.bool (p v))):AFn Tryz.prog G 156 [.sl 9 (l.map Val.enc),.clo g [.ref cs]] (.int .i64 (match l.findIdx? p with|some i=>(i:Int)|none => -1)):=by
 refine AFn.introU tok Tryz.func156 (by kernel_rfl) rfl rfl ?_;simp only[Tryz.f156,qG,bA,bC];refine rgn [] [[0,1]] ?_;refine op3 ?_;refine qA (AW.seq (rgn [] [[],[],[0,1,7,8]] ?_));iterate 3 refine op3 ?_
 refine qA (AW.block ?_);refine lG (i:=7) rfl (by decide) ?_;intro hlen;simp at hlen;refine AW.loop (α:=Nat) (fun k=>k<=l.length/\(l.take k).all (fun v => !p v)=true) (fun k=>⟨qZ 19 [(0,.p (.sl 9 (l.map Val.enc))),(1,.p (.clo g [.ref cs])),(7,.p (.int .i64 l.length)),(8,.p (.int .i64 k))],[],[],0⟩) (fun k=>l.length-k) (0) ⟨by omega,rfl⟩ ⟨qE (by simp),rfl,by simp,by simp⟩ ?_;rintro k ⟨hk,hall⟩;refine rgn [] [[]] ?_;refine op3 ?_;refine qA (AW.seq (cnd ?_ ?_))
 ·intro h9;try simp at h9
  obtain⟨v,hv⟩:∃ v,l[k]?=some v:=⟨l[k],by simp[h9]⟩;have hgv:=hg v (bH hv);refine AW.skip (AW.seq (AW.block (rgn [] [[],[0,1,5,7,8]] ?_)));iterate 2 refine op3 ?_
  refine qA (rgn [v.enc,.nilp,.bool (p v)] [[],[],[],[],[],[0,1,5,7,8,16]] ?_);iterate 6 refine op3 ?_ (hv:=by first|exact True.intro|(simp[hv];done)|(simp at hgv ⊢; exact hgv);done|omega|simp)
  refine qA (cnd ?_ ?_)
  ·intro h16;try simp at h16
   have hf:l.findIdx? p=some k:=by
    rw[dL];have h9':=h9;refine⟨h9, ?_,fun j hj => ?_⟩
    ·rw[cI h9]at hv;cases hv;exact h16
    have:=bR.1 hall (l[j]'(by omega)) (cP.2 ⟨j,by simp;omega,by simp⟩);simpa using this
   refine rgn [] [[],[4]] ?_;iterate 2 refine op3 ?_
   refine qA ?_;exact AW.ret (qI (k:=by simp[hf]))
  intro h16;try simp at h16
  refine AW.skip (rgz [] [[],[0,1,7,8]] ?_);iterate 2 refine op3 ?_
  refine qA ?_;exact⟨k+1,⟨by omega,by rw[bX,hv,dJ,hall];simpa using h16⟩,by omega,qE (by simp),rfl,by simp,by simp⟩
 intro h9;try simp at h9
 rw[bK h9]at hall;have hf:l.findIdx? p=none:=by
  rw[List.findIdx?_eq_none_iff];intro x hx;simpa using List.all_eq_true.1 hall x hx
 refine AW.exit ?_;simp;refine rgn [] [[]] ?_;refine op3 ?_;refine qA ?_;exact AW.ret (qI (k:=by simp[hf]))
theorem qJO (l:List Val) (g:FuncId) (cs:List PD) (p:Val->Bool) (hg:∀ v∈l,AFn Tryz.prog G g [v.enc,.ref cs] (.bool (p v))):AFn Tryz.prog G 113 [.sl 9 (l.map Val.enc),.clo g [.ref cs]] (.bool (l.any p)):=by
 refine AFn.introU tok Tryz.func113 (by kernel_rfl) rfl rfl ?_;simp only[Tryz.f113,qG,bA,bC];have hi:=zIJ l g cs p hg;have ha:l.any p=decide (0<=(match l.findIdx? p with|some i=>(i:Int)|none => -1)):=by
  cases h:l.findIdx? p with
  | none=>simp;intro x hx;simpa using List.findIdx?_eq_none_iff.1 h x hx
  | some i =>
   obtain⟨h1,h2,_⟩:=dL.1 h;simp;exact⟨_,dV h1,h2⟩
 rw[ha];generalize (match l.findIdx? p with|some i=>(i:Int)|none => -1)=n at *;refine rgn [] [[0,1]] ?_;refine op3 ?_;refine qA (rgn [.nilp,.int .i64 n] [[],[],[7],[],[4]] ?_);iterate 5 refine oq1 tok hi ?_
 exact qA (AW.ret qI)
def yV (k:List UInt8) (x:Val):Val := .mk 7 0 dc0 [] [[107,101,121],[118,97,108,117,101]] [wM k 0,x] 0
def vJ (v:Val):List Val:=List.zipWith yV v.keys v.kids
def zAI (s:List UInt8) (v:Val) (m:Int):Val:=if v.kind=7 then yH (decide (s∈v.keys)) m else qR 40 m
def qAJ (v:Val) (m:Int):Val:=if v.kind=7 then yJ (vJ v) m else qR 40 m
theorem zYB (s:List UInt8) (v:Val) (m:Int):AFn Tryz.prog G 44 [.agg [.int .u64 m],.str [104,97,115],.str s,v.enc] ((zAI s v m).enc):=by
 refine AFn.introU tok Tryz.func44 (by kernel_rfl) rfl rfl ?_;simp only[Tryz.f44,qG,bA,bC];have hf:=zX (G:=G) 40 m;have hh:=zTX (G:=G) v.keys s;have ht:=qBW (G:=G) (decide (s∈v.keys)) m;have e:zAI s v m=if v.kind=7 then yH (decide (s∈v.keys)) m else qR 40 m:=rfl
 rw[e];generalize decide (s∈v.keys)=b at *;generalize yH b m=T at *;simp only[iK]at hf ht;refine rgn [] [[],[],[1,2,4,7,8]] ?_;iterate 3 refine op3 ?_
 refine qA (AW.seq (rgn [] [[],[],[1,2,4,7,8,14]] ?_));iterate 3 refine op3 ?_
 refine qA (cnd ?_ ?_)
 ·intro h14;try simp at h14
  rw[bD h14];refine rgn [.nilp,(qR 40 m).enc] [[],[],[8]] ?_;iterate 3 refine oq1 tok hf ?_
  exact qA (AW.ret qI)
 intro h14;try simp at h14
 rw[bE (by simpa using h14)];refine AW.skip (AW.seq (rgn [] [[],[2,4,7,8,18]] ?_));iterate 2 refine op3 ?_
 refine qA (cnd ?_ ?_)
 ·intro h18;try simp at h18
  refine iL tok mixed [8] 6 [[4],[7],[20],[2],[21,22],[19,23]] [.nilp,.bool b,.nilp,T.enc] [] (by kernel_rfl) (by intro C;conv=>lhs;simp) (by exact⟨hh,ht⟩) (by simp[Sm.sum,Sm.foot,Sm.tch,Sm.refs];kernel_rfl) (by intro C;conv=>lhs;simp) (by first|exact True.intro|omega|simp) ?_;exact AW.ret qI
 intro h18;try simp at h18
theorem zDY (s:List UInt8) (v:Val) (m:Int) (hn:v.kind=7->v.keys.length=v.kids.length) (hk:v.kids.length<=1000000) (hf2:∀ x∈v.kids,Few x):AFn Tryz.prog G 44 [.agg [.int .u64 m],.str [101,110,116,114,105,101,115],.str s,v.enc] ((qAJ v m).enc):=by
 refine AFn.introU tok Tryz.func44 (by kernel_rfl) rfl rfl ?_;simp only[Tryz.f44,qG,bA,bC];have hf:=zX (G:=G) 40 m;have e:qAJ v m=if v.kind=7 then yJ (vJ v) m else qR 40 m:=rfl
 rw[e];simp only[iK]at hf;refine rgn [] [[],[],[1,2,4,7,8]] ?_;iterate 3 refine op3 ?_
 refine qA (AW.seq (rgn [] [[],[],[1,2,4,7,8,14]] ?_));iterate 3 refine op3 ?_
 refine qA (cnd ?_ ?_)
 ·intro h14;try simp at h14
  rw[bD h14];refine rgn [.nilp,(qR 40 m).enc] [[],[],[8]] ?_;iterate 3 refine oq1 tok hf ?_
  exact qA (AW.ret qI)
 intro h14;try simp at h14
 rw[bE (by simpa using h14)];have h7:v.kind=7:=by simpa using h14
 have hn:=hn h7;have hvl:(vJ v).length=v.keys.length:=by simp[vJ,hn]
 have hvg:∀ (k:Nat) a x,v.keys[k]?=some a->v.kids[k]?=some x->(vJ v)[k]?=some (yV a x):=fun k a x h1 h2=>by unfold vJ;rw[List.getElem?_zipWith,h1,h2]
 have hl:=qEP (G:=G) (vJ v) m (fun x hx=>by
  unfold vJ at hx;obtain⟨i,hi⟩:=dS.1 hx;rw[List.getElem?_zipWith]at hi;cases h1:v.keys[i]? with
  | none=>rw[h1]at hi;cases hi
  | some a =>
   cases h2:v.kids[i]? with
   | none=>rw[h1,h2]at hi;cases hi
   | some y =>
    rw[h1,h2]at hi;cases hi;refine .mk (by simp[yV]) (by simp[yV]) fun z hz => ?_;simp only[yV,lN,bM,List.not_mem_nil,or_false]at hz;rcases hz with rfl|rfl
    ·exact zEV a 0
    exact hf2 _ (bH h2)) (by omega)
 generalize vJ v=vs at *;simp only[iK]at hl;refine AW.skip (AW.seq (rgn [] [[],[2,4,7,8,18]] ?_));iterate 2 refine op3 ?_
 refine qA (cnd ?_ ?_)
 ·intro h18;try simp at h18
 intro h18;try simp at h18
 refine AW.skip (rgn [] [[]] ?_);refine op3 ?_;refine qA (AW.seq (rgn [] [[],[],[],[4,7,8,9,26,27,28]] ?_));iterate 4 refine op3 ?_
 refine qA (AW.block ?_);refine lJ 9 100 31 9 (by simp) (by simp) (by conv=>lhs;simp) ?_;refine AW.loop (α:=Nat) (fun k=>k<=v.keys.length) (fun k=>⟨qZ 51 [(4,.ptr 4 0),(7,.ptr 7 0),(8,.ptr 8 0),(9,.ms 100),(26,.p (.sl 1 (v.keys.map PD.str))),(27,.p (.int .i64 v.keys.length)),(28,.p (.int .i64 k))],[],[(4,.vars 61 [.p (.int .u64 m)]),(7,.vars 31 v.cells),(8,.vars 31 [.p (.int .i64 0),.p (.int .u64 0),.p (.bool false),.p (.str []),.p (.int .i64 0),.p (.str []),.nilsl,.nilsl,.p (.int .i64 0)]),(100,.row 31 9 ((vs.map Val.enc).take k))],0⟩) (fun k=>v.keys.length-k) (0) (by omega) ⟨qE (by simp),rfl,by simp,by simp⟩ ?_;rintro k hkk;refine rgn [] [[]] ?_;refine op3 ?_;refine qA (AW.seq (cnd ?_ ?_))
 ·intro h29;try simp at h29
  obtain⟨a,ha⟩:∃ a,v.keys[k]?=some a:=⟨v.keys[k]'(by omega),by simp[show k<v.keys.length by omega]⟩;obtain⟨x,hx⟩:∃ x,v.kids[k]?=some x:=⟨v.kids[k]'(by omega),by simp[show k<v.kids.length by omega]⟩;have hv:=hvg k a x ha hx;have hgp:(vs.map Val.enc)[k]?=some (yV a x).enc:=by rw[bG,hv];rfl
  have htk:(vs.map Val.enc).take k++[(yV a x).enc]=(vs.map Val.enc).take (k+1):=by rw[bX,hgp];rfl
  have hw:=qEO (G:=G) a 0;simp only[iK]at htk hw;refine AW.skip (AW.seq (AW.block (rgn [.str a] [[],[],[],[],[4,7,8,9,10,11,26,27,28]] ?_)));iterate 5 refine op3 ?_ (hv:=by first|exact True.intro|((simp[ha]);done)|omega|simp)
  refine qA ?_;refine lR mixed 14 [[9],[],[],[11],[35,36],[7],[38],[10],[39,40],[41],[37,42],[34,43],[44],[33,45]] [] (by kernel_rfl) ?_;refine iN tok (hv:=by first|exact True.intro|exact hw|(simp[yV,dc0];done)|(simp[hx];done)|(simp[hx];omega)|(simp;done);done|omega|simp) (k := ?_);refine nB tok [.str [107,101,121],.str [118,97,108,117,101]] rfl rfl rfl rfl rfl rfl rfl (by conv=>lhs;simp) (by simp) (by decide) (by decide) 51 (by simp) (by kernel_rfl) (by conv=>lhs;simp) ?_;iterate 2 refine iN tok (hv:=by first|exact True.intro|exact hw|(simp[yV,dc0];done)|(simp[hx];done)|(simp[hx];omega)|(simp;done);done|omega|simp) (k := ?_)
  refine iW tok (orc:=[.nilp,(wM a 0).enc]) (hv:=by first|exact True.intro|exact hw|(simp[yV,dc0];done)|(simp[hx];done)|(simp[hx];omega)|(simp;done);done|omega|simp) (k := ?_);iterate 3 refine iN tok (hv:=by first|exact True.intro|exact hw|(simp[yV,dc0];done)|(simp[hx];done)|(simp[hx];omega)|(simp;done);done|omega|simp) (k := ?_)
  refine iW tok (orc:=[x.enc]) (hv:=by first|exact True.intro|exact hw|(simp[yV,dc0];done)|(simp[hx];done)|(simp[hx];omega)|(simp;done);done|omega|simp) (k := ?_);refine iN tok (hv:=by first|exact True.intro|exact hw|(simp[yV,dc0];done)|(simp[hx];done)|(simp[hx];omega)|(simp;done);done|omega|simp) (k := ?_);refine nB tok [(wM a 0).enc,x.enc] rfl rfl rfl rfl rfl rfl rfl (by conv=>lhs;simp) (by simp) (by decide) (by decide) 510 (by simp) (by kernel_rfl) (by conv=>lhs;simp) ?_;refine iN tok (hv:=by first|exact True.intro|exact hw|(simp[yV,dc0];done)|(simp[hx];done)|(simp[hx];omega)|(simp;done);done|omega|simp) (k := ?_);iterate 2 refine iW tok (orc:=[(yV a x).enc]) (hv:=by first|exact True.intro|exact hw|(simp[yV,dc0];done)|(simp[hx];done)|(simp[hx];omega)|(simp;done);done|omega|simp) (k := ?_)
  refine wI.nil (by kernel_rfl) ⟨by kernel_rfl, ?_⟩;refine qB.run [[4,7,8,9,26,27,28]] ?_;refine op3 ?_;refine qJ ?_;refine qB.take 46 100 (by conv=>lhs;simp) ?_;refine qB.nil ?_;refine rgz [] [[],[4,7,8,9,26,27,28]] ?_;iterate 2 refine op3 ?_
  refine qA ?_;exact⟨k+1,by omega,by omega,qE (by simp[htk]),rfl,by simp[htk],by simp[htk]⟩
 intro h29;try simp at h29
 obtain rfl:k=v.keys.length:=by omega
 have hall:(vs.map Val.enc).take v.keys.length=vs.map Val.enc:=bK (by simp[hvl]);simp only[hall];refine AW.exit ?_;simp;refine rgn [.nilp,(yJ vs m).enc] [[]] ?_;refine op3 ?_ (hv:=by first|exact True.intro|exact hl|(simp at hl ⊢; exact hl);done|omega|simp);refine qJ ?_;refine qB.freeze 100 (by conv=>lhs;simp) ?_;refine qB.run [[],[8,50],[8]] ?_;iterate 3 refine op3 ?_ (hv:=by first|exact True.intro|exact hl|(simp at hl ⊢; exact hl);done|omega|simp)
 exact qA (AW.ret qI)
def zVH (u:Bool):V:=if u then .ptr 2 0 else .p .nilp
def qGZ (u:Bool) (bs:List UInt8):List (Nat × Box):=[(2,.vars 163 [zVH u,.ms 3]),(3,.row 5 1 (qQ bs))]
theorem zFY:(Tryz.prog.info? 163).map (·.size)=some 2:=by kernel_rfl
theorem zVG:liesAt Tryz.prog Tryz.prog.depth 163 (2 / Tryz.prog.cellsOf 163) 0 163 1=true:=by kernel_rfl
section
set_option maxHeartbeats 1000000 in
theorem zZB (b:Nat) (w:World) (h0:w.cell? ⟨b,0,none⟩=some (.pointer (some ⟨b,0,none⟩))) :
  Calls Tryz.prog 193 #[.pointer (some ⟨b,0,none⟩)] w fun e w'=>e = .returned (.tuple #[])/\w'=w:=by
 obtain⟨j,hj,_⟩:=bF.1 zFY;go_enter Tryz.func193,Tryz.ntmps193
 go_wp2
 rw[Lib.run_neq_ptr_same w _ Tryz.underlying161 hj];go_wp2
 go_end0
 exact⟨rfl,rfl⟩
set_option maxHeartbeats 1000000 in
theorem zUT (b:Nat) (w:World) (h0:w.cell? ⟨b,0,none⟩=some (.pointer none)) (hsh:w.shape? b=some (163,2)) (hfz:w.frozen? ⟨b,0,none⟩=false) :
  Calls Tryz.prog 193 #[.pointer (some ⟨b,0,none⟩)] w fun e w'=>e = .returned (.tuple #[])/\w'=w.setCell ⟨b,0,none⟩ (.pointer (some ⟨b,0,none⟩)):=by
 obtain⟨j,hj,hjs⟩:=bF.1 zFY;go_enter Tryz.func193,Tryz.ntmps193
 go_wp2
 rw[Lib.run_to_unsafe w ⟨b,0,none⟩ Tryz.underlying161 Tryz.underlying241 hj (by rw[hjs];decide) hsh (Nat.zero_lt_succ 1)];simp only[Result.andThen];rw[Oper.upon_value];go_wp2
 rw[run_callFunc_extern Tryz.func220 (by kernel_rfl) (by kernel_rfl) (by kernel_rfl) (e:=Extern.AbiNoEscape.same) (by kernel_rfl)];rw[Lib.run_noEscape];simp only[Result.andThen];rw[Oper.upon_value];go_wp2
 rw[Lib.run_from_unsafe w ⟨b,0,none⟩ Tryz.underlying241 Tryz.underlying161 hj hsh zVG];simp only[Result.andThen];rw[Oper.upon_value];go_wp2
 go_end0
 exact⟨rfl,rfl⟩
end
theorem qMK (u:Bool) (bs:List UInt8):AX Tryz.prog G 193 [.ptr 2 0] (qGZ u bs) (.tuple []) [2,3] (qGZ true bs):=by
 refine⟨kO Tryz.func193 (by kernel_rfl) rfl,fun M μ w vs hg rel => ?_⟩;obtain⟨l⟩:=vs;have hsz:l.length=1:=by simpa using rel.slots.1
 match l,hsz with
 | [v],_ =>
 have hv:=rel.slots.2 0 v (.ptr 2 0) rfl rfl;cases hv with
 | @ptr _ _ b hb =>
 have hbx:=rel.box 2 (.vars 163 [zVH u,.ms 3]) (by simp[qGZ]);cases hbx with
 | @vars _ _ b' arr h0 hh hs ho hc =>
 rw[hb]at h0;cases h0;obtain⟨x,y,rfl⟩:∃ x y,arr = #[x,y]:=by
  obtain⟨l⟩:=arr;match l,hs with
  | [x,y],_=>exact⟨x,y,rfl⟩
 have hx:=hc 0 x (zVH u) rfl rfl;have hy:=hc 1 y (.ms 3) rfl rfl;have hfin:∀ w',Rel ⟨w.heap.size,w,M,μ,yI μ (qGZ u bs)⟩ M μ ⟨[.ptr 2 0],(qGZ u bs).map (·.1),qGZ true bs,0⟩ #[.pointer (some ⟨b,0,none⟩)] w' ->
   ∃ v M' μ',(Ending.returned (.tuple #[]):Ending) = .returned v/\Rel ⟨w.heap.size,w,M,μ,yI μ (qGZ u bs)⟩ M' μ' ⟨[.tuple []],[2,3],qGZ true bs,0⟩ #[v] w':=by
  intro w' r;refine⟨_,M,μ,rfl,{ r with slots:=⟨rfl,fun i u x hu hx => ?_⟩,pins:=fun _ _=>rfl }⟩;cases i with
  | zero=>simp at hu hx;subst hu;subst hx;exact .tuple rfl fun i u x hu=>by simp at hu
  | succ i=>simp at hx
 cases u with
 | true =>
  obtain rfl:x = .pointer (some ⟨b,0,none⟩):=by
   cases hx with
   | ptr h=>rw[hb]at h;cases h;rfl
  refine(zZB b w (by rw[zQ hh];rfl)).mono ?_;rintro e w' ⟨rfl,rfl⟩;exact hfin _ rel
 | false =>
  obtain rfl:x = .pointer none:=by
   cases hx with
   | p h=>cases h;rfl
  refine(zUT b w (by rw[zQ hh];rfl) (by simp[World.shape?,hh]) (by simp[World.frozen?,hh])).mono ?_;rintro e w' ⟨rfl,rfl⟩;refine hfin _ ?_;have ht:Turned w (w.setCell ⟨b,0,none⟩ (.pointer (some ⟨b,0,none⟩))) b :=
   ⟨rfl,rfl,rfl,by simp[World.setCell],fun k hk=>RowKit.Below.heap_setCell w ⟨b,0,none⟩ _ k hk⟩
  have:=rel.write (id:=2) (bx := .vars 163 [zVH true,.ms 3]) (by simp[qM,qGZ]) hb ht (.vars (arr := #[.pointer (some ⟨b,0,none⟩),y]) hb (by simp only[World.setCell,Array.getElem?_modify,bE,hh];simp) rfl (fun i u hu => ?_) (fun i u x hu hx => ?_))
  ·simpa[qGZ,zO]using this
  ·match i,hu with
   | 0,hu=>simp at hu;subst hu;rfl
   | 1,hu=>exact ho 1 u (by simpa using hu)
   | i+2,hu=>simp at hu
  match i,hu,hx with
  | 0,hu,hx=>simp at hu hx;subst hu;subst hx;exact .ptr hb
  | 1,hu,hx=>simp at hu hx;subst hu;subst hx;exact hy
  | i+2,hu,hx=>simp at hu
theorem zJH (bs:List UInt8):AX Tryz.prog G 193 [.ptr 2 0] [(2,.vars 163 [.p .nilp,.ms 3]),(3,.row 5 1 (qQ bs))] (.tuple []) [2,3] [(2,.vars 163 [.ptr 2 0,.ms 3]),(3,.row 5 1 (qQ bs))]:=qMK false bs
theorem zUU (bs:List UInt8):AX Tryz.prog G 193 [.ptr 2 0] [(2,.vars 163 [.ptr 2 0,.ms 3]),(3,.row 5 1 (qQ bs))] (.tuple []) [2,3] [(2,.vars 163 [.ptr 2 0,.ms 3]),(3,.row 5 1 (qQ bs))]:=qMK true bs
open Go.Shelf Go.RowKit
section
variable {P:Program} {ρ:Ren}
abbrev qVF (g:Nat) (w w':World):Prop:=Kept (fun k=>k=g\/w.heap.size<=k) w w'
theorem qNR (g:Nat) (w:World):qVF g w w.drew:=⟨rfl,rfl,rfl,bP _,fun _ _=>rfl⟩
theorem zDW (g:Nat) (w:World) (n:Nat):qVF g w (w.drew.freeze ⟨g,0,none⟩ n):=by
 unfold World.freeze;split
 ·exact qNR g w
 exact⟨rfl,rfl,rfl,by simp only[Array.size_modify];exact bP _,fun k hk=>by
  simp only[Array.getElem?_modify];rw[bD (by omega)];rfl⟩
theorem qSX (g:Nat) (w:World) (o:Obj):qVF g w (w.alloc o).drew:=⟨rfl,rfl,rfl,by show w.heap.size<=(w.heap.push o).size;simp,fun k hk=>by
 show(w.heap.push o)[k]?=_
 rw[Array.getElem?_push,bD (by omega)]⟩
theorem zDX (g:Nat) (w:World) (o:Obj):qVF g w (w.drew.alloc o):=qSX g w o
set_option maxHeartbeats 1000000 in
theorem zZF (L:Lays.n169 P ρ) (X:Builder.Extra P ρ) (b g cap:Nat) (p:Value) (cur:Array Value) (l:List UInt8) (w:World) (hbk:w.heap[b]?=some (.cells #[p,.slice (some ⟨g,0,none⟩) l.length cap] (ρ.t 72) (0,0)))
  (hg:w.heap[g]?=some (.cells cur (ρ.t 5) (0,0))) (hnc:l.length<=cap) (hcm:cap<=maxLen) (hcs:cur.size=cap) (hcells:∀ (j:Nat) (x:UInt8),l[j]?=some x->cur[j]?=some (Value.int .u8 x.toNat)) (h0:l≠[]) :
  Calls P (ρ.f 169) #[.pointer (some ⟨b,0,none⟩)] w fun e w'=>e = .returned (.string ⟨l.toArray⟩)/\qVF g w w':=by
 have hl0:l.length≠0:=by simpa using h0
 have c1:w.drew.cell? ⟨b,1,none⟩=some (.slice (some ⟨g,0,none⟩) l.length cap):=by
  have:w.drew.heap[b]?=some (.cells #[p,.slice (some ⟨g,0,none⟩) l.length cap] (ρ.t 72) (0,0)):=hbk;rw[Lib.cell_of_heap this];rfl
 have hSD:(Builtin.unsafeSliceData_ #[(ρ.t 37)] (ρ.t 127) #[.slice (some ⟨g,0,none⟩) l.length cap]).run P w.drew = .ok (.pointer (some ⟨g,0,none⟩)) w.drew :=
  Lib.run_unsafeSliceData_row _ _ _ _ _ _ (by omega)
 have hUS:(Builtin.unsafeString_ #[(ρ.t 127),(ρ.t 3)] (ρ.t 9) #[.pointer (some ⟨g,0,none⟩),.int .i64 l.length]).run P w.drew = .ok (.string ⟨l.toArray⟩) (w.drew.freeze ⟨g,0,none⟩ l.length):=by
  refine Lib.run_unsafeString_row w.drew (ρ.t 127) (ρ.t 3) (ρ.t 9) (ρ.t 5) L.t127 X.cellsByte g cur.size (by have hg':w.drew.heap[g]?=some (.cells cur (ρ.t 5) (0,0)):=hg;simp[World.shape?,hg']) l h0 (by omega) (by unfold maxLen at hcm;omega) ?_;intro j x hx;have hg':w.drew.heap[g]?=some (.cells cur (ρ.t 5) (0,0)):=hg;rw[jX,dK,Lib.cell_of_heap hg'];exact hcells j x hx
 have mixed:=L.mixed;have t72:=L.t72;have a72:=L.a72;have z72:=L.z72;have v72:=L.v72;have u72:=run_underlying L.t72;have t70:=L.t70;have a70:=L.a70;have z70:=L.z70;have v70:=L.v70;have u70:=run_underlying L.t70;have t37:=L.t37;have a37:=L.a37;have z37:=L.z37;have v37:=L.v37;have u37:=run_underlying L.t37;have t127:=L.t127;have a127:=L.a127;have z127:=L.z127;have v127:=L.v127;have u127:=run_underlying L.t127;have t3:=L.t3;have a3:=L.a3;have z3:=L.z3;have v3:=L.v3;have u3:=run_underlying L.t3;have t9:=L.t9;have a9:=L.a9;have z9:=L.z9;have v9:=L.v9;have u9:=run_underlying L.t9;have t5:=X.t5;have a5:=X.a5;have z5:=X.z5;have v5:=X.v5;have u5:=run_underlying X.t5;go_enter L.f169,Body.n169_ntmps ρ
 go_wp2
 go_region_o
 all_goals (go_wp2;go_ret;exact⟨rfl,zDW g w _⟩)
set_option maxHeartbeats 2000000 in
theorem zZG (L:Lays.n169 P ρ) (X:Builder.Extra P ρ) (b:Nat) (p:Value) (w:World) (hbk:w.heap[b]?=some (.cells #[p,.slice none 0 0] (ρ.t 72) (0,0))) :
  Calls P (ρ.f 169) #[.pointer (some ⟨b,0,none⟩)] w fun e w'=>e = .returned (.string ⟨#[]⟩)/\qVF w.heap.size w w':=by
 have hUS:=Any.unsafeString_none L X;have c1:w.drew.cell? ⟨b,1,none⟩=some (.slice none 0 0):=by
  have:w.drew.heap[b]?=some (.cells #[p,.slice none 0 0] (ρ.t 72) (0,0)):=hbk;rw[Lib.cell_of_heap this];rfl
 have hSD:(Builtin.unsafeSliceData_ #[(ρ.t 37)] (ρ.t 127) #[.slice none 0 0]).run P w.drew = .ok (.pointer none) w.drew:=rfl;have mixed:=L.mixed;have t72:=L.t72;have a72:=L.a72;have z72:=L.z72;have v72:=L.v72;have u72:=run_underlying L.t72;have t70:=L.t70;have a70:=L.a70;have z70:=L.z70;have v70:=L.v70;have u70:=run_underlying L.t70;have t37:=L.t37;have a37:=L.a37;have z37:=L.z37;have v37:=L.v37;have u37:=run_underlying L.t37;have t127:=L.t127;have a127:=L.a127;have z127:=L.z127;have v127:=L.v127;have u127:=run_underlying L.t127;have t3:=L.t3;have a3:=L.a3;have z3:=L.z3;have v3:=L.v3;have u3:=run_underlying L.t3;have t9:=L.t9;have a9:=L.a9;have z9:=L.z9;have v9:=L.v9;have u9:=run_underlying L.t9;have t5:=X.t5;have a5:=X.a5;have z5:=X.z5;have v5:=X.v5;have u5:=run_underlying X.t5;go_enter L.f169,Body.n169_ntmps ρ
 go_wp2
 go_region_o
 all_goals (go_wp2;go_ret;exact⟨rfl,qNR _ w⟩)
set_option maxHeartbeats 2000000 in
theorem zVF (L:Lays.n169 P ρ) (X:Builder.Extra P ρ) (b g:Nat) (p:Value) (cur:Array Value) (w:World) (hlt:b<w.heap.size) (hbk:w.heap[b]?=some (.cells #[p,.slice (some ⟨g,0,none⟩) 0 0] (ρ.t 72) (0,0))) (hg:w.heap[g]?=some (.cells cur (ρ.t 5) (0,0))) :
  Calls P (ρ.f 169) #[.pointer (some ⟨b,0,none⟩)] w fun e w'=>e = .returned (.string ⟨#[]⟩)/\qVF g w w':=by
 have hUS:=Any.unsafeString_none L X;have c1:w.drew.cell? ⟨b,1,none⟩=some (.slice (some ⟨g,0,none⟩) 0 0):=by
  have:w.drew.heap[b]?=some (.cells #[p,.slice (some ⟨g,0,none⟩) 0 0] (ρ.t 72) (0,0)):=hbk;rw[Lib.cell_of_heap this];rfl
 have hSD:(Builtin.unsafeSliceData_ #[(ρ.t 37)] (ρ.t 127) #[.slice (some ⟨g,0,none⟩) 0 0]).run P w.drew = .ok (.pointer (some ⟨w.drew.heap.size,0,none⟩)) (w.drew.alloc (.view ⟨g,0,none⟩ (ρ.t 5))) :=
  Lib.run_unsafeSliceData_zero w.drew _ _ (ρ.t 5) L.t127 ⟨g,0,none⟩ 0 ((ρ.t 5),cur.size) (by have hg':w.drew.heap[g]?=some (.cells cur (ρ.t 5) (0,0)):=hg;simp[World.shape?,hg'])
 have c2:(w.drew.alloc (.view ⟨g,0,none⟩ (ρ.t 5))).cell? ⟨b,1,none⟩=some (.slice (some ⟨g,0,none⟩) 0 0):=by
  have:(w.drew.alloc (.view ⟨g,0,none⟩ (ρ.t 5))).heap[b]?=_:=(Lib.alloc_old w.drew _ b hlt).trans hbk;rw[Lib.cell_of_heap this];rfl
 have c3:(w.alloc (.view ⟨g,0,none⟩ (ρ.t 5))).drew.cell? ⟨b,1,none⟩=some (.slice (some ⟨g,0,none⟩) 0 0):=c2;have c0:w.cell? ⟨b,1,none⟩=some (.slice (some ⟨g,0,none⟩) 0 0):=c1;have mixed:=L.mixed;have t72:=L.t72;have a72:=L.a72;have z72:=L.z72;have v72:=L.v72;have u72:=run_underlying L.t72;have t70:=L.t70;have a70:=L.a70;have z70:=L.z70;have v70:=L.v70;have u70:=run_underlying L.t70;have t37:=L.t37;have a37:=L.a37;have z37:=L.z37;have v37:=L.v37;have u37:=run_underlying L.t37;have t127:=L.t127;have a127:=L.a127;have z127:=L.z127;have v127:=L.v127;have u127:=run_underlying L.t127;have t3:=L.t3;have a3:=L.a3;have z3:=L.z3;have v3:=L.v3;have u3:=run_underlying L.t3;have t9:=L.t9;have a9:=L.a9;have z9:=L.z9;have v9:=L.v9;have u9:=run_underlying L.t9;have t5:=X.t5;have a5:=X.a5;have z5:=X.z5;have v5:=X.v5;have u5:=run_underlying X.t5;go_enter L.f169,Body.n169_ntmps ρ
 go_wp2
 go_region_o
 all_goals (go_wp2;go_ret;first|exact⟨rfl,qSX g w _⟩|exact⟨rfl,zDX g w _⟩)
set_option maxHeartbeats 2000000 in
theorem zVE (L:Lays.n169 P ρ) (X:Builder.Extra P ρ) (b g cap:Nat) (p:Value) (w:World) (hc0:cap≠0) (hbk:w.heap[b]?=some (.cells #[p,.slice (some ⟨g,0,none⟩) 0 cap] (ρ.t 72) (0,0))) :
  Calls P (ρ.f 169) #[.pointer (some ⟨b,0,none⟩)] w fun e w'=>e = .returned (.string ⟨#[]⟩)/\qVF g w w':=by
 have hUS:=Any.unsafeString_none L X;have c1:w.drew.cell? ⟨b,1,none⟩=some (.slice (some ⟨g,0,none⟩) 0 cap):=by
  have:w.drew.heap[b]?=some (.cells #[p,.slice (some ⟨g,0,none⟩) 0 cap] (ρ.t 72) (0,0)):=hbk;rw[Lib.cell_of_heap this];rfl
 have hSD:(Builtin.unsafeSliceData_ #[(ρ.t 37)] (ρ.t 127) #[.slice (some ⟨g,0,none⟩) 0 cap]).run P w.drew = .ok (.pointer (some ⟨g,0,none⟩)) w.drew :=
  Lib.run_unsafeSliceData_row _ _ _ _ _ _ hc0
 clear hc0
 have mixed:=L.mixed;have t72:=L.t72;have a72:=L.a72;have z72:=L.z72;have v72:=L.v72;have u72:=run_underlying L.t72;have t70:=L.t70;have a70:=L.a70;have z70:=L.z70;have v70:=L.v70;have u70:=run_underlying L.t70;have t37:=L.t37;have a37:=L.a37;have z37:=L.z37;have v37:=L.v37;have u37:=run_underlying L.t37;have t127:=L.t127;have a127:=L.a127;have z127:=L.z127;have v127:=L.v127;have u127:=run_underlying L.t127;have t3:=L.t3;have a3:=L.a3;have z3:=L.z3;have v3:=L.v3;have u3:=run_underlying L.t3;have t9:=L.t9;have a9:=L.a9;have z9:=L.z9;have v9:=L.v9;have u9:=run_underlying L.t9;have t5:=X.t5;have a5:=X.a5;have z5:=X.z5;have v5:=X.v5;have u5:=run_underlying X.t5;go_enter L.f169,Body.n169_ntmps ρ
 go_wp2
 go_region_o
 all_goals (go_wp2;go_ret;exact⟨rfl,qNR _ w⟩)
end
theorem qGJ:Builder.Extra Tryz.prog mJ where
 sizeBuilder:=by kernel_rfl
 liesBuilder:=by kernel_rfl
 t5:=Tryz.underlying5
 a5:=Tryz.isAgg5
 z5:=Tryz.sizeOf5
 v5:=Tryz.zeroValue5
 infoByte:=by kernel_rfl
 cellsByte:=by kernel_rfl
 sizeByte:=by kernel_rfl
 neB5:=by decide
theorem qVB (u:Bool) (bs:List UInt8):AX Tryz.prog G 151 [.ptr 2 0] (qGZ u bs) (.p (.str bs)) [] []:=by
 refine⟨kO Tryz.func151 (by kernel_rfl) rfl,fun M μ w vs hg rel => ?_⟩;obtain⟨l⟩:=vs;have hsz:l.length=1:=by simpa using rel.slots.1
 match l,hsz with
 | [v],_ =>
 have hv:=rel.slots.2 0 v (.ptr 2 0) rfl rfl;cases hv with
 | @ptr _ _ b hb =>
 have hbx:=rel.box 2 (.vars 163 [zVH u,.ms 3]) (by simp[qGZ]);cases hbx with
 | @vars _ _ b' arr h0 hh hs ho hc =>
 rw[hb]at h0;cases h0;obtain⟨x,y,rfl⟩:∃ x y,arr = #[x,y]:=by
  obtain⟨l⟩:=arr;match l,hs with
  | [x,y],_=>exact⟨x,y,rfl⟩
 have hy:=hc 1 y (.ms 3) rfl rfl;have hblt:b<w.heap.size:=(cC.1 hh).1;have hfin:∀ (g:Nat) (w':World),(g<w.heap.size->yI μ (qGZ u bs) g/\∀ o,M g o=none)->bs.length<=maxLen->qVF g w w' ->
   ∃ v M' μ',(Ending.returned (.string ⟨bs.toArray⟩):Ending) = .returned v/\Rel ⟨w.heap.size,w,M,μ,yI μ (qGZ u bs)⟩ M' μ' ⟨[.p (.str bs)],[],[],0⟩ #[v] w':=by
  intro g w' hl hm hk;refine⟨_,M,μ,rfl, ?_⟩;have hko:∀ k,k<w.heap.size->k≠g->w'.heap[k]?=w.heap[k]?:=fun k h1 h2=>hk.block k (by omega);refine⟨fun b o v hv => ?_,fun _ _ _ h=>h,fun _ _ _=>rfl,⟨rfl,fun i u x hu hx => ?_⟩,fun _ h=>(by cases h),fun _ _ h=>(by cases h),by simp,fun _ _ _ h=>by simp[qM]at h,fun _ _ h=>by simp[qM]at h,hk.size, ?_⟩
  ·have h1:=rel.mem b o v hv;have hlt:=kE h1;exact(World.cell?_of_block (w:=w) (hko b hlt (by rintro rfl;rw[(hl hlt).2 o]at hv;cases hv))).trans h1
  ·cases i with
   | zero=>simp at hu hx;subst hu;subst hx;exact .p (.str (by simp) hm)
   | succ i=>simp at hx
  refine⟨hk.os,hk.tape,hk.output,hk.size,fun k h => ?_⟩;have h1:k<w.heap.size:=Nat.not_le.1 fun h'=>h (.inl h');exact hko k h1 (by rintro rfl;exact h (.inr (hl h1).1))
 have hrow:=rel.box 3 (.row 5 1 (qQ bs)) (by simp[qGZ]);have key:∃ g,(g<w.heap.size->yI μ (qGZ u bs) g/\∀ o,M g o=none)/\bs.length<=maxLen/\Calls Tryz.prog 151 #[.pointer (some ⟨b,0,none⟩)] w fun e w'=>e = .returned (.string ⟨bs.toArray⟩)/\qVF g w w':=by
  rcases hrow.cells with⟨he,hn,hval⟩|⟨g,cap,cur,hg0,hval,hgh,hcs,hlc,hcm,hone,hro⟩
  ·obtain rfl:bs=[]:=by simpa[qQ]using he
   have hy':y = .slice none 0 0:=by cases hy with|ms h _=>rw[h,hval]
   subst hy';exact⟨w.heap.size,fun h=>absurd h (Nat.lt_irrefl _),by simp,zZG mA qGJ b x w hh⟩
  have hy':y = .slice (some ⟨g,0,none⟩) bs.length cap:=by cases hy with|ms h _=>rw[h,hval];simp[qQ]
  subst hy';have hown:=rel.own 3 g (by simp[qM,qGZ]) (.inl hg0);refine⟨g,fun h=>⟨⟨3,by simp[qM,qGZ],.inl hg0⟩,hown.2.2⟩,by simp[qQ]at hlc;omega, ?_⟩;by_cases hbs:bs=[]
  ·subst hbs;by_cases hc0:cap=0
   ·subst hc0;exact zVF mA qGJ b g x cur w hblt hh hgh
   exact zVE mA qGJ b g cap x w hc0 hh
  refine zZF mA qGJ b g cap x cur bs w hh hgh (by simpa[qQ]using hlc) hcm (by simpa using hcs) (fun j z hz => ?_) hbs;have hjl:=(bB.1 hz).1;have hj:j<cur.size:=by rw[hcs];simp[qQ]at hlc;omega
  have:=hro.get j (.int .u8 z.toNat) 0 (.int .u8 z.toNat) cur[j] (by simp[qQ,hz]) rfl (by simp[qQ,bW,hjl,hj]);rw[Array.getElem?_eq_getElem hj];generalize cur[j]=q at this;cases this;rfl
 obtain⟨g,h1,h2,h3⟩:=key;refine h3.mono ?_;rintro e w' ⟨rfl,hk⟩;exact hfin g w' h1 h2 hk
theorem zQR (bs:List UInt8):AX Tryz.prog G 151 [.ptr 2 0] [(2,.vars 163 [.ptr 2 0,.ms 3]),(3,.row 5 1 (qQ bs))] (.p (.str bs)) [] []:=qVB true bs
@[simp] theorem wCT (a s:List UInt8):qQ (a++s)=qQ a++s.map fun b => .int .u8 b.toNat:=by simp[qQ]
theorem qVD (bs:List UInt8) (c:UInt8) (hb:bs.length<=100000000000):AX Tryz.prog G 157 [.ptr 2 0,.p (.int .u8 c.toNat)] [(2,.vars 163 [.p .nilp,.ms 3]),(3,.row 5 1 (qQ bs))] (.dead) [2] [(2,.vars 163 [.ptr 2 0,.ms 3]),(3,.row 5 1 (qQ (bs++[c])))]:=by
 refine AX.introU tok 900 Tryz.func157 (by kernel_rfl) rfl rfl ?_;simp only[Tryz.f157,qG,bA,bC];refine rgn [] [[0,1]] ?_;refine op3 ?_;refine qA (rgn [] [[]] ?_);refine op3 ?_;refine qJ ?_;refine qB.stepK [0,1] (zI rfl (zJH bs) (by simp)) (by conv=>lhs;simp) rfl ?_;refine qB.nil ?_;refine rgn [.int .u8 c.toNat] [[],[],[],[],[1,7,11],[],[],[7,14],[],[],[17]] ?_;iterate 11 refine op3 ?_
 refine qA (rgn [] [[]] ?_);refine op3 ?_;refine qA ?_;exact AW.ret zC
theorem zQV (bs s:List UInt8) (hb:bs.length<=100000000000) (hs:s.length<=100000000000):AX Tryz.prog G 149 [.ptr 2 0,.p (.str s)] [(2,.vars 163 [.p .nilp,.ms 3]),(3,.row 5 1 (qQ bs))] (.dead) [2] [(2,.vars 163 [.ptr 2 0,.ms 3]),(3,.row 5 1 (qQ (bs++s)))]:=by
 refine AX.introU tok 900 Tryz.func149 (by kernel_rfl) rfl rfl ?_;simp only[Tryz.f149,qG,bA,bC];refine rgn [] [[],[0,1]] ?_;iterate 2 refine op3 ?_
 refine qA (rgn [] [[]] ?_);refine op3 ?_;refine qJ ?_;refine qB.stepK [0,1] (zI rfl (zJH bs) (by simp)) (by conv=>lhs;simp) rfl ?_;refine qB.nil ?_;refine rgn [] [[],[],[],[],[1,8,12],[],[],[],[1,14,16],[1]] ?_;iterate 10 refine op3 ?_
 refine qA (rgn [] [[],[],[],[4,5]] ?_);iterate 4 refine op3 ?_
 refine qA ?_;exact AW.ret zC
theorem uQ (bs:List UInt8) (c:UInt8) (hb:bs.length<=100000000000):AX Tryz.prog G 157 [.ptr 2 0,.p (.int .u8 c.toNat)] [(2,.vars 163 [.ptr 2 0,.ms 3]),(3,.row 5 1 (qQ bs))] (.dead) [2] [(2,.vars 163 [.ptr 2 0,.ms 3]),(3,.row 5 1 (qQ (bs++[c])))]:=by
 refine AX.introU tok 900 Tryz.func157 (by kernel_rfl) rfl rfl ?_;simp only[Tryz.f157,qG,bA,bC];refine rgn [] [[0,1]] ?_;refine op3 ?_;refine qA (rgn [] [[]] ?_);refine op3 ?_;refine qJ ?_;refine qB.stepK [0,1] (zI rfl (zUU bs) (by simp)) (by conv=>lhs;simp) rfl ?_;refine qB.nil ?_;refine rgn [.int .u8 c.toNat] [[],[],[],[],[1,7,11],[],[],[7,14],[],[],[17]] ?_;iterate 11 refine op3 ?_
 refine qA (rgn [] [[]] ?_);refine op3 ?_;refine qA ?_;exact AW.ret zC
theorem uP (bs s:List UInt8) (hb:bs.length<=100000000000) (hs:s.length<=100000000000):AX Tryz.prog G 149 [.ptr 2 0,.p (.str s)] [(2,.vars 163 [.ptr 2 0,.ms 3]),(3,.row 5 1 (qQ bs))] (.dead) [2] [(2,.vars 163 [.ptr 2 0,.ms 3]),(3,.row 5 1 (qQ (bs++s)))]:=by
 refine AX.introU tok 900 Tryz.func149 (by kernel_rfl) rfl rfl ?_;simp only[Tryz.f149,qG,bA,bC];refine rgn [] [[],[0,1]] ?_;iterate 2 refine op3 ?_
 refine qA (rgn [] [[]] ?_);refine op3 ?_;refine qJ ?_;refine qB.stepK [0,1] (zI rfl (zUU bs) (by simp)) (by conv=>lhs;simp) rfl ?_;refine qB.nil ?_;refine rgn [] [[],[],[],[],[1,8,12],[],[],[],[1,14,16],[1]] ?_;iterate 10 refine op3 ?_
 refine qA (rgn [] [[],[],[],[4,5]] ?_);iterate 4 refine op3 ?_
 refine qA ?_;exact AW.ret zC
@[simp] theorem wCS:qQ []=[]:=rfl
theorem zPN (r:Int) (l:List Int) (h:Lib.encodeRuneZ r=l):qQ (Lib.encodeRune r)=l.map (PD.int .u8):=by
 subst h;simp only[qQ,Lib.encodeRune,dT];apply dE;intro x hx;obtain⟨h0,h1⟩:=Lib.encodeRuneZ_byte r x hx;simp[Function.comp];omega
theorem zAL {k:Nat} {n:Int} (h:0<=n/\n<k):∃ x:Fin k,n=x.val:=⟨⟨n.toNat,by omega⟩,by simp;omega⟩
theorem wAA (n:Int) (h:0<=n):IntKind.u8.wrap n=n % 256:=by simp[IntKind.wrap,IntKind.bits,IntKind.signed]
theorem zYI (n:Int) (h:0<=n/\n<32):IntKind.u8.wrap ↑(192 % 2 ^ IntKind.u8.bits ||| (IntKind.u8.wrap n % 2 ^ IntKind.u8.bits).toNat)=192+n:=by
 obtain⟨x,rfl⟩:=zAL h;revert x;decide +kernel
theorem zLH (n:Int) (h:0<=n/\n<16):IntKind.u8.wrap ↑(224 % 2 ^ IntKind.u8.bits ||| (IntKind.u8.wrap n % 2 ^ IntKind.u8.bits).toNat)=224+n:=by
 obtain⟨x,rfl⟩:=zAL h;revert x;decide +kernel
theorem zLG (n:Int) (h:0<=n/\n<8):IntKind.u8.wrap ↑(240 % 2 ^ IntKind.u8.bits ||| (IntKind.u8.wrap n % 2 ^ IntKind.u8.bits).toNat)=240+n:=by
 obtain⟨x,rfl⟩:=zAL h;revert x;decide +kernel
theorem zYU:∀ x:Fin 256,IntKind.u8.wrap ↑(128 % 2 ^ IntKind.u8.bits ||| (IntKind.u8.wrap ↑((((x.val:Nat):Int) % 2 ^ IntKind.u8.bits).toNat &&& 63 % 2 ^ IntKind.u8.bits) % 2 ^ IntKind.u8.bits).toNat)=128+((x.val:Nat):Int) % 64:=by decide +kernel
theorem qHV (n:Int) (h:0<=n):IntKind.u8.wrap ↑(128 % 2 ^ IntKind.u8.bits ||| (IntKind.u8.wrap ↑((IntKind.u8.wrap n % 2 ^ IntKind.u8.bits).toNat &&& 63 % 2 ^ IntKind.u8.bits) % 2 ^ IntKind.u8.bits).toNat)=128+n % 64:=by
 rw[wAA n h];obtain⟨x,hx⟩:=zAL (k:=256) (n:=n % 256) (by omega);rw[hx,zYU x,<-hx];omega
theorem zRT (r:Int):r.fdiv (2 ^ min 6 IntKind.i32.bits)=r / 64:=eA _ (by decide)
theorem zCP (r:Int):r.fdiv (2 ^ min 12 IntKind.i32.bits)=r / 4096:=eA _ (by decide)
theorem zCO (r:Int):r.fdiv (2 ^ min 18 IntKind.i32.bits)=r / 262144:=eA _ (by decide)
theorem zAY (bs:List UInt8) (r:Int) (hb:bs.length<=100000000000) (h0:128<=r) (h1:r<=1114111) (h2:r<55296\/57343<r):AX Tryz.prog G 227 [.ms 3,.p (.int .i32 r)] [(3,.row 5 1 (qQ bs))] (.ms 3) [] [(3,.row 5 1 (qQ bs++qQ (Lib.encodeRune r)))]:=by
 refine AX.introU tok 900 Tryz.func227 (by kernel_rfl) rfl rfl ?_;simp only[Tryz.f227,qG,bA,bC];have hw:IntKind.u32.wrap r=r:=by simp[IntKind.wrap,IntKind.bits,IntKind.signed];omega
 refine rgn [] [[0,1]] ?_;refine op3 ?_;refine qA (rgn [] [[],[],[0,1,5]] ?_);iterate 3 refine op3 ?_
 refine qA (AW.block (rgn [] [[],[],[0,1,5,11]] ?_));iterate 3 refine op3 ?_
 refine qA (cnd ?_ ?_)
 ·intro h11;try simp at h11
  rw[zPN r _ (Lib.encodeRuneZ_two (by omega) (by omega))];refine rgn [.int .u8 (192+r / 64),.int .u8 (128+r % 64)] [[],[],[],[],[1,14,18],[],[],[],[14,18,22],[],[24],[4]] ?_;iterate 12 refine op3 ?_ (hv:=by first|exact True.intro|(simp only[zRT,zCP,zCO];exact⟨zYI _ (by omega),qHV _ (by omega)⟩;done)|omega|simp)
  refine qA ?_;exact AW.ret zC
 intro h11;try simp at h11
 refine AW.seq (rgn [] [[],[],[0,1,5,25]] ?_);iterate 3 refine op3 ?_
 refine qA (cnd ?_ ?_)
 ·intro h25;try simp at h25
  refine AW.skip (cnd ?_ ?_)
  ·intro h25;try simp at h25
   rw[zPN r _ (Lib.encodeRuneZ_three (by omega))];refine rgn [.int .u8 (224+r / 4096),.int .u8 (128+r / 64 % 64),.int .u8 (128+r % 64)] [[],[],[],[],[1,34,38],[],[],[],[],[1,34,38,43],[],[],[],[34,38,43,47],[],[49],[4]] ?_;iterate 17 refine op3 ?_ (hv:=by first|exact True.intro|(simp only[zRT,zCP,zCO];exact⟨zLH _ (by omega),qHV _ (by omega),qHV _ (by omega)⟩;done)|omega|simp)
   refine qA ?_;exact AW.ret zC
  intro h25;try simp at h25
  refine rgn [] [[],[],[],[],[0,1,53,55],[],[0,1,50]] ?_;iterate 3 refine op3 ?_
  iterate 2 refine op4 ?_
  iterate 2 refine op3 ?_
  refine qA (cnd ?_ ?_)
  ·intro h50;try simp at h50
   rw[zPN r _ (Lib.encodeRuneZ_four (by omega) (by omega))];refine rgn [.int .u8 (240+r / 262144),.int .u8 (128+r / 4096 % 64),.int .u8 (128+r / 64 % 64),.int .u8 (128+r % 64)] [[],[],[],[],[1,57,61],[],[],[],[],[1,57,61,66],[],[],[],[],[1,57,61,66,71],[],[],[],[57,61,66,71,75],[57,76],[],[4]] ?_;iterate 22 refine op3 ?_ (hv:=by first|exact True.intro|(simp only[zRT,zCP,zCO];exact⟨zLG _ (by omega),qHV _ (by omega),qHV _ (by omega),qHV _ (by omega)⟩;done)|omega|simp)
   refine qA ?_;exact AW.ret zC
  intro h50;try simp at h50
  omega
 intro h25;try simp at h25
 refine rgz [] [[],[],[],[],[],[0,1,5,33],[0,1,5,25]] ?_;iterate 3 refine op3 ?_
 iterate 2 refine op4 ?_
 iterate 2 refine op3 ?_
 refine qA (cnd ?_ ?_)
 ·intro h25;try simp at h25
  rw[zPN r _ (Lib.encodeRuneZ_three (by omega))];refine rgn [.int .u8 (224+r / 4096),.int .u8 (128+r / 64 % 64),.int .u8 (128+r % 64)] [[],[],[],[],[1,34,38],[],[],[],[],[1,34,38,43],[],[],[],[34,38,43,47],[],[49],[4]] ?_;iterate 17 refine op3 ?_ (hv:=by first|exact True.intro|(simp only[zRT,zCP,zCO];exact⟨zLH _ (by omega),qHV _ (by omega),qHV _ (by omega)⟩;done)|omega|simp)
  refine qA ?_;exact AW.ret zC
 intro h25;try simp at h25
 refine rgn [] [[],[],[],[],[0,1,53,55],[],[0,1,50]] ?_;iterate 3 refine op3 ?_
 iterate 2 refine op4 ?_
 iterate 2 refine op3 ?_
 refine qA (cnd ?_ ?_)
 ·intro h50;try simp at h50
  rw[zPN r _ (Lib.encodeRuneZ_four (by omega) (by omega))];refine rgn [.int .u8 (240+r / 262144),.int .u8 (128+r / 4096 % 64),.int .u8 (128+r / 64 % 64),.int .u8 (128+r % 64)] [[],[],[],[],[1,57,61],[],[],[],[],[1,57,61,66],[],[],[],[],[1,57,61,66,71],[],[],[],[57,61,66,71,75],[57,76],[],[4]] ?_;iterate 22 refine op3 ?_ (hv:=by first|exact True.intro|(simp only[zRT,zCP,zCO];exact⟨zLG _ (by omega),qHV _ (by omega),qHV _ (by omega),qHV _ (by omega)⟩;done)|omega|simp)
  refine qA ?_;exact AW.ret zC
 intro h50;try simp at h50
 omega
theorem qJP (bs:List UInt8) (r:Int) (hb:bs.length<=100000000000) (h0:0<=r) (h1:r<=1114111) (h2:r<55296\/57343<r):AX Tryz.prog G 199 [.ms 3,.p (.int .i32 r)] [(3,.row 5 1 (qQ bs))] (.ms 3) [] [(3,.row 5 1 (qQ bs++qQ (Lib.encodeRune r)))]:=by
 refine AX.introU tok 900 Tryz.func199 (by kernel_rfl) rfl rfl ?_;simp only[Tryz.f199,qG,bA,bC];have hw:IntKind.u32.wrap r=r:=by simp[IntKind.wrap,IntKind.bits,IntKind.signed];omega
 have hw8:=wAA r h0;refine rgn [] [[0,1]] ?_;refine op3 ?_;refine qA (AW.seq (rgn [] [[],[],[0,1,7]] ?_));iterate 3 refine op3 ?_
 refine qA (cnd ?_ ?_)
 ·intro h7;try simp at h7
  rw[zPN r _ (Lib.encodeRuneZ_one (by omega) (by omega))];refine rgn [.int .u8 r] [[],[],[],[8,11],[],[4]] ?_;iterate 6 refine op3 ?_ (hv:=by first|exact True.intro|((rw[hw8];omega);done)|omega|simp)
  refine qA ?_;exact AW.ret zC
 intro h7;try simp at h7
 refine AW.skip (rgn [] [[],[]] ?_);iterate 2 refine op3 ?_
 refine qJ ?_;refine qB.stepK [15] (zI rfl (zAY bs r hb (by omega) h1 h2) (by simp)) (by conv=>lhs;simp) rfl ?_;refine qB.run [[4]] ?_;refine op3 ?_;refine qA ?_;exact AW.ret zC
theorem zWH (bs:List UInt8) (r:Int) (hb:bs.length<=100000000000) (h0:0<=r) (h1:r<=1114111) (h2:r<55296\/57343<r):AX Tryz.prog G 158 [.ptr 2 0,.p (.int .i32 r)] [(2,.vars 163 [.p .nilp,.ms 3]),(3,.row 5 1 (qQ bs))] (.dead) [2] [(2,.vars 163 [.ptr 2 0,.ms 3]),(3,.row 5 1 (qQ bs++qQ (Lib.encodeRune r)))]:=by
 refine AX.introU tok 900 Tryz.func158 (by kernel_rfl) rfl rfl ?_;simp only[Tryz.f158,qG,bA,bC];have hel:(Lib.encodeRune r).length<=4:=by simp only[Lib.encodeRune,cV];exact(Lib.encodeRuneZ_length r).2
 refine rgn [] [[],[0,1]] ?_;iterate 2 refine op3 ?_
 refine qA (rgn [] [[]] ?_);refine op3 ?_;refine qJ ?_;refine qB.stepK [0,1] (zI rfl (zJH bs) (by simp)) (by conv=>lhs;simp) rfl ?_;refine qB.nil ?_;refine rgn [] [[],[],[],[],[0,1,13],[0,1,6]] ?_;iterate 6 refine op3 ?_
 refine qA (rgn [] [[],[],[],[],[],[0,6,14,18,19]] ?_);iterate 6 refine op3 ?_
 refine qJ ?_;refine qB.stepK [0,6,14,20] (zI rfl (qJP bs r hb h0 h1 h2) (by simp)) (by conv=>lhs;simp) rfl ?_;refine qB.run [[],[],[0,6]] ?_;iterate 3 refine op3 ?_
 refine qA (rgn [] [[],[],[],[6,26],[],[],[29],[],[4,5]] ?_);iterate 9 refine op3 ?_
 refine qA ?_;exact AW.ret zC
theorem qGP (bs:List UInt8) (r:Int) (hb:bs.length<=100000000000) (h0:0<=r) (h1:r<=1114111) (h2:r<55296\/57343<r):AX Tryz.prog G 158 [.ptr 2 0,.p (.int .i32 r)] [(2,.vars 163 [.ptr 2 0,.ms 3]),(3,.row 5 1 (qQ bs))] (.dead) [2] [(2,.vars 163 [.ptr 2 0,.ms 3]),(3,.row 5 1 (qQ bs++qQ (Lib.encodeRune r)))]:=by
 refine AX.introU tok 900 Tryz.func158 (by kernel_rfl) rfl rfl ?_;simp only[Tryz.f158,qG,bA,bC];have hel:(Lib.encodeRune r).length<=4:=by simp only[Lib.encodeRune,cV];exact(Lib.encodeRuneZ_length r).2
 refine rgn [] [[],[0,1]] ?_;iterate 2 refine op3 ?_
 refine qA (rgn [] [[]] ?_);refine op3 ?_;refine qJ ?_;refine qB.stepK [0,1] (zI rfl (zUU bs) (by simp)) (by conv=>lhs;simp) rfl ?_;refine qB.nil ?_;refine rgn [] [[],[],[],[],[0,1,13],[0,1,6]] ?_;iterate 6 refine op3 ?_
 refine qA (rgn [] [[],[],[],[],[],[0,6,14,18,19]] ?_);iterate 6 refine op3 ?_
 refine qJ ?_;refine qB.stepK [0,6,14,20] (zI rfl (qJP bs r hb h0 h1 h2) (by simp)) (by conv=>lhs;simp) rfl ?_;refine qB.run [[],[],[0,6]] ?_;iterate 3 refine op3 ?_
 refine qA (rgn [] [[],[],[],[6,26],[],[],[29],[],[4,5]] ?_);iterate 9 refine op3 ?_
 refine qA ?_;exact AW.ret zC
theorem qPR (l:List UInt8):(Lib.decodeL l).1<=1114111:=qGF _ _
theorem qVG (hG:U8 G) (s:List UInt8) (hs:s≠[]):AFn Tryz.prog G 195 [.str s] (.tup [.int .i32 (Lib.decodeL s).1,.int .i64 (Lib.decodeL s).2]):=by
 refine lY (kO Tryz.func195 (by kernel_rfl) rfl) fun M w vs hg hmem hsz hrd => ?_;obtain⟨b,rfl,rfl,hm⟩:=zMN hsz hrd;refine(Any.utf8_DecodeRuneInString nH b w (zWV hG hg hmem)).mono ?_;rintro e w' ⟨rfl,hb⟩;have h0:b.size≠0:=fun h=>hs (bS (by simpa using h));have e:Lib.decodeGo b=Lib.decodeL b.data.toList:=by
  unfold Lib.decodeGo Lib.decodeL;rw[bD h0]
 rw[e];have h1:=qPR b.data.toList;have h2:=Lib.decodeL_le b.data.toList hs;have h3:b.data.toList.length<=maxLen:=by simpa using hm
 refine⟨_,rfl,.tup rfl fun i u d hu hd => ?_,hb⟩;match i,hu,hd with
 | 0,hu,hd=>simp at hu hd;subst hu;subst hd;exact .int (by rw[xC];simp only[kS];omega) (by rw[jI];simp only[kT];omega)
 | 1,hu,hd=>simp at hu hd;subst hu;subst hd;exact .int (by rw[xC];simp only[kS];omega) (by rw[jI];simp only[kT];unfold maxLen at h3;omega)
 | i+2,hu,hd=>simp at hu
theorem zPT (s:List UInt8) (pos:Nat):qAW s pos=Lib.decodeL (s.drop pos):=by
 unfold qAW Lib.decodeL;rw[Lib.decode_at,Lib.decode_at];have g:∀ k,(⟨s.toArray⟩:ByteArray).get! (pos+k)=(⟨(s.drop pos).toArray⟩:ByteArray).get! (0+k):=by
  intro k;show s.toArray[pos+k]! = (s.drop pos).toArray[0+k]!
  simp
 have g0:=g 0;have g1:=g 1;have g2:=g 2;have g3:=g 3;simp only[cH,dK]at g0 g1 g2 g3;have hsz:(⟨s.toArray⟩:ByteArray).size-pos=(⟨(s.drop pos).toArray⟩:ByteArray).size-0:=by simp[ByteArray.size]
 rw[hsz,g0,g1,g2,g3]
def qC (r:Nat):List UInt8 :=
 if r=34\/r=92 then 92::Lib.encodeRune r else if r=10 then[92,110] else if r=13 then[92,114] else if r=9 then[92,116]
 else if 32<=r/\r≠127 then Lib.encodeRune r else[92,117,48,48,qQB (r / 16),qQB (r % 16)]
theorem zJA (l:List UInt8):(Lib.decodeL l).1<55296\/57343<(Lib.decodeL l).1:=by
 rw[qPS l];unfold Lib.decodeN;have:=(l.getD 0 0).toNat_lt;repeat' split
 all_goals simp only
 all_goals omega
theorem wGQ (b:UInt8) (h:b.toNat<128):qC b.toNat=qb b:=by
 have henc:=zSS h;have key:∀ k:Fin 128,(k.val=34\/k.val=92)=(UInt8.ofNat k.val=34\/UInt8.ofNat k.val=92)/\(k.val=10)=(UInt8.ofNat k.val=10)/\(k.val=13)=(UInt8.ofNat k.val=13)/\(k.val=9)=(UInt8.ofNat k.val=9)/\(¬ (32<=k.val/\k.val≠127))=(UInt8.ofNat k.val<32\/UInt8.ofNat k.val=127):=by decide +kernel
 have k:=key ⟨b.toNat,h⟩;simp only[UInt8.ofNat_toNat]at k;obtain⟨k1,k2,k3,k4,k5⟩:=k;unfold qC qb;rw[henc];simp only[k1,k2,k3,k4,<-k5];split
 ·rfl
 split
 ·rfl
 split
 ·rfl
 split
 ·rfl
 split
 ·rfl
 rfl
theorem wBR (r:Nat) (h:128<=r):qC r=Lib.encodeRune r:=by
 unfold qC;rw[bD (by omega),bD (by omega),bD (by omega),bD (by omega),bE (by omega)]
theorem zHJ {l:List UInt8} (hne:l≠[]) (hv:Lib.validD l=true):xA l=qC (Lib.decodeL l).1++xA (l.drop (Lib.decodeL l).2)/\Lib.validD (l.drop (Lib.decodeL l).2)=true:=by
 obtain⟨b,t,rfl⟩:∃ b t,l=b::t:=by cases l with
  | nil=>exact absurd rfl hne
  | cons b t=>exact⟨b,t,rfl⟩
 by_cases hb:b.toNat<128
 ·rw[zJB hb,wGQ b hb];rw[Lib.validD_cons b t hb]at hv;exact⟨rfl,hv⟩
 rw[Lib.validD_step _ hne]at hv;split at hv
 ·cases hv
 rename_i hok;obtain⟨h1,h2⟩:=zQG (b::t) hne hok (by simpa using by omega);have henc:=Lib.encode_decode (b::t) hne hok;refine⟨?_,hv⟩;rw[wBR _ h2,henc];conv=>lhs;rw[<-cE (Lib.decodeL (b::t)).2 (b::t)]
 rw[qZL,zOB h1]
theorem wBQ (r:Nat):(qC r).length<=6:=by
 have:=(Lib.encodeRuneZ_length r).2;unfold qC;have h:(Lib.encodeRune r).length<=4:=by simpa only[Lib.encodeRune,cV]using this
 repeat' split
 all_goals simp <;> omega
theorem wGX:∀ k:Fin 16,([48,49,50,51,52,53,54,55,56,57,97,98,99,100,101,102]:List UInt8)[k.val]?=some (qQB k.val):=by decide +kernel
theorem wHI:∀ k:Fin 128,IntKind.i32.wrap ↑(k.val % 2 ^ IntKind.i32.bits &&& 15 % 2 ^ IntKind.i32.bits)=((k.val % 16:Nat):Int):=by decide +kernel
theorem shr4 (r:Nat):(r:Int).fdiv (2 ^ min 4 IntKind.i32.bits)=((r / 16:Nat):Int):=(eA _ (by decide)).trans (by show(r:Int) / 16=_;omega)
theorem zGH (s:List UInt8) (hv:Lib.validD s=true) (hs:s.length<=1000000000):AFn Tryz.prog G 115 [.str s] (.str (kQ s)):=by
 refine AFn.introU tok Tryz.func115 (by kernel_rfl) rfl rfl ?_;simp only[Tryz.f115,qG,bA,bC];refine rgn [] [[0]] ?_;refine op3 ?_;refine qA (rgn [] [[]] ?_);refine op3 ?_;refine qA ?_;refine lI 3 2 (by simp) (by conv=>lhs;simp) ?_;refine AW.beginBox 2 3 1 5 1 (by simp;exact⟨rfl,rfl⟩) (by simp) (by simp) (by conv=>lhs;simp) ?_;refine lB [] ?_;refine qB.stepK [0,3] (zI rfl (qVD [] 34 (by simp)) (by simp)) (by conv=>lhs;simp) rfl ?_;refine qB.nil ?_;refine AW.seq (rgn [] [[],[3,8]] ?_);iterate 2 refine op3 ?_
 refine qA (AW.block ?_);refine AW.loop (α:=Nat × List UInt8) (fun a=>a.1<=s.length/\Lib.validD (s.drop a.1)=true/\kQ s=a.2++(xA (s.drop a.1)++[34])/\a.2.length<=6 * a.1+1) (fun a=>⟨qZ 47 [(3,.ptr 2 0),(8,.it 8)],[],[(2,.vars 163 [.ptr 2 0,.ms 3]),(3,.row 5 1 (qQ a.2)),(8,.iter s a.1)],0⟩) (fun a=>s.length-a.1) ((0,[34])) ⟨by simp,by simpa using hv,by simp[kQ],by simp⟩ ⟨qE (by simp),rfl,by simp,by simp⟩ ?_;rintro⟨pos,out⟩ ⟨hp,hvp,hq,hol⟩;simp only at hp hvp hq hol;by_cases hs4:pos<s.length
 ·
  refine rgn [.bool true] [[],[]] ?_;iterate 2 refine oq1 tok hs4 ?_
  refine qA (AW.seq (cnd ?_ ?_))
  ·intro h10;try simp at h10
   have hne:s.drop pos≠[]:=by intro e;have:=congrArg List.length e;simp at this;omega
   obtain⟨hst,hvn⟩:=zHJ hne hvp;have hok:=zJA (s.drop pos);have hmx:=qPR (s.drop pos);have hwl:=Lib.decodeL_le (s.drop pos) hne;rw[<-zPT]at hst hvn hok hmx hwl;rw[bQ]at hwl;rw[dG]at hst hvn;have hdp:=qMI hs4;generalize qAW s pos=p at *;obtain⟨r,w⟩:=p;simp only at *;have hlen:=wBQ r;have hnext:kQ s=out++qC r++(xA (s.drop (pos+w))++[34]):=by rw[hq,hst];simp
   refine AW.skip (AW.block (rgn [] [[],[3,5,8]] ?_));iterate 2 refine op3 ?_
   refine qA (rgn [] [[]] ?_);refine op3 ?_;refine qA (AW.block (AW.seq (rgn [] [[],[3,5,8,12,30]] ?_)));iterate 2 refine op3 ?_
   refine qA (cnd ?_ ?_)
   ·intro h30;try simp at h30
    refine AW.skip (cnd ?_ ?_)
    ·intro h30;try simp at h30
     refine lB [] ?_;refine qB.stepK [3,5,8] (zI rfl (uQ out 92 (by omega)) (by simp)) (by conv=>lhs;simp) rfl ?_;refine qB.nil ?_;have hqc:qC r=92::Lib.encodeRune r:=by unfold qC;rw[bE (by omega)]
     refine rgz [] [[]] ?_;refine op3 ?_;refine qJ ?_;refine qB.stepK [3,8] (zI rfl (qGP (out++[92]) r (by simp;omega) (by omega) (by omega) (by omega)) (by simp)) (by conv=>lhs;simp) rfl ?_;refine qB.nil ?_;exact⟨(pos+w,out++qC r),⟨by simp only[];omega,hvn,hnext,by simp;omega⟩,by simp only[];omega,qE (by simp[hqc,qQ]),rfl,by simp[hqc,qQ],by simp[hqc,qQ]⟩
    intro h30;try simp at h30
    omega
   intro h30;try simp at h30
   refine rgz [] [[],[3,5,8,12,30]] ?_;iterate 2 refine op3 ?_
   refine qA (cnd ?_ ?_)
   ·intro h30;try simp at h30
    refine lB [] ?_;refine qB.stepK [3,5,8] (zI rfl (uQ out 92 (by omega)) (by simp)) (by conv=>lhs;simp) rfl ?_;refine qB.nil ?_;have hqc:qC r=92::Lib.encodeRune r:=by unfold qC;rw[bE (by omega)]
    refine rgz [] [[]] ?_;refine op3 ?_;refine qJ ?_;refine qB.stepK [3,8] (zI rfl (qGP (out++[92]) r (by simp;omega) (by omega) (by omega) (by omega)) (by simp)) (by conv=>lhs;simp) rfl ?_;refine qB.nil ?_;exact⟨(pos+w,out++qC r),⟨by simp only[];omega,hvn,hnext,by simp;omega⟩,by simp only[];omega,qE (by simp[hqc,qQ]),rfl,by simp[hqc,qQ],by simp[hqc,qQ]⟩
   intro h30;try simp at h30
   refine rgn [] [[],[3,5,8,12,36]] ?_;iterate 2 refine op3 ?_
   refine qA (cnd ?_ ?_)
   ·intro h36;try simp at h36
    have hqc:qC r=[92,110]:=by unfold qC;rw[bD (by omega),bE (by omega)]
    refine nF [] ?_;refine qB.stepK [3,8] (zI rfl (uP out [92,110] (by omega) (by simp)) (by simp)) (by conv=>lhs;simp) rfl ?_;refine qB.nil ?_;exact⟨(pos+w,out++qC r),⟨by simp only[];omega,hvn,hnext,by simp;omega⟩,by simp only[];omega,qE (by simp[hqc,qQ]),rfl,by simp[hqc,qQ],by simp[hqc,qQ]⟩
   intro h36;try simp at h36
   refine rgn [] [[],[3,5,8,12,39]] ?_;iterate 2 refine op3 ?_
   refine qA (cnd ?_ ?_)
   ·intro h39;try simp at h39
    have hqc:qC r=[92,114]:=by unfold qC;rw[bD (by omega),bD (by omega),bE (by omega)]
    refine nF [] ?_;refine qB.stepK [3,8] (zI rfl (uP out [92,114] (by omega) (by simp)) (by simp)) (by conv=>lhs;simp) rfl ?_;refine qB.nil ?_;exact⟨(pos+w,out++qC r),⟨by simp only[];omega,hvn,hnext,by simp;omega⟩,by simp only[];omega,qE (by simp[hqc,qQ]),rfl,by simp[hqc,qQ],by simp[hqc,qQ]⟩
   intro h39;try simp at h39
   refine rgn [] [[],[3,5,8,42]] ?_;iterate 2 refine op3 ?_
   refine qA (cnd ?_ ?_)
   ·intro h42;try simp at h42
    have hqc:qC r=[92,116]:=by unfold qC;rw[bD (by omega),bD (by omega),bD (by omega),bE (by omega)]
    refine nF [] ?_;refine qB.stepK [3,8] (zI rfl (uP out [92,116] (by omega) (by simp)) (by simp)) (by conv=>lhs;simp) rfl ?_;refine qB.nil ?_;exact⟨(pos+w,out++qC r),⟨by simp only[];omega,hvn,hnext,by simp;omega⟩,by simp only[];omega,qE (by simp[hqc,qQ]),rfl,by simp[hqc,qQ],by simp[hqc,qQ]⟩
   intro h42;try simp at h42
   refine AW.seq (rgn [] [[],[],[],[],[],[3,5,8,18]] ?_);iterate 3 refine op3 ?_
   iterate 2 refine op4 ?_
   refine op3 ?_;refine qA (cnd ?_ ?_)
   ·intro h18;try simp at h18
    have hqc:qC r=Lib.encodeRune r:=by unfold qC;rw[bD (by omega),bD (by omega),bD (by omega),bD (by omega),bE (by omega)]
    refine rgn [] [[]] ?_;refine op3 ?_;refine qJ ?_;refine qB.stepK [3,8] (zI rfl (qGP out r (by omega) (by omega) (by omega) (by omega)) (by simp)) (by conv=>lhs;simp) rfl ?_;refine qB.nil ?_;refine AW.exit ?_;simp;exact⟨pos+w,out++qC r,⟨by omega,hvn,by simpa using hnext,by simp;omega⟩,by omega,qE (by simp[hqc,qQ]),rfl,by simp[hqc,qQ],by simp[hqc,qQ]⟩
   intro h18;try simp at h18
   refine AW.skip ?_;have hqc:qC r=[92,117,48,48,qQB (r / 16),qQB (r % 16)]:=by unfold qC;rw[bD (by omega),bD (by omega),bD (by omega),bD (by omega),bD (by omega)]
   refine lB [] ?_;refine qB.stepK [3,5,8] (zI rfl (uP out [92,117,48,48] (by omega) (by simp)) (by simp)) (by conv=>lhs;simp) rfl ?_;refine qB.nil ?_;refine rgn [.int .u8 (qQB (r / 16)).toNat] [[],[],[]] ?_;iterate 3 refine op3 ?_ (hv:=by first|exact True.intro|(rw[shr4];exact⟨by omega,_,wGX ⟨r / 16,by omega⟩,rfl⟩;done)|omega|simp)
   refine qJ ?_;refine qB.stepK [3,5,8] (zI rfl (uQ (out++[92,117,48,48]) (qQB (r / 16)) (by simp;omega)) (by simp)) (by conv=>lhs;simp) rfl ?_;refine qB.nil ?_;refine rgz [.int .u8 (qQB (r % 16)).toNat] [[],[],[]] ?_;iterate 3 refine op3 ?_ (hv:=by first|exact True.intro|(rw[wHI ⟨r,by omega⟩];exact⟨by omega,_,wGX ⟨r % 16,by omega⟩,rfl⟩;done)|omega|simp)
   refine qJ ?_;refine qB.stepK [3,8] (zI rfl (uQ (out++[92,117,48,48,qQB (r / 16)]) (qQB (r % 16)) (by simp;omega)) (by simp)) (by conv=>lhs;simp) rfl ?_;refine qB.nil ?_;exact⟨(pos+w,out++qC r),⟨by simp only[];omega,hvn,hnext,by simp;omega⟩,by simp only[];omega,qE (by simp[hqc,qQ]),rfl,by simp[hqc,qQ],by simp[hqc,qQ]⟩
  intro h10;try simp at h10
 ·
  refine rgn [.bool false] [[],[]] ?_;iterate 2 refine oq1 tok hs4 ?_
  refine qA (AW.seq (cnd ?_ ?_))
  ·intro h10;try simp at h10
  intro h10;try simp at h10
  refine AW.exit ?_;simp;obtain rfl:pos=s.length:=by omega
  simp only[fP,xA,List.flatMap_nil,dH]at hq;refine lB [] ?_;refine qB.stepK [3] (zI rfl (uQ out 34 (by omega)) (by simp)) (by conv=>lhs;simp) rfl ?_;refine qB.nil ?_;refine lB [] ?_;refine qB.stepK [46] (zI rfl (zQR (out++[34])) (by simp)) (by conv=>lhs;simp) rfl ?_;refine qB.run [[2]] ?_;refine op3 ?_;refine qA ?_;exact AW.ret (qI (k:=by simp[hq]))
attribute [local simp] uL
end Go.Proofs.YtgcbapchinideaaGreatDoor
namespace Go.Proofs.YtgcbapchinideaaGreatDoor
open Sy Go
set_option maxRecDepth 100000
set_option maxHeartbeats 4000000
variable {G:qT}
theorem qTF:Builder.Extra Tryz.prog mK where
 sizeBuilder:=by kernel_rfl
 liesBuilder:=by kernel_rfl
 t5:=Tryz.underlying5
 a5:=Tryz.isAgg5
 z5:=Tryz.sizeOf5
 v5:=Tryz.zeroValue5
 infoByte:=by kernel_rfl
 cellsByte:=by kernel_rfl
 sizeByte:=by kernel_rfl
 neB5:=by decide
def zQK (s:List UInt8):ByteArray:=⟨s.toArray⟩
theorem zZJ {ba:ByteArray} {s:List UInt8} (h:ba.data.toList=s):ba=zQK s:=by
 subst h;rfl
theorem zGA (l:List (List UInt8)):(l.map zQK).map (·.data.toList)=l:=by
 rw[dT];conv=>rhs;rw[<-List.map_id l]
 exact dE fun s _=>by simp[zQK]
theorem zMR (l:List (List UInt8)) (sep:List UInt8) (hN:l.length<=140737488355328) (h:(Lib.join l sep).length<=140737488355328):AFn Tryz.prog G 135 [.sl 1 (l.map PD.str),.str sep] (.str (Lib.join l sep)):=by
 refine lY (kO Tryz.func135 (by kernel_rfl) rfl) fun M w vs hg hmem hsz hrd => ?_;obtain⟨vl⟩:=vs;match vl,hsz with
 | [u,v],_ =>
 have h1:=hrd 0 u _ rfl rfl;have h2:=hrd 1 v _ rfl rfl;cases h2 with
 | @str sb _ hsb hsl =>
 subst hsb;cases h1 with
 | @sl a n c _ _ b o hn hnc hcm ha h5 h6 h7 =>
 rw[cV]at hn;have hml:(Lib.join l sb.data.toList).length<=maxLen:=by simp only[maxLen];omega
 by_cases hk:l=[]
 ·subst hk;simp at hn;subst hn;refine(Any.strings_Join_none nJ qTF a c sb w).mono ?_;rintro e w' ⟨rfl,rfl⟩;exact⟨_,rfl,.str (by simp[Lib.join_nil]) (by simpa using hml),RowKit.Below.refl _ _⟩
 have hpos:0<l.length:=bV.2 hk;obtain rfl:=ha (by omega);have hcell:∀ j x,(l.map zQK)[j]?=some x->w.cell? ⟨b,o+j,none⟩=some (.string x):=fun j x hx=>by
  rw[bG,bF]at hx;obtain⟨s,hs,rfl⟩:=hx;have hgt:(l.map PD.str)[j]?=some (.str s):=by rw[bG,hs];rfl
  obtain⟨u,hu,_⟩:=h6 j _ 0 hgt (by omega);have h8:=h7 j _ 0 _ u hgt rfl hu;cases h8 with
  | @str ba _ hba hl =>
  have:=hmem _ _ _ hu;simp only[eB,cH]at this;rw[this,zZJ hba]
 have hlt:b<w.heap.size:=by
  obtain⟨x,r,rfl⟩:∃ x r,l=x::r:=by
   cases l with
   | nil=>exact(hk rfl).elim
   | cons x r=>exact⟨x,r,rfl⟩
  exact kE (hcell 0 (zQK x) rfl)
 have hc:=Any.strings_Join nJ qTF b o c (l.map zQK) sb w hcell hlt (by rw[cV];exact hN) (by rw[cV];omega) (by rw[zGA];exact h);rw[cV,<-hn]at hc;refine hc.mono ?_;rintro e w' ⟨rfl,hb⟩;rw[zGA];exact⟨_,rfl,.str (by simp) (by simpa using hml),hb⟩
end Go.Proofs.YtgcbapchinideaaGreatDoor
