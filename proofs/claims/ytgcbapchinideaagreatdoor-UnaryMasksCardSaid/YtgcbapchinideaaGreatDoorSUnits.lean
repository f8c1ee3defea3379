import Derived.Test.YtgcbapchinideaaGreatDoorSValidApp
import Derived.Test.YtgcbapchinideaaGreatDoorK5
set_option linter.all false
namespace Go.Proofs.YtgcbapchinideaaGreatDoor
open Sy Go
set_option maxRecDepth 100000
theorem zPS {b:Nat} {o1 o2 o3:Option UInt8} (hne:xS b o1 o2 o3≠(65533,1)) :
  ((2<=(xS b o1 o2 o3).2->wW o1=true)/\(3<=(xS b o1 o2 o3).2->wW o2=true)/\(4<=(xS b o1 o2 o3).2->wW o3=true)/\(b<128/\(xS b o1 o2 o3).2=1\/192<=b/\2<=(xS b o1 o2 o3).2)/\(xS b o1 o2 o3).2<=4) /\
  ∀ p1 p2 p3,(2<=(xS b o1 o2 o3).2->p1=o1)->(3<=(xS b o1 o2 o3).2->p2=o2)->(4<=(xS b o1 o2 o3).2->p3=o3)->xS b p1 p2 p3=xS b o1 o2 o3:=by
 by_cases h0:b<0x80
 ·have e:∀ q1 q2 q3,xS b q1 q2 q3=(b,1):=fun q1 q2 q3=>by unfold xS;rw[bE h0]
  simp only[e];exact⟨⟨fun h=>absurd h (by omega),fun h=>absurd h (by omega),fun h=>absurd h (by omega),.inl ⟨h0,trivial⟩,by omega⟩,fun _ _ _ _ _ _=>trivial⟩
 by_cases k1:(b / 32 == 6 && wW o1)=true
 ·have e:∀ q2 q3,xS b o1 q2 q3=if(b % 32) * 64+wF o1 % 64 >= 0x80 then((b % 32) * 64+wF o1 % 64,2) else(65533,1):=fun q2 q3=>by unfold xS;rw[bD h0,bE k1]
  have ho:=e o2 o3;by_cases hg:(b % 32) * 64+wF o1 % 64 >= 0x80
  ·rw[bE hg]at ho;simp only[bI,dD]at k1;rw[ho];refine⟨⟨fun _=>k1.2,fun h=>absurd h (by simp),fun h=>absurd h (by simp),.inr ⟨by omega,by simp⟩,by simp⟩,fun p1 p2 p3 h1 _ _ => ?_⟩;rw[h1 (by simp),e p2 p3,bE hg]
  rw[bD hg]at ho;exact absurd ho hne
 by_cases k2:(b / 16 == 14 && wW o1 && wW o2)=true
 ·have e:∀ q3,xS b o1 o2 q3=if((b % 16) * 4096+(wF o1 % 64) * 64+wF o2 % 64 >= 0x800 && Utf8.valid ((b % 16) * 4096+(wF o1 % 64) * 64+wF o2 % 64:Nat))=true then((b % 16) * 4096+(wF o1 % 64) * 64+wF o2 % 64,3) else(65533,1):=fun q3=>by unfold xS;rw[bD h0,bD k1,bE k2]
  have ho:=e o3;by_cases hg:((b % 16) * 4096+(wF o1 % 64) * 64+wF o2 % 64 >= 0x800 && Utf8.valid ((b % 16) * 4096+(wF o1 % 64) * 64+wF o2 % 64:Nat))=true
  ·rw[bE hg]at ho;simp only[bI,dD]at k2;rw[ho];refine⟨⟨fun _=>k2.1.2,fun _=>k2.2,fun h=>absurd h (by simp),.inr ⟨by omega,by simp⟩,by simp⟩,fun p1 p2 p3 h1 h2 _ => ?_⟩;rw[h1 (by simp),h2 (by simp),e p3,bE hg]
  rw[bD hg]at ho;exact absurd ho hne
 by_cases k3:(b / 8 == 30 && wW o1 && wW o2 && wW o3)=true
 ·have ho:xS b o1 o2 o3=if((b % 8) * 262144+(wF o1 % 64) * 4096+(wF o2 % 64) * 64+wF o3 % 64 >= 0x10000 && Utf8.valid ((b % 8) * 262144+(wF o1 % 64) * 4096+(wF o2 % 64) * 64+wF o3 % 64:Nat))=true then((b % 8) * 262144+(wF o1 % 64) * 4096+(wF o2 % 64) * 64+wF o3 % 64,4) else(65533,1):=by unfold xS;rw[bD h0,bD k1,bD k2,bE k3]
  by_cases hg:((b % 8) * 262144+(wF o1 % 64) * 4096+(wF o2 % 64) * 64+wF o3 % 64 >= 0x10000 && Utf8.valid ((b % 8) * 262144+(wF o1 % 64) * 4096+(wF o2 % 64) * 64+wF o3 % 64:Nat))=true
  ·have ho':=ho;rw[bE hg]at ho';simp only[bI,dD]at k3;have h2:(xS b o1 o2 o3).2=4:=by rw[ho']
   rw[h2];refine⟨⟨fun _=>k3.1.1.2,fun _=>k3.1.2,fun _=>k3.2,.inr ⟨by omega,by simp⟩,by simp⟩,fun p1 p2 p3 h1 h2 h3 => ?_⟩;rw[h1 (by simp),h2 (by simp),h3 (by simp)]
  rw[bD hg]at ho;exact absurd ho hne
 exact absurd (by unfold xS;rw[bD h0,bD k1,bD k2,bD k3]) hne
theorem qOD {o:Option UInt8} {c:UInt8} (h:wW o=true) (hc:o=some c):128<=c.toNat/\c.toNat<192:=by
 subst hc;simp only[wW,dD]at h;omega
theorem qKY {b:UInt8} {s:List UInt8} (hv:Lib.validD (b::s)=true) :
  1<=(Lib.decodeL (b::s)).2/\(Lib.decodeL (b::s)).2<=(b::s).length/\(∀ x,Lib.validD ((b::s).take (Lib.decodeL (b::s)).2++x)=Lib.validD x)/\Lib.validD ((b::s).drop (Lib.decodeL (b::s)).2)=true /\
  (b.toNat<128/\(Lib.decodeL (b::s)).2=1\/192<=b.toNat)/\∀ j c,1<=j->j<(Lib.decodeL (b::s)).2->(b::s)[j]?=some c->128<=c.toNat/\c.toNat<192:=by
 have h1:=Lib.validD_step (b::s) (by simp);rw[hv]at h1;have hne:¬ ((Lib.decodeL (b::s)).1=65533/\(Lib.decodeL (b::s)).2=1):=by
  intro h;rw[bE h]at h1;cases h1
 rw[bD hne]at h1;have hle:=Lib.decodeL_le (b::s) (by simp);have hge:=qKP (b::s) (by simp);have hO:=qXR b s;have hk:=zPS (b:=b.toNat) (o1:=s[0]?) (o2:=s[1]?) (o3:=s[2]?) (by rw[<-hO];intro e;exact hne (by rw[e];exact⟨rfl,rfl⟩));rw[<-hO]at hk;generalize hdk:Lib.decodeL (b::s)=dk at *;obtain⟨r,k⟩:=dk;simp only at *;obtain⟨⟨c1,c2,c3,c4,c5⟩,hp⟩:=hk;refine⟨hge,hle,fun x => ?_,h1.symm, ?_,fun j c hj1 hj2 hjc => ?_⟩
 ·obtain⟨k,rfl⟩:∃ m,k=m+1:=⟨k-1,by omega⟩;simp only[cA]at hle;have hg:∀ i,i<k->(s.take k++x)[i]?=s[i]?:=fun i hi=>by
   rw[cW (by rw[cK];omega),bW,bE hi]
  have h2:=Lib.validD_step ((b::s).take (k+1)++x) (by simp);have he:Lib.decodeL ((b::s).take (k+1)++x)=(r,k+1):=by
   rw[List.take_succ_cons,cT,qXR,hp _ _ _ (fun h=>hg 0 (by omega)) (fun h=>hg 1 (by omega)) (fun h=>hg 2 (by omega))]
  rw[he,bD hne]at h2;rw[h2];congr 1
  exact List.drop_left' (by rw[cK];simp;omega)
 ·rcases c4 with⟨a1,a2⟩|⟨a1,a2⟩
  ·exact .inl ⟨a1,a2⟩
  exact .inr a1
 obtain⟨j,rfl⟩:∃ m,j=m+1:=⟨j-1,by omega⟩;rw[gI]at hjc;have hj4:j=0\/j=1\/j=2:=by omega
 rcases hj4 with rfl|rfl|rfl
 ·exact qOD (c1 (by omega)) hjc
 ·exact qOD (c2 (by omega)) hjc
 exact qOD (c3 (by omega)) hjc
theorem qFL:∀ (n:Nat) (s t:List UInt8),s.length<=n->Lib.validD s=true->Lib.validD (s++t)=Lib.validD t
 | _,[],t,_,_=>rfl
 | 0,b::s,t,hn,_=>by simp at hn
 | n+1,b::s,t,hn,hs=>by
  obtain⟨h1,h2,h3,h4,_⟩:=qKY hs;have e:b::s++t=(b::s).take (Lib.decodeL (b::s)).2++((b::s).drop (Lib.decodeL (b::s)).2++t):=by
   rw[<-cD,cE]
  rw[e,h3];exact qFL n _ t (by rw[bQ];simp at hn h2 ⊢; omega) h4
theorem jT {s t:List UInt8} (h1:Lib.validD s=true) (h2:Lib.validD t=true):Lib.validD (s++t)=true:=by
 rw[qFL _ s t (bP _) h1];exact h2
theorem qVK:∀ (n:Nat) (p q:List UInt8),p.length<=n->Lib.validD (p++q)=true->(∀ c,q.head?=some c->c.toNat<128\/192<=c.toNat)->Lib.validD p=true/\Lib.validD q=true
 | _,[],q,_,h,_=>⟨rfl,h⟩
 | 0,b::p,q,hn,_,_=>by simp at hn
 | n+1,b::p,q,hn,h,hq=>by
  rw[cT]at h;obtain⟨h1,h2,h3,h4,h5,h6⟩:=qKY h;generalize (Lib.decodeL (b::(p++q))).2=k at *;have hk:k<=(b::p).length:=by
   refine fO fun hlt => ?_;have hpq:p.length<(p++q).length:=by simp only[cA]at h2 hlt;omega
   cases q with
   | nil=>simp at hpq
   | cons c q =>
    have:=h6 (p.length+1) c (by omega) (by simpa using hlt) (by simp);have:=hq c rfl;omega
  have ht:(b::(p++q)).take k=(b::p).take k:=by rw[<-cT,dX hk]
  have hd:(b::(p++q)).drop k=(b::p).drop k++q:=by rw[<-cT,List.drop_append_of_le_length hk]
  rw[hd]at h4;obtain⟨g1,g2⟩:=qVK n _ q (by rw[bQ];simp at hn ⊢; omega) h4 hq;refine⟨?_,g2⟩;have:=h3 ((b::p).drop k);rw[ht,cE]at this;rw[this];exact g1
theorem zGR {s:List UInt8} (h:Lib.validD s=true):∀ c,s.head?=some c->c.toNat<128\/192<=c.toNat:=fun c hc=>by
 cases s with
 | nil=>cases hc
 | cons b s =>
  cases hc;rcases(qKY h).2.2.2.2.1 with⟨h1,_⟩|h1
  ·exact .inl h1
  exact .inr h1
theorem vX {s:List UInt8} (h:∀ b∈s,b.toNat<128):Lib.validD s=true:=by
 have:=Lib.validD_ascii s.length s (fun b hb=>h b (cB hb));rw[this,fP];rfl
theorem qKO:∀ (n:Nat) (s:List UInt8),Lib.validD s=true->∀ p∈uK n s,Lib.validD p=true
 | 0,_,_,p,hp=>by cases hp
 | 1,s,h,p,hp=>by rw[cG.1 hp];exact h
 | n+2,[],h,p,hp=>by
  simp only[uK,List.take_nil,List.drop_nil]at hp;rcases bM.1 hp with rfl|hp
  ·rfl
  exact qKO (n+1) [] rfl p hp
 | n+2,b::s,h,p,hp=>by
  simp only[uK]at hp;obtain⟨h1,h2,h3,h4,_⟩:=qKY h;rcases bM.1 hp with rfl|hp
  ·have:=h3 [];rw[cR]at this;rw[this];rfl
  exact qKO (n+1) _ h4 p hp
theorem zCS {s:List UInt8} (h:Lib.validD s=true):∀ p∈vP s,Lib.validD p=true:=qKO _ s h
theorem qDL {sep:List UInt8} (hs:Lib.validD sep=true):∀ (l:List (List UInt8)),(∀ p∈l,Lib.validD p=true)->Lib.validD (Lib.join l sep)=true
 | [],_=>rfl
 | [x],h=>by rw[Lib.join_one];exact h x (by simp)
 | x::y::r,h=>by
  have e:Lib.join (x::y::r) sep=x++sep++Lib.join (y::r) sep:=by simp[Lib.join,List.intercalate,List.intersperse]
  rw[e];exact jT (jT (h x (by simp)) hs) (qDL hs (y::r) fun p hp=>h p (cZ _ hp))
theorem qKX {sep:List UInt8} (hs:Lib.validD sep=true) (hne:sep≠[]):∀ (l:List (List UInt8)),Lib.validD (Lib.join l sep)=true->∀ p∈l,Lib.validD p=true
 | [],_,p,hp=>by cases hp
 | [x],h,p,hp=>by rw[cG.1 hp];rwa [Lib.join_one]at h
 | x::y::r,h,p,hp=>by
  have e:Lib.join (x::y::r) sep=x++(sep++Lib.join (y::r) sep):=by simp[Lib.join,List.intercalate,List.intersperse]
  rw[e]at h;obtain⟨h1,h2⟩:=qVK _ x _ (bP _) h (fun c hc=>zGR hs c (by
   cases sep with
   | nil=>exact absurd rfl hne
   | cons z sep=>simpa using hc))
  rw[qFL _ sep _ (bP _) hs]at h2;rcases bM.1 hp with rfl|hp
  ·exact h1
  exact qKX hs hne (y::r) h2 p hp
end Go.Proofs.YtgcbapchinideaaGreatDoor
