import Derived.Test.YtgcbapchinideaaGreatDoorSUnits
import Derived.Test.YtgcbapchinideaaGreatDoorK5
set_option linter.all false
namespace Go.Proofs.YtgcbapchinideaaGreatDoor
open Sy Go
set_option maxRecDepth 100000
theorem wGP:∀ k:Fin 256,128<=k.val->qb (UInt8.ofNat k.val)=[UInt8.ofNat k.val]:=by decide +kernel
theorem wGN:∀ k:Fin 256,k.val<128->∀ b∈qb (UInt8.ofNat k.val),b.toNat<128:=by decide +kernel
theorem wHC:∀ k:Fin 256,qO (UInt8.ofNat k.val)=true->k.val<128:=by decide +kernel
theorem zXR {b:UInt8} (h:128<=b.toNat):qb b=[b]:=by
 have:=wGP ⟨b.toNat,b.toNat_lt⟩ h;simpa using this
theorem wBP {b:UInt8} (h:b.toNat<128):∀ c∈qb b,c.toNat<128:=by
 have:=wGN ⟨b.toNat,b.toNat_lt⟩ h;simpa using this
theorem zLX {b:UInt8} (h:qO b=true):b.toNat<128:=wHC ⟨b.toNat,b.toNat_lt⟩ (by simpa using h)
theorem qSL:∀ {u:List UInt8},(∀ b∈u,128<=b.toNat)->xA u=u
 | [],_=>rfl
 | b::u,h=>by
  have:=qSL (u:=u) fun c hc=>h c (cZ _ hc);unfold xA at this ⊢;rw[List.flatMap_cons,zXR (h b (by simp)),this];rfl
theorem qPA:∀ (n:Nat) (s:List UInt8),s.length<=n->Lib.validD s=true->Lib.validD (xA s)=true
 | _,[],_,_=>rfl
 | 0,b::s,hn,_=>by simp at hn
 | n+1,b::s,hn,hs=>by
  obtain⟨h1,h2,h3,h4,h5,h6⟩:=qKY hs;generalize (Lib.decodeL (b::s)).2=k at *;have ih:=qPA n ((b::s).drop k) (by rw[bQ];simp at hn h2 ⊢; omega) h4;rcases h5 with⟨hb,rfl⟩|hb
  ·have e:xA (b::s)=qb b++xA s:=by unfold xA;rw[List.flatMap_cons]
   rw[e];exact jT (vX (wBP hb)) ih
  have hu:∀ c∈(b::s).take k,128<=c.toNat:=fun c hc=>by
   obtain⟨j,hj⟩:=dS.1 hc;rw[bW]at hj;split at hj
   ·rename_i hjk;rcases eP j with h0|h0
    ·subst h0;simp only[List.getElem?_cons_zero,Option.some.injEq]at hj;subst hj;omega
    have:=h6 j c h0 hjk hj;omega
   cases hj
  have e:xA (b::s)=(b::s).take k++xA ((b::s).drop k):=by
   have hq:=qSL hu;unfold xA at hq ⊢;conv=>lhs;rw[<-cE k (b::s),List.flatMap_append,hq]
  rw[e,h3];exact ih
theorem qOY {s:List UInt8} (h:Lib.validD s=true):Lib.validD (kQ s)=true:=by
 unfold kQ;rw[Lib.validD_cons _ _ (by decide)];exact jT (qPA _ s (bP _) h) rfl
theorem zON {d:Dc} (h:zJ d=true):Lib.validD (xN d)=true:=by
 obtain⟨W,R,e,hW,hR,_⟩:=qSN h;rw[bR]at hW hR;rw[e];refine vX fun b hb => ?_;rw[bL,bL]at hb;rcases hb with hb|hb|hb
 ·split at hb
  ·rw[cG.1 hb];decide
  cases hb
 ·exact zLX (hW b hb)
 split at hb
 ·cases hb
 rcases bM.1 hb with rfl|hb
 ·decide
 exact zLX (hR b hb)
theorem zJW {P:List UInt8->Prop} {f:List UInt8->List UInt8->List UInt8} (hf:∀ x y,Lib.validD x=true->Lib.validD y=true->P (f x y)):∀ (l m:List (List UInt8)),(∀ x∈l,Lib.validD x=true)->(∀ x∈m,Lib.validD x=true)->∀ p∈List.zipWith f l m,P p
 | [],m,_,_,p,hp=>by simp at hp
 | x::l,[],_,_,p,hp=>by simp at hp
 | x::l,y::m,h1,h2,p,hp=>by
  rw[fL]at hp;rcases bM.1 hp with rfl|hp
  ·exact hf x y (h1 x (by simp)) (h2 y (by simp))
  exact zJW hf l m (fun x hx=>h1 x (by simp[hx])) (fun x hx=>h2 x (by simp[hx])) p hp
theorem zDD (v:Val):qU v=true->qAS v=false->Lib.validD (zG v)=true:=by
 refine iV (p:=fun v=>qU v=true->qAS v=false->Lib.validD (zG v)=true) (fun v ih hm hp => ?_) v;have hk:∀ p∈v.kids.map zG,Lib.validD p=true:=fun p hp'=>by
  obtain⟨k,hk,rfl⟩:=cO.1 hp';exact ih k hk (yZ hm hk) (zKW hp hk)
 obtain⟨_,_,h⟩:=qNS hm (zDF hp);rcases h with⟨k,_⟩|⟨k,_⟩|⟨k,_⟩|⟨k,hn,_⟩|⟨k,_,ht,_⟩|⟨k,_⟩|⟨k,_,_,_,hks⟩
 ·rw[zSJ k];exact vX (by decide)
 ·rw[zSI k];exact vX (by decide)
 ·rw[zSH k];exact vX (by decide)
 ·rw[zSG k];exact zON hn
 ·rw[zSF k];unfold kJ at ht;simp only[bI]at ht;exact qOY ht.2
 ·rw[zSE k];exact jT (jT rfl (qDL rfl _ hk)) rfl
 rw[zSD k];refine jT (jT rfl (qDL rfl _ ?_)) rfl;refine zJW (fun x y hx hy=>jT (jT (qOY hx) rfl) hy) _ _ (fun x hx => ?_) hk;unfold xU at hks;simp only[bI,bR]at hks;have:=hks.1 x hx;unfold kJ at this;simp only[bI]at this;exact this.2
end Go.Proofs.YtgcbapchinideaaGreatDoor
