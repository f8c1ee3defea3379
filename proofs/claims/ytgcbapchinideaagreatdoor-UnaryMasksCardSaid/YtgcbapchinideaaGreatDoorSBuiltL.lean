import Derived.Test.YtgcbapchinideaaGreatDoorK2
import Derived.Test.YtgcbapchinideaaGreatDoorK4
set_option linter.all false
namespace Go.Proofs.YtgcbapchinideaaGreatDoor
open Sy Go
theorem zQF {P:List Val->Prop} {Q:Item->Prop} (h0:P []) (hs:∀ a x,Q x->P a->P (qBE a x)) (l:List Item) (hl:∀ x∈l,Q x):P (qGN l):=by
 have key:∀ (l:List Item) (a:List Val),(∀ x∈l,Q x)->P a->P (l.foldl qBE a):=by
  intro l;induction l with
  | nil=>exact fun a _ h=>h
  | cons x l ih=>exact fun a hq h=>ih _ (fun y hy=>hq y (by simp[hy])) (hs a x (hq x (by simp)) h)
 exact key _ [] (fun x hx=>hl x (cB hx)) h0
theorem zUZ {l:List Item} (h:∀ x∈l,InM x.mask):InV (qAB l):=by
 have:=zQF (P:=fun a=>∀ v∈a,InV v) (Q:=fun x=>InM x.mask) (by simp) (fun a x hx ha v hv=>by
  unfold qBE at hv;rcases bL.1 hv with hv|hv
  ·unfold zR at hv;split at hv
   ·exact ha v (cB hv)
   exact ha v hv
  simp at hv;rw[hv,zBG];exact⟨hx,fun k hk=>ha k (qMC hk)⟩) l h
 unfold qAB;rw[fU];cases hx:(qGN l).getLast? with
 | none=>show InV qPC;rw[zBG];exact⟨by show InM 0;unfold InM;omega,fun k hk=>by cases hk⟩
 | some v=>exact this v (gB hx)
theorem zTO (a:List Val) (x:Item):iT (qBE a x)=iT a+1:=by
 have h1:iT (zR a x)+iT (zK a x)=iT a:=by
  unfold zR zK;split
  ·rw[<-qRN,cE]
  simp
 have h2:iR (wV a x)=1+iT (zK a x):=zKJ _;unfold qBE;rw[qRN,zXE,h2];omega
theorem zQN (l:List Item):iT (qGN l)<=80:=by
 have:∀ (l:List Item) (a:List Val),iT (l.foldl qBE a)=iT a+l.length:=by
  intro l;induction l with
  | nil=>intro a;rfl
  | cons x l ih=>intro a;rw[fH,ih,zTO,cA];omega
 unfold qGN;rw[this,zXF,cK];omega
theorem zUY (l:List Item):iR (qAB l)<=80:=by
 unfold qAB;rw[fU];cases hx:(qGN l).getLast? with
 | none=>show iR qPC<=80;decide +kernel
 | some v=>exact dB (mS (gB hx)) (zQN l)
end Go.Proofs.YtgcbapchinideaaGreatDoor
