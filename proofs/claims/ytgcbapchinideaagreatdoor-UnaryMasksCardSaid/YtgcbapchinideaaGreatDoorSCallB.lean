import Derived.Test.YtgcbapchinideaaGreatDoorSCallV
import Derived.Test.YtgcbapchinideaaGreatDoorK5
import Derived.Test.YtgcbapchinideaaGreatDoorK4
set_option linter.all false
namespace Go.Proofs.YtgcbapchinideaaGreatDoor
open Sy Go
set_option maxRecDepth 100000
set_option maxHeartbeats 4000000
theorem zero_le {b:Int} (h:InM b):LeM 0 b:=zWI h
theorem qFB {x:Val} {b:Int} (h1:LeM x.mask b) (h2:∀ k∈x.kids,LeM (qX k) b):LeM (qX x) b:=by rw[uN];exact qPQ h1 h2
theorem zTK {v k:Val} (h:k∈v.kids):LeM (qX k) (qX v):=by rw[uN v];exact qXQ _ h
def qEA (x:Val) (b:Int):Prop:=∀ k∈x.kids,LeM (qX k) b
theorem qER (c m b:Int):qEA (qR c m) b:=fun k hk=>by cases hk
theorem zPC (t:Bool) (m b:Int):qEA (yH t m) b:=fun k hk=>by cases hk
theorem zLJ (m b:Int):qEA (qLS m) b:=fun k hk=>by cases hk
theorem zEI (s:List UInt8) (m b:Int):qEA (wM s m) b:=by
 unfold wM;split
 ·exact qER _ _ _
 intro k hk;cases hk
theorem zLI (r:Dc × Int) (m b:Int):qEA (xJ r m) b:=by
 unfold xJ;split
 ·intro k hk;cases hk
 exact qER _ _ _
theorem zYK (d:Dc) (m b:Int):qEA (.mk 4 m d [] [] [] 0) b:=fun k hk=>by cases hk
theorem qCQ {l:List Val} {b:Int} (h:∀ k∈l,LeM (qX k) b) (m:Int):qEA (yJ l m) b:=by
 unfold yJ;split
 ·exact qER _ _ _
 exact h
theorem qYL (s:List UInt8) {b:Int} (h:InM b):LeM (qX (wM s 0)) b:=qFB (by rw[zCA];exact zero_le h) (zEI s 0 b)
theorem wCG (n:Int) {b:Int} (h:InM b):LeM (qX (qEV n 0)) b:=qFB (by unfold qEV;rw[zKH];exact zero_le h) (zLI _ 0 b)
theorem wCO (k:List UInt8) {x:Val} {b:Int} (h:InM b) (hx:LeM (qX x) b):LeM (qX (yV k x)) b:=by
 refine qFB (zero_le h) fun y hy => ?_;rcases bM.1 hy with rfl|hy
 ·exact qYL k h
 rw[cG.1 hy];exact hx
theorem zJX {b:Int} (h:InM b):∀ (ks:List (List UInt8)) (l:List Val),(∀ x∈l,LeM (qX x) b)->∀ p∈List.zipWith yV ks l,LeM (qX p) b
 | [],_,_,p,hp=>by simp at hp
 | k::ks,[],_,p,hp=>by simp at hp
 | k::ks,x::l,h2,p,hp=>by
  rw[fL]at hp;rcases bM.1 hp with rfl|hp
  ·exact wCO k h (h2 x (by simp))
  exact zJX h ks l (fun x hx=>h2 x (by simp[hx])) p hp
theorem zJL {n:Nat} (hn:n<25) (h8:n≠8) (h9:n≠9) (arg:List UInt8) {v:Val} (iv:InV v) (m:Int):qEA (qIC n arg v m) (qX v):=by
 have hd:=zLY iv;have hk:∀ k∈v.kids,LeM (qX k) (qX v):=fun k hk=>zTK hk;have hf:=qER 40 m (qX v);have ite:∀ (k:Int) (x:Val),qEA x (qX v)->qEA (if v.kind=k then x else qR 40 m) (qX v):=fun k x h=>by
  split
  ·exact h
  exact hf
 rcases zTD hn with h|h|h|h|h|h|h|h|h|h|h|h|h|h|h|h|h|h|h|h|h|h|h|h|h;all_goals subst h
 all_goals first
  | exact absurd rfl h8
  | exact absurd rfl h9
  | exact ite 6 _ (qCQ (fun k h=>hk k (uD.1 h)) m)
  | exact ite 6 _ (qCQ (fun k h=>hk k (uD.1 (zGT h))) m)
  | exact ite 6 _ (qCQ (fun k h=>hk k (iB.1 h)) m)
  | exact ite 7 _ (qCQ (zJX hd _ _ hk) m)
  | skip
 all_goals simp only[qIC,qLZ,qMB,qZS,qQD,qCS,jE,zAI,qOV,qBD,qFK]
 all_goals repeat' split
 all_goals first
  | exact qER _ _ _
  | exact zEI _ _ _
  | exact zLI _ _ _
  | exact zPC _ _ _
  | exact zLJ _ _
  | exact zYK _ _ _
  | skip
 ·refine qCQ (fun k hk => ?_) m;obtain⟨s,hs,rfl⟩:=cO.1 hk;exact qYL s hd
 ·refine qCQ (fun k hk => ?_) m;obtain⟨i,hi,rfl⟩:=cO.1 hk;exact wCG _ hd
 refine qCQ (fun k hk => ?_) m;obtain⟨s,hs,rfl⟩:=cO.1 hk;exact qYL s hd
theorem zVI (b:Val->Val->Bool) {v:Val} {m:Int} (iv:InV v) (hm:LeM m (qX v)):LeM (qX (vM b v.kids m)) (qX v):=by
 unfold vM;split
 ·exact qFB hm (zLJ _ _)
 rename_i h0;rw[zPP];exact LeM.or (zTK (zMH b h0)) hm
theorem zFT {n:Nat} (hn:n<25) (arg:List UInt8) {v:Val} (iv:InV v):LeM v.mask (vL n arg v).mask/\LeM (qX (vL n arg v)) (qX v):=by
 have hd:=zLY iv;have hv:=zAA v iv;have h1:LeM v.mask (mC n v)/\LeM (mC n v) (qX v)/\InM (mC n v):=by
  unfold mC;split
  ·exact⟨hv,.refl hd,hd⟩
  exact⟨.refl (qIK iv),hv,qIK iv⟩
 rw[qQR hn];generalize mC n v=m at *;obtain⟨a1,a2,a3⟩:=h1;refine⟨?_, ?_⟩
 ·rcases zJK hn arg v m with e|⟨x,e⟩
  ·rw[e];exact a1
  rw[e];exact a1.trans (.or_right _ _)
 have hb:∀ b:Val->Val->Bool,LeM (qX (if v.kind=6 then vM b v.kids m else qR 40 m)) (qX v):=fun b=>by
  split
  ·exact zVI b iv a2
  exact qFB a2 (qER _ _ _)
 by_cases h8:n=8
 ·subst h8;exact hb _
 by_cases h9:n=9
 ·subst h9;exact hb _
 exact qFB (by rw[qXY hn h8 h9];exact a2) (zJL hn h8 h9 arg iv m)
theorem qXT {a b:Val} (ha:qU a=true) (hb:qU b=true):wT (qP a) b=wT a b:=by
 have h1:=qAA (n:=iR a+1) (a:=qP a) (b:=b) (by rw[qMQ];exact ha) hb (by rw[zMJ];omega);have h2:=qAA (n:=iR a+1) ha hb (by omega);rw[h1,h2,zJD]
theorem qIY {a b:Val} (ha:qU a=true) (hb:qU b=true):wT (qP a) (qP b)=wT a b:=by
 have hb':qU (qP b)=true:=by rw[qMQ];exact hb
 rw[qXT ha hb',yO.anti a (qP b) ha hb',qXT hb ha,<-yO.anti a b ha hb]
theorem jS (c m:Int):qP (qR c m)=qR c 0:=by rw[wZ];rfl
theorem qCC (t:Bool) (m:Int):qP (yH t m)=yH t 0:=by rw[wZ];rfl
theorem zML (m:Int):qP (qLS m)=qLS 0:=by rw[wZ];rfl
theorem zMM (d:Dc) (m:Int):qP (.mk 4 m d [] [] [] 0) = .mk 4 0 d [] [] [] 0:=by rw[wZ];rfl
theorem qDA (s:List UInt8) (m:Int):qP (wM s m)=wM s 0:=by
 unfold wM;split
 ·exact jS _ _
 rw[wZ];rfl
theorem qBN (r:Dc × Int) (m:Int):qP (xJ r m)=xJ r 0:=by
 unfold xJ;split
 ·rw[wZ];rfl
 exact jS _ _
theorem qDB (l:List Val) (m:Int):qP (yJ l m)=yJ (l.map qP) 0:=by
 unfold yJ;rw[cV];split
 ·exact jS _ _
 rw[wZ];rfl
theorem zZI (k:List UInt8) (x:Val):qP (yV k x)=yV k (qP x):=by
 rw[wZ];show Val.mk 7 0 dc0 [] [[107,101,121],[118,97,108,117,101]] [qP (wM k 0),qP x] 0=_
 rw[qDA];rfl
theorem zMK:∀ (ks:List (List UInt8)) (l:List Val),List.zipWith yV ks (l.map qP)=(List.zipWith yV ks l).map qP
 | [],l=>by simp
 | k::ks,[]=>by simp
 | k::ks,x::l=>by
  rw[bA,fL,fL,bA,zZI,zMK ks l]
theorem zYJ {a b:Val} (ha:qU a=true) (hb:qU b=true):leV (qP a) (qP b)=leV a b:=by unfold leV;rw[qIY ha hb]
theorem qZY:∀ (A B:List Val),(∀ k∈A,qU k=true)->(∀ k∈B,qU k=true)->mrg leV (A.map qP) (B.map qP)=(mrg leV A B).map qP
 | [],B,_,_=>by simp[mrg]
 | a::A,[],_,_=>by simp[mrg]
 | a::A,b::B,hA,hB=>by
  have e:=zYJ (hA a (by simp)) (hB b (by simp));unfold mrg;rw[bA,bA,gX,gX,e];split
  ·have:=qZY A (b::B) (fun k hk=>hA k (by simp[hk])) hB;unfold mrg at this;rw[bA]at this ⊢;rw[this]
  have:=qZY (a::A) B hA (fun k hk=>hB k (by simp[hk]));unfold mrg at this;rw[bA]at this ⊢;rw[this]
termination_by A B=>A.length+B.length
theorem qYW:∀ (l:List Val),(∀ k∈l,qU k=true)->srt leV (l.map qP)=(srt leV l).map qP
 | [],_=>rfl
 | x::l,h=>by
  simp only[bA,srt];rw[qYW l fun k hk=>h k (by simp[hk])];exact qZY [x] (srt leV l) (fun k hk=>by rw[cG.1 hk];exact h x (by simp)) (fun k hk=>h k (by simp[uD.1 hk]))
theorem zKF:∀ (l:List Val) (x:Val),qU x=true->(∀ k∈l,qU k=true)->uqF (qP x) (l.map qP)=(uqF x l).map qP
 | [],x,_,_=>by simp[uqF]
 | y::l,x,hx,h=>by
  have hy:=h y (by simp);have ih:=zKF l y hy fun k hk=>h k (by simp[hk]);simp only[bA,uqF];rw[qIY hy hx,ih];split
  ·rfl
  rw[bA]
theorem wBG (l:List Val) (h:∀ k∈l,qU k=true):uqV (l.map qP)=(uqV l).map qP:=by
 cases l with
 | nil=>rfl
 | cons x l =>
  simp only[bA,uqV];rw[zKF l x (h x (by simp)) fun k hk=>h k (by simp[hk])]
theorem qYF {b:Val->Val->Bool} (hb:∀ x y,qU x=true->qU y=true->b (qP x) (qP y)=b x y):∀ (l:List Val) (x:Val),qU x=true->(∀ k∈l,qU k=true)->qBH b (qP x) (l.map qP)=qP (qBH b x l)
 | [],x,_,_=>rfl
 | y::l,x,hx,h=>by
  have hy:=h y (by simp);simp only[bA,qBH];rw[hb y x hy hx];have e:(if b y x=true then qP y else qP x)=qP (if b y x=true then y else x):=by split <;> rfl
  rw[e];exact qYF hb l _ (by split <;> assumption) fun k hk=>h k (by simp[hk])
theorem zRD (v:Val) (m:Int):vZ (qP v) 0=qP (vZ v m):=by
 have e:qP (vZ v m)=qP v:=zQH _ _;rw[e];unfold vZ;rw[qGK,show orM 0 0=0 from rfl];exact Val.ext rfl (qGK v).symm rfl rfl rfl rfl rfl
theorem qYE {b:Val->Val->Bool} (hb:∀ x y,qU x=true->qU y=true->b (qP x) (qP y)=b x y) {l:List Val} (h:∀ k∈l,qU k=true) (m:Int):vM b (l.map qP) 0=qP (vM b l m):=by
 unfold vM;rw[cV];split
 ·rw[zML]
 rename_i h0;cases l with
 | nil=>exact absurd rfl h0
 | cons x l =>
  show vZ (qBH b (qP x) (l.map qP)) 0=qP (vZ (qBH b x l) m)
  rw[qYF hb l x (h x (by simp)) fun k hk=>h k (by simp[hk])];exact zRD _ m
theorem zNH (l:List Val):(l.map qP).map Val.text=l.map Val.text:=by rw[dT];exact dE fun k _=>qKS k
theorem qUG (l:List Val) (ks:List Int):qJE (l.map qP) ks=qJE l ks:=by
 unfold qJE;rw[List.all_map];congr 1
 funext v;simp
theorem qXF (l:List Val) (sep:List UInt8) (m:Int):qBD (l.map qP) sep 0=qP (qBD l sep m):=by
 unfold qBD;rw[qUG,zNH];split
 ·rw[qDA]
 rw[jS]
theorem zKM:∀ (l:List Val) (d:Dc),qLH d (l.map qP)=qLH d l
 | [],d=>rfl
 | v::l,d=>by simp only[bA,qLH,qOK,zKM l]
theorem zMO (l:List Val) (f:Val->Bool) (h:∀ v,f (qP v)=f v):(l.map qP).any f=l.any f:=by
 rw[List.any_map];congr 1
 funext v;exact h v
theorem qRI (v:Val):jF (qP v)=jF v:=by unfold jF;rw[qCZ]
theorem qRH (l:List Val) (w:List UInt8) (m:Int):jE (l.map qP) w 0=qP (jE l w m):=by
 unfold jE;rw[zMO l _ (fun v=>by rw[qCZ]),zMO l _ (fun v=>by rw[qRI])];split
 ·rw[jS]
 rw[qCC]
theorem zOD (v:Val):zG (qP v)=zG v:=by
 refine iV (p:=fun v=>zG (qP v)=zG v) (fun v ih => ?_) v;have hk:(qP v).kids.map zG=v.kids.map zG:=by
  rw[qGL,dT];exact dE fun k hk=>ih k hk
 rw[kW,kW v,hk,qCZ,qOK,qKS,zJO,qUD]
theorem zXS (v:Val):qAS (qP v)=qAS v:=by
 refine iV (p:=fun v=>qAS (qP v)=qAS v) (fun v ih => ?_) v;rw[qFQ,qFQ v,qCZ,qGL,List.any_map];congr 1
 rw[eM,List.any_eq_true,List.any_eq_true];exact⟨fun⟨k,hk,h⟩=>⟨k,hk,by rw[<-ih k hk];exact h⟩,fun⟨k,hk,h⟩=>⟨k,hk,by rw[Function.comp,ih k hk];exact h⟩⟩
theorem zEL (v:Val) (m:Int):qCS (qP v) 0=qP (qCS v m):=by
 unfold qCS;rw[zXS,zOD];split
 ·rw[jS]
 rw[qDA]
theorem zJM {n:Nat} (hn:n<25) (arg:List UInt8) {v:Val} (mv:qU v=true) (m:Int):qIC n arg (qP v) 0=qP (qIC n arg v m):=by
 have hk:∀ k∈v.kids,qU k=true:=fun k hk=>yZ mv hk;have hsk:∀ k∈srt leV v.kids,qU k=true:=fun k h=>hk k (uD.1 h);have ite:∀ (k:Int) (x y:Val),y=qP x->(if v.kind=k then y else qR 40 0)=qP (if v.kind=k then x else qR 40 m):=fun k x y h=>by
  split
  ·exact h
  rw[jS]
 rcases zTD hn with h|h|h|h|h|h|h|h|h|h|h|h|h|h|h|h|h|h|h|h|h|h|h|h|h;all_goals subst h
 all_goals simp only[qIC,qLZ,qMB,qZS,zAI,qAJ,vJ,qRI,qCZ,qOK,qKS,qUD,qGL,cV]
 ·repeat' split
  ·exact(qBN _ _).symm
  ·exact(qBN _ _).symm
  ·exact(qBN _ _).symm
  ·exact(zMM _ _).symm
  exact(jS _ _).symm
 ·split
  ·rw[qDB,dT];congr 1
   exact dE fun k _=>(qDA _ _).symm
  split
  ·rw[qDB,dT];exact congrArg (fun z=>yJ z 0) (dE fun k _=>(qBN _ _).symm)
  exact(jS _ _).symm
 ·split
  ·exact(jS _ _).symm
  exact(qCC _ _).symm
 ·exact(qDA _ _).symm
 ·exact ite 6 _ _ (by rw[qDB,qYW _ hk])
 ·exact ite 6 _ _ (by rw[qDB,qYW _ hk,wBG _ hsk])
 ·exact ite 6 _ _ (by rw[qDB,List.map_reverse])
 ·refine ite 6 _ _ ?_;unfold qQD;rw[qUG,qUG,zKM,cV];split
  ·rw[zML]
  split
  ·exact qXF _ _ m
  split
  ·rw[jS]
  rw[qBN]
 ·exact ite 6 _ _ (qYE (fun x y hx hy=>by rw[qIY hx hy]) hk m)
 ·exact ite 6 _ _ (qYE (fun x y hx hy=>by rw[qIY hx hy]) hk m)
 ·exact ite 4 _ _ (qBN _ _).symm
 ·exact ite 4 _ _ (qBN _ _).symm
 ·exact ite 4 _ _ (qBN _ _).symm
 ·exact zEL v m
 ·split
  ·exact(qDA _ _).symm
  exact zEL v m
 ·split
  ·exact(zMM _ _).symm
  exact ite 5 _ _ (qBN _ _).symm
 ·exact ite 6 _ _ (qRH _ _ m)
 ·exact ite 6 _ _ (qRH _ _ m)
 ·exact ite 7 _ _ (by rw[qDB,zMK])
 ·exact ite 7 _ _ (qCC _ _).symm
 ·refine ite 5 _ _ ?_;unfold qOV;split
  ·exact(qCC _ _).symm
  exact(jS _ _).symm
 ·exact ite 5 _ _ (qCC _ _).symm
 ·exact ite 5 _ _ (qCC _ _).symm
 ·exact ite 6 _ _ (qXF _ _ m)
 refine ite 5 _ _ ?_;unfold qFK;rw[qDB,dT];congr 1
 exact dE fun k _=>(qDA _ _).symm
theorem zJJ {n:Nat} (hn:n<25) (arg:List UInt8) {v:Val} (mv:qU v=true):vL n arg (qP v)=qP (vL n arg v):=by
 have e:mC n (qP v)=0:=by
  unfold mC;split
  ·exact zPR v
  exact qGK v
 rw[qQR hn,qQR hn,e];exact zJM hn arg mv _
end Go.Proofs.YtgcbapchinideaaGreatDoor
