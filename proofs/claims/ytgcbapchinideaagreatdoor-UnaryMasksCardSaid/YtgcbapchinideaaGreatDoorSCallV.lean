import Derived.Test.YtgcbapchinideaaGreatDoorSCallL
import Derived.Test.YtgcbapchinideaaGreatDoorSPrintV
import Derived.Test.YtgcbapchinideaaGreatDoorK5
import Derived.Test.YtgcbapchinideaaGreatDoorK4
set_option linter.all false
namespace Go.Proofs.YtgcbapchinideaaGreatDoor
open Sy Go
set_option maxRecDepth 100000
set_option maxHeartbeats 4000000
theorem zDH {s:List UInt8} (h:(kR s).2=0):zJ (kR s).1=true:=by
 rw[<-zSN]at h ⊢; exact qUK h
theorem zDL (m:Int):qU (qLS m)=true:=by
 rw[yB];simp[qLS,yD,yT,qBF,qBI,jY,yU,uS,dc0]
theorem uT {s:List UInt8} (h:Lib.validD s=true) (m:Int):qU (wM s m)=true:=by
 unfold wM;split
 ·exact qEX (by decide) m
 rename_i hl;have h2:(s.length:Int)<=4096:=by omega
 rw[yB];simp[yD,yT,qBF,qBI,jY,yU,uS,dc0,kJ,h,h2]
theorem uV {l:List Val} (h:∀ k∈l,qU k=true) (m:Int):qU (yJ l m)=true:=by
 unfold yJ;split
 ·exact qEX (by decide) m
 rename_i hl;rw[yB];simp[yD,yT,qBF,qBI,jY,yU,uS,dc0];exact⟨by omega,h⟩
theorem zEX {d:Dc} (h:zJ d=true) (m:Int):qU (.mk 4 m d [] [] [] 0)=true:=by
 rw[yB];simp[yD,yT,qBF,qBI,jY,yU,uS,dc0,h]
theorem qJW {v:Val} (h:qU v=true):Lib.validD v.text=true:=by
 rw[yB]at h;simp only[bI,yT,jY]at h;have:=h.1.2.1.1.2;split at this
 ·unfold kJ at this;simp only[bI]at this;exact this.2
 have e:v.text=[]:=by simpa using this
 rw[e];rfl
theorem qXC {v:Val} (h:qU v=true):∀ k∈v.keys,Lib.validD k=true:=by
 rw[yB]at h;simp only[bI,yT,yU]at h;have:=h.1.2.1.2;split at this
 ·unfold xU at this;simp only[bI,bR]at this;intro k hk;have hw:=this.2.1 k hk;unfold kJ at hw;simp only[bI]at hw;exact hw.2
 have e:v.keys=[]:=by simpa using this
 rw[e];intro k hk;cases hk
theorem zZO {d:Dc} (h:zJ d=true):zJ ⟨false,d.digits,d.scale⟩=true:=by
 unfold zJ at h ⊢;simp only[bI]at h ⊢;refine⟨h.1, ?_⟩;have h2:=h.2;split
 ·rename_i h0;rw[bE h0]at h2;simp at h2 ⊢; exact h2.1
 rename_i h0;rw[bD h0]at h2;exact h2
theorem zPL {k:List UInt8} {x:Val} (hk:Lib.validD k=true) (hx:qU x=true):qU (yV k x)=true:=by
 have h1:kJ [107,101,121]=true:=by unfold kJ;rw[vX (by decide)];decide
 have h2:kJ [118,97,108,117,101]=true:=by unfold kJ;rw[vX (by decide)];decide
 have h3:=uT hk 0;rw[yB];simp[yV,yD,yT,qBF,qBI,jY,yU,uS,dc0,xU,h1,h2,h3,hx]
theorem zBJ:∀ (ks:List (List UInt8)) (l:List Val),(∀ k∈ks,Lib.validD k=true)->(∀ x∈l,qU x=true)->∀ p∈List.zipWith yV ks l,qU p=true
 | [],_,_,_,p,hp=>by simp at hp
 | k::ks,[],_,_,p,hp=>by simp at hp
 | k::ks,x::l,h1,h2,p,hp=>by
  rw[fL]at hp;rcases bM.1 hp with rfl|hp
  ·exact zPL (h1 k (by simp)) (h2 x (by simp))
  exact zBJ ks l (fun x hx=>h1 x (by simp[hx])) (fun x hx=>h2 x (by simp[hx])) p hp
theorem zKL:∀ (l:List Val) (d:Dc),zJ d=true->(qLH d l).2=0->zJ (qLH d l).1=true
 | [],d,h,_=>h
 | v::l,d,h,h2=>by
  unfold qLH at h2 ⊢;split
  ·rename_i h0;rw[bE h0]at h2;exact absurd h2 h0
  rename_i h0;rw[bD h0]at h2;exact zKL l _ (zGF (by simpa using h0)) h2
theorem zFZ (b:Val->Val->Bool):∀ (l:List Val) (x:Val),qBH b x l∈x::l
 | [],x=>by simp[qBH]
 | v::l,x=>by
  have:=zFZ b l (if b v x=true then v else x);simp only[qBH];rcases bM.1 this with h|h
  ·rw[h];split <;> simp
  exact cZ _ (cZ _ h)
theorem zMH (b:Val->Val->Bool) {l:List Val} (h:l.length≠0):qBH b (l.getD 0 jN) (l.drop 1)∈l:=by
 cases l with
 | nil=>exact absurd rfl h
 | cons x l=>exact zFZ b l x
theorem qYD (b:Val->Val->Bool) {l:List Val} (h:∀ k∈l,qU k=true) (m:Int):qU (vM b l m)=true:=by
 unfold vM;split
 ·exact zDL m
 rename_i h0;rw[zRC];exact h _ (zMH b h0)
theorem zCC {l:List Val} (h:∀ k∈l,qU k=true):∀ p∈l.map Val.text,Lib.validD p=true:=fun p hp=>by
 obtain⟨k,hk,rfl⟩:=cO.1 hp;exact qJW (h k hk)
theorem qXE {l:List Val} (h:∀ k∈l,qU k=true) {sep:List UInt8} (hs:Lib.validD sep=true) (m:Int):qU (qBD l sep m)=true:=by
 unfold qBD;split
 ·exact uT (qDL hs _ (zCC h)) m
 exact qEX (by decide) m
theorem zCL {t a:List UInt8} (ht:Lib.validD t=true) (ha:Lib.validD a=true):∀ p∈qCG t a,Lib.validD p=true:=by
 by_cases h:a=[]
 ·unfold qCG;rw[bE h];exact zCS ht
 exact qKX ha h _ (by rw[(qVU t a).1];exact ht)
theorem qSQ {call:List UInt8} {d:Dc} {R:List UInt8} (h:(qSR call d R).2=0):zJ (qSR call d R).1=true:=by
 unfold qSR at h ⊢;split
 ·rename_i h0;rw[bE h0]at h;exact qBV h
 rename_i h0;rw[bD h0]at h;split
 ·rename_i h1;rw[bE h1]at h;exact qBV h
 rename_i h1;rw[bD h1]at h;exact qBV h
theorem zHS (k:Int):Lib.validD (qWL k)=true:=by
 have h:∀ j,j<9->Lib.validD (qSW.getD j [])=true:=fun j hj=>by
  obtain rfl|rfl|rfl|rfl|rfl|rfl|rfl|rfl|rfl:j=0\/j=1\/j=2\/j=3\/j=4\/j=5\/j=6\/j=7\/j=8:=by omega
  all_goals exact vX (by decide)
 exact h _ (zEH k)
theorem qQN {n:Int} (h0:0<=n) (h1:n<=1000000) (m:Int):qU (qEV n m)=true:=qEN (r:=(qGX n,0)) (fun _=>qTI (n:=n) (by omega) (by omega)) m
theorem zQD {n:Nat} (hn:n<25) {arg:List UInt8} (ha:Lib.validD arg=true) {v:Val} (mv:qU v=true) (m:Int):qU (qIC n arg v m)=true:=by
 have hk:∀ k∈v.kids,qU k=true:=fun k hk=>yZ mv hk;have hsm:=qCA mv;have htx:=qSY mv;have hrl:=qLK v.text;have hf:qU (qR 40 m)=true:=qEX (by decide) m;have hj:qU (qCS v m)=true:=by
  unfold qCS;split
  ·exact hf
  rename_i h;exact uT (zDD v mv (by simpa using h)) m
 have ht:∀ w,qU (jE v.kids w m)=true:=fun w=>by
  unfold jE;split
  ·exact hf
  exact qBR _ m
 have ite:∀ (k:Int) (x:Val),(v.kind=k->qU x=true)->qU (if v.kind=k then x else qR 40 m)=true:=fun k x h=>by
  split
  ·rename_i e;exact h e
  exact hf
 rcases zTD hn with h|h|h|h|h|h|h|h|h|h|h|h|h|h|h|h|h|h|h|h|h|h|h|h|h;all_goals subst h
 ·show qU (qLZ Lib.runeCountL v m)=true
  unfold qLZ;split
  ·exact qQN (by omega) (by omega) m
  split
  ·exact qQN (by omega) (by omega) m
  split
  ·exact qQN (by omega) (by omega) m
  split
  ·rename_i h4;exact zEX (zZO (xP mv h4)) m
  exact hf
 ·show qU (qMB v m)=true
  unfold qMB;split
  ·refine uV (fun k hk => ?_) m;obtain⟨s,hs,rfl⟩:=cO.1 hk;exact uT (qXC mv s (qNJ.1 hs)) 0
  split
  ·refine uV (fun k hk => ?_) m;obtain⟨i,hi,rfl⟩:=cO.1 hk;have:=eL.1 hi;exact qQN (by omega) (by omega) 0
  exact hf
 ·show qU (qZS v m)=true
  unfold qZS;split
  ·exact hf
  exact qBR _ m
 ·exact uT (zHS v.kind) m
 ·exact ite 6 _ fun _=>uV (fun k h=>hk k (uD.1 h)) m
 ·exact ite 6 _ fun _=>uV (fun k h=>hk k (uD.1 (zGT h))) m
 ·exact ite 6 _ fun _=>uV (fun k h=>hk k (iB.1 h)) m
 ·refine ite 6 _ fun _ => ?_;unfold qQD;split
  ·exact zDL m
  split
  ·exact qXE hk rfl m
  split
  ·exact hf
  exact qEN (fun h=>zKL _ _ (qTI (n:=0) (by omega) (by omega)) h) m
 ·exact ite 6 _ fun _=>qYD _ hk m
 ·exact ite 6 _ fun _=>qYD _ hk m
 ·exact ite 4 _ fun _=>qEN qSQ m
 ·exact ite 4 _ fun _=>qEN qSQ m
 ·exact ite 4 _ fun _=>qEN qSQ m
 ·exact hj
 ·show qU (if v.kind=5 then wM v.text m else qCS v m)=true
  split
  ·exact uT (qJW mv) m
  exact hj
 ·show qU (if v.kind=4 then .mk 4 m v.num [] [] [] 0 else if v.kind=5 then xJ (kR v.text) m else qR 40 m)=true
  split
  ·rename_i h4;exact zEX (xP mv h4) m
  exact ite 5 _ fun _=>qEN zDH m
 ·exact ite 6 _ fun _=>ht _
 ·exact ite 6 _ fun _=>ht _
 ·show qU (qAJ v m)=true
  unfold qAJ;exact ite 7 _ fun _=>uV (zBJ _ _ (qXC mv) hk) m
 ·show qU (zAI arg v m)=true
  unfold zAI;exact ite 7 _ fun _=>qBR _ m
 ·refine ite 5 _ fun _ => ?_;unfold qOV;split
  ·exact qBR _ m
  rename_i h;exact qEX h m
 ·exact ite 5 _ fun _=>qBR _ m
 ·exact ite 5 _ fun _=>qBR _ m
 ·exact ite 6 _ fun _=>qXE hk ha m
 refine ite 5 _ fun _=>uV (fun k hk => ?_) m;obtain⟨s,hs,rfl⟩:=cO.1 hk;exact uT (zCL (qJW mv) ha s hs) 0
theorem zQB {n:Nat} (hn:n<25) {arg:List UInt8} (ha:Lib.validD arg=true) {v:Val} (mv:qU v=true):qU (vL n arg v)=true:=by
 rw[qQR hn];exact zQD hn ha mv _
end Go.Proofs.YtgcbapchinideaaGreatDoor
