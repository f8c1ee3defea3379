import Derived.Test.YtgcbapchinideaaGreatDoorSSymM
import Derived.Test.YtgcbapchinideaaGreatDoorK3
import Derived.Test.YtgcbapchinideaaGreatDoorK5
set_option linter.all false
namespace Go.Proofs.YtgcbapchinideaaGreatDoor
open Sy Go
set_option maxRecDepth 100000
set_option maxHeartbeats 4000000
variable {G:qT}
def qUJ (G:qT) (X A B Y:List Val):Prop:=AX Tryz.prog G 161 [.ms 890,.p (.int .i64 X.length),.p (.int .i64 ((X.length+A.length:Nat):Int)),.p (.int .i64 ((X.length+A.length+B.length:Nat):Int)),.p (.fn 83)] [(890,.row 31 9 (zP (X++(A++(B++Y)))))] (.tuple []) [890] [(890,.row 31 9 (zP (X++(mrg leV A B++Y))))]
theorem qLX {s:Int} (h0:0<=s) (h1:s<=1000000000):IntKind.i64.wrap ((IntKind.u64.wrap s).fdiv (2 ^ min 1 IntKind.u64.bits))=s / 2:=by
 rw[kV h0 (by omega),show(2:Int) ^ min 1 IntKind.u64.bits=2 from rfl,eA _ (by decide),wHQ (by omega)]
structure SymIn (X A B Y:List Val):Prop where
 l:X.length+A.length+B.length+Y.length<=1000000
 a:0<A.length
 b:0<B.length
 ma:qBP A
 mb:qBP B
 sa:Sor leV A
 sb:Sor leV B
theorem zRO (n:Nat) (X A B Y:List Val) (hn:A.length+B.length<=n) (hi:SymIn X A B Y) (ih:∀ X A B Y:List Val,A.length+B.length<n->SymIn X A B Y->qUJ G X A B Y):AX Tryz.prog G 161 [.ms 890,.p (.int .i64 X.length),.p (.int .i64 ((X.length+A.length:Nat):Int)),.p (.int .i64 ((X.length+A.length+B.length:Nat):Int)),.p (.fn 83)] [(890,.row 31 9 (zP (X++(A++(B++Y)))))] (.tuple []) [890] [(890,.row 31 9 (zP (X++(mrg leV A B++Y))))]:=by
 refine AX.introU tok 700 Tryz.func161 (by kernel_rfl) rfl rfl ?_;simp only[Tryz.f161,qG,bA,bC];obtain⟨hl,ha,hb,hma,hmb,hsa,hsb⟩:=hi;have hcm:=fun a b ha hb=>qMN (G:=G) a b ha hb;refine AW.seq (rgn [] [[],[],[],[0,1,2,3,4,28]] ?_);iterate 4 refine op3 ?_
 refine qA (cnd ?_ ?_)
 ·intro h28;try simp at h28
  obtain⟨x,rfl⟩:∃ x,A=[x]:=List.length_eq_one_iff.1 (by omega);have hxm:=hma x (by simp);have hol:=fun u h1 h2=>zSQ (B:=B) (x:=x) (u:=u) hxm hmb h1 h2;have ht0:((X.length:Int)).toNat=X.length:=by omega
  have g0:(zP (X++(x::(B++Y))))[X.length]?=some x.enc:=yX;have hrl:(zP (X++(x::(B++Y)))).length=X.length+1+B.length+Y.length:=by rw[jP];simp;omega
  simp only[dA]at hl;refine rgn [] [[],[0,1,3,4,10]] ?_;iterate 2 refine op3 ?_
  refine qA (rgn [] [[],[0,1,4,10,11]] ?_);iterate 2 refine op3 ?_
  refine qA (AW.seq (AW.block ?_));refine AW.loop (α:=Nat × Nat) (fun a=>a.1<=a.2/\a.2<=B.length/\(∀ k y,k<a.1->B[k]?=some y->wT y x<0)/\(∀ k y,a.2<=k->B[k]?=some y->¬ wT y x<0)) (fun a=>⟨qZ 220 [(0,.ms 890),(1,.p (.int .i64 X.length)),(4,.p (.fn 83)),(10,.p (.int .i64 ((X.length+1+a.1:Nat):Int))),(11,.p (.int .i64 ((X.length+1+a.2:Nat):Int)))],[890],[(890,.row 31 9 (zP (X++(x::(B++Y)))))],700⟩) (fun a=>a.2-a.1) ((0,B.length)) ⟨by simp,by simp,by simp,fun k y h1 h2=>by have:=(bB.1 h2).1;simp only at h1;omega⟩ ⟨qE (by simp),rfl,by simp,by simp⟩ ?_;rintro⟨u,v⟩ ⟨q1,q2,q3,q4⟩;simp only at q1 q2 q3 q4;refine AW.seq (rgn [] [[],[],[0,1,4,10,11,33]] ?_);iterate 3 refine op3 ?_
  refine qA (cnd ?_ ?_)
  ·intro h33;try simp at h33
   obtain⟨w,hw⟩:∃ w,(u+v) / 2=w:=⟨_,rfl⟩;have hmid:(((X.length:Int)+1+u+(X.length+1+v))) / 2=X.length+1+w:=by omega
   obtain⟨y,hy⟩:∃ y,B[w]?=some y:=⟨B[w]'(by omega),by simp[show w<B.length by omega]⟩;have hym:=hmb y (bH hy);have hc:=hcm y x hym hxm;have g1:(zP (X++(x::(B++Y))))[X.length+1+w]?=some y.enc:=by
    unfold zP;rw[bG,cU (by omega),show X.length+1+w-X.length=w+1 by omega,gI,cW (by omega),hy];rfl
   have htw:((X.length:Int)+1+w).toNat=X.length+1+w:=by omega
   simp only[iK x,iK y]at g0 g1 hc;have hwr:=qLX (s:=(X.length:Int)+1+u+(X.length+1+v)) (by omega) (by omega);rw[hmid]at hwr;refine AW.skip (AW.block (rgn [] [[],[],[],[],[0,1,4,10,11,38],[],[0,1,4,10,11,12]] ?_));iterate 7 refine op3 ?_ (hv:=by first|exact True.intro|(omega;done)|omega|simp)
   refine qA ?_;rw[hwr];refine iU tok mixed 11 [[4],[0],[12],[41,42],[43],[0],[1],[45,46],[47],[40,44,48],[49]] [y.enc,x.enc,.nilp,.int .i64 (wT y x)] [] (by kernel_rfl) ?_;iterate 11 refine d1 ?_ (hv:=by first|exact True.intro|(rw[htw];exact g1)|exact g0|exact hc|(rw[hrl];omega)|(refine⟨by omega, ?_⟩;rw[hrl];omega)|omega;done|omega|simp)
   refine DGo.nil (by kernel_rfl) ⟨by kernel_rfl, ?_⟩;refine qB.nil ?_;refine cnd ?_ ?_
   ·intro h50;try simp at h50
    have hlow:∀ k z,k<w+1->B[k]?=some z->wT z x<0:=fun k z hk hz=>by
     by_cases e:k=w
     ·subst e;rw[hy]at hz;cases hz;exact h50
     exact qOG (hmb z (bH hz)) hym hxm (qYZ hsb (by omega) hz hy) h50
    refine rgz [] [[],[],[0,1,4,10,11]] ?_;iterate 3 refine op3 ?_
    refine qA ?_;exact⟨(w+1,v),⟨by simp only;omega,q2,hlow,q4⟩,by simp only;omega,qE (by simp[show(X.length:Int)+1+w+1=X.length+1+(w+1) from by omega]),rfl,by simp[show(X.length:Int)+1+w+1=X.length+1+(w+1) from by omega],by simp[show(X.length:Int)+1+w+1=X.length+1+(w+1) from by omega]⟩
   intro h50;try simp at h50
   have hhi:∀ k z,w<=k->B[k]?=some z->¬ wT z x<0:=fun k z hk hz hlt=>by
    by_cases e:k=w
    ·subst e;rw[hy]at hz;cases hz;omega
    have:=qOG hym (hmb z (bH hz)) hxm (qYZ hsb (by omega) hy hz) hlt;omega
   refine rgz [] [[],[0,1,4,10,11]] ?_;iterate 2 refine op3 ?_
   refine qA ?_;exact⟨(u,w),⟨by simp only;omega,by simp only;omega,q3,hhi⟩,by simp only;omega,qE (by simp),rfl,by simp,by simp⟩
  intro h33;try simp at h33
  obtain rfl:u=v:=by omega
  have hol:=hol u q3 q4;refine AW.exit ?_;simp;refine AW.seq (rgn [] [[],[0,10,13]] ?_);iterate 2 refine op3 ?_
  refine qA (AW.block ?_);refine AW.loop (α:=Nat) (fun t=>t<=u) (fun t=>⟨qZ 220 [(0,.ms 890),(10,.p (.int .i64 ((X.length+1+u:Nat):Int))),(13,.p (.int .i64 ((X.length+t:Nat):Int)))],[890],[(890,.row 31 9 (zP (X++(B.take t++(x::(B.drop t++Y))))))],700⟩) (fun t=>u-t) (0) (fC _) ⟨qE (by simp),rfl,by simp,by simp⟩ ?_;rintro t ht;refine AW.seq (rgn [] [[],[],[],[0,10,13,58]] ?_);iterate 4 refine op3 ?_
  refine qA (cnd ?_ ?_)
  ·intro h58;try simp at h58
   obtain⟨y,hy⟩:∃ y,B[t]?=some y:=⟨B[t]'(by omega),by simp[show t<B.length by omega]⟩;have hd:B.drop t=y::B.drop (t+1):=by
    obtain⟨h1,h2⟩:=bB.1 hy;rw[cJ h1,h2]
   have htk:B.take (t+1)=B.take t++[y]:=by rw[bX,hy];rfl
   have hlt:(B.take t).length=t:=by rw[cK];omega
   have hl4:(B.drop (t+1)).length=B.length-(t+1):=bQ;rw[hd];have hfin:zP (X++(B.take (t+1)++(x::(B.drop (t+1)++Y))))=zP (X++(B.take t++(y::x::(B.drop (t+1)++Y)))):=by rw[htk];simp
   have b1:=yX (A:=X++B.take t) (B:=y::(B.drop (t+1)++Y)) (x:=x);have b2:=qIQ (A:=X++B.take t) (B:=B.drop (t+1)++Y) (x:=x) (y:=y);have b3:=qCK (A:=X++B.take t) (B:=y::(B.drop (t+1)++Y)) (x:=x) (y:=y);have b4:=qIQ (A:=X++B.take t) (B:=B.drop (t+1)++Y) (x:=y) (y:=y);have b5:=qNO (A:=X++B.take t) (B:=B.drop (t+1)++Y) (x:=y) (y:=y) (z:=x);have hnl:(X++B.take t).length=X.length+t:=by rw[bU,hlt]
   have hrl2:(zP (X++(B.take t++(x::y::(B.drop (t+1)++Y))))).length=X.length+1+B.length+Y.length:=by rw[jP];simp only[bU,cA,hlt,hl4];omega
   simp only[hnl,cD]at b1 b2 b3 b4 b5;have hi0:((X.length:Int)+t).toNat=X.length+t:=by omega
   have hi1:((X.length:Int)+t+1).toNat=X.length+t+1:=by omega
   generalize hR:B.drop (t+1)=R at *;generalize hP:B.take t=P at *;simp only[iK x,iK y]at b1 b2 b3 b4 b5;refine AW.skip (AW.seq (AW.block ?_));refine lR mixed 16 [[0],[13],[0],[13],[64],[0],[13],[67],[66,68],[69],[0],[13],[71,72],[73],[61,62],[75,70]] [y.enc,x.enc] (by kernel_rfl) ?_;iterate 2 refine iN tok (hv:=by first|exact True.intro|(rw[hi0];exact b1)|(rw[hi1];exact b2)|(refine⟨by omega, ?_⟩;rw[hrl2];omega)|omega;done|omega|simp) (k := ?_)
   refine wI.q [890] (.ms 890) rfl (qFI tok (orc:=[]) (orc':=[]) (v:=True) (by conv=>lhs;simp) trivial) (by simp) (by kernel_rfl) (by conv=>lhs;simp) ?_;iterate 6 refine iN tok (hv:=by first|exact True.intro|(rw[hi0];exact b1)|(rw[hi1];exact b2)|(refine⟨by omega, ?_⟩;rw[hrl2];omega)|omega;done|omega|simp) (k := ?_)
   refine iW tok (orc:=[y.enc]) (hv:=by first|exact True.intro|(rw[hi0];exact b1)|(rw[hi1];exact b2)|(refine⟨by omega, ?_⟩;rw[hrl2];omega)|omega;done|omega|simp) (k := ?_);iterate 3 refine iN tok (hv:=by first|exact True.intro|(rw[hi0];exact b1)|(rw[hi1];exact b2)|(refine⟨by omega, ?_⟩;rw[hrl2];omega)|omega;done|omega|simp) (k := ?_)
   refine iW tok (orc:=[x.enc]) (hv:=by first|exact True.intro|(rw[hi0];exact b1)|(rw[hi1];exact b2)|(refine⟨by omega, ?_⟩;rw[hrl2];omega)|omega;done|omega|simp) (k := ?_);refine iN tok (hv:=by first|exact True.intro|(rw[hi0];exact b1)|(rw[hi1];exact b2)|(refine⟨by omega, ?_⟩;rw[hrl2];omega)|omega;done|omega|simp) (k := ?_);refine iW tok (orc:=[x.enc,y.enc]) (hv:=by first|exact True.intro|(rw[hi0];exact b1)|(rw[hi1];exact b2)|(refine⟨by omega, ?_⟩;rw[hrl2];omega)|omega;done|omega|simp) (k := ?_);refine wI.nil (by kernel_rfl) ⟨by kernel_rfl, ?_⟩;refine qB.run [[],[0,10,13]] ?_;iterate 2 refine op3 ?_ (hv:=by first|exact True.intro|(rw[hi0,hi1,b3];exact b4)|(refine⟨by omega, ?_⟩;rw[eO,hrl2];omega)|omega;done|omega|simp)
   refine qA (rgz [] [[],[],[0,10,13]] ?_);iterate 3 refine op3 ?_
   refine qA ?_;exact⟨t+1,by omega,by omega,qE (by simp[hi0,hi1,show((X.length:Int)+((t:Int)+1)).toNat=X.length+t+1 from by omega,b3,b5,hR,hfin,show(X.length:Int)+t+1=X.length+(t+1) from by omega]),rfl,by simp[hi0,hi1,show((X.length:Int)+((t:Int)+1)).toNat=X.length+t+1 from by omega,b3,b5,hR,hfin,show(X.length:Int)+t+1=X.length+(t+1) from by omega],by simp[hi0,hi1,show((X.length:Int)+((t:Int)+1)).toNat=X.length+t+1 from by omega,b3,b5,hR,hfin,show(X.length:Int)+t+1=X.length+(t+1) from by omega]⟩
  intro h58;try simp at h58
  obtain rfl:t=u:=by omega
  have e9:X++(B.take t++(x::(B.drop t++Y)))=X++(mrg leV [x] B++Y):=by rw[hol];simp
  rw[e9];refine AW.exit ?_;simp;exact AW.ret zC
 intro h28;try simp at h28
 refine AW.skip (AW.seq (rgn [] [[],[],[],[0,1,2,3,4,80]] ?_));iterate 4 refine op3 ?_
 refine qA (cnd ?_ ?_)
 ·intro h80;try simp at h80
  obtain⟨y,rfl⟩:∃ y,B=[y]:=List.length_eq_one_iff.1 (by omega);have hym:=hmb y (by simp);have hol:=fun u h1 h2=>zOK (A:=A) (y:=y) (u:=u) hym hma h1 h2;have g0:(zP (X++(A++(y::Y))))[X.length+A.length]?=some y.enc:=by
   have:=yX (A:=X++A) (B:=Y) (x:=y);rwa [bU,cD]at this
  have ht0:((X.length:Int)+A.length).toNat=X.length+A.length:=by omega
  have hrl:(zP (X++(A++(y::Y)))).length=X.length+A.length+1+Y.length:=by rw[jP];simp;omega
  simp only[dA]at hl;refine rgn [] [[],[0,2,4,14]] ?_;iterate 2 refine op3 ?_
  refine qA (rgn [] [[],[0,2,4,14,15]] ?_);iterate 2 refine op3 ?_
  refine qA (AW.seq (AW.block ?_));refine AW.loop (α:=Nat × Nat) (fun a=>a.1<=a.2/\a.2<=A.length/\(∀ k x,k<a.1->A[k]?=some x->¬ wT y x<0)/\(∀ k x,a.2<=k->A[k]?=some x->wT y x<0)) (fun a=>⟨qZ 220 [(0,.ms 890),(2,.p (.int .i64 ((X.length+A.length:Nat):Int))),(4,.p (.fn 83)),(14,.p (.int .i64 ((X.length+a.1:Nat):Int))),(15,.p (.int .i64 ((X.length+a.2:Nat):Int)))],[890],[(890,.row 31 9 (zP (X++(A++(y::Y)))))],700⟩) (fun a=>a.2-a.1) ((0,A.length)) ⟨by simp,by simp,by simp,fun k y h1 h2=>by have:=(bB.1 h2).1;simp only at h1;omega⟩ ⟨qE (by simp),rfl,by simp,by simp⟩ ?_;rintro⟨u,v⟩ ⟨q1,q2,q3,q4⟩;simp only at q1 q2 q3 q4;refine AW.seq (rgn [] [[],[],[0,2,4,14,15,85]] ?_);iterate 3 refine op3 ?_
  refine qA (cnd ?_ ?_)
  ·intro h85;try simp at h85
   obtain⟨w,hw⟩:∃ w,(u+v) / 2=w:=⟨_,rfl⟩;have hmid:(((X.length:Int)+u+(X.length+v))) / 2=X.length+w:=by omega
   obtain⟨x,hx⟩:∃ y,A[w]?=some y:=⟨A[w]'(by omega),by simp[show w<A.length by omega]⟩;have hxm:=hma x (bH hx);have hc:=hcm y x hym hxm;have g1:(zP (X++(A++(y::Y))))[X.length+w]?=some x.enc:=by
    unfold zP;rw[bG,cU (by omega),show X.length+w-X.length=w by omega,cW (by omega),hx];rfl
   have htw:((X.length:Int)+w).toNat=X.length+w:=by omega
   simp only[iK x,iK y]at g0 g1 hc;have hwr:=qLX (s:=(X.length:Int)+u+(X.length+v)) (by omega) (by omega);rw[hmid]at hwr;refine AW.skip (AW.block (rgn [] [[],[],[],[],[0,2,4,14,15,90],[],[0,2,4,14,15,16]] ?_));iterate 7 refine op3 ?_ (hv:=by first|exact True.intro|(omega;done)|omega|simp)
   refine qA ?_;rw[hwr];refine iU tok mixed 12 [[4],[0],[2],[93,94],[95],[0],[16],[97,98],[99],[92,96,100],[101],[102]] [y.enc,x.enc,.nilp,.int .i64 (wT y x)] [] (by kernel_rfl) ?_;iterate 12 refine d1 ?_ (hv:=by first|exact True.intro|(rw[htw];exact g1)|(rw[ht0];exact g0)|exact g0|exact hc|(rw[hrl];omega)|(refine⟨by omega, ?_⟩;rw[hrl];omega)|omega;done|omega|simp)
   refine DGo.nil (by kernel_rfl) ⟨by kernel_rfl, ?_⟩;refine qB.nil ?_;refine cnd ?_ ?_
   ·intro h103;try simp at h103
    have hlow:∀ k z,k<w+1->A[k]?=some z->¬ wT y z<0:=fun k z hk hz hlt=>by
     by_cases e:k=w
     ·subst e;rw[hx]at hz;cases hz;omega
     have:=yO.lt_le hym (hma z (bH hz)) hxm hlt (qYZ hsa (by omega) hz hx);omega
    refine rgz [] [[],[],[0,2,4,14,15]] ?_;iterate 3 refine op3 ?_
    refine qA ?_;exact⟨(w+1,v),⟨by simp only;omega,q2,hlow,q4⟩,by simp only;omega,qE (by simp[show(X.length:Int)+w+1=X.length+(w+1) from by omega]),rfl,by simp[show(X.length:Int)+w+1=X.length+(w+1) from by omega],by simp[show(X.length:Int)+w+1=X.length+(w+1) from by omega]⟩
   intro h103;try simp at h103
   have hhi:∀ k z,w<=k->A[k]?=some z->wT y z<0:=fun k z hk hz=>by
    by_cases e:k=w
    ·subst e;rw[hx]at hz;cases hz;omega
    exact yO.lt_le hym hxm (hma z (bH hz)) (by omega) (qYZ hsa (by omega) hx hz)
   refine rgz [] [[],[0,2,4,14,15]] ?_;iterate 2 refine op3 ?_
   refine qA ?_;exact⟨(u,w),⟨by simp only;omega,by simp only;omega,q3,hhi⟩,by simp only;omega,qE (by simp),rfl,by simp,by simp⟩
  intro h85;try simp at h85
  obtain rfl:u=v:=by omega
  have hol:=hol u q3 q4;refine AW.exit ?_;simp;refine AW.seq (rgn [] [[],[0,14,17]] ?_);iterate 2 refine op3 ?_
  refine qA (AW.block ?_);refine AW.loop (α:=Nat) (fun t=>u<=t/\t<=A.length) (fun t=>⟨qZ 220 [(0,.ms 890),(14,.p (.int .i64 ((X.length+u:Nat):Int))),(17,.p (.int .i64 ((X.length+t:Nat):Int)))],[890],[(890,.row 31 9 (zP (X++(A.take t++(y::(A.drop t++Y))))))],700⟩) (fun t=>t) (A.length) ⟨q2,bP _⟩ ⟨qE (by simp),rfl,by simp,by simp⟩ ?_;rintro t ⟨ht1,ht2⟩;refine AW.seq (rgn [] [[],[],[0,14,17,110]] ?_);iterate 3 refine op3 ?_
  refine qA (cnd ?_ ?_)
  ·intro h110;try simp at h110
   obtain⟨t,rfl⟩:∃ s,t=s+1:=⟨t-1,by omega⟩;obtain⟨z,hz⟩:∃ y,A[t]?=some y:=⟨A[t]'(by omega),by simp[show t<A.length by omega]⟩;have hd:A.drop t=z::A.drop (t+1):=by
    obtain⟨h1,h2⟩:=bB.1 hz;rw[cJ h1,h2]
   have htk:A.take (t+1)=A.take t++[z]:=by rw[bX,hz];rfl
   have hlt:(A.take t).length=t:=by rw[cK];omega
   have hl4:(A.drop (t+1)).length=A.length-(t+1):=bQ;have e0:X++(A.take (t+1)++(y::(A.drop (t+1)++Y)))=X++(A.take t++(z::y::(A.drop (t+1)++Y))):=by rw[htk];simp
   rw[e0];have hfin:zP (X++(A.take t++(y::(A.drop t++Y))))=zP (X++(A.take t++(y::z::(A.drop (t+1)++Y)))):=by rw[hd];simp
   have b1:=yX (A:=X++A.take t) (B:=y::(A.drop (t+1)++Y)) (x:=z);have b2:=qIQ (A:=X++A.take t) (B:=A.drop (t+1)++Y) (x:=z) (y:=y);have b3:=qNO (A:=X++A.take t) (B:=A.drop (t+1)++Y) (x:=z) (y:=y) (z:=z);have b4:=yX (A:=X++A.take t) (B:=z::(A.drop (t+1)++Y)) (x:=z);have b5:=qCK (A:=X++A.take t) (B:=z::(A.drop (t+1)++Y)) (x:=z) (y:=y);have hnl:(X++A.take t).length=X.length+t:=by rw[bU,hlt]
   have hrl2:(zP (X++(A.take t++(z::y::(A.drop (t+1)++Y))))).length=X.length+1+A.length+Y.length:=by rw[jP];simp only[bU,cA,hlt,hl4];omega
   simp only[hnl,cD]at b1 b2 b3 b4 b5;have hi1:((X.length:Int)+((t:Int)+1)).toNat=X.length+t+1:=by omega
   generalize hR:A.drop (t+1)=R at *;generalize hP:A.take t=P at *;simp only[iK z,iK y]at b1 b2 b3 b4 b5;refine AW.skip (AW.seq (AW.block ?_));refine lR mixed 16 [[0],[17],[0],[17],[116],[0],[17],[119],[118,120],[121],[0],[17],[123,124],[125],[113,114],[127,122]] [z.enc,y.enc] (by kernel_rfl) ?_;iterate 2 refine iN tok (hv:=by first|exact True.intro|(rw[hi1];exact b2)|(rw[hi1,cY];exact b1)|(refine⟨by omega, ?_⟩;rw[hrl2];omega)|omega;done|omega|simp) (k := ?_)
   refine wI.q [890] (.ms 890) rfl (qFI tok (orc:=[]) (orc':=[]) (v:=True) (by conv=>lhs;simp) trivial) (by simp) (by kernel_rfl) (by conv=>lhs;simp) ?_;iterate 6 refine iN tok (hv:=by first|exact True.intro|(rw[hi1];exact b2)|(rw[hi1,cY];exact b1)|(refine⟨by omega, ?_⟩;rw[hrl2];omega)|omega;done|omega|simp) (k := ?_)
   refine iW tok (orc:=[z.enc]) (hv:=by first|exact True.intro|(rw[hi1];exact b2)|(rw[hi1,cY];exact b1)|(refine⟨by omega, ?_⟩;rw[hrl2];omega)|omega;done|omega|simp) (k := ?_);iterate 3 refine iN tok (hv:=by first|exact True.intro|(rw[hi1];exact b2)|(rw[hi1,cY];exact b1)|(refine⟨by omega, ?_⟩;rw[hrl2];omega)|omega;done|omega|simp) (k := ?_)
   refine iW tok (orc:=[y.enc]) (hv:=by first|exact True.intro|(rw[hi1];exact b2)|(rw[hi1,cY];exact b1)|(refine⟨by omega, ?_⟩;rw[hrl2];omega)|omega;done|omega|simp) (k := ?_);refine iN tok (hv:=by first|exact True.intro|(rw[hi1];exact b2)|(rw[hi1,cY];exact b1)|(refine⟨by omega, ?_⟩;rw[hrl2];omega)|omega;done|omega|simp) (k := ?_);refine iW tok (orc:=[y.enc,z.enc]) (hv:=by first|exact True.intro|(rw[hi1];exact b2)|(rw[hi1,cY];exact b1)|(refine⟨by omega, ?_⟩;rw[hrl2];omega)|omega;done|omega|simp) (k := ?_);refine wI.nil (by kernel_rfl) ⟨by kernel_rfl, ?_⟩;refine qB.run [[],[0,14,17]] ?_;iterate 2 refine op3 ?_ (hv:=by first|exact True.intro|(rw[hi1,cY,b3];exact b4)|(refine⟨by omega, ?_⟩;rw[eO,hrl2];omega)|omega;done|omega|simp)
   refine qA (rgz [] [[],[],[0,14,17]] ?_);iterate 3 refine op3 ?_
   refine qA ?_;exact⟨t,⟨by omega,by omega⟩,by omega,qE (by simp[hi1,b3,b5,hP,hfin,show(X.length:Int)+((t:Int)+1)-1=X.length+t from by omega]),rfl,by simp[hi1,b3,b5,hP,hfin,show(X.length:Int)+((t:Int)+1)-1=X.length+t from by omega],by simp[hi1,b3,b5,hP,hfin,show(X.length:Int)+((t:Int)+1)-1=X.length+t from by omega]⟩
  intro h110;try simp at h110
  obtain rfl:t=u:=by omega
  have e9:X++(A.take t++(y::(A.drop t++Y)))=X++(mrg leV A [y]++Y):=by rw[hol];simp
  rw[e9];refine AW.exit ?_;simp;exact AW.ret zC
 intro h80;try simp at h80
 have hA2:2<=A.length:=by omega
 have hB2:2<=B.length:=by omega
 obtain⟨μ,hμ⟩:∃ w,(A.length+B.length) / 2=w:=⟨_,rfl⟩;have hmid:(((X.length:Int)+(X.length+A.length+B.length))) / 2=X.length+μ:=by omega
 have hwr:=qLX (s:=(X.length:Int)+(X.length+A.length+B.length)) (by omega) (by omega);rw[hmid]at hwr;have hrl:(zP (X++(A++(B++Y)))).length=X.length+A.length+B.length+Y.length:=by rw[jP];simp;omega
 refine AW.skip (rgn [] [[],[],[],[],[0,1,2,3,4,133],[],[0,1,2,3,4,18]] ?_);iterate 7 refine op3 ?_ (hv:=by first|exact True.intro|(omega;done)|omega|simp)
 refine qA ?_;rw[hwr];refine rgn [] [[],[],[],[0,1,2,3,4,18,19]] ?_;iterate 4 refine op3 ?_ (hv:=by first|exact True.intro|(omega;done)|omega|simp)
 refine qA (rgn [] [[],[0,1,2,3,4,18,19]] ?_);iterate 2 refine op3 ?_
 refine qA ?_;refine AW.join (α:=Nat × Nat) (fun a=>a.1<=a.2/\a.2<=A.length/\a.2<=μ/\μ<=a.1+B.length/\(a.1=0\/a.1+B.length=μ)/\(a.2=A.length\/a.2=μ)) (fun a=>⟨qZ 220 [(0,.ms 890),(1,.p (.int .i64 X.length)),(2,.p (.int .i64 ((X.length+A.length:Nat):Int))),(3,.p (.int .i64 ((X.length+A.length+B.length:Nat):Int))),(4,.p (.fn 83)),(18,.p (.int .i64 ((X.length+μ:Nat):Int))),(19,.p (.int .i64 ((X.length+μ+(X.length+A.length):Nat):Int))),(20,.p (.int .i64 ((X.length+a.1:Nat):Int))),(21,.p (.int .i64 ((X.length+a.2:Nat):Int)))],[890],[(890,.row 31 9 (zP (X++(A++(B++Y)))))],700⟩) ?_ ?_
 ·
  refine rgn [] [[],[],[0,1,2,3,4,18,19,140]] ?_;iterate 3 refine op3 ?_
  refine qA (cnd ?_ ?_)
  ·intro h140;try simp at h140
   have hAm:μ<A.length:=by omega
   refine rgn [] [[],[],[],[0,1,2,3,4,18,19,20]] ?_;iterate 4 refine op3 ?_
   refine qA (rgz [] [[],[0,1,2,3,4,18,19,20,21]] ?_);iterate 2 refine op3 ?_
   refine qA ?_;exact⟨(μ-B.length,μ),⟨by simp only;omega,by simp only;omega,bP _,by simp only;omega,.inr (by simp only;omega),.inr rfl⟩,qE (by simp[show(X.length:Int)+μ+(X.length+A.length)-(X.length+A.length+B.length)=X.length+((μ-B.length:Nat):Int) from by omega]),rfl,by simp[show(X.length:Int)+μ+(X.length+A.length)-(X.length+A.length+B.length)=X.length+((μ-B.length:Nat):Int) from by omega],by simp[show(X.length:Int)+μ+(X.length+A.length)-(X.length+A.length+B.length)=X.length+((μ-B.length:Nat):Int) from by omega]⟩
  intro h140;try simp at h140
  have hAm:¬ μ<A.length:=by omega
  refine rgn [] [[],[0,1,2,3,4,18,19,20]] ?_;iterate 2 refine op3 ?_
  refine qA (rgz [] [[],[0,1,2,3,4,18,19,20,21]] ?_);iterate 2 refine op3 ?_
  refine qA ?_;exact⟨(0,A.length),⟨fC _,bP _,by simp only;omega,by simp only;omega,.inl rfl,.inl rfl⟩,qE (by simp),rfl,by simp,by simp⟩
 ·
  rintro⟨lo,hi⟩ ⟨p1,p2,p3,p4,p5,p6⟩;simp only at p1 p2 p3 p4 p5 p6;refine rgn [] [[],[],[0,1,2,3,4,18,19,20,21,22]] ?_;iterate 3 refine op3 ?_
  refine qA (AW.seq (AW.block ?_));refine AW.loop (α:=Nat × Nat) (fun a=>lo<=a.1/\a.1<=a.2/\a.2<=hi/\(a.1=lo\/∃ x y,A[a.1-1]?=some x/\B[μ-a.1]?=some y/\¬ wT y x<0)/\(a.2=hi\/∃ x y,A[a.2]?=some x/\B[μ-1-a.2]?=some y/\wT y x<0)) (fun a=>⟨qZ 220 [(0,.ms 890),(1,.p (.int .i64 X.length)),(2,.p (.int .i64 ((X.length+A.length:Nat):Int))),(3,.p (.int .i64 ((X.length+A.length+B.length:Nat):Int))),(4,.p (.fn 83)),(18,.p (.int .i64 ((X.length+μ:Nat):Int))),(19,.p (.int .i64 ((X.length+μ+(X.length+A.length):Nat):Int))),(20,.p (.int .i64 ((X.length+a.1:Nat):Int))),(21,.p (.int .i64 ((X.length+a.2:Nat):Int))),(22,.p (.int .i64 (((X.length+μ+(X.length+A.length):Nat):Int)-1)))],[890],[(890,.row 31 9 (zP (X++(A++(B++Y)))))],700⟩) (fun a=>a.2-a.1) ((lo,hi)) ⟨bP _,p1,bP _,.inl rfl,.inl rfl⟩ ⟨qE (by simp),rfl,by simp,by simp⟩ ?_;rintro⟨u,v⟩ ⟨q1,q2,q3,q4,q5⟩;simp only at q1 q2 q3 q4 q5;refine AW.seq (rgn [] [[],[],[0,1,2,3,4,18,19,20,21,22,151]] ?_);iterate 3 refine op3 ?_
  refine qA (cnd ?_ ?_)
  ·intro h151;try simp at h151
   obtain⟨w,hw⟩:∃ w,(u+v) / 2=w:=⟨_,rfl⟩;have hmid2:(((X.length:Int)+u+(X.length+v))) / 2=X.length+w:=by omega
   have hwr2:=qLX (s:=(X.length:Int)+u+(X.length+v)) (by omega) (by omega);rw[hmid2]at hwr2;obtain⟨x,hx⟩:∃ y,A[w]?=some y:=⟨A[w]'(by omega),by simp[show w<A.length by omega]⟩;obtain⟨y,hy⟩:∃ y,B[μ-1-w]?=some y:=⟨B[μ-1-w]'(by omega),by simp[show μ-1-w<B.length by omega]⟩;have hxm:=hma x (bH hx);have hym:=hmb y (bH hy);have hc:=hcm y x hym hxm;have g1:(zP (X++(A++(B++Y))))[X.length+w]?=some x.enc:=by
    unfold zP;rw[bG,cU (by omega),show X.length+w-X.length=w by omega,cW (by omega),hx];rfl
   have g2:(zP (X++(A++(B++Y))))[X.length+A.length+(μ-1-w)]?=some y.enc:=by
    unfold zP;rw[bG,cU (by omega),cU (by omega),show X.length+A.length+(μ-1-w)-X.length-A.length=μ-1-w by omega,cW (by omega),hy];rfl
   have htw:((X.length:Int)+w).toNat=X.length+w:=by omega
   have htp:((X.length:Int)+μ+(X.length+A.length)-1-(X.length+w)).toNat=X.length+A.length+(μ-1-w):=by omega
   simp only[iK x,iK y]at g1 g2 hc;refine AW.skip (AW.block (rgn [] [[],[],[],[],[0,1,2,3,4,18,19,20,21,22,156],[],[0,1,2,3,4,18,19,20,21,22,23]] ?_));iterate 7 refine op3 ?_ (hv:=by first|exact True.intro|(omega;done)|omega|simp)
   refine qA ?_;rw[hwr2];refine iU tok mixed 14 [[4],[0],[22],[23],[160,161],[159,162],[163],[0],[23],[165,166],[167],[158,164,168],[169],[170]] [y.enc,x.enc,.nilp,.int .i64 (wT y x)] [] (by kernel_rfl) ?_;iterate 14 refine d1 ?_ (hv:=by first|exact True.intro|(rw[htw];exact g1)|(rw[htp];exact g2)|exact hc|(rw[hrl];omega)|(refine⟨by omega, ?_⟩;rw[hrl];omega)|omega;done|omega|simp)
   refine DGo.nil (by kernel_rfl) ⟨by kernel_rfl, ?_⟩;refine qB.nil ?_;refine cnd ?_ ?_
   ·intro h171;try simp at h171
    have hge:¬ wT y x<0:=by omega
    refine rgz [] [[],[],[0,1,2,3,4,18,19,20,21,22]] ?_;iterate 3 refine op3 ?_
    refine qA ?_;exact⟨(w+1,v),⟨by simp only;omega,by simp only;omega,q3,.inr ⟨x,y,by simpa using hx,by rw[<-hy];simp only;congr 1;omega,hge⟩,q5⟩,by simp only;omega,qE (by simp[show(X.length:Int)+w+1=X.length+(w+1) from by omega]),rfl,by simp[show(X.length:Int)+w+1=X.length+(w+1) from by omega],by simp[show(X.length:Int)+w+1=X.length+(w+1) from by omega]⟩
   intro h171;try simp at h171
   have hlt:wT y x<0:=by omega
   refine rgz [] [[],[0,1,2,3,4,18,19,20,21,22]] ?_;iterate 2 refine op3 ?_
   refine qA ?_;exact⟨(u,w),⟨q1,by simp only;omega,by simp only;omega,q4,.inr ⟨x,y,hx,hy,hlt⟩⟩,by simp only;omega,qE (by simp),rfl,by simp,by simp⟩
  intro h151;try simp at h151
  obtain rfl:u=v:=by omega
  obtain⟨e,he⟩:∃ e,e+u=μ:=⟨μ-u,by omega⟩;obtain⟨A1,hA1⟩:∃ l,A.take u=l:=⟨_,rfl⟩;obtain⟨A2,hA2e⟩:∃ l,A.drop u=l:=⟨_,rfl⟩;obtain⟨B1,hB1⟩:∃ l,B.take e=l:=⟨_,rfl⟩;obtain⟨B2,hB2e⟩:∃ l,B.drop e=l:=⟨_,rfl⟩;have hAA:A=A1++A2:=by rw[<-hA1,<-hA2e,cE]
  have hBB:B=B1++B2:=by rw[<-hB1,<-hB2e,cE]
  have lA1:A1.length=u:=by rw[<-hA1,cK];omega
  have lA2:A2.length=A.length-u:=by rw[<-hA2e,bQ]
  have lB1:B1.length=e:=by rw[<-hB1,cK];omega
  have lB2:B2.length=B.length-e:=by rw[<-hB2e,bQ]
  have htwo:=zNC (A1:=A1) (A2:=A2) (B1:=B1) (B2:=B2) (hAA ▸ hma) (hBB ▸ hmb) (hAA ▸ hsa) (hBB ▸ hsb) (fun a b h1 h2=>by
   rcases q4 with q4|⟨x,y,hx,hy,hlt⟩
   ·rcases p5 with p5|p5
    ·have:A1=[]:=bS (by omega);rw[this]at h1;cases h1
    have:B2=[]:=bS (by omega);rw[this]at h2;cases h2
   ·have hu:0<u:=by
     apply Nat.pos_of_ne_zero;intro h0;have:A1=[]:=bS (by omega);rw[this]at h1;cases h1
    rw[<-hA1,List.getLast?_take,bD (by omega),hx]at h1;rw[<-hB2e,List.head?_drop,show e=μ-u by omega,hy]at h2;cases h1;cases h2;exact hlt) (fun a b h1 h2=>by
   rcases q5 with q5|⟨x,y,hx,hy,hlt⟩
   ·rcases p6 with p6|p6
    ·have:A2=[]:=bS (by omega);rw[this]at h1;cases h1
    have:B1=[]:=bS (by omega);rw[this]at h2;cases h2
   have hu:0<e:=by
    apply Nat.pos_of_ne_zero;intro h0;have:B1=[]:=bS (by omega);rw[this]at h2;cases h2
   rw[<-hA2e,List.head?_drop,hx]at h1;rw[<-hB1,List.getLast?_take,bD (by omega),show e-1=μ-1-u by omega,hy]at h2;cases h1;cases h2;exact hlt)
  have mA1:qBP A1:=fun v hv=>hma v (by rw[hAA];exact fE _ hv);have mA2:qBP A2:=fun v hv=>hma v (by rw[hAA];exact eK _ hv);have mB1:qBP B1:=fun v hv=>hmb v (by rw[hBB];exact fE _ hv);have mB2:qBP B2:=fun v hv=>hmb v (by rw[hBB];exact eK _ hv);obtain⟨sA1,sA2,_⟩:=eE.1 (hAA ▸ hsa);obtain⟨sB1,sB2,_⟩:=eE.1 (hBB ▸ hsb);have hlm:(mrg leV A1 B1).length=u+e:=by rw[zXY,lA1,lB1]
  have eRow:X++(A++(B++Y))=(X++A1)++(A2++(B1++(B2++Y))):=by rw[hAA,hBB];simp
  have eRes:X++(mrg leV A B++Y)=(X++mrg leV A1 B1)++(mrg leV A2 B2++Y):=by
   have:mrg leV A B=mrg leV A1 B1++mrg leV A2 B2:=by rw[<-htwo,<-hAA,<-hBB]
   rw[this];simp
  have hend:(X.length:Int)+μ+(X.length+A.length)-(X.length+u)=X.length+A.length+e:=by omega
  rw[eRow,eRes];refine AW.exit ?_;simp;refine rgn [] [[],[],[],[0,1,2,3,4,18,20,24]] ?_;iterate 4 refine op3 ?_
  refine qA ?_;refine AW.join (α:=Unit) (fun _=>True) (fun a=>⟨qZ 220 [(0,.ms 890),(1,.p (.int .i64 X.length)),(3,.p (.int .i64 ((X.length+A.length+B.length:Nat):Int))),(4,.p (.fn 83)),(18,.p (.int .i64 ((X.length+μ:Nat):Int))),(20,.p (.int .i64 ((X.length+u:Nat):Int))),(24,.p (.int .i64 ((X.length+A.length+e:Nat):Int)))],[890],[(890,.row 31 9 (zP ((X++A1)++(B1++(A2++(B2++Y))))))],700⟩) ?_ ?_
  ·
   rw[hend];refine rgn [] [[],[],[],[],[],[],[0,1,2,3,4,18,20,24,181,184],[0,1,2,3,4,18,20,24,185]] ?_;iterate 4 refine op3 ?_
   iterate 3 refine op4 ?_
   refine op3 ?_;refine qA (cnd ?_ ?_)
   ·intro h185;try simp at h185
    have hrot:=zXO (G:=G) (X++A1) A2 B1 (B2++Y) (by simp;omega) (by omega) (by omega);rw[show(X++A1).length=X.length+u by simp[lA1],show X.length+u+A2.length=X.length+A.length by omega,show X.length+A.length+B1.length=X.length+A.length+e by omega]at hrot;refine rgz [] [[],[],[],[],[]] ?_;iterate 5 refine op3 ?_
    refine qJ ?_;refine qB.stepK [0,1,3,4,18,20,24] (zI rfl hrot (by simp)) (by conv=>lhs;simp) rfl ?_;refine qB.nil ?_;exact⟨(),trivial,qE (by simp),rfl,by simp,by simp⟩
   intro h185;try simp at h185
   have e7:A2++(B1++(B2++Y))=B1++(A2++(B2++Y)):=by
    by_cases h:A2.length=0
    ·rw[bS h];rfl
    rw[bS (show B1.length=0 by omega)];rfl
   rw[e7];refine AW.skip ?_;exact⟨(),trivial,qE (by simp),rfl,by simp,by simp⟩
  ·
   rintro a hI;refine AW.join (α:=Unit) (fun _=>True) (fun a=>⟨qZ 220 [(0,.ms 890),(3,.p (.int .i64 ((X.length+A.length+B.length:Nat):Int))),(4,.p (.fn 83)),(18,.p (.int .i64 ((X.length+μ:Nat):Int))),(24,.p (.int .i64 ((X.length+A.length+e:Nat):Int)))],[890],[(890,.row 31 9 (zP (X++(mrg leV A1 B1++(A2++(B2++Y))))))],700⟩) ?_ ?_
   ·
    refine rgn [] [[],[],[],[],[],[],[0,1,3,4,18,20,24,195,198],[0,1,3,4,18,20,24,199]] ?_;iterate 4 refine op3 ?_
    iterate 3 refine op4 ?_
    refine op3 ?_;refine qA (cnd ?_ ?_)
    ·intro h199;try simp at h199
     have h1:=ih X A1 B1 (A2++(B2++Y)) (by omega) ⟨by simp;omega,by omega,by omega,mA1,mB1,sA1,sB1⟩;unfold qUJ at h1;rw[show X.length+A1.length=X.length+u by omega,show X.length+u+B1.length=X.length+μ by omega,show X++(A1++(B1++(A2++(B2++Y))))=(X++A1)++(B1++(A2++(B2++Y))) by simp]at h1;refine rgz [] [[],[],[],[],[]] ?_;iterate 5 refine op3 ?_
     refine qJ ?_;refine qB.stepK [0,3,4,18,24] (zI rfl h1 (by simp)) (by conv=>lhs;simp) rfl ?_;refine qB.nil ?_;exact⟨(),trivial,qE (by simp),rfl,by simp,by simp⟩
    intro h199;try simp at h199
    have e8:X++(A1++(B1++(A2++(B2++Y))))=X++(mrg leV A1 B1++(A2++(B2++Y))):=by
     by_cases h:A1.length=0
     ·rw[bS h,xB];simp
     rw[bS (show B1.length=0 by omega),kC];simp
    rw[e8];refine AW.skip ?_;exact⟨(),trivial,qE (by simp),rfl,by simp,by simp⟩
   ·
    rintro a hI;refine rgn [] [[],[],[],[],[],[],[0,3,4,18,24,209,212],[0,3,4,18,24,213]] ?_;iterate 4 refine op3 ?_
    iterate 3 refine op4 ?_
    refine op3 ?_;refine qA (cnd ?_ ?_)
    ·intro h213;try simp at h213
     have h2:=ih (X++mrg leV A1 B1) A2 B2 Y (by omega) ⟨by simp[hlm];omega,by omega,by omega,mA2,mB2,sA2,sB2⟩;unfold qUJ at h2;rw[show(X++mrg leV A1 B1).length=X.length+μ by simp[hlm];omega,show X.length+μ+A2.length=X.length+A.length+e by omega,show X.length+A.length+e+B2.length=X.length+A.length+B.length by omega]at h2;refine rgz [] [[],[],[],[4,214,215,216,217],[]] ?_;iterate 5 refine op3 ?_
     refine qJ ?_;refine qB.stepK [] (zI rfl h2 (by simp)) (by conv=>lhs;simp) rfl ?_;refine qB.nil ?_;exact qDP
    intro h213;try simp at h213
    have e9:X++(mrg leV A1 B1++(A2++(B2++Y)))=(X++mrg leV A1 B1)++(mrg leV A2 B2++Y):=by
     by_cases h:A2.length=0
     ·rw[bS h,xB];simp
     rw[bS (show B2.length=0 by omega),kC];simp
    rw[e9];refine AW.skip ?_;exact qDP
theorem zRP (X A B Y:List Val) (h:SymIn X A B Y):qUJ G X A B Y:=by
 have key:∀ (n:Nat) (X A B Y:List Val),A.length+B.length<=n->SymIn X A B Y->qUJ G X A B Y:=by
  intro n;induction n with
  | zero=>intro X A B Y hn h;have:=h.a;omega
  | succ n ih=>intro X A B Y hn h;exact zRO (n+1) X A B Y hn h (fun X A B Y hlt h=>ih X A B Y (by omega) h)
 exact key _ X A B Y (bP _) h
end Go.Proofs.YtgcbapchinideaaGreatDoor
