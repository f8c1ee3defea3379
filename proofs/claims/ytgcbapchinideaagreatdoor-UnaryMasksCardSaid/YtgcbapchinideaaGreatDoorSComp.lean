import Derived.Test.YtgcbapchinideaaGreatDoorSStabW
import Derived.Test.YtgcbapchinideaaGreatDoorK1
set_option linter.all false
namespace Go.Proofs.YtgcbapchinideaaGreatDoor
open Sy Go
set_option maxRecDepth 100000
set_option maxHeartbeats 4000000
variable {G:qT}
def uqF (x:Val):List Val->List Val
 | []=>[]
 | y::l=>if wT y x=0 then uqF y l else y::uqF y l
def uqV:List Val->List Val
 | []=>[]
 | x::l=>x::uqF x l
theorem zBU (c:Val):∀ (A:List Val) (x p:Val),(x::A)[A.length]?=some p->uqF x (A++[c])=uqF x A++(if wT c p=0 then[] else[c])
 | [],x,p,h=>by
  simp only[dN,List.getElem?_cons_zero,Option.some.injEq]at h;subst h;simp only[dH,uqF]
 | y::A,x,p,h=>by
  simp only[cA,gI]at h;simp only[cT,uqF];rw[zBU c A y p h];split <;> simp
theorem zKD {l:List Val} {k:Nat} {p c:Val} (hk:1<=k) (hp:l[k-1]?=some p) (hc:l[k]?=some c):uqV (l.take (k+1))=uqV (l.take k)++(if wT c p=0 then[] else[c]):=by
 obtain⟨k,rfl⟩:∃ m,k=m+1:=⟨k-1,by omega⟩;cases l with
 | nil=>simp at hc
 | cons x l =>
  simp only[cY,gI]at hp hc;have hl:k<l.length:=(bB.1 hc).1;have h1:l.take (k+1)=l.take k++[c]:=by rw[bX,hc];rfl
  have hlen:(l.take k).length=k:=by rw[cK];omega
  simp only[List.take_succ_cons,uqV,h1,cT];rw[zBU c (l.take k) x p];rw[hlen];cases k with
  | zero=>simpa using hp
  | succ k=>simp at hp ⊢; exact hp
theorem zRE (l:List Val):uqV (l.take 1)=l.take 1:=by cases l <;> simp[uqV,uqF]
theorem zYV (g:FuncId) (l:List Val) (hg:∀ a b:Val,qU a=true->qU b=true->AFn Tryz.prog G g [a.enc,b.enc] (.bool (decide (wT a b=0)))) (hl:l.length<=1000000) (hm:qBP l):AX Tryz.prog G 84 [.ms 890,.p (.fn g)] [(890,.row 31 9 (zP l))] (.ms 890) [] [(890,.row 31 9 (zP (uqV l)))]:=by
 refine AX.introU tok 700 Tryz.func84 (by kernel_rfl) rfl rfl ?_;simp only[Tryz.f84,qG,bA,bC];have hrl:=jP l;refine rgn [] [[0,1]] ?_;refine op3 ?_;refine qA (AW.seq (rgn [] [[],[],[0,1,10]] ?_));iterate 3 refine op3 ?_
 refine qA (cnd ?_ ?_)
 ·intro h10;try simp at h10
  have hu:uqV l=l:=by
   have:=zRE l;rwa [bK (by omega)]at this
  rw[hu];refine rgn [] [[],[4]] ?_;iterate 2 refine op3 ?_
  refine qA ?_;exact AW.ret zC
 intro h10;try simp at h10
 refine AW.skip (AW.seq (rgn [] [[]] ?_));refine op3 ?_;refine qA (AW.block ?_);refine AW.loop (α:=Nat) (fun k=>1<=k/\k<=l.length/\uqV (l.take k)=l.take k) (fun k=>⟨qZ 66 [(0,.ms 890),(1,.p (.fn g)),(5,.p (.int .i64 k))],[890],[(890,.row 31 9 (zP l))],700⟩) (fun k=>l.length-k) (1) ⟨by omega,by omega,zRE l⟩ ⟨qE (by simp),rfl,by simp,by simp⟩ ?_;rintro k ⟨hk1,hk2,hk3⟩;refine AW.seq (rgn [] [[],[],[],[0,1,5,15]] ?_);iterate 4 refine op3 ?_
 refine qA (cnd ?_ ?_)
 ·intro h15;try simp at h15
  obtain⟨c,hc⟩:∃ c,l[k]?=some c:=⟨l[k]'(by omega),by simp[show k<l.length by omega]⟩;obtain⟨p,hp⟩:∃ p,l[k-1]?=some p:=⟨l[k-1]'(by omega),by simp[show k-1<l.length by omega]⟩;have hgc:=hg c p (hm c (bH hc)) (hm p (bH hp));have hut:=zKD hk1 hp hc;have g1:(zP l)[k]?=some c.enc:=by unfold zP;rw[bG,hc];rfl
  have g2:(zP l)[k-1]?=some p.enc:=by unfold zP;rw[bG,hp];rfl
  have hz:((k:Int)-1).toNat=k-1:=by omega
  simp only[iK]at hgc g1 g2;refine AW.skip (AW.seq (AW.block ?_));refine iU tok mixed 11 [[1],[0],[5],[19,20],[21],[0],[5],[24],[23,25],[26],[18,22,27]] [c.enc,p.enc,.nilp,.bool (decide (wT c p=0))] [] (by kernel_rfl) ?_;iterate 11 refine d1 ?_ (hv:=by first|exact True.intro|exact g1|(rw[hz];exact g2)|exact hgc|(refine⟨by omega, ?_⟩;rw[hrl];omega)|omega|(trace_state;fail);done|omega|simp)
  refine DGo.nil (by kernel_rfl) ⟨by kernel_rfl, ?_⟩;refine qB.nil ?_;refine cnd ?_ ?_
  ·intro h28;try simp at h28
   have hF0:uqV (l.take (k+1))=l.take k:=by rw[hut,bE (by simpa using h28),cR,hk3]
   have hl0:(l.take k).length=k:=by rw[cK];omega
   have hrow:l.take k++c::l.drop (k+1)=l:=by
    obtain⟨h1,h2⟩:=bB.1 hc;rw[<-h2,<-cJ h1,cE]
   refine rgn [] [[],[]] ?_;iterate 2 refine op3 ?_
   refine qJ ?_;refine qB.stepK [0,1,5,31] (wAU tok k rfl rfl rfl (by conv=>lhs;simp) trivial (by conv=>lhs;simp) trivial (by conv=>lhs;simp) rfl (by omega) rfl) (by conv=>lhs;simp) rfl ?_;refine qB.run [[0,1,5,6]] ?_;refine op3 ?_;refine qA (AW.seq (rgn [] [[]] ?_));refine op3 ?_;refine qA (AW.block ?_);refine AW.loop (α:=Nat × List Val × Val) (fun a=>1<=a.1/\k+a.1<=l.length/\(uqV (l.take (k+a.1))).length+a.2.1.length+1=k+a.1/\l[k+a.1-1]?=some a.2.2) (fun a=>⟨qZ 66 [(0,.ms 890),(1,.p (.fn g)),(5,.p (.int .i64 (uqV (l.take (k+a.1))).length)),(6,.tl 890 k 9),(7,.p (.int .i64 a.1))],[890],[(890,.row 31 9 (zP (uqV (l.take (k+a.1))++(a.2.1++a.2.2::l.drop (k+a.1)))))],700⟩) (fun a=>l.length-a.1) ((1,[],c)) ⟨by simp,by simp only;omega,by simp only[hF0];simp;omega,by simpa using hc⟩ ⟨qE (by simp[hF0,hl0]),rfl,by simp[hF0,hrow],by simp[hF0,hrow]⟩ ?_;rintro⟨i,J,p2⟩ ⟨hi1,hi2,hi3,hi4⟩;simp only at hi1 hi2 hi3 hi4;have hdl:(l.drop (k+i)).length=l.length-(k+i):=bQ;have hut2:=fun c hc=>zKD (l:=l) (k:=k+i) (p:=p2) (c:=c) (by omega) hi4 hc;generalize hF:uqV (l.take (k+i))=F at *;generalize hD:l.drop (k+i)=D at *;have hrl2:(zP (F++(J++p2::D))).length=l.length:=by rw[jP];simp;omega
   refine AW.seq (rgn [] [[],[]] ?_);iterate 2 refine op3 ?_
   refine qJ ?_;refine qB.stepK [0,1,5,6,7,32,34] (zMY tok rfl rfl (by conv=>lhs;simp) trivial (by conv=>lhs;simp)) (by conv=>lhs;simp) rfl ?_;refine qB.run [[0,1,5,6,7,35]] ?_;refine op3 ?_;refine qA (cnd ?_ ?_)
   ·intro h35;try simp at h35
    obtain⟨d,C,rfl⟩:∃ d C,D=d::C:=by
     cases D with
     | nil=>simp only[dN]at hdl;omega
     | cons d C=>exact⟨d,C,rfl⟩
    have hd:l[k+i]?=some d:=by
     have:=congrArg List.head? hD;rwa [List.head?_drop]at this
    have hC:l.drop (k+(i+1))=C:=by
     rw[show k+(i+1)=(k+i)+1 by omega,<-dG,hD];rfl
    have hut3:=hut2 d hd;have hgd:=hg d p2 (hm d (bH hd)) (hm p2 (bH hi4));have g3:(zP (F++(J++p2::d::C)))[k+i]?=some d.enc:=by
     have:=yX (A:=F++(J++[p2])) (B:=C) (x:=d);rw[show(F++(J++[p2])).length=k+i by simp;omega]at this;simpa using this
    have g4:(zP (F++(J++p2::d::C)))[k+(i-1)]?=some p2.enc:=by
     have:=yX (A:=F++J) (B:=d::C) (x:=p2);rw[show(F++J).length=k+(i-1) by simp;omega]at this;simpa using this
    obtain⟨x,J2,hJ⟩:∃ x J2,J++[p2]=x::J2:=by
     cases J with
     | nil=>exact⟨p2,[],rfl⟩
     | cons x J=>exact⟨x,J++[p2],rfl⟩
    have hJl:J2.length=J.length:=by have:=congrArg List.length hJ;simp at this;omega
    have e1:F++(J++p2::d::C)=F++x::(J2++d::C):=by
     rw[show J++p2::d::C=(J++[p2])++d::C by simp,hJ];rfl
    have s1:(zP (F++(J++p2::d::C))).set F.length d.enc=zP ((F++[d])++(J2++d::C)):=by
     rw[e1,qCK];simp
    have g5:(zP (F++(J++p2::d::C)))[F.length]?=some x.enc:=by rw[e1];exact yX
    have e2:F++(J++p2::d::C)=F++((J++[p2])++d::C):=by simp
    simp only[iK]at hgd g3 g4 g5 s1;refine AW.skip (AW.seq (AW.block ?_));refine lF mixed 12 [[1],[6],[7],[39,40],[41],[6],[7],[44],[43,45],[46],[38,42,47],[48]] [] (by kernel_rfl) ?_;iterate 3 refine iN tok (hv:=by first|exact True.intro|exact g3|exact g4|exact hgd|omega|(trace_state;fail);done|omega|simp) (k := ?_)
    refine wI.y [(890,.row 31 9 (zP (F++(J++p2::d::C))))] [(890,.row 31 9 (zP (F++(J++p2::d::C))))] (.rptr 890 (k+i) 9 0) true rfl (qMY tok i rfl rfl rfl (by conv=>lhs;simp) trivial (by conv=>lhs;simp) trivial (by conv=>lhs;simp) rfl (by rw[hrl2];omega) rfl) (fun _=>rfl) (by simp) (by simp) (by kernel_rfl) (by kernel_rfl) (by conv=>lhs;simp) ?_;refine iW tok (orc:=[d.enc]) (hv:=by first|exact True.intro|exact g3|exact g4|exact hgd|omega|(trace_state;fail);done|omega|simp) (k := ?_);iterate 3 refine iN tok (hv:=by first|exact True.intro|exact g3|exact g4|exact hgd|omega|(trace_state;fail);done|omega|simp) (k := ?_)
    refine wI.y [(890,.row 31 9 (zP (F++(J++p2::d::C))))] [(890,.row 31 9 (zP (F++(J++p2::d::C))))] (.rptr 890 (k+(i-1)) 9 0) true rfl (qMY tok (i-1) rfl rfl rfl (by conv=>lhs;simp) trivial (by conv=>lhs;simp) trivial (by conv=>lhs;simp) rfl (by rw[hrl2];omega) (by omega)) (fun _=>rfl) (by simp) (by simp) (by kernel_rfl) (by kernel_rfl) (by conv=>lhs;simp) ?_;refine iW tok (orc:=[p2.enc]) (hv:=by first|exact True.intro|exact g3|exact g4|exact hgd|omega|(trace_state;fail);done|omega|simp) (k := ?_);refine iW tok (orc:=[.nilp,.bool (decide (wT d p2=0))]) (hv:=by first|exact True.intro|exact g3|exact g4|exact hgd|omega|(trace_state;fail);done|omega|simp) (k := ?_);refine iN tok (hv:=by first|exact True.intro|exact g3|exact g4|exact hgd|omega|(trace_state;fail);done|omega|simp) (k := ?_);refine wI.nil (by kernel_rfl) ⟨by kernel_rfl, ?_⟩;refine qB.nil ?_;refine cnd ?_ ?_
    ·intro h49;try simp at h49
     have hF1:uqV (l.take (k+(i+1)))=F++[d]:=by
      rw[show k+(i+1)=k+i+1 by omega,hut3,bD (by simpa using h49)]
     refine rgn [d.enc,x.enc,d.enc] [[],[],[],[]] ?_;iterate 4 refine op3 ?_ (hv:=by first|exact True.intro|exact g3|exact g5|(rw[hrl2];omega)|(trace_state;fail);done|omega|simp)
     refine qJ ?_;refine qB.stepK [0,1,5,6,7,50,51,54] (qMY tok i rfl rfl rfl (by conv=>lhs;simp) trivial (by conv=>lhs;simp) trivial (by conv=>lhs;simp) rfl (by rw[hrl2];omega) rfl) (by conv=>lhs;simp) rfl ?_;refine qB.run [[],[],[0,1,5,6,7]] ?_;iterate 3 refine op3 ?_ (hv:=by first|exact True.intro|exact g3|exact g5|(rw[hrl2];omega)|(trace_state;fail);done|omega|simp)
     refine qA (rgz [] [[],[],[0,1,5,6,7]] ?_);iterate 3 refine op3 ?_
     refine qA (rgz [] [[],[],[0,1,5,6,7]] ?_);iterate 3 refine op3 ?_
     refine qA ?_;exact⟨(i+1,J2,d),⟨by simp only;omega,by simp only;omega,by simp only[hF1];simp;omega,by simpa using hd⟩,by simp only;omega,qE (by simp[hF1,hC,s1]),rfl,by simp[hF1,hC,s1],by simp[hF1,hC,s1]⟩
    intro h49;try simp at h49
    have hF2:uqV (l.take (k+(i+1)))=F:=by
     rw[show k+(i+1)=k+i+1 by omega,hut3,bE (by simpa using h49),cR]
    refine AW.skip (rgz [] [[],[],[0,1,5,6,7]] ?_);iterate 3 refine op3 ?_
    refine qA ?_;exact⟨(i+1,J++[p2],d),⟨by simp only;omega,by simp only;omega,by simp only[hF2];simp;omega,by simpa using hd⟩,by simp only;omega,qE (by simp[hF2,hC,e2]),rfl,by simp[hF2,hC,e2],by simp[hF2,hC,e2]⟩
   intro h35;try simp at h35
   have hil:k+i=l.length:=by omega
   rw[hil,dW]at hF;rw[hF];have hFl:F.length<=l.length:=by omega
   have hcut:∀ R:List PD,((zP (F++(J++p2::D))).take F.length++R).take F.length=zP F:=fun R=>by
    unfold zP;rw[fW,dX (by simp),bK (by simp),dX (by simp),bK (by simp)]
   refine AW.exit ?_;simp;refine rgn [] [[],[]] ?_;iterate 2 refine op3 ?_
   refine qJ ?_;refine nY tok [0,5,61] (e0:=jN.enc) F.length rfl rfl rfl rfl rfl rfl rfl rfl rfl rfl (by simp) (by conv=>lhs;simp) trivial (by conv=>lhs;simp) trivial (by conv=>lhs;simp) rfl (by rw[hrl2];omega) rfl (by simp) ?_;simp only[St.put,zRG,zII,St.keep,zNA,qPL,zO];refine qB.nil ?_;refine rgn [] [[],[]] ?_;iterate 2 refine op3 ?_
   refine qJ ?_;refine qB.stepK [64] (zBM tok rfl rfl F.length (by conv=>lhs;simp) trivial (by conv=>lhs;simp) trivial rfl (by conv=>lhs;simp) (by first|(simp;done)|(simp;omega)) rfl) (by conv=>lhs;simp[hcut]) rfl ?_;refine qB.run [[4]] ?_;refine op3 ?_;refine qA ?_;exact AW.ret zC
  intro h28;try simp at h28
  have hk4:uqV (l.take (k+1))=l.take (k+1):=by
   rw[hut,bD (by simpa using h28),hk3,bX,hc];rfl
  refine AW.skip (rgz [] [[],[],[0,1,5]] ?_);iterate 3 refine op3 ?_
  refine qA ?_;exact⟨k+1,⟨by omega,by omega,hk4⟩,by omega,qE (by simp),rfl,by simp,by simp⟩
 intro h15;try simp at h15
 have hu:uqV l=l:=by rw[bK (by omega)]at hk3;exact hk3
 rw[hu];refine AW.exit ?_;simp;refine rgn [] [[],[4]] ?_;iterate 2 refine op3 ?_
 refine qA ?_;exact AW.ret zC
end Go.Proofs.YtgcbapchinideaaGreatDoor
