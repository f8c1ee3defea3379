import Derived.Test.YtgcbapchinideaaGreatDoorK5
import Derived.Test.YtgcbapchinideaaGreatDoorK2
import Derived.Test.YtgcbapchinideaaGreatDoorK3
import Derived.Test.YtgcbapchinideaaGreatDoorK4
import Derived.Test.YtgcbapchinideaaGreatDoorK1
set_option linter.all false
namespace Go.Proofs.YtgcbapchinideaaGreatDoor
open Sy Go
set_option maxRecDepth 100000
section
variable {α:Type} {le:α->α->Bool} {P:α->Prop}
structure LO (le:α->α->Bool) (P:α->Prop):Prop where
 tot:∀ {a b},P a->P b->le a b=false->le b a=true
 tr:∀ {a b c},P a->P b->P c->le a b=true->le b c=true->le a c=true
def qMW (P:α->Prop) (l:List α):Prop:=∀ x∈l,P x
theorem qMW.cons {x:α} {l:List α} (h:qMW P (x::l)):P x/\qMW P l:=⟨h x (by simp),fun y hy=>h y (by simp[hy])⟩
def mrg (le:α->α->Bool) (a b:List α):List α:=List.merge a b le
theorem xB (b:List α):mrg le [] b=b:=by simp[mrg]
theorem kC (a:List α):mrg le a []=a:=by simp[mrg]
theorem qBA {a b:α} {l1 l2:List α} (h:le a b=true):mrg le (a::l1) (b::l2)=a::mrg le l1 (b::l2):=by simp[mrg,gX,h]
theorem qCN {a b:α} {l1 l2:List α} (h:le a b=false):mrg le (a::l1) (b::l2)=b::mrg le (a::l1) l2:=by simp[mrg,gX,h]
theorem zLE {a b:List α} {x:α}:x∈mrg le a b↔x∈a\/x∈b:=by simp[mrg,List.mem_merge]
theorem zXY (a b:List α):(mrg le a b).length=a.length+b.length:=by simp[mrg,List.length_merge]
theorem qBY (o:LO le P):∀ A B C:List α,qMW P A->qMW P B->qMW P C->mrg le (mrg le A B) C=mrg le A (mrg le B C)
 | [],B,C,_,_,_=>by rw[xB,xB]
 | a::A,[],C,_,_,_=>by rw[kC,xB]
 | a::A,b::B,[],_,_,_=>by rw[kC,kC]
 | a::A,b::B,c::C,hA,hB,hC=>by
  obtain⟨pa,hA'⟩:=hA.cons;obtain⟨pb,hB'⟩:=hB.cons;obtain⟨pc,hC'⟩:=hC.cons;cases h1:le a b with
  | true =>
   cases h2:le b c with
   | true =>
    have h3:=o.tr pa pb pc h1 h2;have ih:=qBY o A (b::B) (c::C) hA' hB hC;rw[qBA h1,qBA h3,ih,qBA h2,qBA h1]
   | false =>
    rw[qCN h2];cases h3:le a c with
    | true =>
     have ih:=qBY o A (b::B) (c::C) hA' hB hC;rw[qBA h1,qBA h3,qBA h3,ih,qCN h2]
    | false =>
     have ih:=qBY o (a::A) (b::B) C hA hB hC';rw[qCN h3,<-ih,qBA h1,qCN h3]
  | false =>
   cases h2:le b c with
   | true =>
    have ih:=qBY o (a::A) B (c::C) hA hB' hC;rw[qCN h1,qBA h2,qBA h2,qCN h1,ih]
   | false =>
    have h3:le a c=false:=by
     cases h3:le a c with
     | false=>rfl
     | true=>rw[o.tr pa pc pb h3 (o.tot pb pc h2)]at h1;cases h1
    have ih:=qBY o (a::A) (b::B) C hA hB hC';rw[qCN h2,qCN h3,<-ih,qCN h1,qCN h2]
termination_by A B C=>A.length+B.length+C.length
def srt (le:α->α->Bool):List α->List α
 | []=>[]
 | x::l=>mrg le [x] (srt le l)
theorem qRQ:∀ l:List α,(srt le l).Perm l
 | [] => .nil
 | x::l=>(List.merge_perm_append _).trans ((qRQ l).cons x)
theorem uE (l:List α):(srt le l).length=l.length:=(qRQ l).length_eq
theorem uD {l:List α} {x:α}:x∈srt le l↔x∈l:=(qRQ l).mem_iff
theorem qYX {l:List α} (h:qMW P l):qMW P (srt le l):=fun x hx=>h x (uD.1 hx)
theorem qQH (o:LO le P):∀ A B:List α,qMW P A->qMW P B->srt le (A++B)=mrg le (srt le A) (srt le B)
 | [],B,_,_=>by simp[srt,xB]
 | a::A,B,hA,hB=>by
  obtain⟨pa,hA'⟩:=hA.cons;have ha:qMW P [a]:=fun x hx=>by rw[cG.1 hx];exact pa
  simp only[cT,srt];rw[qQH o A B hA' hB,qBY o _ _ _ ha (qYX hA') (qYX hB)]
abbrev Sor (le:α->α->Bool) (l:List α):Prop:=l.Pairwise fun a b=>le a b=true
theorem qZW (o:LO le P):∀ A B:List α,qMW P A->qMW P B->Sor le A->Sor le B->Sor le (mrg le A B)
 | [],B,_,_,_,h=>by rw[xB];exact h
 | a::A,[],_,_,h,_=>by rw[kC];exact h
 | a::A,b::B,hA,hB,h1,h2=>by
  obtain⟨pa,hA'⟩:=hA.cons;obtain⟨pb,hB'⟩:=hB.cons;obtain⟨s1,s2⟩:=fS.1 h1;obtain⟨t1,t2⟩:=fS.1 h2;cases h:le a b with
  | true =>
   rw[qBA h];refine fS.2 ⟨fun x hx => ?_,qZW o A (b::B) hA' hB s2 h2⟩;rcases zLE.1 hx with hx|hx
   ·exact s1 x hx
   rcases bM.1 hx with rfl|hx
   ·exact h
   exact o.tr pa pb (hB' x hx) h (t1 x hx)
  | false =>
   rw[qCN h];have hba:=o.tot pa pb h;refine fS.2 ⟨fun x hx => ?_,qZW o (a::A) B hA hB' h1 t2⟩;rcases zLE.1 hx with hx|hx
   ·rcases bM.1 hx with rfl|hx
    ·exact hba
    exact o.tr pb pa (hA' x hx) hba (s1 x hx)
   exact t1 x hx
termination_by A B=>A.length+B.length
theorem qIL (o:LO le P):∀ l:List α,qMW P l->Sor le (srt le l)
 | [],_=>List.Pairwise.nil
 | x::l,h=>by
  obtain⟨px,h'⟩:=h.cons;exact qZW o [x] _ (fun y hy=>by rw[cG.1 hy];exact px) (qYX h') (List.pairwise_singleton _ _) (qIL o l h')
theorem qZX {x:α}:∀ {A1 A2:List α},(∀ y∈A1,le y x=true)->(∀ y∈A2,le y x=false)->mrg le (A1++A2) [x]=A1++x::A2
 | [],[],_,_=>by simp[xB]
 | [],y::A2,_,h=>by rw[dH,qCN (h y (by simp)),kC];rfl
 | a::A1,A2,h1,h2=>by
  rw[cT,qBA (h1 a (by simp)),qZX (fun y hy=>h1 y (by simp[hy])) h2];rfl
theorem qBX:∀ {A1 A2 B1 B2:List α},(∀ x∈A1, ∀ y∈B2,le x y=true)->(∀ x∈A2, ∀ y∈B1,le x y=false)->mrg le (A1++A2) (B1++B2)=mrg le A1 B1++mrg le A2 B2
 | [],A2,[],B2,_,_=>by simp[xB]
 | [],[],b::B1,B2,_,_=>by simp[xB]
 | [],a::A2,b::B1,B2,h1,h2=>by
  have ih:=qBX (A1:=[]) (A2:=a::A2) (B1:=B1) (B2:=B2) h1 (fun x hx y hy=>h2 x hx y (by simp[hy]));rw[dH,cT,qCN (h2 a (by simp) b (by simp)),xB];rw[dH,xB]at ih;rw[ih];rfl
 | a::A1,A2,[],[],_,_=>by simp[kC]
 | a::A1,A2,[],b::B2,h1,h2=>by
  have ih:=qBX (A1:=A1) (A2:=A2) (B1:=[]) (B2:=b::B2) (fun x hx=>h1 x (by simp[hx])) h2;rw[cT,dH,qBA (h1 a (by simp) b (by simp)),kC];rw[dH,kC]at ih;rw[ih];rfl
 | a::A1,A2,b::B1,B2,h1,h2=>by
  simp only[cT];cases h:le a b with
  | true =>
   have ih:=qBX (A1:=A1) (A2:=A2) (B1:=b::B1) (B2:=B2) (fun x hx=>h1 x (by simp[hx])) h2;rw[qBA h,qBA h,cT,<-ih];rfl
  | false =>
   have ih:=qBX (A1:=a::A1) (A2:=A2) (B1:=B1) (B2:=B2) h1 (fun x hx y hy=>h2 x hx y (by simp[hy]));rw[qCN h,qCN h,cT,<-ih];rfl
termination_by A1 A2 B1 B2=>A1.length+B1.length
end
set_option maxHeartbeats 4000000
variable {G:qT}
def leV (a b:Val):Bool:=decide (wT a b<=0)
theorem qCP:LO leV (fun v=>qU v=true):=by
 refine⟨fun {a b} ha hb h => ?_,fun {a b c} ha hb hc h1 h2 => ?_⟩
 ·have:=yO.anti a b ha hb;simp[leV]at h ⊢; omega
 simp[leV]at h1 h2 ⊢;exact yO.tr a b c ha hb hc h1 h2
theorem zAC {x y:Val} (hx:qU x=true) (hy:qU y=true) (h:wT x y<0):leV y x=false:=by
 have:=yO.anti x y hx hy;simp[leV];omega
theorem zAD {x y:Val} (hx:qU x=true) (hy:qU y=true) (h:¬ wT x y<0):leV y x=true:=by
 have:=yO.anti x y hx hy;simp[leV];omega
def zP (l:List Val):List PD:=l.map Val.enc
theorem jP (l:List Val):(zP l).length=l.length:=cV _
theorem yX {A B:List Val} {x:Val}:(zP (A++x::B))[A.length]?=some x.enc:=by unfold zP;simp
theorem qCK {A B:List Val} {x y:Val}:(zP (A++x::B)).set A.length y.enc=zP (A++y::B):=by unfold zP;simp
theorem qIQ {A B:List Val} {x y:Val}:(zP (A++x::y::B))[A.length+1]?=some y.enc:=by
 have:=yX (A:=A++[x]) (B:=B) (x:=y);simpa using this
theorem qNO {A B:List Val} {x y z:Val}:(zP (A++x::y::B)).set (A.length+1) z.enc=zP (A++x::z::B):=by
 have:=qCK (A:=A++[x]) (B:=B) (x:=y) (y:=z);simpa using this
theorem zXJ {S:List Val} {k:Nat} {x:Val} (hm:∀ v∈S,qU v=true) (hx:S[k]?=some x):srt leV (S.take (k+1))=mrg leV (srt leV (S.take k)) [x]:=by
 have h1:S.take (k+1)=S.take k++[x]:=by rw[bX,hx];rfl
 rw[h1,qQH qCP _ _ (fun v hv=>hm v (cB hv)) (fun v hv=>by rw[cG.1 hv];exact hm _ (bH hx))];show mrg leV _ (mrg leV [x] [])=_
 rw[kC]
theorem zYL {Q1 Q2:List Val} {x:Val} (hs:Sor leV (Q1++Q2)) (hm:∀ v∈Q1++Q2,qU v=true) (hx:qU x=true) (h2:∀ y∈Q2,wT x y<0) (h1:∀ y,Q1.getLast?=some y->¬ wT x y<0):mrg leV (Q1++Q2) [x]=Q1++x::Q2:=by
 refine qZX (fun y hy => ?_) (fun y hy=>zAC hx (hm y (eK _ hy)) (h2 y hy));rcases List.eq_nil_or_concat Q1 with rfl|⟨Q,z,e⟩
 ·simp at hy
 rw[List.concat_eq_append]at e;subst e;have hz:=zAD hx (hm z (by simp)) (h1 z (by simp));rcases bL.1 (by simpa using hy:y∈Q++[z])with hq|hq
 ·have hs2:=(eE.1 (eE.1 hs).1);exact qCP.tr (hm y (by simp[hq])) (hm z (by simp)) hx (hs2.2.2 y hq z (by simp)) hz
 rw[cG.1 hq];exact hz
theorem zLN (X S Y:List Val) (hl:X.length+S.length+Y.length<=1000000) (hm:∀ v∈S,qU v=true):AX Tryz.prog G 160 [.ms 890,.p (.int .i64 X.length),.p (.int .i64 ((X.length+S.length:Nat):Int)),.p (.fn 83)] [(890,.row 31 9 (zP (X++(S++Y))))] (.tuple []) [890] [(890,.row 31 9 (zP (X++(srt leV S++Y))))]:=by
 refine AX.introU tok 700 Tryz.func160 (by kernel_rfl) rfl rfl ?_;simp only[Tryz.f160,qG,bA,bC];have e0:X++(S++Y)=X++(srt leV (S.take 1)++(S.drop 1++Y)):=by
  cases S with
  | nil=>rfl
  | cons x S=>rw[show(x::S).take 1=[x] from rfl,show srt leV [x]=[x] from kC _];rfl
 rw[e0];have hcm:=fun a b ha hb=>qMN (G:=G) a b ha hb;refine rgn [] [[],[],[0,1,2,3,8]] ?_;iterate 3 refine op3 ?_
 refine qA (AW.block ?_);refine AW.loop (α:=Nat) (fun k=>1<=k/\(k<=S.length\/k=1)) (fun k=>⟨qZ 53 [(0,.ms 890),(1,.p (.int .i64 X.length)),(2,.p (.int .i64 ((X.length+S.length:Nat):Int))),(3,.p (.fn 83)),(8,.p (.int .i64 ((X.length+k:Nat):Int)))],[890],[(890,.row 31 9 (zP (X++(srt leV (S.take k)++(S.drop k++Y)))))],700⟩) (fun k=>S.length-k) (1) ⟨by omega,.inr rfl⟩ ⟨qE (by simp),rfl,by simp,by simp⟩ ?_;rintro k ⟨hk1,hk2⟩;refine AW.seq (rgn [] [[],[],[0,1,2,3,8,14]] ?_);iterate 3 refine op3 ?_
 refine qA (cnd ?_ ?_)
 ·intro h14;try simp at h14
  obtain⟨x,hx⟩:∃ x,S[k]?=some x:=⟨S[k]'(by omega),by simp[show k<S.length by omega]⟩;have hxm:=hm x (bH hx);have hd:S.drop k=x::S.drop (k+1):=by
   obtain⟨h1,h2⟩:=bB.1 hx;rw[cJ h1,h2]
  have hst:=zXJ hm hx;have hql:(srt leV (S.take k)).length=k:=by rw[uE,cK];omega
  have hqs:=qIL qCP (S.take k) (fun v hv=>hm v (cB hv));have hqm:∀ v∈srt leV (S.take k),qU v=true:=fun v hv=>hm v (cB (uD.1 hv));rw[hd];generalize hR:S.drop (k+1)++Y=R at *;generalize srt leV (S.take k)=Q at *;refine AW.skip (AW.seq (AW.block (rgn [] [[],[0,1,2,3,8,9]] ?_)));iterate 2 refine op3 ?_
  refine qA (AW.block ?_);refine AW.loop (α:=List Val × List Val) (fun a=>Q=a.1++a.2/\∀ y∈a.2,wT x y<0) (fun a=>⟨qZ 53 [(0,.ms 890),(1,.p (.int .i64 X.length)),(2,.p (.int .i64 ((X.length+S.length:Nat):Int))),(3,.p (.fn 83)),(8,.p (.int .i64 ((X.length+k:Nat):Int))),(9,.p (.int .i64 ((X.length+a.1.length:Nat):Int)))],[890],[(890,.row 31 9 (zP (X++(a.1++(x::(a.2++R))))))],700⟩) (fun a=>a.1.length) ((Q,[])) ⟨by simp,by simp⟩ ⟨qE (by simp[hql]),rfl,by simp[hR],by simp[hR]⟩ ?_;rintro⟨Q1,Q2⟩ ⟨hq,hq2⟩;simp only at hq hq2;have hrl:(zP (X++(Q1++x::(Q2++R)))).length=X.length+Q1.length+1+Q2.length+R.length:=by rw[jP];simp;omega
  obtain⟨P,y,hP⟩:∃ P y,0<Q1.length->Q1=P++[y]:=by
   rcases List.eq_nil_or_concat Q1 with rfl|⟨Q,z,e⟩
   ·exact⟨[],x,fun h=>absurd h (by simp)⟩
   exact⟨Q,z,fun _=>by rw[e,List.concat_eq_append]⟩
  have hg1:(zP (X++(Q1++x::(Q2++R))))[X.length+Q1.length]?=some x.enc:=by
   have:=yX (A:=X++Q1) (B:=Q2++R) (x:=x);rwa [bU,cD]at this
  have hg2:0<Q1.length->(zP (X++(Q1++x::(Q2++R))))[X.length+Q1.length-1]?=some y.enc:=fun h=>by
   have e:=hP h;have:=yX (A:=X++P) (B:=x::(Q2++R)) (x:=y);rw[e,show X.length+(P++[y]).length-1=(X++P).length by simp <;> omega];simpa using this
  have hym:0<Q1.length->qU y=true:=fun h=>hqm y (by rw[hq,hP h];simp);have hQl:Q1.length+Q2.length=k:=by rw[<-hql,hq];simp
  have hc:=fun h=>hcm x y hxm (hym h);have htn:((X.length:Int)+Q1.length).toNat=X.length+Q1.length:=by omega
  simp only[iK x,iK y]at hg1 hg2 hc;rw[<-htn]at hg1 hg2;refine AW.seq ?_;refine iU tok mixed 17 [[9],[1],[18,19],[20],[3,21],[0,21],[9,21],[23,24,21],[25,21],[0,21],[9,21],[28,21],[27,29,21],[30,21],[22,26,31,21],[32,21],[21,33]] [x.enc,y.enc,.nilp,.int .i64 (wT x y)] [] (by kernel_rfl) ?_;iterate 4 refine d1 ?_ (hv:=by first|exact True.intro|((intro g;refine⟨g, ?_⟩;first|exact hg1|exact hg2 (by omega)|exact hc (by omega)|(refine⟨by omega, ?_⟩;rw[hrl];omega)|omega);done)|omega|simp)
  iterate 12 refine d2 21 rfl rfl ?_ (hv:=by first|exact True.intro|((intro g;refine⟨g, ?_⟩;first|exact hg1|exact hg2 (by omega)|exact hc (by omega)|(refine⟨by omega, ?_⟩;rw[hrl];omega)|omega);done)|omega|simp)
  refine d1 ?_ (hv:=by first|exact True.intro|((intro g;refine⟨g, ?_⟩;first|exact hg1|exact hg2 (by omega)|exact hc (by omega)|(refine⟨by omega, ?_⟩;rw[hrl];omega)|omega);done)|omega|simp);refine DGo.nil (by kernel_rfl) ⟨by kernel_rfl, ?_⟩;refine qB.nil ?_;refine cnd ?_ ?_
  ·intro h34;try simp at h34
   obtain⟨hq0,hlt⟩:=h34;have hQ1:=hP (by omega);have hymm:=hym (by omega);subst hQ1;have e1:X++(P++[y]++x::(Q2++R))=(X++P)++y::x::(Q2++R):=by simp
   have e2:(X++P)++x::y::(Q2++R)=X++(P++x::(y::Q2++R)):=by simp
   have hnl:(X++P).length=X.length+P.length:=by simp
   have b1:=yX (A:=X++P) (B:=x::(Q2++R)) (x:=y);have b2:=qIQ (A:=X++P) (B:=Q2++R) (x:=y) (y:=x);have b3:=qNO (A:=X++P) (B:=Q2++R) (x:=y) (y:=x) (z:=y);have b4:=qCK (A:=X++P) (B:=y::(Q2++R)) (x:=y) (y:=x);have b5:=yX (A:=X++P) (B:=y::(Q2++R)) (x:=y);rw[e2]at b4;rw[e1];rw[e1,jP]at hrl;simp only[hnl,cD]at b1 b2 b3 b4 b5;have ht:((X.length:Int)+((P.length:Int)+1)).toNat=X.length+P.length+1:=by omega
   have hrl2:(zP (X++(P++y::x::(Q2++R)))).length=X.length+P.length+2+Q2.length+R.length:=by rw[jP];simp;omega
   have hPl:P.length+1+Q2.length=k:=by simpa using hQl
   simp only[iK x,iK y]at b1 b2 b3 b4 b5;refine AW.skip (AW.seq (AW.block ?_));refine lR mixed 16 [[0],[9],[0],[9],[40],[0],[9],[43],[42,44],[45],[0],[9],[47,48],[49],[37,38],[51,46]] [y.enc,x.enc] (by kernel_rfl) ?_;iterate 2 refine iN tok (hv:=by first|exact True.intro|(rw[ht];exact b2)|(rw[ht,cY];exact b1)|(refine⟨by omega, ?_⟩;rw[hrl2];omega)|omega;done|omega|simp) (k := ?_)
   refine wI.q [890] (.ms 890) rfl (qFI tok (orc:=[]) (orc':=[]) (v:=True) (by conv=>lhs;simp) trivial) (by simp) (by kernel_rfl) (by conv=>lhs;simp) ?_;iterate 6 refine iN tok (hv:=by first|exact True.intro|(rw[ht];exact b2)|(rw[ht,cY];exact b1)|(refine⟨by omega, ?_⟩;rw[hrl2];omega)|omega;done|omega|simp) (k := ?_)
   refine iW tok (orc:=[y.enc]) (hv:=by first|exact True.intro|(rw[ht];exact b2)|(rw[ht,cY];exact b1)|(refine⟨by omega, ?_⟩;rw[hrl2];omega)|omega;done|omega|simp) (k := ?_);iterate 3 refine iN tok (hv:=by first|exact True.intro|(rw[ht];exact b2)|(rw[ht,cY];exact b1)|(refine⟨by omega, ?_⟩;rw[hrl2];omega)|omega;done|omega|simp) (k := ?_)
   refine iW tok (orc:=[x.enc]) (hv:=by first|exact True.intro|(rw[ht];exact b2)|(rw[ht,cY];exact b1)|(refine⟨by omega, ?_⟩;rw[hrl2];omega)|omega;done|omega|simp) (k := ?_);refine iN tok (hv:=by first|exact True.intro|(rw[ht];exact b2)|(rw[ht,cY];exact b1)|(refine⟨by omega, ?_⟩;rw[hrl2];omega)|omega;done|omega|simp) (k := ?_);refine iW tok (orc:=[x.enc,y.enc]) (hv:=by first|exact True.intro|(rw[ht];exact b2)|(rw[ht,cY];exact b1)|(refine⟨by omega, ?_⟩;rw[hrl2];omega)|omega;done|omega|simp) (k := ?_);refine wI.nil (by kernel_rfl) ⟨by kernel_rfl, ?_⟩;refine qB.run [[],[0,1,2,3,8,9]] ?_;iterate 2 refine op3 ?_ (hv:=by first|exact True.intro|(rw[ht,cY,b3];exact b5)|(rw[eO,hrl2];omega)|(refine⟨by omega, ?_⟩;rw[eO,hrl2];omega)|omega;done|omega|simp)
   refine qA (rgz [] [[],[],[0,1,2,3,8,9]] ?_);iterate 3 refine op3 ?_
   refine qA ?_;exact⟨(P,y::Q2),⟨by rw[hq];simp,fun z hz=>by rcases bM.1 hz with rfl|hz;exact hlt;exact hq2 z hz⟩,by simp,qE (by simp[ht,b3,b4,show(X.length:Int)+((P.length:Int)+1)-1=X.length+P.length from by omega]),rfl,by simp[ht,b3,b4,show(X.length:Int)+((P.length:Int)+1)-1=X.length+P.length from by omega],by simp[ht,b3,b4,show(X.length:Int)+((P.length:Int)+1)-1=X.length+P.length from by omega]⟩
  intro h34;try simp at h34
  have hend:=zYL (hq ▸ hqs) (hq ▸ hqm) hxm hq2 (fun z hz hl=>by
   have hp:0<Q1.length:=by cases Q1 with
    | nil=>simp at hz
    | cons a b=>simp
   rw[hP hp]at hz;simp at hz;subst hz;first|exact h34 ⟨by omega,hl⟩|(have:=h34 (by omega);omega))
  rw[<-hq,<-hst]at hend;have e3:X++(Q1++x::(Q2++R))=X++(srt leV (S.take (k+1))++(S.drop (k+1)++Y)):=by rw[hend,hR];simp[cD]
  rw[e3];refine AW.exit ?_;simp;refine rgz [] [[],[],[0,1,2,3,8]] ?_;iterate 3 refine op3 ?_
  refine qA ?_;exact⟨k+1,⟨by omega,.inl (by omega)⟩,by omega,qE (by simp[show(X.length:Int)+(k:Int)+1=X.length+(k+1) from by omega]),rfl,by simp[show(X.length:Int)+(k:Int)+1=X.length+(k+1) from by omega],by simp[show(X.length:Int)+(k:Int)+1=X.length+(k+1) from by omega]⟩
 intro h14;try simp at h14
 have hall:S.take k=S:=bK (by omega);have hdr:S.drop k=[]:=List.drop_of_length_le (by omega);rw[hall,hdr];refine AW.exit ?_;simp;exact qDP
theorem qRO (X A M B Y:List Val) (hl:X.length+A.length+M.length+B.length+Y.length<=1000000) (hab:A.length=B.length):AX Tryz.prog G 232 [.ms 890,.p (.int .i64 X.length),.p (.int .i64 ((X.length+A.length+M.length:Nat):Int)),.p (.int .i64 A.length),.p (.fn 83)] [(890,.row 31 9 (zP (X++(A++(M++(B++Y))))))] (.tuple []) [890] [(890,.row 31 9 (zP (X++(B++(M++(A++Y))))))]:=by
 refine AX.introU tok 700 Tryz.func232 (by kernel_rfl) rfl rfl ?_;simp only[Tryz.f232,qG,bA,bC];refine rgn [] [[]] ?_;refine op3 ?_;refine qA (AW.block ?_);refine AW.loop (α:=Nat) (fun k=>k<=A.length) (fun k=>⟨qZ 38 [(0,.ms 890),(1,.p (.int .i64 X.length)),(2,.p (.int .i64 ((X.length+A.length+M.length:Nat):Int))),(3,.p (.int .i64 A.length)),(10,.p (.int .i64 k))],[890],[(890,.row 31 9 (zP (X++(B.take k++(A.drop k++(M++(A.take k++(B.drop k++Y))))))))],700⟩) (fun k=>A.length-k) (0) (by omega) ⟨qE (by simp),rfl,by simp,by simp⟩ ?_;rintro k hk;refine AW.seq (rgn [] [[],[],[0,1,2,3,10,13]] ?_);iterate 3 refine op3 ?_
 refine qA (cnd ?_ ?_)
 ·intro h13;try simp at h13
  obtain⟨p,hp⟩:∃ x,A[k]?=some x:=⟨A[k]'(by omega),by simp[show k<A.length by omega]⟩;obtain⟨q,hq⟩:∃ x,B[k]?=some x:=⟨B[k]'(by omega),by simp[show k<B.length by omega]⟩;have hd1:A.drop k=p::A.drop (k+1):=by
   obtain⟨h1,h2⟩:=bB.1 hp;rw[cJ h1,h2]
  have hd2:B.drop k=q::B.drop (k+1):=by
   obtain⟨h1,h2⟩:=bB.1 hq;rw[cJ h1,h2]
  have ht1:A.take (k+1)=A.take k++[p]:=by rw[bX,hp];rfl
  have ht2:B.take (k+1)=B.take k++[q]:=by rw[bX,hq];rfl
  have hla:(A.take k).length=k:=by rw[cK];omega
  have hlb:(B.take k).length=k:=by rw[cK];omega
  have hl3:(A.drop (k+1)).length=A.length-(k+1):=bQ;have hl4:(B.drop (k+1)).length=A.length-(k+1):=by rw[bQ];omega
  rw[hd1,hd2];have hfin:zP (X++(B.take (k+1)++(A.drop (k+1)++(M++(A.take (k+1)++(B.drop (k+1)++Y))))))=zP (X++(B.take k++(q::(A.drop (k+1)++(M++(A.take k++(p::(B.drop (k+1)++Y)))))))):=by rw[ht1,ht2];simp
  generalize hA1:A.take k=A1 at *;generalize hB1:B.take k=B1 at *;generalize hA3:A.drop (k+1)=A3 at *;generalize hB3:B.drop (k+1)=B3 at *;have hn1:(X++B1).length=X.length+k:=by simp[hlb]
  have hn2:(X++(B1++(p::(A3++(M++A1))))).length=X.length+A.length+M.length+k:=by simp[hla,hlb,hl3];omega
  have hn3:(X++(B1++(q::(A3++(M++A1))))).length=X.length+A.length+M.length+k:=by simp[hla,hlb,hl3];omega
  have b1:=yX (A:=X++B1) (B:=A3++(M++(A1++(q::(B3++Y))))) (x:=p);have b2:=yX (A:=X++(B1++(p::(A3++(M++A1))))) (B:=B3++Y) (x:=q);have b3:=qCK (A:=X++B1) (B:=A3++(M++(A1++(q::(B3++Y))))) (x:=p) (y:=q);have b4:=yX (A:=X++(B1++(q::(A3++(M++A1))))) (B:=B3++Y) (x:=q);have b5:=qCK (A:=X++(B1++(q::(A3++(M++A1))))) (B:=B3++Y) (x:=q) (y:=p);rw[hn1]at b1 b3;rw[hn2]at b2;rw[hn3]at b4 b5;simp only[cD,cT]at b1 b2 b3 b4 b5;have hrl:(zP (X++(B1++(p::(A3++(M++(A1++(q::(B3++Y))))))))).length=X.length+A.length+M.length+A.length+Y.length:=by rw[jP];simp[hla,hlb,hl3,hl4];omega
  have ht:((X.length:Int)+k).toNat=X.length+k:=by omega
  have htb:((X.length:Int)+A.length+M.length+k).toNat=X.length+A.length+M.length+k:=by omega
  simp only[iK p,iK q]at b1 b2 b3 b4 b5;refine AW.skip (AW.seq (AW.block ?_));refine lR mixed 22 [[0],[1],[10],[17,18],[0],[2],[10],[21,22],[0],[2],[10],[25,26],[24,27],[28],[0],[1],[10],[31,32],[30,33],[34],[16,19],[36,29]] [q.enc,p.enc] (by kernel_rfl) ?_;iterate 4 refine iN tok (hv:=by first|exact True.intro|(rw[ht];exact b1)|(rw[htb];exact b2)|(refine⟨by omega, ?_⟩;rw[hrl];omega)|omega;done|omega|simp) (k := ?_)
  refine wI.q [890] (.ms 890) rfl (qFI tok (orc:=[]) (orc':=[]) (v:=True) (by conv=>lhs;simp) trivial) (by simp) (by kernel_rfl) (by conv=>lhs;simp) ?_;iterate 8 refine iN tok (hv:=by first|exact True.intro|(rw[ht];exact b1)|(rw[htb];exact b2)|(refine⟨by omega, ?_⟩;rw[hrl];omega)|omega;done|omega|simp) (k := ?_)
  refine iW tok (orc:=[q.enc]) (hv:=by first|exact True.intro|(rw[ht];exact b1)|(rw[htb];exact b2)|(refine⟨by omega, ?_⟩;rw[hrl];omega)|omega;done|omega|simp) (k := ?_);iterate 5 refine iN tok (hv:=by first|exact True.intro|(rw[ht];exact b1)|(rw[htb];exact b2)|(refine⟨by omega, ?_⟩;rw[hrl];omega)|omega;done|omega|simp) (k := ?_)
  refine iW tok (orc:=[p.enc]) (hv:=by first|exact True.intro|(rw[ht];exact b1)|(rw[htb];exact b2)|(refine⟨by omega, ?_⟩;rw[hrl];omega)|omega;done|omega|simp) (k := ?_);refine iN tok (hv:=by first|exact True.intro|(rw[ht];exact b1)|(rw[htb];exact b2)|(refine⟨by omega, ?_⟩;rw[hrl];omega)|omega;done|omega|simp) (k := ?_);refine iW tok (orc:=[p.enc,q.enc]) (hv:=by first|exact True.intro|(rw[ht];exact b1)|(rw[htb];exact b2)|(refine⟨by omega, ?_⟩;rw[hrl];omega)|omega;done|omega|simp) (k := ?_);refine wI.nil (by kernel_rfl) ⟨by kernel_rfl, ?_⟩;refine qB.run [[],[0,1,2,3,10]] ?_;iterate 2 refine op3 ?_ (hv:=by first|exact True.intro|(rw[ht,htb,b3];exact b4)|(refine⟨by omega, ?_⟩;rw[eO,hrl];omega)|omega;done|omega|simp)
  refine qA (rgz [] [[],[],[0,1,2,3,10]] ?_);iterate 3 refine op3 ?_
  refine qA ?_;exact⟨k+1,by omega,by omega,qE (by simp[ht,htb,b3,b5,hA3,hB3,hfin]),rfl,by simp[ht,htb,b3,b5,hA3,hB3,hfin],by simp[ht,htb,b3,b5,hA3,hB3,hfin]⟩
 intro h13;try simp at h13
 obtain rfl:k=A.length:=by omega
 have h1:A.take A.length=A:=dW;have h2:A.drop A.length=[]:=fP;have h3:B.take A.length=B:=by rw[hab];exact dW
 have h4:B.drop A.length=[]:=by rw[hab];exact fP
 rw[h1,h2,h3,h4];refine AW.exit ?_;simp;exact qDP
end Go.Proofs.YtgcbapchinideaaGreatDoor
