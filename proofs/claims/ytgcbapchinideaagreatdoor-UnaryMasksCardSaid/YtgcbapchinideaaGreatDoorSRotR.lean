import Derived.Test.YtgcbapchinideaaGreatDoorK6
set_option linter.all false
namespace Go.Proofs.YtgcbapchinideaaGreatDoor
open Sy Go
set_option maxRecDepth 100000
set_option maxHeartbeats 4000000
variable {G:qT}
structure Quad where
 x:List Val
 l:List Val
 r:List Val
 y:List Val
theorem zXO (X A B Y:List Val) (hl:X.length+A.length+B.length+Y.length<=1000000) (ha:0<A.length) (hb:0<B.length):AX Tryz.prog G 201 [.ms 890,.p (.int .i64 X.length),.p (.int .i64 ((X.length+A.length:Nat):Int)),.p (.int .i64 ((X.length+A.length+B.length:Nat):Int)),.p (.fn 83)] [(890,.row 31 9 (zP (X++(A++(B++Y)))))] (.tuple []) [890] [(890,.row 31 9 (zP (X++(B++(A++Y)))))]:=by
 refine AX.introU tok 700 Tryz.func201 (by kernel_rfl) rfl rfl ?_;simp only[Tryz.f201,qG,bA,bC];obtain⟨m,hm⟩:∃ m,X.length+A.length=m:=⟨_,rfl⟩;rw[hm];generalize hT:X++(B++(A++Y))=T at *;refine rgn [] [[],[],[],[0,2,3,4,10]] ?_;iterate 4 refine op3 ?_
 refine qA (rgn [] [[],[],[],[0,2,4,10,11]] ?_);iterate 4 refine op3 ?_
 refine qA (AW.seq (AW.block ?_));refine AW.loop (α:=Quad) (fun q=>q.x++(q.r++(q.l++q.y))=T/\q.x.length+q.l.length=m/\0<q.l.length/\0<q.r.length/\q.x.length+q.l.length+q.r.length+q.y.length<=1000000) (fun q=>⟨qZ 58 [(0,.ms 890),(2,.p (.int .i64 m)),(4,.p (.fn 83)),(10,.p (.int .i64 q.l.length)),(11,.p (.int .i64 q.r.length))],[890],[(890,.row 31 9 (zP (q.x++(q.l++(q.r++q.y)))))],700⟩) (fun q=>q.l.length+q.r.length) ((⟨X,A,B,Y⟩:Quad)) ⟨hT,hm,ha,hb,hl⟩ ⟨qE (by simp;omega),rfl,by simp,by simp⟩ ?_;rintro⟨x,l,r,y⟩ ⟨q1,q2,q3,q4,q5⟩;simp only at q1 q2 q3 q4 q5;have e1:(m:Int)-l.length=x.length:=by omega
 refine AW.seq (rgn [] [[],[],[0,2,4,10,11,20]] ?_);iterate 3 refine op3 ?_
 refine qA (cnd ?_ ?_)
 ·intro h20;try simp at h20
  refine AW.skip (AW.block (rgn [] [[],[],[0,2,4,10,11,23]] ?_));iterate 3 refine op3 ?_
  refine qA (cnd ?_ ?_)
  ·intro h23;try simp at h23
   have hll:(l.take r.length).length=r.length:=by rw[cK];omega
   have hlx:l.take r.length++l.drop r.length=l:=cE _ _;have hld:(l.drop r.length).length=l.length-r.length:=bQ;have hsw:=qRO (G:=G) x (l.take r.length) (l.drop r.length) r y (by omega) hll;rw[hll,show x.length+r.length+(l.drop r.length).length=m by omega,<-e1,show l.take r.length++(l.drop r.length++(r++y))=l++(r++y) by rw[<-cD,hlx]]at hsw;generalize hl1:l.take r.length=l1 at *;generalize hl2:l.drop r.length=l2 at *;refine rgn [] [[],[],[],[],[],[],[]] ?_;iterate 7 refine op3 ?_
   refine qJ ?_;refine qB.stepK [0,2,4,10,11] (zI rfl hsw (by simp)) (by conv=>lhs;simp) rfl ?_;refine qB.nil ?_;refine rgz [] [[],[],[],[0,2,4,10,11]] ?_;iterate 4 refine op3 ?_
   refine qA ?_;exact⟨(⟨x++r,l2,l1,y⟩:Quad),⟨by simp only;rw[<-q1,<-hlx];simp,by simp;omega,by simp only;omega,by simp only;omega,by simp;omega⟩,by simp only;omega,qE (by simp[show((l.length:Int)-r.length)=l2.length from by omega,show(r.length:Int)=l1.length from by omega,show((l.length:Int)-l1.length)=l2.length from by omega]),rfl,by simp[show((l.length:Int)-r.length)=l2.length from by omega,show(r.length:Int)=l1.length from by omega,show((l.length:Int)-l1.length)=l2.length from by omega],by simp[show((l.length:Int)-r.length)=l2.length from by omega,show(r.length:Int)=l1.length from by omega,show((l.length:Int)-l1.length)=l2.length from by omega]⟩
  intro h23;try simp at h23
  have hrl:(r.drop (r.length-l.length)).length=l.length:=by rw[bQ];omega
  have hrx:r.take (r.length-l.length)++r.drop (r.length-l.length)=r:=cE _ _;have hrd:(r.take (r.length-l.length)).length=r.length-l.length:=by rw[cK];omega
  have hsw:=qRO (G:=G) x l (r.take (r.length-l.length)) (r.drop (r.length-l.length)) y (by omega) hrl.symm;have e2:((x.length+l.length+(r.take (r.length-l.length)).length:Nat):Int)=m+r.length-l.length:=by omega
  rw[e2,<-e1,show r.take (r.length-l.length)++(r.drop (r.length-l.length)++y)=r++y by rw[<-cD,hrx]]at hsw;generalize hr1:r.take (r.length-l.length)=r1 at *;generalize hr2:r.drop (r.length-l.length)=r2 at *;refine rgn [] [[],[],[],[],[],[],[0,2,4,10,11,35,38,41],[],[],[],[]] ?_;iterate 11 refine op3 ?_
  refine qJ ?_;refine qB.stepK [0,2,4,10,11] (zI rfl hsw (by simp)) (by conv=>lhs;simp) rfl ?_;refine qB.nil ?_;refine rgz [] [[],[],[],[0,2,4,10,11]] ?_;iterate 4 refine op3 ?_
  refine qA ?_;exact⟨(⟨x,r2,r1,l++y⟩:Quad),⟨by simp only;rw[<-q1,<-hrx];simp,by simp;omega,by simp only;omega,by simp only;omega,by simp;omega⟩,by simp only;omega,qE (by simp[show((r.length:Int)-l.length)=r1.length from by omega,show(l.length:Int)=r2.length from by omega,show((r.length:Int)-r2.length)=r1.length from by omega]),rfl,by simp[show((r.length:Int)-l.length)=r1.length from by omega,show(l.length:Int)=r2.length from by omega,show((r.length:Int)-r2.length)=r1.length from by omega],by simp[show((r.length:Int)-l.length)=r1.length from by omega,show(l.length:Int)=r2.length from by omega,show((r.length:Int)-r2.length)=r1.length from by omega]⟩
 intro h20;try simp at h20
 have hsw:=qRO (G:=G) x l [] r y (by simp;omega) (by omega);rw[show x.length+l.length+([]:List Val).length=m by simp;omega,<-e1]at hsw;rw[<-q1];refine AW.exit ?_;simp;refine rgz [] [[],[],[],[],[4,10,50,53,54],[],[]] ?_;iterate 7 refine op3 ?_
 refine qJ ?_;refine qB.stepK [] (zI rfl hsw (by simp)) (by conv=>lhs;simp) rfl ?_;refine qB.nil ?_;exact qDP
end Go.Proofs.YtgcbapchinideaaGreatDoor
