import Derived.Test.YtgcbapchinideaaGreatDoorSSymW
import Derived.Test.YtgcbapchinideaaGreatDoorSStabB
set_option linter.all false
namespace Go.Proofs.YtgcbapchinideaaGreatDoor
open Sy Go
set_option maxRecDepth 100000
set_option maxHeartbeats 4000000
variable {G:qT}
theorem qIS (s:Nat) (l:List Val):vF s 0 l=[]:=rfl
theorem qLI {l:List Val} (h:qBP l):qBP (srt leV l):=fun v hv=>h v (uD.1 hv)
def qGS (s k w:Nat) (l:List Val):List Val:=if w<l.length\/k=0 then qGY s (l.drop w) else[]
theorem zNJ (l:List Val) (hl:l.length<=1000000) (hm:qBP l):AX Tryz.prog G 120 [.ms 890,.p (.int .i64 l.length),.p (.fn 83)] [(890,.row 31 9 (zP l))] (.tuple []) [890] [(890,.row 31 9 (zP (srt leV l)))]:=by
 refine AX.introU tok 700 Tryz.func120 (by kernel_rfl) rfl rfl ?_;simp only[Tryz.f120,qG,bA,bC];have e0:vF 20 0 l++l.drop (20 * 0)=l:=by simp[vF]
 refine rgn [] [[]] ?_;refine op3 ?_;refine qA (rgn [] [[],[],[0,1,2,6,7,8]] ?_);iterate 3 refine op3 ?_
 refine qA (AW.seq (AW.block ?_));refine AW.loop (α:=Nat) (fun k=>20 * k<=l.length) (fun k=>⟨qZ 63 [(0,.ms 890),(1,.p (.int .i64 l.length)),(2,.p (.fn 83)),(6,.p (.int .i64 20)),(7,.p (.int .i64 ((20 * k:Nat):Int))),(8,.p (.int .i64 ((20 * k+20:Nat):Int)))],[890],[(890,.row 31 9 (zP (vF 20 k l++l.drop (20 * k))))],700⟩) (fun k=>l.length-20 * k) (0) (fC _) ⟨qE (by simp),rfl,by simp[qIS],by simp[qIS]⟩ ?_;rintro k hk;have hpl:=qSO k l hk;refine AW.seq (rgn [] [[],[],[0,1,2,6,7,8,13]] ?_);iterate 3 refine op3 ?_
 refine qA (cnd ?_ ?_)
 ·intro h13;try simp at h13
  have hS:((l.drop (20 * k)).take 20).length=20:=by rw[cK,bQ];omega
  have hD:(l.drop (20 * (k+1))).length=l.length-20 * (k+1):=bQ;have hc:=zLN (G:=G) (vF 20 k l) ((l.drop (20 * k)).take 20) (l.drop (20 * (k+1))) (by omega) (fun v hv=>hm v (cQ (cB hv)));have e1:(l.drop (20 * k)).take 20++l.drop (20 * (k+1))=l.drop (20 * k):=by
   have:=cE 20 (l.drop (20 * k));rwa [dG,<-iC]at this
  have e2:vF 20 k l++(srt leV ((l.drop (20 * k)).take 20)++l.drop (20 * (k+1)))=vF 20 (k+1) l++l.drop (20 * (k+1)):=by simp[vF]
  rw[e1,e2,hpl,hS]at hc;refine AW.skip (AW.block (rgn [] [[],[],[],[]] ?_));iterate 4 refine op3 ?_
  refine qJ ?_;refine qB.stepK [0,1,2,6,8] (zI rfl hc (by simp)) (by conv=>lhs;simp) rfl ?_;refine qB.nil ?_;refine rgn [] [[],[0,1,2,6,7,8]] ?_;iterate 2 refine op3 ?_
  refine qA (rgz [] [[],[],[],[0,1,2,6,7,8]] ?_);iterate 4 refine op3 ?_
  refine qA ?_;exact⟨k+1,by omega,by omega,qE (by simp[show(20 * (k:Int)+20)=20 * (k+1) from by omega]),rfl,by simp[show(20 * (k:Int)+20)=20 * (k+1) from by omega],by simp[show(20 * (k:Int)+20)=20 * (k+1) from by omega]⟩
 intro h13;try simp at h13
 have hr:(l.drop (20 * k)).length=l.length-20 * k:=bQ;have hc:=zLN (G:=G) (vF 20 k l) (l.drop (20 * k)) [] (by simp;omega) (fun v hv=>hm v (cQ hv));have hb:vF 20 k l++(srt leV (l.drop (20 * k))++[])=qGY 20 l:=by
  rw[qZM (by decide) k l hk,cR];by_cases h:20 * k<l.length\/k=0
  ·rw[bE h,jK (by omega)]
  rw[bD h,bS (show(l.drop (20 * k)).length=0 by omega)];simp[srt]
 rw[hb,cR,hpl,show 20 * k+(l.drop (20 * k)).length=l.length by omega]at hc;refine AW.exit ?_;simp;refine rgn [] [[],[],[],[]] ?_;iterate 4 refine op3 ?_
 refine qJ ?_;refine qB.stepK [0,1,2,6] (zI rfl hc (by simp)) (by conv=>lhs;simp) rfl ?_;refine qB.nil ?_;refine AW.block ?_;refine AW.loop (α:=Nat) (fun s=>20<=s/\s<=2000000) (fun s=>⟨qZ 63 [(0,.ms 890),(1,.p (.int .i64 l.length)),(2,.p (.fn 83)),(6,.p (.int .i64 s))],[890],[(890,.row 31 9 (zP (qGY s l)))],700⟩) (fun s=>l.length-s) (20) ⟨by omega,by omega⟩ ⟨qE (by simp),rfl,by simp,by simp⟩ ?_;rintro s ⟨hs1,hs2⟩;refine AW.seq (rgn [] [[],[],[0,1,2,6,30]] ?_);iterate 3 refine op3 ?_
 refine qA (cnd ?_ ?_)
 ·intro h30;try simp at h30
  refine AW.skip (AW.block (rgn [] [[],[],[],[0,1,2,6,7,8]] ?_));iterate 4 refine op3 ?_
  refine qA (AW.seq (AW.block ?_));refine AW.loop (α:=Nat × Nat) (fun a=>a.2=2 * s * a.1/\a.2<=l.length) (fun a=>⟨qZ 63 [(0,.ms 890),(1,.p (.int .i64 l.length)),(2,.p (.fn 83)),(6,.p (.int .i64 s)),(7,.p (.int .i64 a.2)),(8,.p (.int .i64 ((a.2+2 * s:Nat):Int)))],[890],[(890,.row 31 9 (zP (vF (2 * s) a.1 l++qGS s a.1 a.2 l)))],700⟩) (fun a=>l.length-a.2) ((0,0)) ⟨by simp,fC _⟩ ⟨qE (by simp),rfl,by simp[qIS,qGS],by simp[qIS,qGS]⟩ ?_;rintro⟨k,w⟩ ⟨hw,hwl⟩;simp only at hw hwl;have hpl:(vF (2 * s) k l).length=w:=by rw[qSO k l (by omega),hw]
  have hrl:(l.drop w).length=l.length-w:=bQ;have hrm:qBP (l.drop w):=fun v hv=>hm v (cQ hv);refine AW.seq (rgn [] [[],[],[0,1,2,6,7,8,35]] ?_);iterate 3 refine op3 ?_
  refine qA (cnd ?_ ?_)
  ·intro h35;try simp at h35
   obtain⟨t1,t2⟩:=zZE (s:=s) (l:=l.drop w) (by omega) hrm (by omega);obtain⟨R,hR⟩:∃ R,(if 2 * s<(l.drop w).length then qGY s ((l.drop w).drop (2 * s)) else[])=R:=⟨_,rfl⟩;have hRt:R=qGS s (k+1) (w+2 * s) l:=by
    rw[<-hR];unfold qGS;rw[dG];by_cases h:2 * s<(l.drop w).length
    ·rw[bE h,bE (.inl (by omega))]
    rw[bD h,bD (by omega)]
   have hRl:R.length<=l.length-w-2 * s:=by
    rw[<-hR];split
    ·rw[zVD (by omega),bQ];omega
    simp
   rw[hR]at t1;have l1:(srt leV ((l.drop w).take s)).length=s:=by rw[uE,cK];omega
   have l2:(srt leV (((l.drop w).drop s).take s)).length=s:=by rw[uE,cK,bQ];omega
   have hc:=zRP (G:=G) (vF (2 * s) k l) (srt leV ((l.drop w).take s)) (srt leV (((l.drop w).drop s).take s)) R ⟨by omega,by omega,by omega,qLI (fun v hv=>hrm v (cB hv)),qLI (fun v hv=>hrm v (cQ (cB hv))),qIL qCP _ (fun v hv=>hrm v (cB hv)),qIL qCP _ (fun v hv=>hrm v (cQ (cB hv)))⟩;unfold qUJ at hc;have e1:vF (2 * s) k l++qGS s k w l=vF (2 * s) k l++(srt leV ((l.drop w).take s)++(srt leV (((l.drop w).drop s).take s)++R)):=by
    rw[<-t1];unfold qGS;rw[bE (.inl (by omega))]
   have e2:vF (2 * s) k l++(mrg leV (srt leV ((l.drop w).take s)) (srt leV (((l.drop w).drop s).take s))++R)=vF (2 * s) (k+1) l++qGS s (k+1) (w+2 * s) l:=by
    rw[t2,hRt];simp[vF,<-hw]
   rw[<-e1,e2,hpl,l1,l2,show w+s+s=w+2 * s by omega]at hc;refine AW.skip (AW.block (rgn [] [[],[],[],[],[],[],[]] ?_));iterate 7 refine op3 ?_
   refine qJ ?_;refine qB.stepK [0,1,2,6,8] (zI rfl hc (by simp)) (by conv=>lhs;simp) rfl ?_;refine qB.nil ?_;refine rgn [] [[],[0,1,2,6,7,8]] ?_;iterate 2 refine op3 ?_
   refine qA (rgz [] [[],[],[],[0,1,2,6,7,48],[0,1,2,6,7,8]] ?_);iterate 5 refine op3 ?_
   refine qA ?_;exact⟨(k+1,w+2 * s),⟨by simp only;rw[iC,hw],by simp only;omega⟩,by simp only;omega,qE (by simp[show((w:Int)+2 * s+2 * s)=w+2 * s+2 * s from rfl]),rfl,by simp[show((w:Int)+2 * s+2 * s)=w+2 * s+2 * s from rfl],by simp[show((w:Int)+2 * s+2 * s)=w+2 * s+2 * s from rfl]⟩
  intro h35;try simp at h35
  have hpb:=qZM (s:=2 * s) (by omega) k l (by omega);rw[<-hw]at hpb;refine AW.exit ?_;simp;refine AW.join (α:=Unit) (fun _=>True) (fun a=>⟨qZ 63 [(0,.ms 890),(1,.p (.int .i64 l.length)),(2,.p (.fn 83)),(6,.p (.int .i64 s))],[890],[(890,.row 31 9 (zP (qGY (2 * s) l)))],700⟩) ?_ ?_
  ·
   refine rgn [] [[],[],[],[0,1,2,6,7,9]] ?_;iterate 4 refine op3 ?_
   refine qA (rgn [] [[],[],[0,1,2,6,7,9,54]] ?_);iterate 3 refine op3 ?_
   refine qA (cnd ?_ ?_)
   ·intro h54;try simp at h54
    obtain⟨t1,t2⟩:=zVC (s:=s) (l:=l.drop w) (by omega) hrm (by omega) (by omega);have l1:(srt leV ((l.drop w).take s)).length=s:=by rw[uE,cK];omega
    have l2:(srt leV ((l.drop w).drop s)).length=l.length-w-s:=by rw[uE,bQ];omega
    have hc:=zRP (G:=G) (vF (2 * s) k l) (srt leV ((l.drop w).take s)) (srt leV ((l.drop w).drop s)) [] ⟨by rw[hpl,l1,l2,dN];omega,by omega,by omega,qLI (fun v hv=>hrm v (cB hv)),qLI (fun v hv=>hrm v (cQ hv)),qIL qCP _ (fun v hv=>hrm v (cB hv)),qIL qCP _ (fun v hv=>hrm v (cQ hv))⟩;unfold qUJ at hc;have e1:vF (2 * s) k l++qGS s k w l=vF (2 * s) k l++(srt leV ((l.drop w).take s)++(srt leV ((l.drop w).drop s)++[])):=by
     rw[cR,<-t1];unfold qGS;rw[bE (.inl (by omega))]
    have e2:vF (2 * s) k l++(mrg leV (srt leV ((l.drop w).take s)) (srt leV ((l.drop w).drop s))++[])=qGY (2 * s) l:=by
     rw[t2,hpb,bE (.inl (by omega)),cR,jK (by omega)]
    rw[<-e1,e2,hpl,l1,l2,show w+s+(l.length-w-s)=l.length by omega]at hc;refine rgz [] [[],[],[],[],[]] ?_;iterate 5 refine op3 ?_
    refine qJ ?_;refine qB.stepK [0,1,2,6] (zI rfl hc (by simp)) (by conv=>lhs;simp) rfl ?_;refine qB.nil ?_;exact⟨(),trivial,qE (by simp),rfl,by simp,by simp⟩
   intro h54;try simp at h54
   have e1:vF (2 * s) k l++qGS s k w l=qGY (2 * s) l:=by
    rw[hpb];unfold qGS;by_cases h:w<l.length\/k=0
    ·rw[bE h,bE h,jK (by omega),jK (by omega)]
    rw[bD h,bD h,cR]
   rw[e1];refine AW.skip ?_;exact⟨(),trivial,qE (by simp),rfl,by simp,by simp⟩
  ·
   rintro a hI;refine rgz [] [[],[],[0,1,2,6]] ?_;iterate 3 refine op3 ?_
   refine qA ?_;exact⟨2 * s,⟨by omega,by omega⟩,by omega,qE (by simp[show((s:Int) * 2)=2 * s from by omega]),rfl,by simp[show((s:Int) * 2)=2 * s from by omega],by simp[show((s:Int) * 2)=2 * s from by omega]⟩
 intro h30;try simp at h30
 rw[show srt leV l=qGY s l from(jK (by omega)).symm];refine AW.exit ?_;simp;exact qDP
theorem zCN (l:List Val) (hl:l.length<=1000000) (hm:qBP l):AX Tryz.prog G 82 [.ms 890,.p (.fn 83)] [(890,.row 31 9 (zP l))] (.tuple []) [890] [(890,.row 31 9 (zP (srt leV l)))]:=by
 refine AX.introU tok 700 Tryz.func82 (by kernel_rfl) rfl rfl ?_;simp only[Tryz.f82,qG,bA,bC];have hc:=zNJ (G:=G) l hl hm;rw[<-jP l]at hc;refine rgz [] [[],[],[],[]] ?_;iterate 4 refine op3 ?_
 refine qJ ?_;refine qB.stepK [] (zI rfl hc (by simp)) (by conv=>lhs;simp) rfl ?_;refine qB.nil ?_;exact qDP
end Go.Proofs.YtgcbapchinideaaGreatDoor
