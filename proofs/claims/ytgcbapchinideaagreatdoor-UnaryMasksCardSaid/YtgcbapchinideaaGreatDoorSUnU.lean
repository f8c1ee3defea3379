import Derived.Test.YtgcbapchinideaaGreatDoorK5
import Derived.Test.YtgcbapchinideaaGreatDoorSComp
set_option linter.all false
namespace Go.Proofs.YtgcbapchinideaaGreatDoor
open Sy Go
set_option maxRecDepth 100000
set_option maxHeartbeats 4000000
variable {G:qT}
theorem zOY (a b:Val) (ha:qU a=true) (hb:qU b=true):AFn Tryz.prog G 85 [a.enc,b.enc] (.bool (decide (wT a b=0))):=by
 refine AFn.introU tok Tryz.func85 (by kernel_rfl) rfl rfl ?_;simp only[Tryz.f85,qG,bA,bC];have hc:=qMN (G:=G) a b ha hb;simp only[iK]at hc;refine rgn [] [[],[],[2,3]] ?_;iterate 3 refine op3 ?_
 refine qA (rgn [.nilp,.int .i64 (wT a b)] [[],[],[7],[],[4]] ?_);iterate 5 refine oq1 tok hc ?_
 exact qA (AW.ret qI)
theorem zOX (a b:Val) (ha:qU a=true) (hb:qU b=true):AFn Tryz.prog G 88 [a.enc,b.enc] (.bool (decide (wT a b<0))):=by
 refine AFn.introU tok Tryz.func88 (by kernel_rfl) rfl rfl ?_;simp only[Tryz.f88,qG,bA,bC];have hc:=qMN (G:=G) a b ha hb;simp only[iK]at hc;refine rgn [] [[],[],[2,3]] ?_;iterate 3 refine op3 ?_
 refine qA (rgn [.nilp,.int .i64 (wT a b)] [[],[],[7],[],[4]] ?_);iterate 5 refine oq1 tok hc ?_
 exact qA (AW.ret qI)
theorem zOW (a b:Val) (ha:qU a=true) (hb:qU b=true):AFn Tryz.prog G 89 [a.enc,b.enc] (.bool (decide (0<wT a b))):=by
 refine AFn.introU tok Tryz.func89 (by kernel_rfl) rfl rfl ?_;simp only[Tryz.f89,qG,bA,bC];have hc:=qMN (G:=G) a b ha hb;simp only[iK]at hc;refine rgn [] [[],[],[2,3]] ?_;iterate 3 refine op3 ?_
 refine qA (rgn [.nilp,.int .i64 (wT a b)] [[],[],[7],[],[4]] ?_);iterate 5 refine oq1 tok hc ?_
 exact qA (AW.ret qI)
def qBH (b:Val->Val->Bool) (x:Val):List Val->Val
 | []=>x
 | v::l=>qBH b (if b v x=true then v else x) l
def vM (b:Val->Val->Bool) (l:List Val) (m:Int):Val:=if l.length=0 then qLS m else vZ (qBH b (l.getD 0 jN) (l.drop 1)) m
theorem zDZ (g:FuncId) (b:Val->Val->Bool) (l:List Val) (m:Int) (hg:∀ x∈l, ∀ y∈l,AFn Tryz.prog G g [x.enc,y.enc] (.bool (b x y))) (hl:l.length<=1000000) (hml:qBP l):AFn Tryz.prog G 87 [.agg [.int .u64 m],.sl 9 (l.map Val.enc),.fn g] ((vM b l m).enc):=by
 refine AFn.introU tok Tryz.func87 (by kernel_rfl) rfl rfl ?_;simp only[Tryz.f87,qG,bA,bC];have hn:=zDT (G:=G) m;have hw:=fun x hx=>zWS (G:=G) x m (hml x hx);have hle:(l.map Val.enc).length=l.length:=by simp
 have e:vM b l m=if l.length=0 then qLS m else vZ (qBH b (l.getD 0 jN) (l.drop 1)) m:=rfl
 rw[e];simp only[iK]at hn;refine rgn [] [[],[1,2,3,6]] ?_;iterate 2 refine op3 ?_
 refine qA (AW.seq (rgn [] [[],[],[1,2,3,6,12]] ?_));iterate 3 refine op3 ?_
 refine qA (cnd ?_ ?_)
 ·intro h12;try simp at h12
  rw[bE (by simpa using h12)];refine rgn [.nilp,(qLS m).enc] [[],[],[6]] ?_;iterate 3 refine oq1 tok hn ?_
  exact qA (AW.ret qI)
 intro h12;try simp at h12
 rw[bD (by simpa using h12)];obtain⟨x0,r,rfl⟩:∃ x r,l=x::r:=by
  cases l with
  | nil=>simp at h12
  | cons x r=>exact⟨x,r,rfl⟩
 simp only[List.getD_cons_zero,iE,gV];obtain⟨R,hRe⟩:∃ R,qBH b x0 r=R:=⟨_,rfl⟩;rw[hRe];have htake:(r.map Val.enc).take r.length=r.map Val.enc:=bK (by simp);simp only[cA]at hl;refine AW.skip (rgn [x0.enc] [[],[],[],[],[1,2,3,6,7]] ?_);iterate 5 refine op3 ?_
 refine qA (AW.seq (rgn [] [[],[],[],[2,3,6,7,19,20,21]] ?_));iterate 4 refine op3 ?_
 refine qA (AW.block ?_);refine AW.loop (α:=Nat × Val) (fun a=>a.1<=r.length/\R=qBH b a.2 (r.drop a.1)/\a.2∈x0::r) (fun a=>⟨qZ 35 [(2,.p (.fn g)),(3,.ptr 3 0),(6,.ptr 6 0),(7,.ptr 7 0),(19,.p (.sl 9 (r.map Val.enc))),(20,.p (.int .i64 r.length)),(21,.p (.int .i64 a.1))],[],[(3,.vars 61 [.p (.int .u64 m)]),(6,.vars 31 [.p (.int .i64 0),.p (.int .u64 0),.p (.bool false),.p (.str []),.p (.int .i64 0),.p (.str []),.nilsl,.nilsl,.p (.int .i64 0)]),(7,.vars 31 a.2.cells)],0⟩) (fun a=>r.length-a.1) ((0,x0)) ⟨by simp,by simp[hRe],by simp⟩ ⟨qE (by simp[htake]),rfl,by simp,by simp⟩ ?_;rintro⟨k,x⟩ ⟨hk,hs,hx⟩;simp only at hk hs hx;refine rgn [] [[]] ?_;refine op3 ?_;refine qA (AW.seq (cnd ?_ ?_))
 ·intro h22;try simp at h22
  obtain⟨v,hv⟩:∃ v,r[k]?=some v:=⟨r[k]'(by omega),by simp[show k<r.length by omega]⟩;have hvm:v∈x0::r:=cZ _ (bH hv);have hgv:=hg v hvm x hx;have hdr:r.drop k=v::r.drop (k+1):=by
   obtain⟨h1,h2⟩:=bB.1 hv;rw[cJ h1,h2]
  have hst:qBH b x (r.drop k)=qBH b (if b v x=true then v else x) (r.drop (k+1)):=by rw[hdr];rfl
  generalize b v x=bv at *;simp only[iK]at hgv;refine AW.skip (AW.seq (AW.block (rgn [v.enc] [[],[],[],[2,3,6,7,9,19,20,21]] ?_)));iterate 4 refine op3 ?_ (hv:=by first|exact True.intro|(simp[hv];done)|(simp[hv];omega);done|omega|simp)
  refine qA (rgn [.nilp,.bool bv] [[],[],[],[2,3,6,7,9,19,20,21,28]] ?_);iterate 4 refine oq1 tok hgv ?_
  refine qA (cnd ?_ ?_)
  ·intro h28;try simp at h28
   rw[bE h28]at hst;refine rgz [] [[],[2,3,6,7,19,20,21]] ?_;iterate 2 refine op3 ?_
   refine qA (rgz [] [[],[2,3,6,7,19,20,21]] ?_);iterate 2 refine op3 ?_
   refine qA ?_;exact⟨(k+1,v),⟨by simp only;omega,hs.trans hst,hvm⟩,by simp only;omega,qE (by simp),rfl,by simp,by simp⟩
  intro h28;try simp at h28
  rw[bD (by simp[h28])]at hst;refine AW.skip (rgz [] [[],[2,3,6,7,19,20,21]] ?_);iterate 2 refine op3 ?_
  refine qA ?_;exact⟨(k+1,x),⟨by simp only;omega,hs.trans hst,hx⟩,by simp only;omega,qE (by simp),rfl,by simp,by simp⟩
 intro h22;try simp at h22
 obtain rfl:k=r.length:=by omega
 rw[fP]at hs;have hs2:R=x:=hs;subst hs2;have hwR:=hw R hx;simp only[iK]at hwR;refine AW.exit ?_;simp;refine rgn [.nilp,(vZ R m).enc] [[],[],[],[6,34],[6]] ?_;iterate 5 refine op3 ?_ (hv:=by first|exact True.intro|exact hwR|(simp at hwR ⊢; exact hwR);done|omega|simp)
 exact qA (AW.ret qI)
theorem zSY (arg:List UInt8) (v:Val) (m:Int) (hn:v.kids.length<=1000000) (hm:qBP v.kids) (hf:∀ k∈uqV (srt leV v.kids),Few k) (hu:(uqV (srt leV v.kids)).length<=1000000):AFn Tryz.prog G 46 [.agg [.int .u64 m],.str [117,110,105,113,117,101],.str arg,v.enc] ((if v.kind=6 then yJ (uqV (srt leV v.kids)) m else qR 40 m).enc):=by
 refine AFn.introU tok Tryz.func46 (by kernel_rfl) rfl rfl ?_;simp only[Tryz.f46,qG,bA,bC];have hfa:=zX (G:=G) 40 m;have hc:=xT (G:=G) v.kids (by omega);have hs:=zCN (G:=G) v.kids hn hm;have hq:=zYV (G:=G) 85 (srt leV v.kids) (fun a b ha hb=>zOY a b ha hb) (by rw[uE];exact hn) (qLI hm);have hq2:=AX.ren 890 891 hq (by kernel_rfl);simp[V.ren,qQA,Box.ren]at hq2;have hl:=qEP (G:=G) (uqV (srt leV v.kids)) m hf hu;unfold zP at hs hq2;generalize yJ (uqV (srt leV v.kids)) m=W at *;generalize uqV (srt leV v.kids)=U at *;generalize srt leV v.kids=S at *;simp only[iK]at hfa hl;refine rgn [] [[],[],[1,2,4,7,8]] ?_;iterate 3 refine op3 ?_
 refine qA (AW.seq (rgn [] [[],[],[1,2,4,7,8,12]] ?_));iterate 3 refine op3 ?_
 refine qA (cnd ?_ ?_)
 ·intro h12;try simp at h12
  rw[bD (by simpa using h12)];refine rgn [.nilp,(qR 40 m).enc] [[],[],[8]] ?_;iterate 3 refine oq1 tok hfa ?_
  exact qA (AW.ret qI)
 intro h12;try simp at h12
 rw[bE (by simpa using h12)];refine AW.skip (rgn [.nilf,.sl 9 (v.kids.map Val.enc),.clo 31 []] [[],[],[],[1,2,4,8,9]] ?_);iterate 4 refine oq1 tok hc ?_
 refine qA (AW.seq (rgn [] [[]] ?_));refine op3 ?_;refine qA (AW.block (rgn [] [[],[1,2,4,8,9,18,19]] ?_));iterate 2 refine op3 ?_
 refine qA (cnd ?_ ?_)
 ·intro h19;try simp at h19
 intro h19;try simp at h19
 refine rgn [] [[],[1,2,4,8,9,18,26]] ?_;iterate 2 refine op3 ?_
 refine qA (cnd ?_ ?_)
 ·intro h26;try simp at h26
  refine lI 17 890 (by simp) (by conv=>lhs;simp) ?_;refine rgn [] [[]] ?_;refine op3 ?_;refine qJ ?_;refine qB.stepK [4,8,9] (zI rfl hs (by simp)) (by conv=>lhs;simp) rfl ?_;refine qB.nil ?_;refine lF mixed 4 [[4],[9],[31],[30,32]] [] (by kernel_rfl) ?_;refine iN tok (k := ?_);refine wI.q [890] (.ms 890) rfl (qFI tok (orc:=[]) (orc':=[]) (v:=True) (by conv=>lhs;simp) trivial) (by simp) (by kernel_rfl) (by conv=>lhs;simp) ?_;refine wI.call [891] hq2 rfl rfl (by simp) (by simp) (by simp) (by simp) (by simp) (by first|(simp;done)|(simp;omega)) (by first|(simp;done)|(simp;omega)) (by kernel_rfl) (by conv=>lhs;simp) ?_;refine oZ [(891,.row 31 9 (U.map Val.enc))] hl rfl rfl rfl trivial (by simp) (by simp) (by kernel_rfl) (by simp) (by kernel_rfl) (by kernel_rfl) (by conv=>lhs;simp) ?_;refine wI.nil (by kernel_rfl) ⟨by kernel_rfl, ?_⟩;refine qB.run [[8]] ?_;refine op3 ?_;exact qA (AW.ret qI)
 intro h26;try simp at h26
theorem zXZ (arg:List UInt8) (v:Val) (m:Int) (hn:v.kids.length<=1000000) (hm:qBP v.kids):AFn Tryz.prog G 46 [.agg [.int .u64 m],.str [109,105,110],.str arg,v.enc] ((if v.kind=6 then vM (fun a b=>decide (wT a b<0)) v.kids m else qR 40 m).enc):=by
 refine AFn.introU tok Tryz.func46 (by kernel_rfl) rfl rfl ?_;simp only[Tryz.f46,qG,bA,bC];have hfa:=zX (G:=G) 40 m;have hc:=xT (G:=G) v.kids (by omega);have hb:=zDZ (G:=G) 88 (fun a b=>decide (wT a b<0)) v.kids m (fun a ha b hb=>zOX a b (hm a ha) (hm b hb)) hn hm;generalize vM (fun a b=>decide (wT a b<0)) v.kids m=W at *;simp only[iK]at hfa hb;refine rgn [] [[],[],[1,2,4,7,8]] ?_;iterate 3 refine op3 ?_
 refine qA (AW.seq (rgn [] [[],[],[1,2,4,7,8,12]] ?_));iterate 3 refine op3 ?_
 refine qA (cnd ?_ ?_)
 ·intro h12;try simp at h12
  rw[bD (by simpa using h12)];refine rgn [.nilp,(qR 40 m).enc] [[],[],[8]] ?_;iterate 3 refine oq1 tok hfa ?_
  exact qA (AW.ret qI)
 intro h12;try simp at h12
 rw[bE (by simpa using h12)];refine AW.skip (rgn [.nilf,.sl 9 (v.kids.map Val.enc),.clo 31 []] [[],[],[],[1,2,4,8,9]] ?_);iterate 4 refine oq1 tok hc ?_
 refine qA (AW.seq (rgn [] [[]] ?_));refine op3 ?_;refine qA (AW.block (rgn [] [[],[1,2,4,8,9,18,19]] ?_));iterate 2 refine op3 ?_
 refine qA (cnd ?_ ?_)
 ·intro h19;try simp at h19
 intro h19;try simp at h19
 refine rgn [] [[],[1,2,4,8,9,18,26]] ?_;iterate 2 refine op3 ?_
 refine qA (cnd ?_ ?_)
 ·intro h26;try simp at h26
 intro h26;try simp at h26
 refine rgn [] [[],[1,2,4,8,9,18,34]] ?_;iterate 2 refine op3 ?_
 refine qA (cnd ?_ ?_)
 ·intro h34;try simp at h34
 intro h34;try simp at h34
 refine rgn [] [[],[1,2,4,8,9,18,39]] ?_;iterate 2 refine op3 ?_
 refine qA (cnd ?_ ?_)
 ·intro h39;try simp at h39
  refine lD 17 (by conv=>lhs;simp) ?_;refine rgn [.nilp,W.enc] [[],[],[8,43],[8]] ?_;iterate 4 refine oq1 tok hb ?_
  exact qA (AW.ret qI)
 intro h39;try simp at h39
theorem zYA (arg:List UInt8) (v:Val) (m:Int) (hn:v.kids.length<=1000000) (hm:qBP v.kids):AFn Tryz.prog G 46 [.agg [.int .u64 m],.str [109,97,120],.str arg,v.enc] ((if v.kind=6 then vM (fun a b=>decide (0<wT a b)) v.kids m else qR 40 m).enc):=by
 refine AFn.introU tok Tryz.func46 (by kernel_rfl) rfl rfl ?_;simp only[Tryz.f46,qG,bA,bC];have hfa:=zX (G:=G) 40 m;have hc:=xT (G:=G) v.kids (by omega);have hb:=zDZ (G:=G) 89 (fun a b=>decide (0<wT a b)) v.kids m (fun a ha b hb=>zOW a b (hm a ha) (hm b hb)) hn hm;generalize vM (fun a b=>decide (0<wT a b)) v.kids m=W at *;simp only[iK]at hfa hb;refine rgn [] [[],[],[1,2,4,7,8]] ?_;iterate 3 refine op3 ?_
 refine qA (AW.seq (rgn [] [[],[],[1,2,4,7,8,12]] ?_));iterate 3 refine op3 ?_
 refine qA (cnd ?_ ?_)
 ·intro h12;try simp at h12
  rw[bD (by simpa using h12)];refine rgn [.nilp,(qR 40 m).enc] [[],[],[8]] ?_;iterate 3 refine oq1 tok hfa ?_
  exact qA (AW.ret qI)
 intro h12;try simp at h12
 rw[bE (by simpa using h12)];refine AW.skip (rgn [.nilf,.sl 9 (v.kids.map Val.enc),.clo 31 []] [[],[],[],[1,2,4,8,9]] ?_);iterate 4 refine oq1 tok hc ?_
 refine qA (AW.seq (rgn [] [[]] ?_));refine op3 ?_;refine qA (AW.block (rgn [] [[],[1,2,4,8,9,18,19]] ?_));iterate 2 refine op3 ?_
 refine qA (cnd ?_ ?_)
 ·intro h19;try simp at h19
 intro h19;try simp at h19
 refine rgn [] [[],[1,2,4,8,9,18,26]] ?_;iterate 2 refine op3 ?_
 refine qA (cnd ?_ ?_)
 ·intro h26;try simp at h26
 intro h26;try simp at h26
 refine rgn [] [[],[1,2,4,8,9,18,34]] ?_;iterate 2 refine op3 ?_
 refine qA (cnd ?_ ?_)
 ·intro h34;try simp at h34
 intro h34;try simp at h34
 refine rgn [] [[],[1,2,4,8,9,18,39]] ?_;iterate 2 refine op3 ?_
 refine qA (cnd ?_ ?_)
 ·intro h39;try simp at h39
 intro h39;try simp at h39
 refine rgn [] [[],[1,2,4,8,9,18,44]] ?_;iterate 2 refine op3 ?_
 refine qA (cnd ?_ ?_)
 ·intro h44;try simp at h44
  refine lD 17 (by conv=>lhs;simp) ?_;refine rgn [.nilp,W.enc] [[],[],[8,48],[8]] ?_;iterate 4 refine oq1 tok hb ?_
  exact qA (AW.ret qI)
 intro h44;try simp at h44
end Go.Proofs.YtgcbapchinideaaGreatDoor
