import Derived.Test.YtgcbapchinideaaGreatDoorK5
import Derived.Test.YtgcbapchinideaaGreatDoorSStabW
set_option linter.all false
namespace Go.Proofs.YtgcbapchinideaaGreatDoor
open Sy Go
set_option maxRecDepth 100000
set_option maxHeartbeats 4000000
variable {G:qT}
theorem zTA (arg:List UInt8) (v:Val) (m:Int) (hn:v.kids.length<=1000000) (hm:qBP v.kids) (hf:∀ k∈v.kids,Few k):AFn Tryz.prog G 46 [.agg [.int .u64 m],.str [115,111,114,116],.str arg,v.enc] ((if v.kind=6 then yJ (srt leV v.kids) m else qR 40 m).enc):=by
 refine AFn.introU tok Tryz.func46 (by kernel_rfl) rfl rfl ?_;simp only[Tryz.f46,qG,bA,bC];have hfa:=zX (G:=G) 40 m;have hc:=xT (G:=G) v.kids (by omega);have hs:=zCN (G:=G) v.kids hn hm;have hl:=qEP (G:=G) (srt leV v.kids) m (fun k hk=>hf k (uD.1 hk)) (by rw[uE];exact hn);unfold zP at hs;generalize yJ (srt leV v.kids) m=W at *;generalize srt leV v.kids=S at *;simp only[iK]at hfa hl;refine rgn [] [[],[],[1,2,4,7,8]] ?_;iterate 3 refine op3 ?_
 refine qA (AW.seq (rgn [] [[],[],[1,2,4,7,8,12]] ?_));iterate 3 refine op3 ?_
 refine qA (cnd ?_ ?_)
 ·intro h12;try simp at h12
  rw[bD (by simpa using h12)];refine rgn [.nilp,(qR 40 m).enc] [[],[],[8]] ?_;iterate 3 refine oq1 tok hfa ?_
  exact qA (AW.ret qI)
 intro h12;try simp at h12
 rw[bE (by simpa using h12)];refine AW.skip (rgn [.nilf,.sl 9 (v.kids.map Val.enc),.clo 31 []] [[],[],[],[1,2,4,8,9]] ?_);iterate 4 refine oq1 tok hc ?_
 refine qA (AW.seq (rgn [] [[]] ?_));refine op3 ?_;refine qA (AW.block (rgn [] [[],[1,2,4,8,9,18,19]] ?_));iterate 2 refine op3 ?_
 refine qA (cnd ?_ ?_)
 ·intro h19;try simp at h19
  refine lI 17 890 (by simp) (by conv=>lhs;simp) ?_;refine rgn [] [[]] ?_;refine op3 ?_;refine qJ ?_;refine qB.stepK [4,8,9] (zI rfl hs (by simp)) (by conv=>lhs;simp) rfl ?_;refine qB.nil ?_;refine lD 890 (by conv=>lhs;simp) ?_;refine rgn [.nilp,W.enc] [[],[],[8,25],[8]] ?_;iterate 4 refine op3 ?_ (hv:=by first|exact True.intro|exact hl|(simp at hl ⊢; exact hl);done|omega|simp)
  exact qA (AW.ret qI)
 intro h19;try simp at h19
end Go.Proofs.YtgcbapchinideaaGreatDoor
