import Derived.Test.YtgcbapchinideaaGreatDoorK2
import Derived.Test.YtgcbapchinideaaGreatDoorM3
set_option linter.all false
namespace Go.Proofs.YtgcbapchinideaaGreatDoor
open Sy Go
set_option maxRecDepth 100000
set_option maxHeartbeats 4000000
variable {G:qT}
theorem qZI (v:Val) (hlm:v.kids.length<=1000000) (ih:∀ k∈v.kids,AFn Tryz.prog G 17 [k.enc] (.int .u64 (qX k))):AFn Tryz.prog G 17 [v.enc] (.int .u64 (qX v)):=by
 refine AFn.introU tok Tryz.func17 (by kernel_rfl) rfl rfl ?_;simp only[Tryz.f17,qG,bA,bC];refine rgn [] [[],[1]] ?_;iterate 2 refine op3 ?_
 refine qA (rgn [] [[],[],[1,3]] ?_);iterate 3 refine op3 ?_
 refine qA (AW.seq (rgn [] [[]] ?_));refine op3 ?_;refine qA (AW.block ?_);refine AW.loop (α:=Nat) (fun k=>k<=v.kids.length) (fun k=>⟨qZ 23 [(1,.ptr 1 0),(3,.p (.int .u64 (jD v.mask (v.kids.take k)))),(4,.p (.int .i64 k))],[],[(1,.vars 31 v.cells)],0⟩) (fun k=>v.kids.length-k) (0) (by omega) ⟨qE (by simp),rfl,by simp,by simp⟩ ?_;rintro k hk;refine AW.seq (rgn [] [[],[],[],[],[1,3,4,11]] ?_);iterate 5 refine op3 ?_
 refine qA (cnd ?_ ?_)
 ·intro h11;try simp at h11
  obtain⟨x,hx⟩:∃ x,v.kids[k]?=some x:=⟨v.kids[k],by simp[h11]⟩;have hix:=ih x (bH hx);simp only[iK]at hix;refine AW.skip (AW.seq (AW.block (rgz [x.enc,.nilp,.int .u64 (qX x)] [[],[],[],[],[1,4,14,18],[],[],[1,4,21],[1,3,4]] ?_)));iterate 9 refine op3 ?_ (h:=by intro C;conv=>lhs;simp[qZO]) (hv:=by first|exact True.intro|exact hix|simp[hx];done|omega|simp)
  refine qA (rgz [] [[],[],[1,3,4]] ?_);iterate 3 refine op3 ?_
  refine qA ?_;exact⟨k+1,by omega,by omega,qE (by simp[uZ hx]),rfl,by simp[uZ hx],by simp[uZ hx]⟩
 intro h11;try simp at h11
 rw[bK h11];refine AW.exit ?_;simp;refine rgn [] [[],[2]] ?_;iterate 2 refine op3 ?_
 refine qA ?_;exact AW.ret (qI (k:=by simp[uN v]))
theorem qSF (v:Val):qU v=true->AFn Tryz.prog G 17 [v.enc] (.int .u64 (qX v)) :=
 iV (p:=fun v=>qU v=true->AFn Tryz.prog G 17 [v.enc] (.int .u64 (qX v))) (fun v ih hv=>qZI v (by have:=qCA hv;omega) fun k hk=>ih k hk (yZ hv hk)) v
end Go.Proofs.YtgcbapchinideaaGreatDoor
