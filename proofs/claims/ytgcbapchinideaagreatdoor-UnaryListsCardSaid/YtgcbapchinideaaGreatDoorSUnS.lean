import Derived.Test.YtgcbapchinideaaGreatDoorSUnT
import Derived.Test.YtgcbapchinideaaGreatDoorSStabW
namespace Go.Proofs.YtgcbapchinideaaGreatDoor
open Sy Go
set_option maxRecDepth 100000
set_option maxHeartbeats 4000000
set_option linter.unusedSimpArgs false
set_option linter.unusedVariables false
variable {G:qK}
theorem qPR (arg:List UInt8) (v:Val) (m:Int) (hn:v.kids.length≤1000000) (hm:yZ v.kids) (hf:∀ k∈v.kids,Few k):AFn Tryz.prog G 46 [.agg [.int .u64 m],.str [115,111,114,116],.str arg,v.enc] ((if v.kind=6 then qAY (srt leV v.kids) m else wD 40 m).enc):=by
 refine AFn.introU tok Tryz.func46 (by kernel_rfl) rfl rfl ?_
 simp only [Tryz.f46,qH,List.map_cons,List.map_nil]
 have hfa:=yD (G:=G) 40 m
 have hc:=jU (G:=G) v.kids (by omega)
 have hs:=qPC (G:=G) v.kids hn hm
 have hl:=qEH (G:=G) (srt leV v.kids) m (fun k hk=>hf k (qDY.1 hk)) (by rw [jD]; exact hn)
 unfold zF at hs
 generalize qAY (srt leV v.kids) m=W at *
 generalize srt leV v.kids=S at *
 simp only [Val.enc_def] at hfa hl
 refine rgn [] [[],[],[1,2,4,7,8]] ?_
 iterate 3 refine op1 tok ?_
 refine qA (AW.seq (rgn [] [[],[],[1,2,4,7,8,12]] ?_))
 iterate 3 refine op1 tok ?_
 refine qA (cnd ?_ ?_)
 ·intro h12
  try simp at h12
  rw [if_neg (by simpa using h12)]
  refine rgn [.nilp,(wD 40 m).enc] [[],[],[8]] ?_
  iterate 3 refine oq1 tok hfa ?_
  exact qA (AW.ret qG)
 intro h12
 try simp at h12
 rw [if_pos (by simpa using h12)]
 refine AW.skip (rgn [.nilf,.sl 9 (v.kids.map Val.enc),.clo 31 []] [[],[],[],[1,2,4,8,9]] ?_)
 iterate 4 refine oq1 tok hc ?_
 refine qA (AW.seq (rgn [] [[]] ?_))
 refine op1 tok ?_
 refine qA (AW.block (rgn [] [[],[1,2,4,8,9,18,19]] ?_))
 iterate 2 refine op1 tok ?_
 refine qA (cnd ?_ ?_)
 ·intro h19
  try simp at h19
  refine AW.renE 17 890 (by simp) (by conv=>lhs; simp) ?_
  refine rgn [] [[]] ?_
  refine op1 tok ?_
  refine zX ?_
  refine qF.stepK [4,8,9] (uC rfl hs (by simp)) (by conv=>lhs; simp) rfl ?_
  refine qF.nil ?_
  refine AW.freezeE 890 (by conv=>lhs; simp) ?_
  refine rgn [.nilp,W.enc] [[],[],[8,25],[8]] ?_
  iterate 4 refine op1 tok ?_ (hv:=by first | with_reducible exact True.intro | (first | exact hl | (simp at hl ⊢; exact hl); done) | omega | simp | (simp +contextual; omega))
  exact qA (AW.ret qG)
 intro h19
 try simp at h19
end Go.Proofs.YtgcbapchinideaaGreatDoor
