import Derived.Test.YtcfcfblbpnpclaaGreatDoorK1
import Derived.Test.YtcfcfblbpnpclaaGreatDoorSStr2
namespace Go.Proofs.YtcfcfblbpnpclaaGreatDoor
open Sy Go
set_option maxRecDepth 100000
set_option maxHeartbeats 4000000
set_option linter.unusedSimpArgs false
set_option linter.unusedVariables false
variable {G:qK}
theorem qEQ (s cs:List UInt8) (h2:2≤cs.length) (hcs:∀ b∈cs,b.toNat<128):AFn Tryz.prog G 140 [.str s,.str cs] (.str (xV (asF cs) s)):=by
 refine AFn.introU tok Tryz.func140 (by kernel_rfl) rfl rfl ?_
 simp only [Tryz.f140,qV,List.map_cons,List.map_nil]
 have hne:cs≠[]:=by rintro rfl; simp at h2
 have hmk:=uL (G:=G) cs hcs
 refine rgn [] [[0,1]] ?_
 refine op1 tok ?_
 refine qA (AW.seq (rgn [] [[],[],[],[],[],[0,1,12]] ?_))
 iterate 3 refine op1 tok ?_
 iterate 2 refine op2 tok ?_
 refine op1 tok ?_
 refine qA (cnd ?_ ?_)
 ·intro h12
  try simp at h12
  simp [hne] at h12
  subst h12
  refine rgn [] [[],[4]] ?_
  iterate 2 refine op1 tok ?_
  refine qA ?_
  exact AW.ret (xP (k:=by simp [xV]))
 intro h12
 try simp at h12
 refine AW.skip (AW.seq (rgn [.int .u8 0] [[],[],[],[],[],[0,1,17,19],[],[0,1,21]] ?_))
 iterate 4 refine op1 tok ?_
 iterate 3 refine op2 tok ?_
 refine op1 tok ?_
 refine qA (cnd ?_ ?_)
 ·intro h21
  try simp at h21
  omega
 intro h21
 try simp at h21
 refine AW.skip (AW.seq (rgn [.nilp,.tup [.agg (wW 256 (asF cs)),.bool true]] [[],[],[],[],[],[],[0,1,5,30],[0,1,5,6]] ?_))
 iterate 8 refine oq1 tok hmk ?_
 refine qA (rgn [] [[0,1,5,31]] ?_)
 refine op1 tok ?_
 refine qA (cnd ?_ ?_)
 ·intro h31
  try simp at h31
  refine rgn [] [[]] ?_
  refine op1 tok ?_
  refine qG ?_
  refine qC.stepK [33] (qY rfl (vK (asF cs) s) (by simp)) (by conv=>lhs; simp) rfl ?_
  refine qC.run [[4]] ?_
  refine op1 tok ?_
  exact qA (AW.ret xP)
 intro h31
 try simp at h31
end Go.Proofs.YtcfcfblbpnpclaaGreatDoor
