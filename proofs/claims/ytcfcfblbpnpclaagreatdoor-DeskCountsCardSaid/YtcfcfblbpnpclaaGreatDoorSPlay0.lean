import Derived.Test.YtcfcfblbpnpclaaGreatDoorSTrim
import Derived.Test.YtcfcfblbpnpclaaGreatDoorSStr2
namespace Go.Proofs.YtcfcfblbpnpclaaGreatDoor
open Sy Go
set_option maxRecDepth 100000
set_option maxHeartbeats 4000000
set_option linter.unusedSimpArgs false
set_option linter.unusedVariables false
variable {G:qK}
theorem qHO (n:Int):AX Tryz.prog G 131 [.ptr 2 0] [(2,.vars 141 [.p (.str []),.p (.int .i64 n),.p (.bool false),.p (.bool false),.p (.bool false)])] (.tuple []) [2] [(2,.vars 141 [.p (.str []),.p (.int .i64 n),.p (.bool false),.p (.bool false),.p (.bool false)])]:=by
 refine AX.introU tok 900 Tryz.func131 (by kernel_rfl) rfl rfl ?_
 simp only [Tryz.f131,qV,List.map_cons,List.map_nil]
 have ht:=qEQ (G:=G) [] [32,9,10,13] (by simp) (by decide)
 rw [show xV (asF [32,9,10,13]) []=[] from rfl] at ht
 refine rgz [.nilp,.str []] [[],[],[],[],[2,6],[],[],[],[10]] ?_
 iterate 9 refine oq1 tok ht ?_
 refine qA ?_
 exact vD
theorem kL (n:Int) (w:List UInt8) (hw:w≠[]):AX Tryz.prog G 84 [.ptr 2 0,.p (.str w)] [(2,.vars 141 [.p (.str []),.p (.int .i64 n),.p (.bool false),.p (.bool false),.p (.bool false)])] (.p (.bool false)) [2] [(2,.vars 141 [.p (.str []),.p (.int .i64 n),.p (.bool false),.p (.bool false),.p (.bool false)])]:=by
 refine AX.introU tok 900 Tryz.func84 (by kernel_rfl) rfl rfl ?_
 simp only [Tryz.f84,qV,List.map_cons,List.map_nil]
 have hc:=qDN (G:=G) [] w
 have e1:wY [] w=false:=by
  cases w with
  | nil=>exact absurd rfl hw
  | cons a w=>simp [wY]
 have e2:xS [] w=[]:=by unfold xS; rw [e1]; rfl
 rw [e1,e2] at hc
 refine rgn [] [[0,1]] ?_
 refine op1 tok ?_
 refine qA (rgn [] [[]] ?_)
 refine op1 tok ?_
 refine qG ?_
 refine qC.stepK [0,1] (qY rfl (qHO n) (by simp)) (by conv=>lhs; simp) rfl ?_
 refine qC.nil ?_
 refine rgn [.nilp,.tup [.str [],.bool false]] [[],[],[],[],[0,13,14],[],[],[],[0,16,17],[],[0,5,6]] ?_
 iterate 11 refine oq1 tok hc ?_
 refine qA (AW.seq (rgn [] [[]] ?_))
 refine op1 tok ?_
 refine qA (cnd ?_ ?_)
 ·intro h18
  try simp at h18
 intro h18
 try simp at h18
 refine AW.skip (rgn [] [[],[4]] ?_)
 iterate 2 refine op1 tok ?_
 refine qA ?_
 exact AW.ret zG
theorem qGM  : AX Tryz.prog G 53 [.ptr 2 0,.p (.int .i64 1)] [(2,.vars 141 [.p (.str []),.p (.int .i64 0),.p (.bool false),.p (.bool false),.p (.bool false)])] (.agg [.p (.int .i64 0),.p (.int .u64 0),.p (.bool false),.p (.str []),.p (.int .i64 0),.p (.str []),.nilsl,.nilsl,.p (.int .i64 0)]) [2] [(2,.vars 141 [.p (.str []),.p (.int .i64 1),.p (.bool true),.p (.bool false),.p (.bool false)])]:=by
 refine AX.introU tok 900 Tryz.func53 (by kernel_rfl) rfl rfl ?_
 simp only [Tryz.f53,qV,List.map_cons,List.map_nil]
 have hp:=qDM (G:=G) [] [34]
 rw [show wY [] [34]=false from rfl] at hp
 refine rgn [] [[]] ?_
 refine op1 tok ?_
 refine qA (rgn [] [[],[],[],[],[],[0,1,4,9,10],[],[0,1,4]] ?_)
 iterate 8 refine op1 tok ?_
 refine qA (rgn [] [[],[],[],[],[],[0,1,4,12,17],[],[],[],[0,1,4,20,21],[],[0,1,4]] ?_)
 iterate 6 refine op1 tok ?_
 iterate 2 refine op2 tok ?_
 iterate 4 refine op1 tok ?_
 refine qA (rgn [] [[],[],[],[],[],[0,1,4,23,28],[],[],[],[],[0,1,4,23,28,33],[],[],[0,1,4,34,36],[0,1,4]] ?_)
 iterate 6 refine op1 tok ?_
 iterate 5 refine op2 tok ?_
 iterate 4 refine op1 tok ?_
 refine qA (AW.seq (AW.block (rgn [] [[]] ?_)))
 refine op1 tok ?_
 refine qG ?_
 refine qC.stepK [0,1,4,39] (qY rfl (kL 1 [91] (by simp)) (by simp)) (by conv=>lhs; simp) rfl ?_
 refine qC.run [[0,1,4,37]] ?_
 refine op1 tok ?_
 refine qA (cnd ?_ ?_)
 ·intro h37
  try simp at h37
 intro h37
 try simp at h37
 refine rgn [] [[]] ?_
 refine op1 tok ?_
 refine qG ?_
 refine qC.stepK [0,1,4,46] (qY rfl (kL 1 [123] (by simp)) (by simp)) (by conv=>lhs; simp) rfl ?_
 refine qC.run [[0,1,4,44]] ?_
 refine op1 tok ?_
 refine qA (cnd ?_ ?_)
 ·intro h44
  try simp at h44
 intro h44
 try simp at h44
 refine rgn [] [[]] ?_
 refine op1 tok ?_
 refine qG ?_
 refine qC.stepK [0,4,53] (qY rfl (kL 1 [110,117,108,108] (by simp)) (by simp)) (by conv=>lhs; simp) rfl ?_
 refine qC.run [[0,4,51]] ?_
 refine op1 tok ?_
 refine qA (cnd ?_ ?_)
 ·intro h51
  try simp at h51
 intro h51
 try simp at h51
 refine rgn [] [[]] ?_
 refine op1 tok ?_
 refine qG ?_
 refine qC.stepK [0,4,57] (qY rfl (kL 1 [116,114,117,101] (by simp)) (by simp)) (by conv=>lhs; simp) rfl ?_
 refine qC.run [[0,4,55]] ?_
 refine op1 tok ?_
 refine qA (cnd ?_ ?_)
 ·intro h55
  try simp at h55
 intro h55
 try simp at h55
 refine rgn [] [[]] ?_
 refine op1 tok ?_
 refine qG ?_
 refine qC.stepK [0,4,61] (qY rfl (kL 1 [102,97,108,115,101] (by simp)) (by simp)) (by conv=>lhs; simp) rfl ?_
 refine qC.run [[0,4,59]] ?_
 refine op1 tok ?_
 refine qA (cnd ?_ ?_)
 ·intro h59
  try simp at h59
 intro h59
 try simp at h59
 refine rgn [.nilp,.bool false] [[],[],[],[],[0,4,68],[0,4,63]] ?_
 iterate 6 refine oq1 tok hp ?_
 refine qA (cnd ?_ ?_)
 ·intro h63
  try simp at h63
 intro h63
 try simp at h63
 refine rgn [] [[],[],[],[],[0,4,77],[],[],[],[],[0,4,78,82],[],[],[],[],[0,4,78,85,87],[],[],[],[0,4,78,85,91],[],[],[],[],[0,4,78,85,92,96],[],[],[0,4,78,85,99],[],[0,4,101],[0,4,72]] ?_
 iterate 6 refine op1 tok ?_
 iterate 22 refine op2 tok ?_
 iterate 2 refine op1 tok ?_
 refine qA (cnd ?_ ?_)
 ·intro h72
  try simp at h72
 intro h72
 try simp at h72
 refine AW.skip (rgn [] [[],[],[],[4]] ?_)
 iterate 4 refine op1 tok ?_
 refine qA (rgn [] [[],[4]] ?_)
 iterate 2 refine op1 tok ?_
 refine qA ?_
 exact AW.ret zG
theorem qKE  : AFn Tryz.prog G 33 [.str []] (.tup [.agg [.int .i64 0,.int .u64 0,.bool false,.str [],.int .i64 0,.str [],.sl 1 [],.sl 9 [],.int .i64 0],.int .i64 0,.int .i64 10]):=by
 refine AFn.introU tok Tryz.func33 (by kernel_rfl) rfl rfl ?_
 simp only [Tryz.f33,qV,List.map_cons,List.map_nil]
 refine rgn [] [[],[],[0,2]] ?_
 iterate 3 refine op1 tok ?_
 refine qA (rgn [] [[],[],[],[0,2,5]] ?_)
 iterate 4 refine op1 tok ?_
 refine qA ?_
 refine AW.renE 2 20 (by simp) (by conv=>lhs; simp) ?_
 refine AW.renE 9 2 (by simp) (by conv=>lhs; simp) ?_
 refine rgn [] [[]] ?_
 refine op1 tok ?_
 refine qG ?_
 refine qC.stepK [0,2,5,11] (qY rfl (qGM) (by simp)) (by conv=>lhs; simp) rfl ?_
 refine qC.run [[],[0,2,5,6]] ?_
 iterate 2 refine op1 tok ?_
 refine qA (AW.seq (AW.block (rgn [] [[],[],[],[],[0,2,5,6,12]] ?_)))
 iterate 5 refine op1 tok ?_
 refine qA (cnd ?_ ?_)
 ·intro h12
  try simp at h12
  refine rgn [] [[],[],[],[2,3,4]] ?_
  iterate 4 refine op1 tok ?_
  exact qA (AW.ret xP)
 intro h12
 try simp at h12
theorem qGW  : AFn Tryz.prog G 23 [.str []] (.tup [.agg [.str [],.str [],.str [],.str [],.int .i64 0,.int .i64 0,.int .i64 0,.int .i64 0],.int .i64 240]):=by
 refine AFn.introU tok Tryz.func23 (by kernel_rfl) rfl rfl ?_
 simp only [Tryz.f23,qV,List.map_cons,List.map_nil]
 have h1:=qKE (G:=G)
 refine rgn [] [[],[0,2]] ?_
 iterate 2 refine op1 tok ?_
 refine qA (rgn [.nilp,.tup [.agg [.int .i64 0,.int .u64 0,.bool false,.str [],.int .i64 0,.str [],.sl 1 [],.sl 9 [],.int .i64 0],.int .i64 0,.int .i64 10]] [[],[],[],[],[],[],[],[0,2,4,20,21],[],[0,2,4,5,6]] ?_)
 iterate 10 refine oq1 tok h1 ?_
 refine qA (AW.seq ?_)
 refine AW.seqDrawS tok mixed 22 [[6],[22],[23],[0,24],[5,24],[25,26,24],[27,24],[28,24],[24,29],[30],[4,31],[32,31],[33,31],[31,34],[35],[4,36],[37,36],[38,36],[36],[40,36],[39,41,36],[36,42]] [.nilp,.str [],.nilp,.sl 1 []] [] (by kernel_rfl) ?_
 iterate 3 refine d1 ?_ (hv:=by first | with_reducible exact True.intro | (first | trivial | (intros; contradiction) | simp; done) | omega | simp | (simp +contextual; omega))
 iterate 5 refine d2 24 rfl rfl ?_ (hv:=by first | with_reducible exact True.intro | (first | trivial | (intros; contradiction) | simp; done) | omega | simp | (simp +contextual; omega))
 iterate 2 refine d1 ?_ (hv:=by first | with_reducible exact True.intro | (first | trivial | (intros; contradiction) | simp; done) | omega | simp | (simp +contextual; omega))
 iterate 3 refine d2 31 rfl rfl ?_ (hv:=by first | with_reducible exact True.intro | (first | trivial | (intros; contradiction) | simp; done) | omega | simp | (simp +contextual; omega))
 iterate 2 refine d1 ?_ (hv:=by first | with_reducible exact True.intro | (first | trivial | (intros; contradiction) | simp; done) | omega | simp | (simp +contextual; omega))
 iterate 6 refine d2 36 rfl rfl ?_ (hv:=by first | with_reducible exact True.intro | (first | trivial | (intros; contradiction) | simp; done) | omega | simp | (simp +contextual; omega))
 refine d1 ?_ (hv:=by first | with_reducible exact True.intro | (first | trivial | (intros; contradiction) | simp; done) | omega | simp | (simp +contextual; omega))
 refine DGo.nil (by kernel_rfl) ⟨by kernel_rfl, ?_⟩
 refine qC.nil ?_
 refine cnd ?_ ?_
 ·intro h43
  try simp at h43
  refine rgn [] [[],[],[2,3]] ?_
  iterate 3 refine op1 tok ?_
  exact qA (AW.ret xP)
 intro h43
 try simp at h43
theorem qHZ  : AFn Tryz.prog G 12 [.str []] (.tup [.str [],.int .i64 240]):=by
 refine AFn.introU tok Tryz.func12 (by kernel_rfl) rfl rfl ?_
 simp only [Tryz.f12,qV,List.map_cons,List.map_nil]
 have h1:=qGW (G:=G)
 refine rgn [] [[],[0]] ?_
 iterate 2 refine op1 tok ?_
 refine qA (rgn [.nilp,.tup [.agg [.str [],.str [],.str [],.str [],.int .i64 0,.int .i64 0,.int .i64 0,.int .i64 0],.int .i64 240]] [[],[],[],[],[9,10],[],[],[4,5]] ?_)
 iterate 8 refine oq1 tok h1 ?_
 refine qA (AW.seq (rgn [] [[],[4,5,12]] ?_))
 iterate 2 refine op1 tok ?_
 refine qA (cnd ?_ ?_)
 ·intro h12
  try simp at h12
  refine rgn [] [[],[],[2,3]] ?_
  iterate 3 refine op1 tok ?_
  exact qA (AW.ret xP)
 intro h12
 try simp at h12
end Go.Proofs.YtcfcfblbpnpclaaGreatDoor
