import Derived.Test.YtcfcfblbpnpclaaGreatDoorSDeskL
import Derived.Test.YtcfcfblbpnpclaaGreatDoorM4
namespace Go.Proofs.YtcfcfblbpnpclaaGreatDoor
open Sy Go
set_option maxRecDepth 100000
set_option maxHeartbeats 4000000
set_option linter.unusedSimpArgs false
set_option linter.unusedVariables false
variable {G:qK}
theorem qKN:qFN Tryz.prog 50 .i64:=fun a x w h=>run_call_load Tryz.func50 (by kernel_rfl) (by kernel_rfl) (by kernel_rfl) .i64 (by kernel_rfl) h
theorem qKO:qFN Tryz.prog 127 .u32:=fun a x w h=>run_call_load Tryz.func127 (by kernel_rfl) (by kernel_rfl) (by kernel_rfl) .u32 (by kernel_rfl) h
theorem qJZ:qGJ Tryz.prog 83:=fun a k y u w h z=>run_call_store Tryz.func83 (by kernel_rfl) (by kernel_rfl) (by kernel_rfl) (by kernel_rfl) h z
theorem qKT:qLI Tryz.prog 82 .i64:=fun a x y s w h z hs=>run_call_add Tryz.func82 (by kernel_rfl) (by kernel_rfl) (by kernel_rfl) .i64 (by kernel_rfl) h z hs
theorem qR (i:Nat) (e:TypeId) (cs:List V) (off:Nat) (n:Int) (h:cs[off]?=some (.p (.int .i64 n))):AX Tryz.prog G 29 [.ptr i off] [(i,.vars e cs)] (.p (.int .i64 n)) [i] [(i,.vars e cs)]:=by
 refine AX.introU tok 700 Tryz.func29 (by kernel_rfl) rfl rfl ?_
 simp only [Tryz.f29,qV,List.map_cons,List.map_nil]
 refine rgn [] [[0]] ?_
 refine op1 tok ?_
 refine qA (rgn [] [[],[],[]] ?_)
 iterate 3 refine op1 tok ?_
 refine qG ?_
 refine qC.stepK [6] (qDQ qKN rfl (by conv=>lhs; simp) trivial (by conv=>lhs; simp) trivial (by conv=>lhs; simp) h) (by conv=>lhs; simp) rfl ?_
 refine qC.run [[2]] ?_
 refine op1 tok ?_
 refine qA ?_
 exact AW.ret zG
theorem wJ (i:Nat) (e:TypeId) (cs:List V) (off:Nat) (n m:Int) (h:cs[off]?=some (.p (.int .i64 n))) (h1 : -9223372036854775808≤n+m) (h2:n+m≤9223372036854775807):AX Tryz.prog G 51 [.ptr i off,.p (.int .i64 m)] [(i,.vars e cs)] (.p (.int .i64 (n+m))) [i] [(i,.vars e (cs.set off (.p (.int .i64 (n+m)))))]:=by
 refine AX.introU tok 700 Tryz.func51 (by kernel_rfl) rfl rfl ?_
 simp only [Tryz.f51,qV,List.map_cons,List.map_nil]
 refine rgn [] [[0,1]] ?_
 refine op1 tok ?_
 refine qA (rgn [] [[],[],[],[7,8]] ?_)
 iterate 4 refine op1 tok ?_
 refine qG ?_
 refine qC.stepK [9] (qJS qKT rfl (by conv=>lhs; simp) trivial (by conv=>lhs; simp) trivial (by conv=>lhs; simp) trivial (by conv=>lhs; simp) h h1 h2 rfl) (by conv=>lhs; simp) rfl ?_
 refine qC.run [[4]] ?_
 refine op1 tok ?_
 refine qA ?_
 exact AW.ret zG
theorem yS (i:Nat) (e:TypeId) (cs:List V) (off:Nat) (m:Int) (h:off<cs.length):AX Tryz.prog G 52 [.ptr i off,.p (.int .i64 m)] [(i,.vars e cs)] (.tuple []) [i] [(i,.vars e (cs.set off (.p (.int .i64 m))))]:=by
 refine AX.introU tok 700 Tryz.func52 (by kernel_rfl) rfl rfl ?_
 simp only [Tryz.f52,qV,List.map_cons,List.map_nil]
 refine rgz [] [[],[],[],[6,7]] ?_
 iterate 4 refine op1 tok ?_
 refine qG ?_
 refine qC.stepK [] (qGL qJZ rfl (by conv=>lhs; simp) trivial (by conv=>lhs; simp) trivial (by conv=>lhs; simp) trivial (by conv=>lhs; simp) h rfl) (by conv=>lhs; simp) rfl ?_
 refine qC.nil ?_
 exact vD
def qB (x:Int × Int × Int):List V:=[.p (.int .i64 x.1),.p (.int .i64 x.2.1),.p (.int .i64 x.2.2)]
end Go.Proofs.YtcfcfblbpnpclaaGreatDoor
