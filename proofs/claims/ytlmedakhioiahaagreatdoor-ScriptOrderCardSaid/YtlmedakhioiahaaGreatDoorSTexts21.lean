import Derived.Test.YtlmedakhioiahaaGreatDoorSRefSP
import Derived.Test.YtlmedakhioiahaaGreatDoorSFew21
import Derived.Test.YtlmedakhioiahaaGreatDoorSIntM
import Derived.Test.YtlmedakhioiahaaGreatDoorSRefSB
import Derived.Test.YtlmedakhioiahaaGreatDoorSMayIn
import Derived.Test.YtlmedakhioiahaaGreatDoorSPrintLen
import Derived.Test.YtlmedakhioiahaaGreatDoorSPrint5
import Derived.Test.YtlmedakhioiahaaGreatDoorSReadQ4
namespace Go.Proofs.YtlmedakhioiahaaGreatDoor
open Sy Go
set_option maxRecDepth 100000
set_option maxHeartbeats 4000000
set_option linter.unusedSimpArgs false
set_option linter.unusedVariables false
variable {G:qR}
theorem qYQ {j:Jb} (h:(zD j).all wC=true):wC (wV j)=true:=by
 refine qLS ⟨(show (1:Int)≤7 by decide),(show (7:Int)≤8 by decide),(show 8≤200 by decide)⟩ ?_ ?_ ?_ ?_ ?_ ?_ ?_ ?_ ?_
 ·exact ⟨fun h=>absurd h (show ¬ (7:Int)=8 by decide),fun h=>absurd rfl h⟩
 ·exact fun h=>absurd h (show ¬ (7:Int)=4 by decide)
 ·exact fun _=>rfl
 ·exact fun h=>absurd h (show ¬ (7:Int)=5 by decide)
 ·exact fun _=>rfl
 ·exact fun _=>⟨rfl,(show kY yD=true by decide +kernel)⟩
 ·exact fun h=>absurd rfl h
 ·exact .inr (.inr rfl)
 exact fun k hk=>List.all_eq_true.1 h k hk
theorem qYO (j:Jb):uL (wV j)=false:=by
 simp [wV,zD,qCC,uE,uL,zAG]
theorem zDN (j:Jb):Val.sz (wV j)=9:=by
 simp [wV,zD,qCC,uE,Val.sz,Val.szL]
theorem qVT (hG:U8 G):AFn Tryz.prog G 6 [] (.bool true):=by
 refine AFn.introU tok Tryz.func6 (by kernel_rfl) rfl rfl ?_
 simp only [Tryz.f6,qO,List.map_cons,List.map_nil]
 have hm0:(zD jb0).all wC=true:=by decide +kernel
 have hp:=qYK (G:=G) hG jb0 (fun k hk=>by unfold kG; match k,hk with | 0,_=>decide | 1,_=>decide | 2,_=>decide | 3,_=>decide) (fun h=>qIN (qYQ h) (qYO _) (by rw [zDN]; decide))
 have hM:zCU jb0=([123,34,112,111,108,105,99,121,34,58,34,34,44,34,102,105,108,116,101,114,34,58,34,34,44,34,105,110,112,117,116,34,58,34,34,44,34,110,97,109,101,115,34,58,34,34,44,34,108,111,103,114,111,111,109,34,58,48,44,34,108,111,103,99,114,97,115,104,34,58,48,44,34,111,117,116,114,111,111,109,34,58,48,44,34,111,117,116,99,114,97,115,104,34,58,48,125],0):=by decide +kernel
 rw [hM] at hp
 simp [jb0] at hp
 refine rgn [] [[14]] ?_
 refine op1 tok ?_
 refine qA (rgn [.nilp,.tup [.str [123,34,112,111,108,105,99,121,34,58,34,34,44,34,102,105,108,116,101,114,34,58,34,34,44,34,105,110,112,117,116,34,58,34,34,44,34,110,97,109,101,115,34,58,34,34,44,34,108,111,103,114,111,111,109,34,58,48,44,34,108,111,103,99,114,97,115,104,34,58,48,44,34,111,117,116,114,111,111,109,34,58,48,44,34,111,117,116,99,114,97,115,104,34,58,48,125],.int .i64 0]] [[],[],[],[],[],[1,7],[1,2]] ?_)
 iterate 7 refine oq1 tok hp ?_
 refine qA (rgn [] [[],[],[],[10,11],[],[],[0]] ?_)
 iterate 3 refine op1 tok ?_
 iterate 2 refine op2 tok ?_
 iterate 2 refine op1 tok ?_
 exact qA (AW.ret qP)
end Go.Proofs.YtlmedakhioiahaaGreatDoor
