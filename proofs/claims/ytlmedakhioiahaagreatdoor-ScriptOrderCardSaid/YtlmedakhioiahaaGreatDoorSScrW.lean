import Derived.Test.YtlmedakhioiahaaGreatDoorK3
namespace Go.Proofs.YtlmedakhioiahaaGreatDoor
open Sy Go
set_option maxRecDepth 100000
set_option maxHeartbeats 4000000
set_option linter.unusedSimpArgs false
set_option linter.unusedVariables false
variable {G:qR}
theorem zCC (hE:PE G) (v:Val) (hm:v.kind=4→wH v.num=true):AFn Tryz.prog G 27 [v.enc] (.tup [.int .i64 (kA v).1,.bool (kA v).2]):=by
 refine AFn.introU tok Tryz.func27 (by kernel_rfl) rfl rfl ?_
 simp only [Tryz.f27,qO,List.map_cons,List.map_nil]
 have hM:kA v=if v.kind=4∧v.num.scale=0∧v.num.digits.length≤15 then (kT v.num,inB (kT v.num)) else (0,false):=rfl
 rw [hM]
 refine rgn [] [[],[],[1]] ?_
 iterate 3 refine op1 tok ?_
 refine qA (AW.seq (rgn [] [[],[],[],[],[],[1,9,11],[],[],[1,14],[],[],[],[],[1,15,19],[],[1,21]] ?_))
 iterate 16 first | refine op1 tok ?_ | refine op2 tok ?_
 refine qA (cnd ?_ ?_)
 ·intro h21
  try simp at h21
  rw [if_neg (by omega)]
  refine rgn [] [[],[]] ?_
  iterate 2 refine op1 tok ?_
  exact qA (AW.ret qP)
 intro h21
 try simp at h21
 have hc:v.kind=4∧v.num.scale=0∧v.num.digits.length≤15:=by omega
 rw [if_pos hc]
 obtain ⟨k4,k5,k6⟩:=hc
 have hd:=hm k4
 have hp:=qJD (G:=G) v.num hd
 have hat:=zIS (G:=G) hE (yI v.num) (by have:=qDV hd; unfold yI wB zH; simp; split <;> (try split) <;> simp <;> omega)
 rw [(qXJ hd k5 k6).1] at hat
 have hlt:=qZO (d:=v.num) (zBJ hd) k6
 have hB:inB (kT v.num)=(decide (-1099511627776≤kT v.num) && decide (kT v.num≤1099511627776)):=rfl
 rw [hB]
 generalize kT v.num=n at *
 generalize yI v.num=P at *
 simp only [Dc.enc] at hp
 refine AW.skip (rgn [.nilp,.str P,.nilp,.tup [.int .i64 n,.noerr]] [[],[],[],[26],[],[],[],[],[4,5]] ?_)
 iterate 9 refine oq1 tok (ai hp hat) ?_
 refine qA (rgn [] [[],[]] ?_)
 iterate 2 refine op1 tok ?_
 refine qK ?_
 refine qB.stepK [4,29,31] (zGD true rfl (by kernel_rfl) (by (conv=>lhs; simp); rfl) trivial) (by conv=>lhs; simp) rfl ?_
 refine qB.run [[],[],[],[4,29,35],[],[],[],[29,39],[],[2,3]] ?_
 iterate 10 first | refine op1 tok ?_ | refine op2 tok ?_
 exact qA (AW.ret qP)
end Go.Proofs.YtlmedakhioiahaaGreatDoor
