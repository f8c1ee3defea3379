import Derived.Test.YtlmedakhioiahaaGreatDoorSTexts21
import Derived.Test.YtlmedakhioiahaaGreatDoorSReadOK
namespace Go.Proofs.YtlmedakhioiahaaGreatDoor
open Sy Go
set_option maxRecDepth 100000
set_option maxHeartbeats 4000000
set_option linter.unusedSimpArgs false
set_option linter.unusedVariables false
variable {G:qO}
theorem qXR (j:Jb) (k:Nat):yT (qQC j) k=yT j k:=rfl
theorem qJM (s:List UInt8):(qBB s).length≤4100:=by
 unfold qBB
 split
 ·rw [List.length_take]; omega
 omega
theorem zCV (j:Jb) {k:Nat} (h:k<4):(wC (qQC j) k).length≤4100:=by
 match k,h with
 | 0,_=>exact qJM _
 | 1,_=>exact qJM _
 | 2,_=>exact qJM _
 | 3,_=>exact qJM _
theorem zBZ {n:Int} (h0 : -9223372036854775808≤n) (h1:n≤9223372036854775807):wF (qDM n)=true:=by
 refine qLB ⟨(show (1:Int)≤4 by decide),(show (4:Int)≤8 by decide),(show 0≤200 by decide)⟩ ?_ ?_ ?_ ?_ ?_ ?_ ?_ ?_ ?_
 ·exact ⟨fun h=>absurd h (show ¬ (4:Int)=8 by decide),fun h=>absurd rfl h⟩
 ·exact fun _=>zCN h0 h1
 ·exact fun h=>absurd rfl h
 ·exact fun h=>absurd h (show ¬ (4:Int)=5 by decide)
 ·exact fun _=>rfl
 ·exact fun h=>absurd h (show ¬ (4:Int)=7 by decide)
 ·exact fun _=>rfl
 ·exact .inl rfl
 exact fun k hk=>absurd hk (by simp [qDM,Val.kids])
theorem qME (hG:U8 G) (hE:PE G) (j:Jb) (s:List UInt8) (hb:zCA j):AFn Tryz.prog G 3 [j.enc,.str s] (.bool true):=by
 refine AFn.introU tok Tryz.func3 (by kernel_rfl) rfl rfl ?_
 simp only [Tryz.f3,qL,List.map_cons,List.map_nil]
 have hsh:=qUP (G:=G) hG
 have hfe:=zJD (G:=G) j
 have hb':zCA (qQC j):=fun k hk=>by rw [qXR]; exact hb k hk
 have hp:=qXC (G:=G) hG (qQC j) hb' (fun h=>qHY (qPN h) (qJI _) (by rw [qVC]; decide))
 have hq:=qYT (G:=G) (qQC j) hb' (fun k hk=>Nat.le_trans (zCV j hk) (by decide)) (fun k hk=>by rw [qXR]; exact zBZ (hb k hk).1 (hb k hk).2) (fun h=>qUX _ (qPN h) (by rw [qVC]; decide) (qLU _ _ (qJI _)) (fun h=>by rw [qJI] at h; cases h))
 have hk1:=qHM (G:=G)
 have hk2:=qEY (G:=G)
 have htx:=zBI (G:=G) yU yU
 rw [show eqL eqS yU yU=true by decide +kernel] at htx
 generalize qRZ (qQC j)=A at *
 obtain ⟨a1,a2⟩:=A
 simp only at hp hq
 generalize qQC j=f at *
 refine rgn [] [[],[1,2]] ?_
 iterate 2 refine op1 tok ?_
 refine qA (rgn [.nilp,.bool true] [[],[1,2,5]] ?_)
 iterate 2 refine oq1 tok hsh ?_
 refine qA ?_
 refine AW.join (α:=List UInt8) (fun t=>t.length≤6000) (fun t=>⟨zD 70 [(1,.p (.str t)),(2,.ptr 2 0),(5,.p (.bool true))],[],[(2,.vars 23 j.cells)],0⟩) ?_ ?_
 ·
  refine rgn [] [[],[],[1,2,5,18]] ?_
  iterate 3 refine op1 tok ?_
  refine qA (cnd ?_ ?_)
  ·intro h18
   try simp at h18
   skip
   refine rgz [] [[],[],[1,2,5]] ?_
   iterate 3 refine op1 tok ?_
   refine qA ?_
   exact ⟨s.take 6000,by simp; omega,qD (by simp),rfl,by simp,by simp⟩
  intro h18
  try simp at h18
  refine AW.skip ?_
  exact ⟨s,by omega,qD (by simp),rfl,by simp,by simp⟩
 ·
  rintro t ht
  have hx:=zBN (G:=G) hG hE t (by omega)
  have hy:=zBQ (G:=G) hE t (by omega) (zFR t (by omega))
  generalize qDS t=X at *
  obtain ⟨x1,x2⟩:=X
  simp only at hx hy
  refine rgn [.nilp,f.enc,.nilp,.tup [.str a1,.int .i64 a2]] [[],[],[],[],[],[1,2,5,25,26],[],[1,2,5,6,7]] ?_
  iterate 8 refine oq1 tok (ai hfe hp) ?_
  refine qA (rgn [.nilp,f.enc,.nilp,.tup [.str a1,.int .i64 a2]] [[],[],[],[1,5,6,7,27],[],[],[],[1,5,6,7,8,9]] ?_)
  iterate 8 refine oq1 tok (ai hfe hq) ?_
  refine qA (rgn [.nilp,.tup [x1.enc,.int .i64 x2]] [[],[],[],[],[],[],[1,5,6,7,8,9,10,37],[1,5,6,7,8,9,10,11]] ?_)
  iterate 8 refine oq1 tok hx ?_
  refine qA (rgn [.nilp,.tup [x1.enc,.int .i64 x2]] [[],[],[],[],[5,6,7,8,9,10,11,41,42],[],[],[5,6,7,8,9,10,11,12,13]] ?_)
  iterate 8 refine oq1 tok hy ?_
  refine qA (rgn [.nilp,.sl 1 (yU.map PD.str),.nilp,.sl 1 (yU.map PD.str),.nilp,.bool true] [[],[],[],[5,6,7,8,9,10,11,12,13,14]] ?_)
  iterate 4 refine oq1 tok (ai hk1 (ai hk2 htx)) ?_
  refine qA (rgn [] [[],[],[],[7,9,10,11,12,13,14,47,48,49],[],[7,9,10,11,12,13,14,51],[],[],[],[10,11,12,13,14,52,55],[],[],[11,12,13,14,57,58],[],[],[11,13,14,61],[],[],[],[14,62,65],[],[],[67,68],[],[4]] ?_)
  iterate 25 first | refine op1 tok ?_ | refine op2 tok ?_
  exact qA (AW.ret qK)
end Go.Proofs.YtlmedakhioiahaaGreatDoor
