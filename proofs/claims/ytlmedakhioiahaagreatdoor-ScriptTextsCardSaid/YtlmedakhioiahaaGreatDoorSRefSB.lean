import Derived.Test.YtlmedakhioiahaaGreatDoorK3
import Derived.Test.YtlmedakhioiahaaGreatDoorSSameL
import Derived.Test.YtlmedakhioiahaaGreatDoorM3
namespace Go.Proofs.YtlmedakhioiahaaGreatDoor
open Sy Go
set_option maxRecDepth 100000
set_option maxHeartbeats 4000000
set_option linter.unusedSimpArgs false
set_option linter.unusedVariables false
variable {G:qO}
theorem zBI (l m:List (List UInt8)):AFn Tryz.prog G 12 [.sl 1 (l.map PD.str),.sl 1 (m.map PD.str)] (.bool (eqL eqS l m)):=by
 refine AFn.introU tok Tryz.func12 (by kernel_rfl) rfl rfl ?_
 simp only [Tryz.f12,qL,List.map_cons,List.map_nil]
 refine rgn [] [[0,1]] ?_
 refine op1 tok ?_
 refine qA (AW.seq (rgn [] [[],[],[],[],[0,1,10]] ?_))
 iterate 5 refine op1 tok ?_
 refine qA (cnd ?_ ?_)
 ·intro h10
  try simp at h10
  have hR:eqL eqS l m=false:=by
   rw [← Bool.not_eq_true]; intro h; have:=qXS h; omega
  refine rgn [] [[]] ?_
  refine op1 tok ?_
  refine qA ?_
  exact AW.ret (qK (k:=by simp [hR]))
 intro h10
 try simp at h10
 refine AW.skip (AW.seq (rgn [] [[]] ?_))
 refine op1 tok ?_
 refine qA (AW.block ?_)
 refine AW.slFactU (i:=0) rfl (by decide) ?_; intro hlen; simp at hlen
 refine AW.loop (α:=Nat) (fun k=>k≤l.length∧eqL eqS l m=eqL eqS (l.drop k) (m.drop k)) (fun k=>⟨zD 26 [(0,.p (.sl 1 (l.map PD.str))),(1,.p (.sl 1 (m.map PD.str))),(5,.p (.int .i64 k))],[],[],0⟩) (fun k=>l.length-k) (0) ⟨by omega,rfl⟩ ⟨qD (by simp),rfl,by simp,by simp⟩ ?_
 rintro k ⟨hk,hall⟩
 refine AW.seq (rgn [] [[],[],[],[0,1,5,14]] ?_)
 iterate 4 refine op1 tok ?_
 refine qA (cnd ?_ ?_)
 ·intro h14
  try simp at h14
  obtain ⟨x,hx⟩:∃ x,l[k]?=some x:=⟨l[k],by simp [h14]⟩
  obtain ⟨y,hy⟩:∃ y,m[k]?=some y:=⟨m[k]'(by omega),by simp [show k<m.length by omega]⟩
  have hst:=zDA (p:=eqS) hx hy
  refine AW.skip (AW.seq (AW.block ?_))
  refine AW.seqRunDrawK tok mixed [0,1,5,25] 9 [[0],[5],[17,18],[19],[1],[5],[21,22],[23],[20,24]] [.str x,.str y] [] (by kernel_rfl) (by intro C; conv=>lhs; simp) (by simp [hx,hy]) (by simp [Sm.sum,Sm.foot,Sm.tch,Sm.refs]; kernel_rfl) (by intro C; conv=>lhs; simp) (by first | with_reducible exact True.intro | omega | simp | (simp +contextual; omega)) ?_
  refine cnd ?_ ?_
  ·intro h25
   try simp at h25
   have hR:eqL eqS l m=false:=by rw [hall,hst]; simp [eqS,h25]
   refine rgn [] [[]] ?_
   refine op1 tok ?_
   refine qA ?_
   exact AW.ret (qK (k:=by simp [hR]))
  intro h25
  try simp at h25
  have hnx:eqL eqS l m=eqL eqS (l.drop (k+1)) (m.drop (k+1)):=by rw [hall,hst]; simp [eqS,h25]
  refine AW.skip (rgz [] [[],[],[0,1,5]] ?_)
  iterate 3 refine op1 tok ?_
  refine qA ?_
  exact ⟨k+1,⟨by omega,hnx⟩,by omega,qD (by simp),rfl,by simp,by simp⟩
 intro h14
 try simp at h14
 have hR:eqL eqS l m=true:=by rw [hall]; exact zGM (by omega) (by omega)
 refine AW.exit ?_
 simp
 refine rgn [] [[]] ?_
 refine op1 tok ?_
 refine qA ?_
 exact AW.ret (qK (k:=by simp [hR]))
end Go.Proofs.YtlmedakhioiahaaGreatDoor
