import Derived.Test.YtcfcfblbpnpclaaGreatDoorSAtom
namespace Go.Proofs.YtcfcfblbpnpclaaGreatDoor
open Sy Go
set_option maxRecDepth 100000
set_option maxHeartbeats 4000000
set_option linter.unusedSimpArgs false
set_option linter.unusedVariables false
variable {G:qK}
theorem qLV  : AX Tryz.prog G 49 [.ptr 3 0] [(2,.vars 71 [.p (.int .i64 5),.p (.int .u32 0),.p (.int .i32 1),.p (.int .u32 0),.nilsl]),(3,.vars 44 [.ptr 2 0])] (.tuple []) [2,3] [(2,.vars 71 [.p (.int .i64 5),.p (.int .u32 0),.p (.int .i32 1),.p (.int .u32 0),.ms 975]),(3,.vars 44 [.ptr 2 0]),(975,.prow 78 [.ptr 961 0,.ptr 962 0,.ptr 963 0,.ptr 964 0,.ptr 965 0]),(961,.vars 77 [.p (.int .i64 0),.p (.int .i64 0),.p (.int .i64 0)]),(962,.vars 77 [.p (.int .i64 0),.p (.int .i64 0),.p (.int .i64 0)]),(963,.vars 77 [.p (.int .i64 0),.p (.int .i64 0),.p (.int .i64 0)]),(964,.vars 77 [.p (.int .i64 0),.p (.int .i64 0),.p (.int .i64 0)]),(965,.vars 77 [.p (.int .i64 0),.p (.int .i64 0),.p (.int .i64 0)])]:=by
 refine AX.introU tok 940 Tryz.func49 (by kernel_rfl) rfl rfl ?_
 simp only [Tryz.f49,qV,List.map_cons,List.map_nil]
 refine rgn [] [[],[],[],[],[0,4,5]] ?_
 iterate 5 refine op1 tok ?_
 refine qA (AW.block ?_)
 refine AW.loopL [⟨zA 19 [(0,.ptr 3 0),(4,.p (.int .i64 5)),(5,.p (.int .i64 1))],[2,3],[(2,.vars 71 [.p (.int .i64 5),.p (.int .u32 0),.p (.int .i32 1),.p (.int .u32 0),.ms 971]),(3,.vars 44 [.ptr 2 0]),(971,.prow 78 [.ptr 961 0]),(961,.vars 77 [.p (.int .i64 0),.p (.int .i64 0),.p (.int .i64 0)])],940⟩,⟨zA 19 [(0,.ptr 3 0),(4,.p (.int .i64 5)),(5,.p (.int .i64 2))],[2,3],[(2,.vars 71 [.p (.int .i64 5),.p (.int .u32 0),.p (.int .i32 1),.p (.int .u32 0),.ms 972]),(3,.vars 44 [.ptr 2 0]),(972,.prow 78 [.ptr 961 0,.ptr 962 0]),(961,.vars 77 [.p (.int .i64 0),.p (.int .i64 0),.p (.int .i64 0)]),(962,.vars 77 [.p (.int .i64 0),.p (.int .i64 0),.p (.int .i64 0)])],940⟩,⟨zA 19 [(0,.ptr 3 0),(4,.p (.int .i64 5)),(5,.p (.int .i64 3))],[2,3],[(2,.vars 71 [.p (.int .i64 5),.p (.int .u32 0),.p (.int .i32 1),.p (.int .u32 0),.ms 973]),(3,.vars 44 [.ptr 2 0]),(973,.prow 78 [.ptr 961 0,.ptr 962 0,.ptr 963 0]),(961,.vars 77 [.p (.int .i64 0),.p (.int .i64 0),.p (.int .i64 0)]),(962,.vars 77 [.p (.int .i64 0),.p (.int .i64 0),.p (.int .i64 0)]),(963,.vars 77 [.p (.int .i64 0),.p (.int .i64 0),.p (.int .i64 0)])],940⟩,⟨zA 19 [(0,.ptr 3 0),(4,.p (.int .i64 5)),(5,.p (.int .i64 4))],[2,3],[(2,.vars 71 [.p (.int .i64 5),.p (.int .u32 0),.p (.int .i32 1),.p (.int .u32 0),.ms 974]),(3,.vars 44 [.ptr 2 0]),(974,.prow 78 [.ptr 961 0,.ptr 962 0,.ptr 963 0,.ptr 964 0]),(961,.vars 77 [.p (.int .i64 0),.p (.int .i64 0),.p (.int .i64 0)]),(962,.vars 77 [.p (.int .i64 0),.p (.int .i64 0),.p (.int .i64 0)]),(963,.vars 77 [.p (.int .i64 0),.p (.int .i64 0),.p (.int .i64 0)]),(964,.vars 77 [.p (.int .i64 0),.p (.int .i64 0),.p (.int .i64 0)])],940⟩,⟨zA 19 [(0,.ptr 3 0),(4,.p (.int .i64 5)),(5,.p (.int .i64 5))],[2,3],[(2,.vars 71 [.p (.int .i64 5),.p (.int .u32 0),.p (.int .i32 1),.p (.int .u32 0),.ms 975]),(3,.vars 44 [.ptr 2 0]),(975,.prow 78 [.ptr 961 0,.ptr 962 0,.ptr 963 0,.ptr 964 0,.ptr 965 0]),(961,.vars 77 [.p (.int .i64 0),.p (.int .i64 0),.p (.int .i64 0)]),(962,.vars 77 [.p (.int .i64 0),.p (.int .i64 0),.p (.int .i64 0)]),(963,.vars 77 [.p (.int .i64 0),.p (.int .i64 0),.p (.int .i64 0)]),(964,.vars 77 [.p (.int .i64 0),.p (.int .i64 0),.p (.int .i64 0)]),(965,.vars 77 [.p (.int .i64 0),.p (.int .i64 0),.p (.int .i64 0)])],940⟩] (⟨zA 19 [(0,.ptr 3 0),(4,.p (.int .i64 5)),(5,.p (.int .i64 0))],[2,3],[(2,.vars 71 [.p (.int .i64 5),.p (.int .u32 0),.p (.int .i32 1),.p (.int .u32 0),.nilsl]),(3,.vars 44 [.ptr 2 0])],940⟩) ⟨qM (by simp),rfl,by simp,by simp⟩ ?_
 refine ⟨?_, ?_, ?_, ?_, ?_, ?_⟩
 ·
  refine rgn [] [[]] ?_
  refine op1 tok ?_
  refine qA (AW.seq (cnd ?_ ?_))
  ·intro h6
   try simp at h6
   skip
   refine AW.skip (AW.seq (AW.block ?_))
   refine AW.drawR mixed 12 [[0],[0],[8],[9],[10],[],[12],[13],[11,14],[7],[16],[17,15]] [] (by kernel_rfl) ?_
   iterate 7 refine qJ.one tok (orc:=[]) (by intro C; conv=>lhs; simp) (by first | with_reducible exact True.intro | omega | simp | (simp +contextual; omega)) rfl (by kernel_rfl) ?_
   refine qJ.yNew [(953,.vars 77 [.p (.int .i64 0),.p (.int .i64 0),.p (.int .i64 0)])] [(954,.prow 78 [.ptr 953 0]),(953,.vars 77 [.p (.int .i64 0),.p (.int .i64 0),.p (.int .i64 0)])] (.ms 954) [954] rfl (jG tok rfl rfl rfl rfl rfl rfl (by conv=>lhs; simp) trivial 954 (by kernel_rfl) (by decide) rfl) (by simp) (by simp [V.ids,V.idsL,zP,Box.ids]) (by simp) (by kernel_rfl) (by kernel_rfl) (by conv=>lhs; simp) ?_
   refine qJ.yAny [(953,.vars 77 [.p (.int .i64 0),.p (.int .i64 0),.p (.int .i64 0)]),(954,.prow 78 [.ptr 953 0])] [(956,.prow 78 [.ptr 953 0]),(953,.vars 77 [.p (.int .i64 0),.p (.int .i64 0),.p (.int .i64 0)]),(954,.prow 78 [.ptr 953 0])] (.ms 956) [953,954] [956] rfl (kJ (st1:=_) tok rfl (by conv=>lhs; simp) trivial (by conv=>lhs; simp) trivial rfl rfl rfl rfl rfl rfl (by decide) rfl (by decide) (.inl ⟨rfl,rfl,rfl⟩) (by decide) 956 (by kernel_rfl) (by decide) (by decide) rfl) rfl (by simp [St.kill]) (by simp) (by simp [V.ids,V.idsL,zP,Box.ids]) (by simp) (by simp) (by kernel_rfl) (by kernel_rfl) (by conv=>lhs; simp) ?_
   iterate 3 refine qJ.one tok (orc:=[]) (by intro C; conv=>lhs; simp) (by first | with_reducible exact True.intro | omega | simp | (simp +contextual; omega)) rfl (by kernel_rfl) ?_
   refine qJ.nil (by kernel_rfl) ⟨by kernel_rfl, ?_⟩
   refine qC.nil ?_
   refine AW.renE 953 961 (by simp) (by conv=>lhs; simp) ?_
   refine AW.renE 956 971 (by simp) (by conv=>lhs; simp) ?_
   refine rgz [] [[],[0,4,5]] ?_
   iterate 2 refine op1 tok ?_
   refine qA ?_
   exact ⟨qM (by simp),rfl,by simp,by simp⟩
  intro h6
  try simp at h6
 ·
  refine rgn [] [[]] ?_
  refine op1 tok ?_
  refine qA (AW.seq (cnd ?_ ?_))
  ·intro h6
   try simp at h6
   skip
   refine AW.skip (AW.seq (AW.block ?_))
   refine AW.drawR mixed 12 [[0],[0],[8],[9],[10],[],[12],[13],[11,14],[7],[16],[17,15]] [] (by kernel_rfl) ?_
   iterate 7 refine qJ.one tok (orc:=[]) (by intro C; conv=>lhs; simp) (by first | with_reducible exact True.intro | omega | simp | (simp +contextual; omega)) rfl (by kernel_rfl) ?_
   refine qJ.yNew [(953,.vars 77 [.p (.int .i64 0),.p (.int .i64 0),.p (.int .i64 0)])] [(954,.prow 78 [.ptr 953 0]),(953,.vars 77 [.p (.int .i64 0),.p (.int .i64 0),.p (.int .i64 0)])] (.ms 954) [954] rfl (jG tok rfl rfl rfl rfl rfl rfl (by conv=>lhs; simp) trivial 954 (by kernel_rfl) (by decide) rfl) (by simp) (by simp [V.ids,V.idsL,zP,Box.ids]) (by simp) (by kernel_rfl) (by kernel_rfl) (by conv=>lhs; simp) ?_
   refine qJ.yAny [(971,.prow 78 [.ptr 961 0]),(961,.vars 77 [.p (.int .i64 0),.p (.int .i64 0),.p (.int .i64 0)]),(953,.vars 77 [.p (.int .i64 0),.p (.int .i64 0),.p (.int .i64 0)]),(954,.prow 78 [.ptr 953 0])] [(956,.prow 78 [.ptr 961 0,.ptr 953 0]),(961,.vars 77 [.p (.int .i64 0),.p (.int .i64 0),.p (.int .i64 0)]),(953,.vars 77 [.p (.int .i64 0),.p (.int .i64 0),.p (.int .i64 0)]),(954,.prow 78 [.ptr 953 0])] (.ms 956) [961,953,954] [956] rfl (kJ (st1:=_) tok rfl (by conv=>lhs; simp) trivial (by conv=>lhs; simp) trivial rfl rfl rfl rfl rfl rfl (by decide) rfl (by decide) (.inr ⟨971,rfl,rfl,rfl⟩) (by decide) 956 (by kernel_rfl) (by decide) (by decide) rfl) rfl (by simp [St.kill]) (by simp) (by simp [V.ids,V.idsL,zP,Box.ids]) (by simp) (by simp) (by kernel_rfl) (by kernel_rfl) (by conv=>lhs; simp) ?_
   iterate 3 refine qJ.one tok (orc:=[]) (by intro C; conv=>lhs; simp) (by first | with_reducible exact True.intro | omega | simp | (simp +contextual; omega)) rfl (by kernel_rfl) ?_
   refine qJ.nil (by kernel_rfl) ⟨by kernel_rfl, ?_⟩
   refine qC.nil ?_
   refine AW.renE 953 962 (by simp) (by conv=>lhs; simp) ?_
   refine AW.renE 956 972 (by simp) (by conv=>lhs; simp) ?_
   refine rgz [] [[],[0,4,5]] ?_
   iterate 2 refine op1 tok ?_
   refine qA ?_
   exact ⟨qM (by simp),rfl,by simp,by simp⟩
  intro h6
  try simp at h6
 ·
  refine rgn [] [[]] ?_
  refine op1 tok ?_
  refine qA (AW.seq (cnd ?_ ?_))
  ·intro h6
   try simp at h6
   skip
   refine AW.skip (AW.seq (AW.block ?_))
   refine AW.drawR mixed 12 [[0],[0],[8],[9],[10],[],[12],[13],[11,14],[7],[16],[17,15]] [] (by kernel_rfl) ?_
   iterate 7 refine qJ.one tok (orc:=[]) (by intro C; conv=>lhs; simp) (by first | with_reducible exact True.intro | omega | simp | (simp +contextual; omega)) rfl (by kernel_rfl) ?_
   refine qJ.yNew [(953,.vars 77 [.p (.int .i64 0),.p (.int .i64 0),.p (.int .i64 0)])] [(954,.prow 78 [.ptr 953 0]),(953,.vars 77 [.p (.int .i64 0),.p (.int .i64 0),.p (.int .i64 0)])] (.ms 954) [954] rfl (jG tok rfl rfl rfl rfl rfl rfl (by conv=>lhs; simp) trivial 954 (by kernel_rfl) (by decide) rfl) (by simp) (by simp [V.ids,V.idsL,zP,Box.ids]) (by simp) (by kernel_rfl) (by kernel_rfl) (by conv=>lhs; simp) ?_
   refine qJ.yAny [(972,.prow 78 [.ptr 961 0,.ptr 962 0]),(961,.vars 77 [.p (.int .i64 0),.p (.int .i64 0),.p (.int .i64 0)]),(962,.vars 77 [.p (.int .i64 0),.p (.int .i64 0),.p (.int .i64 0)]),(953,.vars 77 [.p (.int .i64 0),.p (.int .i64 0),.p (.int .i64 0)]),(954,.prow 78 [.ptr 953 0])] [(956,.prow 78 [.ptr 961 0,.ptr 962 0,.ptr 953 0]),(961,.vars 77 [.p (.int .i64 0),.p (.int .i64 0),.p (.int .i64 0)]),(962,.vars 77 [.p (.int .i64 0),.p (.int .i64 0),.p (.int .i64 0)]),(953,.vars 77 [.p (.int .i64 0),.p (.int .i64 0),.p (.int .i64 0)]),(954,.prow 78 [.ptr 953 0])] (.ms 956) [961,962,953,954] [956] rfl (kJ (st1:=_) tok rfl (by conv=>lhs; simp) trivial (by conv=>lhs; simp) trivial rfl rfl rfl rfl rfl rfl (by decide) rfl (by decide) (.inr ⟨972,rfl,rfl,rfl⟩) (by decide) 956 (by kernel_rfl) (by decide) (by decide) rfl) rfl (by simp [St.kill]) (by simp) (by simp [V.ids,V.idsL,zP,Box.ids]) (by simp) (by simp) (by kernel_rfl) (by kernel_rfl) (by conv=>lhs; simp) ?_
   iterate 3 refine qJ.one tok (orc:=[]) (by intro C; conv=>lhs; simp) (by first | with_reducible exact True.intro | omega | simp | (simp +contextual; omega)) rfl (by kernel_rfl) ?_
   refine qJ.nil (by kernel_rfl) ⟨by kernel_rfl, ?_⟩
   refine qC.nil ?_
   refine AW.renE 953 963 (by simp) (by conv=>lhs; simp) ?_
   refine AW.renE 956 973 (by simp) (by conv=>lhs; simp) ?_
   refine rgz [] [[],[0,4,5]] ?_
   iterate 2 refine op1 tok ?_
   refine qA ?_
   exact ⟨qM (by simp),rfl,by simp,by simp⟩
  intro h6
  try simp at h6
 ·
  refine rgn [] [[]] ?_
  refine op1 tok ?_
  refine qA (AW.seq (cnd ?_ ?_))
  ·intro h6
   try simp at h6
   skip
   refine AW.skip (AW.seq (AW.block ?_))
   refine AW.drawR mixed 12 [[0],[0],[8],[9],[10],[],[12],[13],[11,14],[7],[16],[17,15]] [] (by kernel_rfl) ?_
   iterate 7 refine qJ.one tok (orc:=[]) (by intro C; conv=>lhs; simp) (by first | with_reducible exact True.intro | omega | simp | (simp +contextual; omega)) rfl (by kernel_rfl) ?_
   refine qJ.yNew [(953,.vars 77 [.p (.int .i64 0),.p (.int .i64 0),.p (.int .i64 0)])] [(954,.prow 78 [.ptr 953 0]),(953,.vars 77 [.p (.int .i64 0),.p (.int .i64 0),.p (.int .i64 0)])] (.ms 954) [954] rfl (jG tok rfl rfl rfl rfl rfl rfl (by conv=>lhs; simp) trivial 954 (by kernel_rfl) (by decide) rfl) (by simp) (by simp [V.ids,V.idsL,zP,Box.ids]) (by simp) (by kernel_rfl) (by kernel_rfl) (by conv=>lhs; simp) ?_
   refine qJ.yAny [(973,.prow 78 [.ptr 961 0,.ptr 962 0,.ptr 963 0]),(961,.vars 77 [.p (.int .i64 0),.p (.int .i64 0),.p (.int .i64 0)]),(962,.vars 77 [.p (.int .i64 0),.p (.int .i64 0),.p (.int .i64 0)]),(963,.vars 77 [.p (.int .i64 0),.p (.int .i64 0),.p (.int .i64 0)]),(953,.vars 77 [.p (.int .i64 0),.p (.int .i64 0),.p (.int .i64 0)]),(954,.prow 78 [.ptr 953 0])] [(956,.prow 78 [.ptr 961 0,.ptr 962 0,.ptr 963 0,.ptr 953 0]),(961,.vars 77 [.p (.int .i64 0),.p (.int .i64 0),.p (.int .i64 0)]),(962,.vars 77 [.p (.int .i64 0),.p (.int .i64 0),.p (.int .i64 0)]),(963,.vars 77 [.p (.int .i64 0),.p (.int .i64 0),.p (.int .i64 0)]),(953,.vars 77 [.p (.int .i64 0),.p (.int .i64 0),.p (.int .i64 0)]),(954,.prow 78 [.ptr 953 0])] (.ms 956) [961,962,963,953,954] [956] rfl (kJ (st1:=_) tok rfl (by conv=>lhs; simp) trivial (by conv=>lhs; simp) trivial rfl rfl rfl rfl rfl rfl (by decide) rfl (by decide) (.inr ⟨973,rfl,rfl,rfl⟩) (by decide) 956 (by kernel_rfl) (by decide) (by decide) rfl) rfl (by simp [St.kill]) (by simp) (by simp [V.ids,V.idsL,zP,Box.ids]) (by simp) (by simp) (by kernel_rfl) (by kernel_rfl) (by conv=>lhs; simp) ?_
   iterate 3 refine qJ.one tok (orc:=[]) (by intro C; conv=>lhs; simp) (by first | with_reducible exact True.intro | omega | simp | (simp +contextual; omega)) rfl (by kernel_rfl) ?_
   refine qJ.nil (by kernel_rfl) ⟨by kernel_rfl, ?_⟩
   refine qC.nil ?_
   refine AW.renE 953 964 (by simp) (by conv=>lhs; simp) ?_
   refine AW.renE 956 974 (by simp) (by conv=>lhs; simp) ?_
   refine rgz [] [[],[0,4,5]] ?_
   iterate 2 refine op1 tok ?_
   refine qA ?_
   exact ⟨qM (by simp),rfl,by simp,by simp⟩
  intro h6
  try simp at h6
 ·
  refine rgn [] [[]] ?_
  refine op1 tok ?_
  refine qA (AW.seq (cnd ?_ ?_))
  ·intro h6
   try simp at h6
   skip
   refine AW.skip (AW.seq (AW.block ?_))
   refine AW.drawR mixed 12 [[0],[0],[8],[9],[10],[],[12],[13],[11,14],[7],[16],[17,15]] [] (by kernel_rfl) ?_
   iterate 7 refine qJ.one tok (orc:=[]) (by intro C; conv=>lhs; simp) (by first | with_reducible exact True.intro | omega | simp | (simp +contextual; omega)) rfl (by kernel_rfl) ?_
   refine qJ.yNew [(953,.vars 77 [.p (.int .i64 0),.p (.int .i64 0),.p (.int .i64 0)])] [(954,.prow 78 [.ptr 953 0]),(953,.vars 77 [.p (.int .i64 0),.p (.int .i64 0),.p (.int .i64 0)])] (.ms 954) [954] rfl (jG tok rfl rfl rfl rfl rfl rfl (by conv=>lhs; simp) trivial 954 (by kernel_rfl) (by decide) rfl) (by simp) (by simp [V.ids,V.idsL,zP,Box.ids]) (by simp) (by kernel_rfl) (by kernel_rfl) (by conv=>lhs; simp) ?_
   refine qJ.yAny [(974,.prow 78 [.ptr 961 0,.ptr 962 0,.ptr 963 0,.ptr 964 0]),(961,.vars 77 [.p (.int .i64 0),.p (.int .i64 0),.p (.int .i64 0)]),(962,.vars 77 [.p (.int .i64 0),.p (.int .i64 0),.p (.int .i64 0)]),(963,.vars 77 [.p (.int .i64 0),.p (.int .i64 0),.p (.int .i64 0)]),(964,.vars 77 [.p (.int .i64 0),.p (.int .i64 0),.p (.int .i64 0)]),(953,.vars 77 [.p (.int .i64 0),.p (.int .i64 0),.p (.int .i64 0)]),(954,.prow 78 [.ptr 953 0])] [(956,.prow 78 [.ptr 961 0,.ptr 962 0,.ptr 963 0,.ptr 964 0,.ptr 953 0]),(961,.vars 77 [.p (.int .i64 0),.p (.int .i64 0),.p (.int .i64 0)]),(962,.vars 77 [.p (.int .i64 0),.p (.int .i64 0),.p (.int .i64 0)]),(963,.vars 77 [.p (.int .i64 0),.p (.int .i64 0),.p (.int .i64 0)]),(964,.vars 77 [.p (.int .i64 0),.p (.int .i64 0),.p (.int .i64 0)]),(953,.vars 77 [.p (.int .i64 0),.p (.int .i64 0),.p (.int .i64 0)]),(954,.prow 78 [.ptr 953 0])] (.ms 956) [961,962,963,964,953,954] [956] rfl (kJ (st1:=_) tok rfl (by conv=>lhs; simp) trivial (by conv=>lhs; simp) trivial rfl rfl rfl rfl rfl rfl (by decide) rfl (by decide) (.inr ⟨974,rfl,rfl,rfl⟩) (by decide) 956 (by kernel_rfl) (by decide) (by decide) rfl) rfl (by simp [St.kill]) (by simp) (by simp [V.ids,V.idsL,zP,Box.ids]) (by simp) (by simp) (by kernel_rfl) (by kernel_rfl) (by conv=>lhs; simp) ?_
   iterate 3 refine qJ.one tok (orc:=[]) (by intro C; conv=>lhs; simp) (by first | with_reducible exact True.intro | omega | simp | (simp +contextual; omega)) rfl (by kernel_rfl) ?_
   refine qJ.nil (by kernel_rfl) ⟨by kernel_rfl, ?_⟩
   refine qC.nil ?_
   refine AW.renE 953 965 (by simp) (by conv=>lhs; simp) ?_
   refine AW.renE 956 975 (by simp) (by conv=>lhs; simp) ?_
   refine rgz [] [[],[0,4,5]] ?_
   iterate 2 refine op1 tok ?_
   refine qA ?_
   exact ⟨qM (by simp),rfl,by simp,by simp⟩
  intro h6
  try simp at h6
 ·
  refine rgn [] [[]] ?_
  refine op1 tok ?_
  refine qA (AW.seq (cnd ?_ ?_))
  ·intro h6
   try simp at h6
  intro h6
  try simp at h6
  skip
  refine AW.exit ?_
  simp
  exact vD
end Go.Proofs.YtcfcfblbpnpclaaGreatDoor
