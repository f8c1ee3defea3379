import Derived.Test.YtcfcfblbpnpclaaGreatDoorSDeskL
import Derived.Test.YtcfcfblbpnpclaaGreatDoorSCore41
namespace Go.Proofs.YtcfcfblbpnpclaaGreatDoor
open Sy Go
set_option maxRecDepth 100000
set_option maxHeartbeats 4000000
set_option linter.unusedSimpArgs false
set_option linter.unusedVariables false
variable {G:qK}
def LOK (l:List Int):Prop:=l.length≤1000000∧∀ k,0≤(ofL (l.take k)).2.1∧(ofL (l.take k)).2.1≤1099511627776
theorem LOK.note {l:List Int} (h:LOK l) (hl:l.length<1000000) (n:Int):LOK (qIE l n):=by
 unfold qIE
 split
 ·exact h
 rename_i hh
 refine ⟨by simp; omega,fun k => ?_⟩
 by_cases hk:k≤l.length
 ·rw [List.take_append_of_le_length hk]; exact h.2 k
 rw [List.take_of_length_le (by simp; omega),qID]
 have:=h.2 l.length
 rw [List.take_length] at this
 exact ⟨by simp only; omega,by simp only; omega⟩
theorem LOK.nil:LOK []:=⟨by simp,fun k=>by simp [ofL]⟩
theorem qGS (a:List (Int × Int × Int)) (ha:a.length≤1000):AFn Tryz.prog G 9 [.sl 3 (a.map qP),.sl 3 (a.map qP)] (.bool true):=by
 refine AFn.introU tok Tryz.func9 (by kernel_rfl) rfl rfl ?_
 simp only [Tryz.f9,qV,List.map_cons,List.map_nil]
 refine rgn [] [[0,1]] ?_
 refine op1 tok ?_
 refine qA (AW.seq (rgn [] [[],[],[],[],[0,1,10]] ?_))
 iterate 5 refine op1 tok ?_
 refine qA (cnd ?_ ?_)
 ·intro h10
  try simp at h10
 intro h10
 try simp at h10
 refine AW.skip (AW.seq (rgn [] [[]] ?_))
 refine op1 tok ?_
 refine qA (AW.block ?_)
 refine AW.loop (α:=Nat) (fun k=>k≤a.length) (fun k=>⟨zA 26 [(0,.p (.sl 3 (a.map qP))),(1,.p (.sl 3 (a.map qP))),(5,.p (.int .i64 k))],[],[],0⟩) (fun k=>a.length-k) (0) (by omega) ⟨qM (by simp),rfl,by simp,by simp⟩ ?_
 rintro k hk
 refine AW.seq (rgn [] [[],[],[],[0,1,5,14]] ?_)
 iterate 4 refine op1 tok ?_
 refine qA (cnd ?_ ?_)
 ·intro h14
  try simp at h14
  obtain ⟨x,hx⟩:∃ x,a[k]?=some x:=⟨a[k]'(by omega),by simp [show k<a.length by omega]⟩
  have hg:(a.map qP)[k]?=some (.agg [.int .i64 x.1,.int .i64 x.2.1,.int .i64 x.2.2]):=by rw [List.getElem?_map,hx]; rfl
  refine AW.skip (AW.seq (AW.block ?_))
  refine AW.seqDrawR mixed 9 [[0],[5],[17,18],[19],[1],[5],[21,22],[23],[20,24]] [] (by kernel_rfl) ?_
  iterate 2 refine qJ.one tok (orc:=[]) (by intro C; conv=>lhs; simp) (by first | with_reducible exact True.intro | (first | exact hg | exact ⟨x.1,x.2.1,x.2.2,hx,rfl⟩ | (simp [hx]; omega) | (simp [hx]; done); done) | omega | simp | (simp +contextual; omega)) rfl (by kernel_rfl) ?_
  refine qJ.one tok (orc:=[.agg [.int .i64 x.1,.int .i64 x.2.1,.int .i64 x.2.2]]) (by intro C; conv=>lhs; simp) (by first | with_reducible exact True.intro | (first | exact hg | exact ⟨x.1,x.2.1,x.2.2,hx,rfl⟩ | (simp [hx]; omega) | (simp [hx]; done); done) | omega | simp | (simp +contextual; omega)) rfl (by kernel_rfl) ?_
  iterate 3 refine qJ.one tok (orc:=[]) (by intro C; conv=>lhs; simp) (by first | with_reducible exact True.intro | (first | exact hg | exact ⟨x.1,x.2.1,x.2.2,hx,rfl⟩ | (simp [hx]; omega) | (simp [hx]; done); done) | omega | simp | (simp +contextual; omega)) rfl (by kernel_rfl) ?_
  refine qJ.one tok (orc:=[.agg [.int .i64 x.1,.int .i64 x.2.1,.int .i64 x.2.2]]) (by intro C; conv=>lhs; simp) (by first | with_reducible exact True.intro | (first | exact hg | exact ⟨x.1,x.2.1,x.2.2,hx,rfl⟩ | (simp [hx]; omega) | (simp [hx]; done); done) | omega | simp | (simp +contextual; omega)) rfl (by kernel_rfl) ?_
  refine qJ.one tok (orc:=[]) (by intro C; conv=>lhs; simp) (by first | with_reducible exact True.intro | (first | exact hg | exact ⟨x.1,x.2.1,x.2.2,hx,rfl⟩ | (simp [hx]; omega) | (simp [hx]; done); done) | omega | simp | (simp +contextual; omega)) rfl (by kernel_rfl) ?_
  refine qJ.q [] (.p (.bool (!decide (x.1=x.1∧x.2.1=x.2.1∧x.2.2=x.2.2)))) rfl (qJN tok rfl rfl rfl (by kernel_rfl) (by kernel_rfl) (by conv=>lhs; simp) trivial (by conv=>lhs; simp) trivial) (by simp [V.ids]) (by kernel_rfl) (by conv=>lhs; simp) ?_
  refine qJ.nil (by kernel_rfl) ⟨by kernel_rfl, ?_⟩
  refine qC.nil ?_
  refine cnd ?_ ?_
  ·intro h25
   try simp at h25
  intro h25
  try simp at h25
  refine AW.skip (rgz [] [[],[],[0,1,5]] ?_)
  iterate 3 refine op1 tok ?_
  refine qA ?_
  exact ⟨k+1,by omega,by omega,qM (by simp),rfl,by simp,by simp⟩
 intro h14
 try simp at h14
 refine AW.exit ?_
 simp
 refine rgn [] [[]] ?_
 refine op1 tok ?_
 exact qA (AW.ret xP)
end Go.Proofs.YtcfcfblbpnpclaaGreatDoor
