import Derived.Test.YtdjjmppnnkkloaaGreatDoorSVal
import Derived.Test.YtdjjmppnnkkloaaGreatDoorK1
namespace Go.Proofs.YtdjjmppnnkkloaaGreatDoor
open Sy Go
set_option maxRecDepth 100000
set_option maxHeartbeats 4000000
set_option linter.unusedSimpArgs false
set_option linter.unusedVariables false
variable {G : Glob}
theorem cloneK_ax (ks : List (List UInt8)) (hn : ks.length ≤ 1000000) : AX Tryz.prog G 61 [.p (.sl 1 (ks.map PD.str))] [] (.ms 905) [] [(905, .row 9 1 (ks.map PD.str))] := by
 refine AX.introU tok 900 Tryz.func61 (by kernel_rfl) rfl rfl ?_
 simp only [Tryz.f61, enumA, List.map_cons, List.map_nil]
 refine rgn [] [[0]] ?_
 refine op1 tok ?_
 refine runEnd ?_
 refine AW.seq ?_
 refine rgn [] [[]] ?_
 refine op1 tok ?_
 refine runOff ?_
 refine AOpsO.nilEq tok [0, 4] rfl rfl (by conv => lhs; simp) trivial rfl ?_
 intro bn1 hbn1
 refine AOpsO.same (by conv => lhs; simp) ?_
 refine AOpsO.nil ?_
 refine cnd ?_ ?_
 ·intro h4
  try simp at h4
  have hks : ks = [] := by
   by_cases h : ks = []
   ·exact h
   ·rw [hbn1 (by simpa using h)] at h4; cases h4
  subst hks
  refine rgn [] [[]] ?_
  refine op1 tok ?_
  refine runEnd ?_
  refine AW.beginE 2 905 9 1 (by simp) (by simp) (by conv => lhs; simp) ?_
  exact AW.ret ⟨.inr rfl, _, _, by (conv => lhs; simp), trivial, by simp, by simp, by simp, by simp⟩
 ·intro h4
  try simp at h4
  refine AW.skip ?_
  refine rgn [] [[], [], [], [2]] ?_
  iterate 4 refine op1 tok ?_
  refine runEnd ?_
  exact AW.ret ⟨.inr rfl, _, _, by (conv => lhs; simp), trivial, by simp, by simp, by simp, by simp⟩
theorem cloneK_ar (ks : List (List UInt8)) (hn : ks.length ≤ 1000000) : AR Tryz.prog G 61 [.sl 1 (ks.map PD.str)] 9 1 (ks.map PD.str) := AR.of_AX (k := 905) (by simpa using cloneK_ax ks hn)
theorem cloneV_ax (vs : List Val) (hn : vs.length ≤ 1000000) : AX Tryz.prog G 62 [.p (.sl 9 (vs.map Val.enc))] [] (.ms 905) [] [(905, .row 42 9 (vs.map Val.enc))] := by
 refine AX.introU tok 900 Tryz.func62 (by kernel_rfl) rfl rfl ?_
 simp only [Tryz.f62, enumA, List.map_cons, List.map_nil]
 refine rgn [] [[0]] ?_
 refine op1 tok ?_
 refine runEnd ?_
 refine AW.seq ?_
 refine rgn [] [[]] ?_
 refine op1 tok ?_
 refine runOff ?_
 refine AOpsO.nilEq tok [0, 4] rfl rfl (by conv => lhs; simp) trivial rfl ?_
 intro bn1 hbn1
 refine AOpsO.same (by conv => lhs; simp) ?_
 refine AOpsO.nil ?_
 refine cnd ?_ ?_
 ·intro h4
  try simp at h4
  have hks : vs = [] := by
   by_cases h : vs = []
   ·exact h
   ·rw [hbn1 (by simpa using h)] at h4; cases h4
  subst hks
  refine rgn [] [[]] ?_
  refine op1 tok ?_
  refine runEnd ?_
  refine AW.beginE 2 905 42 9 (by simp) (by simp) (by conv => lhs; simp) ?_
  exact AW.ret ⟨.inr rfl, _, _, by (conv => lhs; simp), trivial, by simp, by simp, by simp, by simp⟩
 ·intro h4
  try simp at h4
  refine AW.skip ?_
  refine rgn [] [[], [], [], [2]] ?_
  iterate 4 refine op1 tok ?_
  refine runEnd ?_
  exact AW.ret ⟨.inr rfl, _, _, by (conv => lhs; simp), trivial, by simp, by simp, by simp, by simp⟩
theorem cloneV_ar (vs : List Val) (hn : vs.length ≤ 1000000) : AR Tryz.prog G 62 [.sl 9 (vs.map Val.enc)] 42 9 (vs.map Val.enc) := AR.of_AX (k := 905) (by simpa using cloneV_ax vs hn)
end Go.Proofs.YtdjjmppnnkkloaaGreatDoor
