import Derived.Test.YtdjjmppnnkkloaaGreatDoorSTreeL2
import Derived.Test.YtdjjmppnnkkloaaGreatDoorM3
namespace Go.Proofs.YtdjjmppnnkkloaaGreatDoor
open Sy Go
set_option maxRecDepth 100000
set_option maxHeartbeats 4000000
set_option linter.unusedSimpArgs false
set_option linter.unusedVariables false
variable {G : Glob}
theorem refDeep_step (v : Val) (hlm : v.kids.length ≤ 1000000) (ih : ∀ k ∈ v.kids, AFn Tryz.prog G 22 [k.enc] (.int .u64 (deepV k))) : AFn Tryz.prog G 22 [v.enc] (.int .u64 (deepV v)) := by
 refine AFn.introU tok Tryz.func22 (by kernel_rfl) rfl rfl ?_
 simp only [Tryz.f22, enumA, List.map_cons, List.map_nil]
 refine rgn [] [[], [1]] ?_
 iterate 2 refine op1 tok ?_
 refine runEnd ?_
 refine rgn [] [[], [], [1, 3]] ?_
 iterate 3 refine op1 tok ?_
 refine runEnd ?_
 refine AW.seq ?_
 refine rgn [] [[]] ?_
 refine op1 tok ?_
 refine runEnd ?_
 refine AW.block ?_
 refine AW.loop (α := Nat) (fun k => k ≤ v.kids.length) (fun k => ⟨upds 23 [(1, .ptr 1 0), (3, .p (.int .u64 (deepL v.mask (v.kids.take k)))), (4, .p (.int .i64 k))], [], [(1, .vars 42 v.cells)], 0⟩) (fun k => v.kids.length - k) (0) (by omega) ⟨upds_le (by simp), rfl, by simp, by simp⟩ ?_
 rintro k hk
 refine AW.seq ?_
 refine rgn [] [[], [], [], [], [1, 3, 4, 11]] ?_
 iterate 5 refine op1 tok ?_
 refine runEnd ?_
 refine cnd ?_ ?_
 ·intro h11
  try simp at h11
  obtain ⟨x, hx⟩ : ∃ x, v.kids[k]? = some x := ⟨v.kids[k], by simp [h11]⟩
  have hix := ih x (List.mem_of_getElem? hx)
  simp only [Val.enc_def] at hix
  refine AW.skip ?_
  refine AW.seq ?_
  refine AW.block ?_
  refine rgz [x.enc, .nilp, .int .u64 (deepV x)] [[], [], [], [], [1, 4, 14, 18], [], [], [1, 4, 21], [1, 3, 4]] ?_
  iterate 9 refine op1 tok ?_ (h := by intro C; conv => lhs; simp [or_wrap]) (hv := by first | with_reducible exact True.intro | (first | exact hix | simp [hx]; done) | omega | simp | (simp; omega) | (simp +contextual; omega))
  refine runEnd ?_
  refine rgz [] [[], [], [1, 3, 4]] ?_
  iterate 3 refine op1 tok ?_
  refine runEnd ?_
  exact ⟨k + 1, by omega, by omega, upds_le (by simp [deepL_take hx]), rfl, by simp [deepL_take hx], by simp [deepL_take hx]⟩
 ·intro h11
  try simp at h11
  rw [List.take_of_length_le h11]
  refine AW.exit ?_
  simp
  refine rgn [] [[], [2]] ?_
  iterate 2 refine op1 tok ?_
  refine runEnd ?_
  exact AW.ret ⟨.inr rfl, _, _, by (conv => lhs; simp), trivial, by simp [deepV_eq v]⟩
theorem refDeep_ev (v : Val) : mayT v = true → AFn Tryz.prog G 22 [v.enc] (.int .u64 (deepV v)) :=
 Val.induct (p := fun v => mayT v = true → AFn Tryz.prog G 22 [v.enc] (.int .u64 (deepV v))) (fun v ih hv => refDeep_step v (by have := may_small hv; omega) fun k hk => ih k hk (may_kid hv hk)) v
end Go.Proofs.YtdjjmppnnkkloaaGreatDoor
