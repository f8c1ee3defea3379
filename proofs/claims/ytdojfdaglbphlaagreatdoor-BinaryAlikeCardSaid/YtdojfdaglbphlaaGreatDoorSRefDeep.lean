import Derived.Test.YtdojfdaglbphlaaGreatDoorK1
import Derived.Test.YtdojfdaglbphlaaGreatDoorM3
namespace Go.Proofs.YtdojfdaglbphlaaGreatDoor
open Sy Go
set_option maxRecDepth 100000
set_option maxHeartbeats 4000000
set_option linter.unusedSimpArgs false
set_option linter.unusedVariables false
variable {G : qV}
theorem qVR (v : Val) (hlm : v.kids.length ≤ 1000000) (ih : ∀ k ∈ v.kids, AFn Tryz.prog G 16 [k.enc] (.int .u64 (qM k))) : AFn Tryz.prog G 16 [v.enc] (.int .u64 (qM v)) := by
 refine AFn.introU tok Tryz.func16 (by kernel_rfl) rfl rfl ?_
 simp only [Tryz.f16, qI, List.map_cons, List.map_nil]
 refine rgn [] [[], [1]] ?_
 iterate 2 refine op1 tok ?_
 refine qA ?_
 refine rgn [] [[], [], [1, 3]] ?_
 iterate 3 refine op1 tok ?_
 refine qA ?_
 refine AW.seq ?_
 refine rgn [] [[]] ?_
 refine op1 tok ?_
 refine qA ?_
 refine AW.block ?_
 refine AW.loop (α := Nat) (fun k => k ≤ v.kids.length) (fun k => ⟨qY 23 [(1, .ptr 1 0), (3, .p (.int .u64 (kN v.mask (v.kids.take k)))), (4, .p (.int .i64 k))], [], [(1, .vars 31 v.cells)], 0⟩) (fun k => v.kids.length - k) (0) (by omega) ⟨qB (by simp), rfl, by simp, by simp⟩ ?_
 rintro k hk
 refine AW.seq ?_
 refine rgn [] [[], [], [], [], [1, 3, 4, 11]] ?_
 iterate 5 refine op1 tok ?_
 refine qA ?_
 refine cnd ?_ ?_
 ·intro h11
  try simp at h11
  obtain ⟨x, hx⟩ : ∃ x, v.kids[k]? = some x := ⟨v.kids[k], by simp [h11]⟩
  have hix := ih x (List.mem_of_getElem? hx)
  simp only [Val.enc_def] at hix
  refine AW.skip ?_
  refine AW.seq ?_
  refine AW.block ?_
  refine rgz [x.enc, .nilp, .int .u64 (qM x)] [[], [], [], [], [1, 4, 14, 18], [], [], [1, 4, 21], [1, 3, 4]] ?_
  iterate 9 refine op1 tok ?_ (h := by intro C; conv => lhs; simp [wI]) (hv := by first | with_reducible exact True.intro | (first | exact hix | simp [hx]; done) | omega | simp | (simp +contextual; omega))
  refine qA ?_
  refine rgz [] [[], [], [1, 3, 4]] ?_
  iterate 3 refine op1 tok ?_
  refine qA ?_
  exact ⟨k + 1, by omega, by omega, qB (by simp [uH hx]), rfl, by simp [uH hx], by simp [uH hx]⟩
 ·intro h11
  try simp at h11
  rw [List.take_of_length_le h11]
  refine AW.exit ?_
  simp
  refine rgn [] [[], [2]] ?_
  iterate 2 refine op1 tok ?_
  refine qA ?_
  exact AW.ret (qJ (k := by simp [jX v]))
theorem qHT (v : Val) : qQ v = true → AFn Tryz.prog G 16 [v.enc] (.int .u64 (qM v)) :=
 Val.induct (p := fun v => qQ v = true → AFn Tryz.prog G 16 [v.enc] (.int .u64 (qM v))) (fun v ih hv => qVR v (by have := yU hv; omega) fun k hk => ih k hk (wJ hv hk)) v
end Go.Proofs.YtdojfdaglbphlaaGreatDoor
