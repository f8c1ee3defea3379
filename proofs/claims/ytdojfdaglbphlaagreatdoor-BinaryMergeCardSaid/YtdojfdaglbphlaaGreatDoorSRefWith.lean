import Derived.Test.YtdojfdaglbphlaaGreatDoorK1
import Derived.Test.YtdojfdaglbphlaaGreatDoorM3
import Derived.Test.YtdojfdaglbphlaaGreatDoorSRefSB
import Derived.Test.YtdojfdaglbphlaaGreatDoorSRefDeep
namespace Go.Proofs.YtdojfdaglbphlaaGreatDoor
open Sy Go
set_option maxRecDepth 100000
set_option maxHeartbeats 4000000
set_option linter.unusedSimpArgs false
set_option linter.unusedVariables false
variable {G : Glob}
theorem refWith_ev (v : Val) (m : Int) : AFn Tryz.prog G 21 [v.enc, .int .u64 m] ((withV v m).enc) := by
 refine AFn.introU tok Tryz.func21 (by kernel_rfl) rfl rfl ?_
 simp only [Tryz.f21, enumA, List.map_cons, List.map_nil]
 refine rgn [] [[], [1, 2, 4]] ?_
 iterate 2 refine op1 tok ?_
 refine runEnd ?_
 refine rgn [] [[], [], [], [2, 4, 8], [], [2, 4]] ?_
 iterate 6 refine op1 tok ?_ (h := by intro C; conv => lhs; simp [or_wrap])
 refine runEnd ?_
 refine rgn [] [[], [4]] ?_
 iterate 2 refine op1 tok ?_
 refine runEnd ?_
 exact AW.ret ⟨.inr rfl, _, _, by (conv => lhs; simp), trivial, by simp⟩
theorem refKid_ev (v : Val) (s : List UInt8) (hl : v.keys.length ≤ v.kids.length) (hlm : v.keys.length ≤ 1000000) : AFn Tryz.prog G 53 [v.enc, .str s] (.tup [(if s ∈ v.keys then kidOf v s else zeroV).enc, .bool (decide (s ∈ v.keys))]) := by
 refine AFn.introU tok Tryz.func53 (by kernel_rfl) rfl rfl ?_
 simp only [Tryz.f53, enumA, List.map_cons, List.map_nil]
 refine rgn [] [[], [], [1, 2, 4]] ?_
 iterate 3 refine op1 tok ?_
 refine runEnd ?_
 refine AW.seq ?_
 refine rgn [] [[]] ?_
 refine op1 tok ?_
 refine runEnd ?_
 refine AW.block ?_
 refine AW.loop (α := Nat) (fun k => k ≤ v.keys.length ∧ s ∉ v.keys.take k) (fun k => ⟨upds 34 [(1, .p (.str s)), (2, .ptr 2 0), (4, .ptr 4 0), (6, .p (.int .i64 k))], [], [(2, .vars 31 v.cells), (4, .vars 31 zeroN)], 0⟩) (fun k => v.keys.length - k) (0) ⟨by omega, by simp⟩ ⟨upds_le (by simp), rfl, by simp, by simp⟩ ?_
 rintro k ⟨hk, hno⟩
 refine AW.seq ?_
 refine rgn [] [[], [], [], [], [1, 2, 4, 6, 11], [], [], [], [], [], [1, 2, 4, 6, 12, 17], [1, 2, 4, 6, 18]] ?_
 iterate 6 refine op1 tok ?_
 iterate 5 refine op2 tok ?_
 refine op1 tok ?_
 refine runEnd ?_
 refine cnd ?_ ?_
 ·intro h18
  try simp at h18
  have h18' : k < v.keys.length := by omega
  obtain ⟨x, hx⟩ : ∃ x, v.keys[k]? = some x := ⟨v.keys[k], by simp [h18']⟩
  refine AW.skip ?_
  refine AW.seq ?_
  refine AW.block ?_
  refine rgn [.str x] [[], [], [], [], [1, 2, 4, 6, 25], [], [1, 2, 4, 6, 27]] ?_
  iterate 7 refine op1 tok ?_ (hv := by first | with_reducible exact True.intro | (simp [hx]; done) | omega | simp | (simp; omega) | (simp +contextual; omega))
  refine runEnd ?_
  refine cnd ?_ ?_
  ·intro h27
   try simp at h27
   have hin : s ∈ v.keys := by rw [← h27]; exact List.mem_of_getElem? hx
   have hix : v.keys.idxOf s = k := by
    subst h27
    have h1 : v.keys = v.keys.take k ++ x :: v.keys.drop (k + 1) := by
     conv => lhs; rw [← List.take_append_drop k v.keys]
     rw [List.drop_eq_getElem_cons h18', (List.getElem?_eq_some_iff.1 hx).2]
    rw [h1, List.idxOf_append, if_neg hno]
    simp; omega
   have hk' := kidOf_get hl hin
   rw [hix] at hk'
   refine rgn [(kidOf v s).enc] [[], [], [], [4, 31], [], [], [4, 5]] ?_
   iterate 7 refine op1 tok ?_ (hv := by first | with_reducible exact True.intro | (simp [hk']; done) | omega | simp | (simp; omega) | (simp +contextual; omega))
   refine runEnd ?_
   exact AW.ret ⟨.inr rfl, _, _, by (conv => lhs; simp), trivial, by simp [hin]⟩
  ·intro h27
   try simp at h27
   refine AW.skip ?_
   refine rgz [] [[], [], [1, 2, 4, 6]] ?_
   iterate 3 refine op1 tok ?_
   refine runEnd ?_
   exact ⟨k + 1, ⟨by omega, by rw [List.take_add_one, hx]; simp; exact ⟨hno, fun e => h27 e.symm⟩⟩, by omega, upds_le (by simp), rfl, by simp, by simp⟩
 ·intro h18
  try simp at h18
  have hno' : s ∉ v.keys := by rw [List.take_of_length_le (by omega)] at hno; exact hno
  refine AW.exit ?_
  simp
  refine rgn [] [[], [], [4, 5]] ?_
  iterate 3 refine op1 tok ?_
  refine runEnd ?_
  exact AW.ret ⟨.inr rfl, _, _, by (conv => lhs; simp), trivial, by simp [hno', dc0]⟩
theorem refGet_ev (v : Val) (s : List UInt8) (hl : v.keys.length ≤ v.kids.length) (hlm : v.keys.length ≤ 1000000) : AFn Tryz.prog G 20 [v.enc, .str s] (.tup [(getV v s).1.enc, .bool (getV v s).2]) := by
 refine AFn.introU tok Tryz.func20 (by kernel_rfl) rfl rfl ?_
 simp only [Tryz.f20, enumA, List.map_cons, List.map_nil]
 have hk := refKid_ev (G := G) v s hl hlm
 generalize hq : (if s ∈ v.keys then kidOf v s else zeroV) = q at hk
 simp only [Val.enc_def] at hk
 refine rgn [] [[], [], [1, 2, 4]] ?_
 iterate 3 refine op1 tok ?_
 refine runEnd ?_
 refine rgn [.nilp, .tup [q.enc, .bool (decide (s ∈ v.keys))]] [[], [], [], [2, 4, 8], [], [], [], [], [2, 4, 6, 7]] ?_
 iterate 9 refine op1 tok ?_ (hv := by first | with_reducible exact True.intro | (exact hk; done) | omega | simp | (simp; omega) | (simp +contextual; omega))
 refine runEnd ?_
 refine AW.seq ?_
 refine rgn [] [[], [], [], [], [2, 4, 6, 16, 18], [], [2, 4, 6, 20]] ?_
 iterate 3 refine op1 tok ?_
 iterate 3 refine op2 tok ?_
 refine op1 tok ?_
 refine runEnd ?_
 refine cnd ?_ ?_
 ·intro h20
  try simp at h20
  have hR : getV v s = (zeroV, false) := by
   unfold getV; rw [if_neg]; rintro ⟨h1, h2⟩; rcases h20 with h | h
   ·exact h h2
   ·exact h h1
  refine rgn [] [[], [], [4, 5]] ?_
  iterate 3 refine op1 tok ?_
  refine runEnd ?_
  exact AW.ret ⟨.inr rfl, _, _, by (conv => lhs; simp), trivial, by simp [hR, dc0]⟩
 ·intro h20
  try simp at h20
  have hR : getV v s = (withV (kidOf v s) v.mask, true) := by unfold getV; rw [if_pos ⟨h20.2, h20.1⟩]
  have hin : s ∈ v.keys := h20.1
  rw [if_pos hin] at hq
  subst hq
  have hw := refWith_ev (G := G) (kidOf v s) v.mask
  simp only [Val.enc_def] at hw
  refine AW.skip ?_
  refine rgn [.nilp, (withV (kidOf v s) v.mask).enc] [[], [], [], [4, 25], [], [4, 5]] ?_
  iterate 6 refine op1 tok ?_ (hv := by first | with_reducible exact True.intro | (exact hw; done) | omega | simp | (simp; omega) | (simp +contextual; omega))
  refine runEnd ?_
  exact AW.ret ⟨.inr rfl, _, _, by (conv => lhs; simp), trivial, by simp [hR]⟩
end Go.Proofs.YtdojfdaglbphlaaGreatDoor
