import Derived.Test.YtcbipkbdagkehaaGreatDoorK1
import Derived.Test.YtcbipkbdagkehaaGreatDoorSTrim
namespace Go.Proofs.YtcbipkbdagkehaaGreatDoor
open Sy Go
set_option maxRecDepth 100000
set_option maxHeartbeats 4000000
set_option linter.unusedSimpArgs false
set_option linter.unusedVariables false
variable {G : Glob}
theorem dc_bounds {d : Dc} (h : dcMay d = true) : 1 ≤ d.digits.length ∧ d.digits.length ≤ 60 ∧ 0 ≤ d.scale ∧ d.scale ≤ 60 := by
 unfold dcMay at h; simp only [Bool.and_eq_true, decide_eq_true_eq] at h; omega
theorem RefPrint_ev (d : Dc) (hd : dcMay d = true) : AFn Tryz.prog G 56 [d.enc] (.str (PrintM d)) := by
 refine AFn.introU tok Tryz.func56 (by kernel_rfl) rfl rfl ?_
 simp only [Tryz.f56, enumA, List.map_cons, List.map_nil]
 have hb := dc_bounds hd
 have hzl : (zerosM (d.scale.toNat + 1 - d.digits.length)).length = d.scale.toNat + 1 - d.digits.length := by simp [zerosM]
 have hpl : (padM d).length = d.scale.toNat + 1 - d.digits.length + d.digits.length := by simp [padM, zerosM]
 have hP : PrintM d = (if d.neg = true then [45] else []) ++ (if d.scale = 0 then padM d else (padM d).take ((padM d).length - d.scale.toNat) ++ 46 :: (padM d).drop ((padM d).length - d.scale.toNat)) := rfl
 have hpad : zerosM (d.scale.toNat + 1 - d.digits.length) ++ d.digits = padM d := rfl
 rw [hP]
 have hz := zeros_ev (G := G) (d.scale - d.digits.length + 1) (by omega)
 rw [show (d.scale - (d.digits.length : Int) + 1).toNat = d.scale.toNat + 1 - d.digits.length by omega] at hz
 refine rgn [] [[], [1]] ?_
 iterate 2 refine op1 tok ?_
 refine runEnd ?_
 refine rgn [] [[], [], [1, 3]] ?_
 iterate 3 refine op1 tok ?_
 refine runEnd ?_
 refine AW.join (α := Unit) (fun _ => True) (fun a => ⟨upds 44 [(1, .ptr 1 0), (3, .p (.str (padM d)))], [], [(1, .vars 39 [.p (.bool d.neg), .p (.str d.digits), .p (.int .i64 d.scale)])], 0⟩) ?_ ?_
 ·
  refine rgn [] [[], [], [], [], [1, 3, 10]] ?_
  iterate 5 refine op1 tok ?_
  refine runEnd ?_
  refine cnd ?_ ?_
  ·intro h10
   try simp at h10
   refine rgz [.nilp, .str (zerosM (d.scale.toNat + 1 - d.digits.length))] [[], [], [], [], [1, 3, 15], [], [], [], [1, 19], [1, 3]] ?_
   iterate 10 refine op1 tok ?_ (hv := by first | with_reducible exact True.intro | (first | exact hz | omega; done) | omega | simp | (simp; omega) | (simp +contextual; omega))
   refine runEnd ?_
   exact ⟨(), trivial, upds_le (by simp [hpad]), rfl, by simp [hpad], by simp [hpad]⟩
  ·intro h10
   try simp at h10
   have hnp : padM d = d.digits := by unfold padM; rw [show d.scale.toNat + 1 - d.digits.length = 0 by omega]; rfl
   refine AW.skip ?_
   exact ⟨(), trivial, upds_le (by simp [hnp]), rfl, by simp [hnp], by simp [hnp]⟩
 ·
  rintro a hI
  have hk : ((padM d).length - d.scale).toNat = (padM d).length - d.scale.toNat := by omega
  generalize padM d = pd at *
  refine AW.seq ?_
  refine rgn [] [[], [], [1, 3, 22]] ?_
  iterate 3 refine op1 tok ?_
  refine runEnd ?_
  refine cnd ?_ ?_
  ·intro h22
   try simp at h22
   refine AW.runDrawK tok mixed [1, 3] 16 [[3], [3], [24], [1], [26], [25, 27], [23, 28], [29], [3], [3], [32], [1], [34], [33, 35], [31, 36], [30, 37]] [] [] (by kernel_rfl) (by intro C; conv => lhs; simp) (by omega) (by simp [Sm.sum, Sm.foot, Sm.tch, Sm.refs]; kernel_rfl) (by intro C; conv => lhs; simp) (by first | with_reducible exact True.intro | omega | simp | (simp; omega) | (simp +contextual; omega)) ?_
   refine AW.seq ?_
   refine rgn [] [[], [3, 40]] ?_
   iterate 2 refine op1 tok ?_
   refine runEnd ?_
   refine cnd ?_ ?_
   ·intro h40
    try simp at h40
    refine rgn [] [[], [], [2]] ?_
    iterate 3 refine op1 tok ?_
    refine runEnd ?_
    exact AW.ret ⟨.inr rfl, _, _, by (conv => lhs; simp), trivial, by simp [show ¬ d.scale = 0 by omega, h40, hk]⟩
   ·intro h40
    try simp at h40
    refine AW.skip ?_
    refine rgn [] [[], [2]] ?_
    iterate 2 refine op1 tok ?_
    refine runEnd ?_
    exact AW.ret ⟨.inr rfl, _, _, by (conv => lhs; simp), trivial, by simp [show ¬ d.scale = 0 by omega, h40, hk]⟩
  ·intro h22
   try simp at h22
   refine AW.skip ?_
   refine AW.seq ?_
   refine rgn [] [[], [3, 40]] ?_
   iterate 2 refine op1 tok ?_
   refine runEnd ?_
   refine cnd ?_ ?_
   ·intro h40
    try simp at h40
    refine rgn [] [[], [], [2]] ?_
    iterate 3 refine op1 tok ?_
    refine runEnd ?_
    exact AW.ret ⟨.inr rfl, _, _, by (conv => lhs; simp), trivial, by simp [show d.scale = 0 by omega, h40]⟩
   ·intro h40
    try simp at h40
    refine AW.skip ?_
    refine rgn [] [[], [2]] ?_
    iterate 2 refine op1 tok ?_
    refine runEnd ?_
    exact AW.ret ⟨.inr rfl, _, _, by (conv => lhs; simp), trivial, by simp [show d.scale = 0 by omega, h40]⟩
end Go.Proofs.YtcbipkbdagkehaaGreatDoor
