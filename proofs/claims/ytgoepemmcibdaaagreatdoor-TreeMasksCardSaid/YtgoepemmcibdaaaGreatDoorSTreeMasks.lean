import Derived.Test.YtgoepemmcibdaaaGreatDoorSTreeRest
import Derived.Test.YtgoepemmcibdaaaGreatDoorSRefRest
import Derived.Test.YtgoepemmcibdaaaGreatDoorSTreeLaw2
import Derived.Test.YtgoepemmcibdaaaGreatDoorSShown4
import Derived.Test.YtgoepemmcibdaaaGreatDoorM3
namespace Go.Proofs.YtgoepemmcibdaaaGreatDoor
open Sy Go
set_option maxRecDepth 100000
set_option maxHeartbeats 4000000
set_option linter.unusedSimpArgs false
set_option linter.unusedVariables false
variable {G : Glob}
theorem TreeMasks_ev (hG : U8 G) (l : List Item) (mask i : Int) (hl : ∀ x ∈ l, x.keys.length ≤ 140737488351232) (hin : ∀ x ∈ l, InM x.mask) (hi : -9223372036854775808 ≤ i ∧ i ≤ 9223372036854775807) : AFn Tryz.prog G 4 [.sl 6 (l.map Item.enc), .int .u64 mask, .int .i64 i] (.bool true) := by
  refine AFn.introU tok Tryz.func4 (by kernel_rfl) rfl rfl ?_
  simp only [Tryz.f4, enumA, List.map_cons, List.map_nil]
  have hsh := shown4_ev hG
  have hb := Built_ev (G := G) l hl
  have mv := built_may l
  have iv := built_in hin
  have zv := built_sz l
  generalize builtM l = v at hb mv iv zv
  have h1 := with_ev (G := G) v mask mv
  have h2 := deep_ev (G := G) (withV v mask)
  rw [deep_with] at h2
  have h3 := deep_ev (G := G) v
  have h4 := bare_ev (G := G) v mv
  have h5 := deep_ev (G := G) (bareV v)
  rw [deep_bare] at h5
  have h6 := size_ev (G := G) v (by omega)
  have f1 : andM (deepV v) v.mask = v.mask := (mask_le v iv).and (InV_mask iv)
  have f2 := dep_le_sz v
  have f3 := dep_pos v
  have hsm := may_small mv
  generalize withV v mask = w at *
  generalize bareV v = b at *
  simp only [Val.enc_def, Item.enc] at hb h1 h2 h3 h4 h5 h6
  refine AW.seqRegionO [] ?_
  refine s1 tok [0, 1, 2] ?_
  refine AOpsO.nil ?_
  refine AW.seqRegionO [.nilp, .bool true] ?_
  refine s1 tok [0, 1, 2, 19] ?_ (hv := by first | with_reducible exact True.intro | (exact hsh; done) | omega | simp | (simp; omega) | (simp +contextual; omega))
  refine s1 tok [0, 1, 2, 7] ?_
  refine AOpsO.nil ?_
  refine AW.seqRegionO [.nilp, v.enc] ?_
  refine s1 tok [1, 2, 7, 20] ?_
  refine s1 tok [1, 2, 7, 21] ?_ (hv := by first | with_reducible exact True.intro | ((simp at hb ⊢; exact hb); done) | omega | simp | (simp; omega) | (simp +contextual; omega))
  refine s1 tok [1, 2, 7, 8, 21] ?_
  refine s1 tok [1, 2, 7, 8] ?_ (hv := by first | with_reducible exact True.intro | ((simp at hb ⊢; exact hb); done) | omega | simp | (simp; omega) | (simp +contextual; omega))
  refine AOpsO.nil ?_
  refine AW.seqRegionO [.nilp, w.enc] ?_
  refine s1 tok [1, 2, 7, 8, 22] ?_ (hv := by first | with_reducible exact True.intro | (exact h1; done) | omega | simp | (simp; omega) | (simp +contextual; omega))
  refine s1 tok [1, 2, 7, 8, 22, 23] ?_
  refine s1 tok [1, 2, 7, 8, 24] ?_ (hv := by first | with_reducible exact True.intro | (exact h1; done) | omega | simp | (simp; omega) | (simp +contextual; omega))
  refine s1 tok [1, 2, 7, 8, 9, 24] ?_
  refine s1 tok [1, 2, 7, 8, 9] ?_ (hv := by first | with_reducible exact True.intro | (exact h1; done) | omega | simp | (simp; omega) | (simp +contextual; omega))
  refine AOpsO.nil ?_
  refine AW.seq ?_
  refine AW.seqDrawS tok mixed 23 [[9], [25], [8], [27], [1], [28, 29], [26, 30], [31], [8, 32], [33, 32], [34, 32], [35, 32], [32, 36], [37], [8, 38], [39, 38], [8, 38], [41, 38], [40, 42, 38], [8, 38], [44, 38], [43, 45, 38], [38, 46]] [.nilp, .int .u64 (orM (deepV v) mask), .nilp, .int .u64 (deepV v), .nilp, b.enc, .nilp, .int .u64 0, .nilp, .int .u64 (deepV v)] [] (by kernel_rfl) ?_
  refine d1 ?_ (h := by intro C; conv => lhs; simp [or_wrap, and_wrap, f1]) (hv := by first | with_reducible exact True.intro | (first | exact h2 | exact h3 | exact h4 | exact h5; done) | omega | simp | (simp; omega) | (simp +contextual; omega))
  refine d1 ?_ (h := by intro C; conv => lhs; simp [or_wrap, and_wrap, f1]) (hv := by first | with_reducible exact True.intro | (first | exact h2 | exact h3 | exact h4 | exact h5; done) | omega | simp | (simp; omega) | (simp +contextual; omega))
  refine d1 ?_ (h := by intro C; conv => lhs; simp [or_wrap, and_wrap, f1]) (hv := by first | with_reducible exact True.intro | (first | exact h2 | exact h3 | exact h4 | exact h5; done) | omega | simp | (simp; omega) | (simp +contextual; omega))
  refine d1 ?_ (h := by intro C; conv => lhs; simp [or_wrap, and_wrap, f1]) (hv := by first | with_reducible exact True.intro | (first | exact h2 | exact h3 | exact h4 | exact h5; done) | omega | simp | (simp; omega) | (simp +contextual; omega))
  refine d1 ?_ (h := by intro C; conv => lhs; simp [or_wrap, and_wrap, f1])
  refine d1 ?_ (h := by intro C; conv => lhs; simp [or_wrap, and_wrap, f1]) (hv := by first | with_reducible exact True.intro | (first | exact h2 | exact h3 | exact h4 | exact h5; done) | omega | simp | (simp; omega) | (simp +contextual; omega))
  refine d1 ?_ (h := by intro C; conv => lhs; simp [or_wrap, and_wrap, f1]) (hv := by first | with_reducible exact True.intro | (first | exact h2 | exact h3 | exact h4 | exact h5; done) | omega | simp | (simp; omega) | (simp +contextual; omega))
  refine d1 ?_ (h := by intro C; conv => lhs; simp [or_wrap, and_wrap, f1])
  refine d2 32 rfl rfl ?_ (h := by intro C; conv => lhs; simp [or_wrap, and_wrap, f1]) (hv := by first | with_reducible exact True.intro | (first | exact h2 | exact h3 | exact h4 | exact h5; done) | omega | simp | (simp; omega) | (simp +contextual; omega))
  refine d2 32 rfl rfl ?_ (h := by intro C; conv => lhs; simp [or_wrap, and_wrap, f1]) (hv := by first | with_reducible exact True.intro | (first | exact h2 | exact h3 | exact h4 | exact h5; done) | omega | simp | (simp; omega) | (simp +contextual; omega))
  refine d2 32 rfl rfl ?_ (h := by intro C; conv => lhs; simp [or_wrap, and_wrap, f1]) (hv := by first | with_reducible exact True.intro | (first | exact h2 | exact h3 | exact h4 | exact h5; done) | omega | simp | (simp; omega) | (simp +contextual; omega))
  refine d2 32 rfl rfl ?_ (h := by intro C; conv => lhs; simp [or_wrap, and_wrap, f1]) (hv := by first | with_reducible exact True.intro | (first | exact h2 | exact h3 | exact h4 | exact h5; done) | omega | simp | (simp; omega) | (simp +contextual; omega))
  refine d1 ?_ (h := by intro C; conv => lhs; simp [or_wrap, and_wrap, f1]) (hv := by first | with_reducible exact True.intro | (first | exact h2 | exact h3 | exact h4 | exact h5; done) | omega | simp | (simp; omega) | (simp +contextual; omega))
  refine d1 ?_ (h := by intro C; conv => lhs; simp [or_wrap, and_wrap, f1])
  refine d2 38 rfl rfl ?_ (h := by intro C; conv => lhs; simp [or_wrap, and_wrap, f1]) (hv := by first | with_reducible exact True.intro | (first | exact h2 | exact h3 | exact h4 | exact h5; done) | omega | simp | (simp; omega) | (simp +contextual; omega))
  refine d2 38 rfl rfl ?_ (h := by intro C; conv => lhs; simp [or_wrap, and_wrap, f1]) (hv := by first | with_reducible exact True.intro | (first | exact h2 | exact h3 | exact h4 | exact h5; done) | omega | simp | (simp; omega) | (simp +contextual; omega))
  refine d2 38 rfl rfl ?_ (h := by intro C; conv => lhs; simp [or_wrap, and_wrap, f1])
  refine d2 38 rfl rfl ?_ (h := by intro C; conv => lhs; simp [or_wrap, and_wrap, f1]) (hv := by first | with_reducible exact True.intro | (first | exact h2 | exact h3 | exact h4 | exact h5; done) | omega | simp | (simp; omega) | (simp +contextual; omega))
  refine d2 38 rfl rfl ?_ (h := by intro C; conv => lhs; simp [or_wrap, and_wrap, f1]) (hv := by first | with_reducible exact True.intro | (first | exact h2 | exact h3 | exact h4 | exact h5; done) | omega | simp | (simp; omega) | (simp +contextual; omega))
  refine d2 38 rfl rfl ?_ (h := by intro C; conv => lhs; simp [or_wrap, and_wrap, f1])
  refine d2 38 rfl rfl ?_ (h := by intro C; conv => lhs; simp [or_wrap, and_wrap, f1]) (hv := by first | with_reducible exact True.intro | (first | exact h2 | exact h3 | exact h4 | exact h5; done) | omega | simp | (simp; omega) | (simp +contextual; omega))
  refine d2 38 rfl rfl ?_ (h := by intro C; conv => lhs; simp [or_wrap, and_wrap, f1]) (hv := by first | with_reducible exact True.intro | (first | exact h2 | exact h3 | exact h4 | exact h5; done) | omega | simp | (simp; omega) | (simp +contextual; omega))
  refine d1 ?_ (h := by intro C; conv => lhs; simp [or_wrap, and_wrap, f1]) (hv := by first | with_reducible exact True.intro | (first | exact h2 | exact h3 | exact h4 | exact h5; done) | omega | simp | (simp; omega) | (simp +contextual; omega))
  refine DGo.nil (by kernel_rfl) ⟨by kernel_rfl, ?_⟩
  refine AOpsO.nil ?_
  refine AW.cond (c := .tmp 47) (by conv => lhs; simp) trivial ?_ ?_
  · intro h47
    try simp at h47
  · intro h47
    try simp at h47
    refine AW.skip ?_
    refine AW.join (α := Unit) (fun _ => True) (fun a => ⟨upds 168 [(2, .p (.int .i64 i)), (7, .p (.bool true)), (8, .ptr 8 0)], [], [(8, .vars 31 v.cells)], 0⟩) ?_ ?_
    ·
      refine AW.seqRegionO [] ?_
      refine s1 tok [2, 7, 8, 48] ?_
      refine s1 tok [2, 7, 8, 49] ?_
      refine s1 tok [2, 7, 8, 50] ?_
      refine s1 tok [2, 7, 8, 51] ?_
      refine s2 tok [2, 7, 8, 51, 52] 51 rfl rfl ?_
      refine s2 tok [2, 7, 8, 51, 53] 51 rfl rfl ?_
      refine s1 tok [2, 7, 8, 54] ?_
      refine s1 tok [2, 7, 8, 55] ?_
      refine s2 tok [2, 7, 8, 55, 56] 55 rfl rfl ?_
      refine s2 tok [2, 7, 8, 55, 56, 57] 55 rfl rfl ?_
      refine s2 tok [2, 7, 8, 55, 56, 58] 55 rfl rfl ?_
      refine s2 tok [2, 7, 8, 55, 56, 59] 55 rfl rfl ?_
      refine s2 tok [2, 7, 8, 55, 60] 55 rfl rfl ?_
      refine s1 tok [2, 7, 8, 61] ?_
      refine AOpsO.nil ?_
      refine AW.cond (c := .tmp 61) (by conv => lhs; simp) trivial ?_ ?_
      · intro h61
        try simp at h61
        obtain ⟨x, hx⟩ : ∃ x, v.kids[i.toNat]? = some x := ⟨v.kids[i.toNat]'(by omega), by simp <;> omega⟩
        obtain ⟨e1, e2⟩ := at_in (by omega) (by omega) hx
        have a1 := at_ev (G := G) v i mv hi
        have a2 := at_ev (G := G) v (i - v.kids.length) mv (by omega)
        rw [e1] at a1
        rw [e2] at a2
        have a3 := refSame_ev (G := G) (withV x v.mask) (by rw [with_may]; exact may_kid mv (List.mem_of_getElem? hx)) (withV x v.mask)
        rw [same_self] at a3
        have ew : (withV x v.mask).mask = orM x.mask v.mask := rfl
        generalize withV x v.mask = y at *
        simp only [Val.enc_def] at a1 a2 a3
        refine AW.seqRegionO [.nilp, .tup [y.enc, .bool true]] ?_
        refine s1 tok [2, 7, 8, 63] ?_ (hv := by first | with_reducible exact True.intro | (exact a1; done) | omega | simp | (simp; omega) | (simp +contextual; omega))
        refine s1 tok [2, 7, 8, 63, 64] ?_
        refine s1 tok [2, 7, 8, 65] ?_ (hv := by first | with_reducible exact True.intro | (exact a1; done) | omega | simp | (simp; omega) | (simp +contextual; omega))
        refine s1 tok [2, 7, 8, 62] ?_
        refine s1 tok [2, 7, 8, 62, 66] ?_
        refine s1 tok [2, 7, 8, 66, 67] ?_
        refine s1 tok [2, 7, 8, 10, 66, 67] ?_
        refine s1 tok [2, 7, 8, 10, 67] ?_ (hv := by first | with_reducible exact True.intro | (exact a1; done) | omega | simp | (simp; omega) | (simp +contextual; omega))
        refine s1 tok [2, 7, 8, 10, 11] ?_
        refine AOpsO.nil ?_
        refine AW.seqRegionO [.nilp, .tup [y.enc, .bool true]] ?_
        refine s1 tok [2, 7, 8, 10, 11, 69] ?_ (hv := by first | with_reducible exact True.intro | (exact a2; done) | omega | simp | (simp; omega) | (simp +contextual; omega))
        refine s1 tok [2, 7, 8, 10, 11, 69, 70] ?_
        refine s1 tok [2, 7, 8, 10, 11, 69, 70, 71] ?_
        refine s1 tok [2, 7, 8, 10, 11, 69, 70, 72] ?_ (hv := by first | with_reducible exact True.intro | (exact a2; done) | omega | simp | (simp; omega) | (simp +contextual; omega))
        refine s1 tok [2, 7, 8, 10, 11, 69, 70, 73] ?_ (hv := by first | with_reducible exact True.intro | (exact a2; done) | omega | simp | (simp; omega) | (simp +contextual; omega))
        refine s1 tok [2, 7, 8, 10, 11, 69, 74] ?_ (hv := by first | with_reducible exact True.intro | (exact a2; done) | omega | simp | (simp; omega) | (simp +contextual; omega))
        refine s1 tok [2, 7, 8, 10, 11, 75] ?_ (hv := by first | with_reducible exact True.intro | (exact a2; done) | omega | simp | (simp; omega) | (simp +contextual; omega))
        refine s1 tok [2, 7, 8, 10, 11, 68] ?_
        refine s1 tok [2, 7, 8, 10, 11, 68, 76] ?_
        refine s1 tok [2, 7, 8, 10, 11, 76, 77] ?_
        refine s1 tok [2, 7, 8, 10, 11, 12, 76, 77] ?_
        refine s1 tok [2, 7, 8, 10, 11, 12, 77] ?_ (hv := by first | with_reducible exact True.intro | (exact a2; done) | omega | simp | (simp; omega) | (simp +contextual; omega))
        refine s1 tok [2, 7, 8, 10, 11, 12, 13] ?_
        refine AOpsO.nil ?_
        refine AW.seqRegionO [.nilp, .bool true] ?_
        refine s1 tok [2, 7, 8, 10, 11, 12, 13, 78] ?_ (hv := by first | with_reducible exact True.intro | (exact a3; done) | omega | simp | (simp; omega) | (simp +contextual; omega))
        refine s1 tok [2, 7, 8, 10, 11, 13, 78, 79] ?_ (hv := by first | with_reducible exact True.intro | (exact a3; done) | omega | simp | (simp; omega) | (simp +contextual; omega))
        refine s1 tok [2, 7, 8, 10, 11, 13, 80] ?_ (hv := by first | with_reducible exact True.intro | (exact a3; done) | omega | simp | (simp; omega) | (simp +contextual; omega))
        refine s1 tok [2, 7, 8, 10, 11, 13, 14] ?_
        refine AOpsO.nil ?_
        refine AW.seqDrawS tok mixed 24 [[11], [81], [82], [13, 83], [84, 83], [83, 85], [86], [14, 87], [88, 87], [87, 89], [90], [10, 91], [92, 91], [8, 91], [94, 91], [2, 91], [95, 96, 91], [97, 91], [98, 91], [8, 91], [100, 91], [99, 101, 91], [93, 102, 91], [91, 103]] [x.enc] [] (by kernel_rfl) ?_
        refine d1 ?_ (h := by intro C; conv => lhs; simp [or_wrap, ew])
        refine d1 ?_ (h := by intro C; conv => lhs; simp [or_wrap, ew]) (hv := by first | with_reducible exact True.intro | ((simp [hx]; omega); done) | omega | simp | (simp; omega) | (simp +contextual; omega))
        refine d1 ?_ (h := by intro C; conv => lhs; simp [or_wrap, ew])
        refine d2 83 rfl rfl ?_ (h := by intro C; conv => lhs; simp [or_wrap, ew])
        refine d2 83 rfl rfl ?_ (h := by intro C; conv => lhs; simp [or_wrap, ew]) (hv := by first | with_reducible exact True.intro | ((simp [hx]; omega); done) | omega | simp | (simp; omega) | (simp +contextual; omega))
        refine d1 ?_ (h := by intro C; conv => lhs; simp [or_wrap, ew]) (hv := by first | with_reducible exact True.intro | ((simp [hx]; omega); done) | omega | simp | (simp; omega) | (simp +contextual; omega))
        refine d1 ?_ (h := by intro C; conv => lhs; simp [or_wrap, ew])
        refine d2 87 rfl rfl ?_ (h := by intro C; conv => lhs; simp [or_wrap, ew])
        refine d2 87 rfl rfl ?_ (h := by intro C; conv => lhs; simp [or_wrap, ew]) (hv := by first | with_reducible exact True.intro | ((simp [hx]; omega); done) | omega | simp | (simp; omega) | (simp +contextual; omega))
        refine d1 ?_ (h := by intro C; conv => lhs; simp [or_wrap, ew]) (hv := by first | with_reducible exact True.intro | ((simp [hx]; omega); done) | omega | simp | (simp; omega) | (simp +contextual; omega))
        refine d1 ?_ (h := by intro C; conv => lhs; simp [or_wrap, ew])
        refine d2 91 rfl rfl ?_ (h := by intro C; conv => lhs; simp [or_wrap, ew])
        refine d2 91 rfl rfl ?_ (h := by intro C; conv => lhs; simp [or_wrap, ew]) (hv := by first | with_reducible exact True.intro | ((simp [hx]; omega); done) | omega | simp | (simp; omega) | (simp +contextual; omega))
        refine d2 91 rfl rfl ?_ (h := by intro C; conv => lhs; simp [or_wrap, ew])
        refine d2 91 rfl rfl ?_ (h := by intro C; conv => lhs; simp [or_wrap, ew]) (hv := by first | with_reducible exact True.intro | ((simp [hx]; omega); done) | omega | simp | (simp; omega) | (simp +contextual; omega))
        refine d2 91 rfl rfl ?_ (h := by intro C; conv => lhs; simp [or_wrap, ew])
        refine d2 91 rfl rfl ?_ (h := by intro C; conv => lhs; simp [or_wrap, ew]) (hv := by first | with_reducible exact True.intro | ((simp [hx]; omega); done) | omega | simp | (simp; omega) | (simp +contextual; omega))
        refine d2 91 rfl rfl ?_ (h := by intro C; conv => lhs; simp [or_wrap, ew])
        refine d2 91 rfl rfl ?_ (h := by intro C; conv => lhs; simp [or_wrap, ew]) (hv := by first | with_reducible exact True.intro | ((simp [hx]; omega); done) | omega | simp | (simp; omega) | (simp +contextual; omega))
        refine d2 91 rfl rfl ?_ (h := by intro C; conv => lhs; simp [or_wrap, ew])
        refine d2 91 rfl rfl ?_ (h := by intro C; conv => lhs; simp [or_wrap, ew]) (hv := by first | with_reducible exact True.intro | ((simp [hx]; omega); done) | omega | simp | (simp; omega) | (simp +contextual; omega))
        refine d2 91 rfl rfl ?_ (h := by intro C; conv => lhs; simp [or_wrap, ew]) (hv := by first | with_reducible exact True.intro | ((simp [hx]; omega); done) | omega | simp | (simp; omega) | (simp +contextual; omega))
        refine d2 91 rfl rfl ?_ (h := by intro C; conv => lhs; simp [or_wrap, ew]) (hv := by first | with_reducible exact True.intro | ((simp [hx]; omega); done) | omega | simp | (simp; omega) | (simp +contextual; omega))
        refine d1 ?_ (h := by intro C; conv => lhs; simp [or_wrap, ew]) (hv := by first | with_reducible exact True.intro | ((simp [hx]; omega); done) | omega | simp | (simp; omega) | (simp +contextual; omega))
        refine DGo.nil (by kernel_rfl) ⟨by kernel_rfl, ?_⟩
        refine AOpsO.nil ?_
        refine AW.cond (c := .tmp 104) (by conv => lhs; simp) trivial ?_ ?_
        · intro h104
          try simp at h104
        · intro h104
          try simp at h104
          refine AW.skip ?_
          exact ⟨(), trivial, upds_le (by simp), rfl, by simp, by simp⟩
      · intro h61
        try simp at h61
        refine AW.skip ?_
        exact ⟨(), trivial, upds_le (by simp), rfl, by simp, by simp⟩
    ·
      rintro a hI
      refine AW.join (α := Unit) (fun _ => True) (fun a => ⟨upds 168 [(7, .p (.bool true)), (8, .ptr 8 0)], [], [(8, .vars 31 v.cells)], 0⟩) ?_ ?_
      ·
        refine AW.seqRegionO [] ?_
        refine s1 tok [2, 7, 8, 105] ?_
        refine s1 tok [2, 7, 8, 106] ?_
        refine s1 tok [2, 7, 8, 107] ?_
        refine s1 tok [2, 7, 8, 108] ?_
        refine s2 tok [2, 7, 8, 108, 109] 108 rfl rfl ?_
        refine s2 tok [2, 7, 8, 108, 110] 108 rfl rfl ?_
        refine s1 tok [2, 7, 8, 111] ?_
        refine s1 tok [2, 7, 8, 112] ?_
        refine s2 tok [2, 7, 8, 112, 113] 112 rfl rfl ?_
        refine s2 tok [2, 7, 8, 112, 113, 114] 112 rfl rfl ?_
        refine s2 tok [2, 7, 8, 112, 113, 115] 112 rfl rfl ?_
        refine s2 tok [2, 7, 8, 112, 113, 116] 112 rfl rfl ?_
        refine s2 tok [2, 7, 8, 112, 117] 112 rfl rfl ?_
        refine s1 tok [2, 7, 8, 118] ?_
        refine AOpsO.nil ?_
        refine AW.cond (c := .tmp 118) (by conv => lhs; simp) trivial ?_ ?_
        · intro h118
          try simp at h118
          obtain ⟨x, hx⟩ : ∃ x, v.kids[i.toNat]? = some x := ⟨v.kids[i.toNat]'(by omega), by simp <;> omega⟩
          have hob := may_obj mv (by omega)
          obtain ⟨s, hs⟩ : ∃ s, v.keys[i.toNat]? = some s := ⟨v.keys[i.toNat]'(by omega), by simp <;> omega⟩
          have e1 := get_in mv (by omega) hx hs
          have a1 := get_ev (G := G) v s mv
          rw [e1] at a1
          have a2 := deep_ev (G := G) (withV x v.mask)
          have f4 : subM (deepV (withV x v.mask)) (deepV v) = 0 := (deep_kid_le (List.mem_of_getElem? hx) iv).sub
          have ew : (withV x v.mask).mask = orM x.mask v.mask := rfl
          generalize withV x v.mask = y at *
          simp only [Val.enc_def] at a1 a2
          simp only [ew] at a2
          refine AW.seqDrawS tok mixed 12 [[8], [8], [121], [2], [122, 123], [124], [120, 125], [126], [119], [119], [], [15, 127]] [.str s, .nilp, .tup [y.enc, .bool true]] [] (by kernel_rfl) ?_
          refine d1 ?_ (hv := by first | with_reducible exact True.intro | (first | (simp [hs]; omega) | exact a1; done) | omega | simp | (simp; omega) | (simp +contextual; omega))
          refine d1 ?_
          refine d1 ?_ (hv := by first | with_reducible exact True.intro | (first | (simp [hs]; omega) | exact a1; done) | omega | simp | (simp; omega) | (simp +contextual; omega))
          refine d1 ?_
          refine d1 ?_ (hv := by first | with_reducible exact True.intro | (first | (simp [hs]; omega) | exact a1; done) | omega | simp | (simp; omega) | (simp +contextual; omega))
          refine d1 ?_ (hv := by first | with_reducible exact True.intro | (first | (simp [hs]; omega) | exact a1; done) | omega | simp | (simp; omega) | (simp +contextual; omega))
          refine d1 ?_ (hv := by first | with_reducible exact True.intro | (first | (simp [hs]; omega) | exact a1; done) | omega | simp | (simp; omega) | (simp +contextual; omega))
          refine d1 ?_
          refine d1 ?_
          refine d1 ?_
          refine d1 ?_
          refine d1 ?_ (hv := by first | with_reducible exact True.intro | (first | (simp [hs]; omega) | exact a1; done) | omega | simp | (simp; omega) | (simp +contextual; omega))
          refine DGo.nil (by kernel_rfl) ⟨by kernel_rfl, ?_⟩
          refine s1 tok [2, 7, 8, 15, 16] ?_
          refine AOpsO.nil ?_
          refine AW.seqDrawS tok mixed 24 [[16], [129], [130], [15, 131], [132, 131], [8, 131], [134, 131], [2, 131], [135, 136, 131], [137, 131], [138, 131], [8, 131], [140, 131], [139, 141, 131], [133, 142, 131], [131, 143], [144], [15, 145], [146, 145], [8, 145], [148, 145], [147, 149, 145], [150, 145], [145, 151]] [x.enc, .nilp, .int .u64 (deepV y), .nilp, .int .u64 (deepV v)] [] (by kernel_rfl) ?_
          refine d1 ?_ (h := by intro C; conv => lhs; simp [or_wrap, sub_wrap, ew, f4])
          refine d1 ?_ (h := by intro C; conv => lhs; simp [or_wrap, sub_wrap, ew, f4]) (hv := by first | with_reducible exact True.intro | (first | (simp [hx]; omega) | exact a2 | exact h3; done) | omega | simp | (simp; omega) | (simp +contextual; omega))
          refine d1 ?_ (h := by intro C; conv => lhs; simp [or_wrap, sub_wrap, ew, f4])
          refine d2 131 rfl rfl ?_ (h := by intro C; conv => lhs; simp [or_wrap, sub_wrap, ew, f4])
          refine d2 131 rfl rfl ?_ (h := by intro C; conv => lhs; simp [or_wrap, sub_wrap, ew, f4]) (hv := by first | with_reducible exact True.intro | (first | (simp [hx]; omega) | exact a2 | exact h3; done) | omega | simp | (simp; omega) | (simp +contextual; omega))
          refine d2 131 rfl rfl ?_ (h := by intro C; conv => lhs; simp [or_wrap, sub_wrap, ew, f4])
          refine d2 131 rfl rfl ?_ (h := by intro C; conv => lhs; simp [or_wrap, sub_wrap, ew, f4]) (hv := by first | with_reducible exact True.intro | (first | (simp [hx]; omega) | exact a2 | exact h3; done) | omega | simp | (simp; omega) | (simp +contextual; omega))
          refine d2 131 rfl rfl ?_ (h := by intro C; conv => lhs; simp [or_wrap, sub_wrap, ew, f4])
          refine d2 131 rfl rfl ?_ (h := by intro C; conv => lhs; simp [or_wrap, sub_wrap, ew, f4]) (hv := by first | with_reducible exact True.intro | (first | (simp [hx]; omega) | exact a2 | exact h3; done) | omega | simp | (simp; omega) | (simp +contextual; omega))
          refine d2 131 rfl rfl ?_ (h := by intro C; conv => lhs; simp [or_wrap, sub_wrap, ew, f4])
          refine d2 131 rfl rfl ?_ (h := by intro C; conv => lhs; simp [or_wrap, sub_wrap, ew, f4]) (hv := by first | with_reducible exact True.intro | (first | (simp [hx]; omega) | exact a2 | exact h3; done) | omega | simp | (simp; omega) | (simp +contextual; omega))
          refine d2 131 rfl rfl ?_ (h := by intro C; conv => lhs; simp [or_wrap, sub_wrap, ew, f4])
          refine d2 131 rfl rfl ?_ (h := by intro C; conv => lhs; simp [or_wrap, sub_wrap, ew, f4]) (hv := by first | with_reducible exact True.intro | (first | (simp [hx]; omega) | exact a2 | exact h3; done) | omega | simp | (simp; omega) | (simp +contextual; omega))
          refine d2 131 rfl rfl ?_ (h := by intro C; conv => lhs; simp [or_wrap, sub_wrap, ew, f4]) (hv := by first | with_reducible exact True.intro | (first | (simp [hx]; omega) | exact a2 | exact h3; done) | omega | simp | (simp; omega) | (simp +contextual; omega))
          refine d2 131 rfl rfl ?_ (h := by intro C; conv => lhs; simp [or_wrap, sub_wrap, ew, f4]) (hv := by first | with_reducible exact True.intro | (first | (simp [hx]; omega) | exact a2 | exact h3; done) | omega | simp | (simp; omega) | (simp +contextual; omega))
          refine d1 ?_ (h := by intro C; conv => lhs; simp [or_wrap, sub_wrap, ew, f4]) (hv := by first | with_reducible exact True.intro | (first | (simp [hx]; omega) | exact a2 | exact h3; done) | omega | simp | (simp; omega) | (simp +contextual; omega))
          refine d1 ?_ (h := by intro C; conv => lhs; simp [or_wrap, sub_wrap, ew, f4])
          refine d2 145 rfl rfl ?_ (h := by intro C; conv => lhs; simp [or_wrap, sub_wrap, ew, f4]) (hv := by first | with_reducible exact True.intro | (first | (simp [hx]; omega) | exact a2 | exact h3; done) | omega | simp | (simp; omega) | (simp +contextual; omega))
          refine d2 145 rfl rfl ?_ (h := by intro C; conv => lhs; simp [or_wrap, sub_wrap, ew, f4]) (hv := by first | with_reducible exact True.intro | (first | (simp [hx]; omega) | exact a2 | exact h3; done) | omega | simp | (simp; omega) | (simp +contextual; omega))
          refine d2 145 rfl rfl ?_ (h := by intro C; conv => lhs; simp [or_wrap, sub_wrap, ew, f4]) (hv := by first | with_reducible exact True.intro | (first | (simp [hx]; omega) | exact a2 | exact h3; done) | omega | simp | (simp; omega) | (simp +contextual; omega))
          refine d2 145 rfl rfl ?_ (h := by intro C; conv => lhs; simp [or_wrap, sub_wrap, ew, f4]) (hv := by first | with_reducible exact True.intro | (first | (simp [hx]; omega) | exact a2 | exact h3; done) | omega | simp | (simp; omega) | (simp +contextual; omega))
          refine d2 145 rfl rfl ?_ (h := by intro C; conv => lhs; simp [or_wrap, sub_wrap, ew, f4]) (hv := by first | with_reducible exact True.intro | (first | (simp [hx]; omega) | exact a2 | exact h3; done) | omega | simp | (simp; omega) | (simp +contextual; omega))
          refine d2 145 rfl rfl ?_ (h := by intro C; conv => lhs; simp [or_wrap, sub_wrap, ew, f4]) (hv := by first | with_reducible exact True.intro | (first | (simp [hx]; omega) | exact a2 | exact h3; done) | omega | simp | (simp; omega) | (simp +contextual; omega))
          refine d1 ?_ (h := by intro C; conv => lhs; simp [or_wrap, sub_wrap, ew, f4]) (hv := by first | with_reducible exact True.intro | (first | (simp [hx]; omega) | exact a2 | exact h3; done) | omega | simp | (simp; omega) | (simp +contextual; omega))
          refine DGo.nil (by kernel_rfl) ⟨by kernel_rfl, ?_⟩
          refine AOpsO.nil ?_
          refine AW.cond (c := .tmp 152) (by conv => lhs; simp) trivial ?_ ?_
          · intro h152
            try simp at h152
          · intro h152
            try simp at h152
            refine AW.skip ?_
            exact ⟨(), trivial, upds_le (by simp), rfl, by simp, by simp⟩
        · intro h118
          try simp at h118
          refine AW.skip ?_
          exact ⟨(), trivial, upds_le (by simp), rfl, by simp, by simp⟩
      ·
        rintro a hI
        refine AW.seqRegionO [.nilp, .tup [.int .i64 (Val.sz v), .int .i64 (depV v)]] ?_
        refine s1 tok [7, 154] ?_ (hv := by first | with_reducible exact True.intro | (exact h6; done) | omega | simp | (simp; omega) | (simp +contextual; omega))
        refine s1 tok [7, 155] ?_ (hv := by first | with_reducible exact True.intro | (exact h6; done) | omega | simp | (simp; omega) | (simp +contextual; omega))
        refine s1 tok [7, 153] ?_
        refine s1 tok [7, 153, 156] ?_
        refine s1 tok [7, 156, 157] ?_
        refine s1 tok [7, 17, 157] ?_
        refine s1 tok [7, 17, 18] ?_
        refine AOpsO.nil ?_
        refine AW.seqRegionO [] ?_
        refine s1 tok [17, 18, 158] ?_
        refine s1 tok [17, 18, 159] ?_
        refine s2 tok [18, 159, 160] 159 rfl rfl ?_
        refine s2 tok [18, 159, 160, 161] 159 rfl rfl ?_
        refine s2 tok [18, 159, 162] 159 rfl rfl ?_
        refine s1 tok [18, 163] ?_
        refine s1 tok [18, 164] ?_
        refine s2 tok [164, 165] 164 rfl rfl ?_
        refine s2 tok [164, 166] 164 rfl rfl ?_
        refine s1 tok [167] ?_
        refine s1 tok [6] ?_
        refine AOpsO.nil ?_
        exact AW.ret ⟨.inr rfl, _, _, by (conv => lhs; simp), trivial, by simp; omega⟩
end Go.Proofs.YtgoepemmcibdaaaGreatDoor
