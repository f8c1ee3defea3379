import Derived.Test.YtgoepemmcibdaaaGreatDoorSTreeRest
import Derived.Test.YtgoepemmcibdaaaGreatDoorSRefRest
import Derived.Test.YtgoepemmcibdaaaGreatDoorSRefMay
import Derived.Test.YtgoepemmcibdaaaGreatDoorSTreeLaw
import Derived.Test.YtgoepemmcibdaaaGreatDoorSShown4
import Derived.Test.YtgoepemmcibdaaaGreatDoorM3
namespace Go.Proofs.YtgoepemmcibdaaaGreatDoor
open Sy Go
set_option maxRecDepth 100000
set_option maxHeartbeats 4000000
set_option linter.unusedSimpArgs false
set_option linter.unusedVariables false
variable {G : Glob}
theorem TreeWhole_ev (hG : U8 G) (l : List Item) (mask : Int) (hl : ∀ x ∈ l, x.keys.length ≤ 140737488351232) (hin : ∀ x ∈ l, InM x.mask) : AFn Tryz.prog G 8 [.sl 6 (l.map Item.enc), .int .u64 mask] (.bool true) := by
  refine AFn.introU tok Tryz.func8 (by kernel_rfl) rfl rfl ?_
  simp only [Tryz.f8, enumA, List.map_cons, List.map_nil]
  have hsh := shown4_ev hG
  have hb := Built_ev (G := G) l hl
  have mv := built_may l
  have iv := built_in hin
  have zv := built_sz l
  generalize builtM l = v at hb mv iv zv
  have h1 := size_ev (G := G) v (by omega)
  have h2 := refSize_ev (G := G) v (by omega)
  have h3 := clone_ev (G := G) v mv
  have h4 := refSame_ev (G := G) v mv v
  have h5 := with_ev (G := G) v mask mv
  have h6 := refWith_ev (G := G) v mask
  have h7 := refSame_ev (G := G) (withV v mask) (by rw [with_may]; exact mv) (withV v mask)
  have h8 := bare_ev (G := G) v mv
  have h9 := refBare_ev (G := G) v mv
  have h10 := refSame_ev (G := G) (bareV v) (by rw [bare_may]; exact mv) (bareV v)
  have h11 := tidy_ev (G := G) v mv
  have h12 := refTidy_ev (G := G) v mv iv
  have h13 := refSame_ev (G := G) (tidyV v) (by rw [tidy_may]; exact mv) (tidyV v)
  have h14 := held_ev (G := G) v (by omega)
  have h15 := refHeld_ev (G := G) v (by omega)
  have h16 := mayT_ev hG v
  have h17 := refMayT_ev (G := G) v
  have h18 := deep_ev (G := G) v
  have h19 := refDeep_ev (G := G) v mv
  have h20 := sameT_ev (G := G) v v
  rw [same_self] at h4 h7 h10 h13 h20
  rw [mv] at h16 h17
  generalize withV v mask = w at *
  generalize bareV v = b at *
  generalize tidyV v = t at *
  simp only [Val.enc_def, Item.enc] at hb h1 h2 h3 h4 h5 h6 h7 h8 h9 h10 h11 h12 h13 h14 h15 h16 h17 h18 h19 h20
  refine AW.seqRegionO [] ?_
  refine s1 tok [0, 1] ?_
  refine AOpsO.nil ?_
  refine AW.seqRegionO [.nilp, .bool true] ?_
  refine s1 tok [0, 1, 15] ?_ (hv := by first | with_reducible exact True.intro | (exact hsh; done) | omega | simp | (simp; omega) | (simp +contextual; omega))
  refine s1 tok [0, 1, 5] ?_
  refine AOpsO.nil ?_
  refine AW.seqRegionO [.nilp, v.enc] ?_
  refine s1 tok [1, 5, 16] ?_
  refine s1 tok [1, 5, 17] ?_ (hv := by first | with_reducible exact True.intro | ((simp at hb ⊢; exact hb); done) | omega | simp | (simp; omega) | (simp +contextual; omega))
  refine s1 tok [1, 5, 6, 17] ?_
  refine s1 tok [1, 5, 6] ?_ (hv := by first | with_reducible exact True.intro | ((simp at hb ⊢; exact hb); done) | omega | simp | (simp; omega) | (simp +contextual; omega))
  refine AOpsO.nil ?_
  refine AW.seqRegionO [.nilp, .tup [.int .i64 (Val.sz v), .int .i64 (depV v)]] ?_
  refine s1 tok [1, 5, 6, 19] ?_ (hv := by first | with_reducible exact True.intro | (exact h1; done) | omega | simp | (simp; omega) | (simp +contextual; omega))
  refine s1 tok [1, 5, 6, 20] ?_ (hv := by first | with_reducible exact True.intro | (exact h1; done) | omega | simp | (simp; omega) | (simp +contextual; omega))
  refine s1 tok [1, 5, 6, 18] ?_
  refine s1 tok [1, 5, 6, 18, 21] ?_
  refine s1 tok [1, 5, 6, 21, 22] ?_
  refine s1 tok [1, 5, 6, 7, 22] ?_
  refine s1 tok [1, 5, 6, 7, 8] ?_
  refine AOpsO.nil ?_
  refine AW.seqRegionO [.nilp, .tup [.int .i64 (Val.sz v), .int .i64 (depV v)]] ?_
  refine s1 tok [1, 5, 6, 7, 8, 24] ?_ (hv := by first | with_reducible exact True.intro | (exact h2; done) | omega | simp | (simp; omega) | (simp +contextual; omega))
  refine s1 tok [1, 5, 6, 7, 8, 25] ?_ (hv := by first | with_reducible exact True.intro | (exact h2; done) | omega | simp | (simp; omega) | (simp +contextual; omega))
  refine s1 tok [1, 5, 6, 7, 8, 23] ?_
  refine s1 tok [1, 5, 6, 7, 8, 23, 26] ?_
  refine s1 tok [1, 5, 6, 7, 8, 26, 27] ?_
  refine s1 tok [1, 5, 6, 7, 8, 9, 27] ?_
  refine s1 tok [1, 5, 6, 7, 8, 9, 10] ?_
  refine AOpsO.nil ?_
  refine AW.seqDrawS tok mixed 4 [[6], [28], [6], [29, 30]] [.nilp, v.enc, .nilp, .bool true] [] (by kernel_rfl) ?_
  refine d1 ?_ (hv := by first | with_reducible exact True.intro | (first | exact h3 | exact h4; done) | omega | simp | (simp; omega) | (simp +contextual; omega))
  refine d1 ?_ (hv := by first | with_reducible exact True.intro | (first | exact h3 | exact h4; done) | omega | simp | (simp; omega) | (simp +contextual; omega))
  refine d1 ?_ (hv := by first | with_reducible exact True.intro | (first | exact h3 | exact h4; done) | omega | simp | (simp; omega) | (simp +contextual; omega))
  refine d1 ?_ (hv := by first | with_reducible exact True.intro | (first | exact h3 | exact h4; done) | omega | simp | (simp; omega) | (simp +contextual; omega))
  refine DGo.nil (by kernel_rfl) ⟨by kernel_rfl, ?_⟩
  refine s1 tok [1, 5, 6, 7, 8, 9, 10, 11] ?_
  refine AOpsO.nil ?_
  refine AW.seqDrawS tok mixed 7 [[6], [1], [32, 33], [6], [1], [35, 36], [34, 37]] [.nilp, w.enc, .nilp, w.enc, .nilp, .bool true] [] (by kernel_rfl) ?_
  refine d1 ?_ (hv := by first | with_reducible exact True.intro | (first | exact h5 | exact h6 | exact h7; done) | omega | simp | (simp; omega) | (simp +contextual; omega))
  refine d1 ?_
  refine d1 ?_ (hv := by first | with_reducible exact True.intro | (first | exact h5 | exact h6 | exact h7; done) | omega | simp | (simp; omega) | (simp +contextual; omega))
  refine d1 ?_ (hv := by first | with_reducible exact True.intro | (first | exact h5 | exact h6 | exact h7; done) | omega | simp | (simp; omega) | (simp +contextual; omega))
  refine d1 ?_
  refine d1 ?_ (hv := by first | with_reducible exact True.intro | (first | exact h5 | exact h6 | exact h7; done) | omega | simp | (simp; omega) | (simp +contextual; omega))
  refine d1 ?_ (hv := by first | with_reducible exact True.intro | (first | exact h5 | exact h6 | exact h7; done) | omega | simp | (simp; omega) | (simp +contextual; omega))
  refine DGo.nil (by kernel_rfl) ⟨by kernel_rfl, ?_⟩
  refine s1 tok [5, 6, 7, 8, 9, 10, 11, 12] ?_
  refine AOpsO.nil ?_
  refine AW.seqDrawS tok mixed 5 [[6], [39], [6], [41], [40, 42]] [.nilp, b.enc, .nilp, b.enc, .nilp, .bool true] [] (by kernel_rfl) ?_
  refine d1 ?_ (hv := by first | with_reducible exact True.intro | (first | exact h8 | exact h9 | exact h10; done) | omega | simp | (simp; omega) | (simp +contextual; omega))
  refine d1 ?_ (hv := by first | with_reducible exact True.intro | (first | exact h8 | exact h9 | exact h10; done) | omega | simp | (simp; omega) | (simp +contextual; omega))
  refine d1 ?_ (hv := by first | with_reducible exact True.intro | (first | exact h8 | exact h9 | exact h10; done) | omega | simp | (simp; omega) | (simp +contextual; omega))
  refine d1 ?_ (hv := by first | with_reducible exact True.intro | (first | exact h8 | exact h9 | exact h10; done) | omega | simp | (simp; omega) | (simp +contextual; omega))
  refine d1 ?_ (hv := by first | with_reducible exact True.intro | (first | exact h8 | exact h9 | exact h10; done) | omega | simp | (simp; omega) | (simp +contextual; omega))
  refine DGo.nil (by kernel_rfl) ⟨by kernel_rfl, ?_⟩
  refine s1 tok [5, 6, 7, 8, 9, 10, 11, 12, 13] ?_
  refine AOpsO.nil ?_
  refine AW.seqDrawS tok mixed 5 [[6], [44], [6], [46], [45, 47]] [.nilp, t.enc, .nilp, t.enc, .nilp, .bool true] [] (by kernel_rfl) ?_
  refine d1 ?_ (hv := by first | with_reducible exact True.intro | (first | exact h11 | exact h12 | exact h13; done) | omega | simp | (simp; omega) | (simp +contextual; omega))
  refine d1 ?_ (hv := by first | with_reducible exact True.intro | (first | exact h11 | exact h12 | exact h13; done) | omega | simp | (simp; omega) | (simp +contextual; omega))
  refine d1 ?_ (hv := by first | with_reducible exact True.intro | (first | exact h11 | exact h12 | exact h13; done) | omega | simp | (simp; omega) | (simp +contextual; omega))
  refine d1 ?_ (hv := by first | with_reducible exact True.intro | (first | exact h11 | exact h12 | exact h13; done) | omega | simp | (simp; omega) | (simp +contextual; omega))
  refine d1 ?_ (hv := by first | with_reducible exact True.intro | (first | exact h11 | exact h12 | exact h13; done) | omega | simp | (simp; omega) | (simp +contextual; omega))
  refine DGo.nil (by kernel_rfl) ⟨by kernel_rfl, ?_⟩
  refine s1 tok [5, 6, 7, 8, 9, 10, 11, 12, 13, 14] ?_
  refine AOpsO.nil ?_
  refine AW.seq ?_
  refine AW.seqDrawS tok mixed 9 [[14], [49], [50], [6, 51], [52, 51], [6, 51], [54, 51], [53, 55, 51], [51, 56]] [.nilp, .int .i64 (heldV v), .nilp, .int .i64 (heldV v)] [] (by kernel_rfl) ?_
  refine d1 ?_
  refine d1 ?_ (hv := by first | with_reducible exact True.intro | (first | exact h14 | exact h15 | exact fun _ => h14 | exact fun _ => h15; done) | omega | simp | (simp; omega) | (simp +contextual; omega))
  refine d1 ?_
  refine d2 51 rfl rfl ?_ (hv := by first | with_reducible exact True.intro | (first | exact h14 | exact h15 | exact fun _ => h14 | exact fun _ => h15; done) | omega | simp | (simp; omega) | (simp +contextual; omega))
  refine d2 51 rfl rfl ?_ (hv := by first | with_reducible exact True.intro | (first | exact h14 | exact h15 | exact fun _ => h14 | exact fun _ => h15; done) | omega | simp | (simp; omega) | (simp +contextual; omega))
  refine d2 51 rfl rfl ?_ (hv := by first | with_reducible exact True.intro | (first | exact h14 | exact h15 | exact fun _ => h14 | exact fun _ => h15; done) | omega | simp | (simp; omega) | (simp +contextual; omega))
  refine d2 51 rfl rfl ?_ (hv := by first | with_reducible exact True.intro | (first | exact h14 | exact h15 | exact fun _ => h14 | exact fun _ => h15; done) | omega | simp | (simp; omega) | (simp +contextual; omega))
  refine d2 51 rfl rfl ?_ (hv := by first | with_reducible exact True.intro | (first | exact h14 | exact h15 | exact fun _ => h14 | exact fun _ => h15; done) | omega | simp | (simp; omega) | (simp +contextual; omega))
  refine d1 ?_ (hv := by first | with_reducible exact True.intro | (first | exact h14 | exact h15 | exact fun _ => h14 | exact fun _ => h15; done) | omega | simp | (simp; omega) | (simp +contextual; omega))
  refine DGo.nil (by kernel_rfl) ⟨by kernel_rfl, ?_⟩
  refine AOpsO.nil ?_
  refine AW.cond (c := .tmp 57) (by conv => lhs; simp) trivial ?_ ?_
  · intro h57
    try simp at h57
  · intro h57
    try simp at h57
    refine AW.skip ?_
    refine AW.seqDrawS tok mixed 39 [[5], [58], [6, 59], [60, 59], [6, 59], [62, 59], [61, 63, 59], [59, 64], [65], [6, 66], [67, 66], [6, 66], [69, 66], [68, 70, 66], [66, 71], [72], [7, 73], [9, 73], [74, 75, 73], [73, 76], [77], [8, 78], [10, 78], [79, 80, 78], [78, 81], [82], [11, 83], [83, 84], [85], [12, 86], [86, 87], [88], [13, 89], [89, 90], [91], [6, 92], [6, 92], [93, 94, 92], [92, 95]] [.nilp, .bool true, .nilp, .bool true, .nilp, .int .u64 (deepV v), .nilp, .int .u64 (deepV v), .nilp, .bool true] [] (by kernel_rfl) ?_
    refine d1 ?_
    refine d1 ?_
    refine d2 59 rfl rfl ?_ (hv := by first | with_reducible exact True.intro | (first | exact h16 | exact h17 | exact h18 | exact h19 | exact h20; done) | omega | simp | (simp; omega) | (simp +contextual; omega))
    refine d2 59 rfl rfl ?_ (hv := by first | with_reducible exact True.intro | (first | exact h16 | exact h17 | exact h18 | exact h19 | exact h20; done) | omega | simp | (simp; omega) | (simp +contextual; omega))
    refine d2 59 rfl rfl ?_ (hv := by first | with_reducible exact True.intro | (first | exact h16 | exact h17 | exact h18 | exact h19 | exact h20; done) | omega | simp | (simp; omega) | (simp +contextual; omega))
    refine d2 59 rfl rfl ?_ (hv := by first | with_reducible exact True.intro | (first | exact h16 | exact h17 | exact h18 | exact h19 | exact h20; done) | omega | simp | (simp; omega) | (simp +contextual; omega))
    refine d2 59 rfl rfl ?_ (hv := by first | with_reducible exact True.intro | (first | exact h16 | exact h17 | exact h18 | exact h19 | exact h20; done) | omega | simp | (simp; omega) | (simp +contextual; omega))
    refine d1 ?_ (hv := by first | with_reducible exact True.intro | (first | exact h16 | exact h17 | exact h18 | exact h19 | exact h20; done) | omega | simp | (simp; omega) | (simp +contextual; omega))
    refine d1 ?_
    refine d2 66 rfl rfl ?_ (hv := by first | with_reducible exact True.intro | (first | exact h16 | exact h17 | exact h18 | exact h19 | exact h20; done) | omega | simp | (simp; omega) | (simp +contextual; omega))
    refine d2 66 rfl rfl ?_ (hv := by first | with_reducible exact True.intro | (first | exact h16 | exact h17 | exact h18 | exact h19 | exact h20; done) | omega | simp | (simp; omega) | (simp +contextual; omega))
    refine d2 66 rfl rfl ?_ (hv := by first | with_reducible exact True.intro | (first | exact h16 | exact h17 | exact h18 | exact h19 | exact h20; done) | omega | simp | (simp; omega) | (simp +contextual; omega))
    refine d2 66 rfl rfl ?_ (hv := by first | with_reducible exact True.intro | (first | exact h16 | exact h17 | exact h18 | exact h19 | exact h20; done) | omega | simp | (simp; omega) | (simp +contextual; omega))
    refine d2 66 rfl rfl ?_ (hv := by first | with_reducible exact True.intro | (first | exact h16 | exact h17 | exact h18 | exact h19 | exact h20; done) | omega | simp | (simp; omega) | (simp +contextual; omega))
    refine d1 ?_ (hv := by first | with_reducible exact True.intro | (first | exact h16 | exact h17 | exact h18 | exact h19 | exact h20; done) | omega | simp | (simp; omega) | (simp +contextual; omega))
    refine d1 ?_
    refine d2 73 rfl rfl ?_
    refine d2 73 rfl rfl ?_
    refine d2 73 rfl rfl ?_ (hv := by first | with_reducible exact True.intro | (first | exact h16 | exact h17 | exact h18 | exact h19 | exact h20; done) | omega | simp | (simp; omega) | (simp +contextual; omega))
    refine d1 ?_ (hv := by first | with_reducible exact True.intro | (first | exact h16 | exact h17 | exact h18 | exact h19 | exact h20; done) | omega | simp | (simp; omega) | (simp +contextual; omega))
    refine d1 ?_
    refine d2 78 rfl rfl ?_
    refine d2 78 rfl rfl ?_
    refine d2 78 rfl rfl ?_ (hv := by first | with_reducible exact True.intro | (first | exact h16 | exact h17 | exact h18 | exact h19 | exact h20; done) | omega | simp | (simp; omega) | (simp +contextual; omega))
    refine d1 ?_ (hv := by first | with_reducible exact True.intro | (first | exact h16 | exact h17 | exact h18 | exact h19 | exact h20; done) | omega | simp | (simp; omega) | (simp +contextual; omega))
    refine d1 ?_
    refine d2 83 rfl rfl ?_
    refine d1 ?_ (hv := by first | with_reducible exact True.intro | (first | exact h16 | exact h17 | exact h18 | exact h19 | exact h20; done) | omega | simp | (simp; omega) | (simp +contextual; omega))
    refine d1 ?_
    refine d2 86 rfl rfl ?_
    refine d1 ?_ (hv := by first | with_reducible exact True.intro | (first | exact h16 | exact h17 | exact h18 | exact h19 | exact h20; done) | omega | simp | (simp; omega) | (simp +contextual; omega))
    refine d1 ?_
    refine d2 89 rfl rfl ?_
    refine d1 ?_ (hv := by first | with_reducible exact True.intro | (first | exact h16 | exact h17 | exact h18 | exact h19 | exact h20; done) | omega | simp | (simp; omega) | (simp +contextual; omega))
    refine d1 ?_
    refine d2 92 rfl rfl ?_ (hv := by first | with_reducible exact True.intro | (first | exact h16 | exact h17 | exact h18 | exact h19 | exact h20; done) | omega | simp | (simp; omega) | (simp +contextual; omega))
    refine d2 92 rfl rfl ?_ (hv := by first | with_reducible exact True.intro | (first | exact h16 | exact h17 | exact h18 | exact h19 | exact h20; done) | omega | simp | (simp; omega) | (simp +contextual; omega))
    refine d2 92 rfl rfl ?_ (hv := by first | with_reducible exact True.intro | (first | exact h16 | exact h17 | exact h18 | exact h19 | exact h20; done) | omega | simp | (simp; omega) | (simp +contextual; omega))
    refine d1 ?_ (hv := by first | with_reducible exact True.intro | (first | exact h16 | exact h17 | exact h18 | exact h19 | exact h20; done) | omega | simp | (simp; omega) | (simp +contextual; omega))
    refine DGo.nil (by kernel_rfl) ⟨by kernel_rfl, ?_⟩
    refine s1 tok [4] ?_
    refine AOpsO.nil ?_
    exact AW.ret ⟨.inr rfl, _, _, by (conv => lhs; simp), trivial, by simp⟩
end Go.Proofs.YtgoepemmcibdaaaGreatDoor
