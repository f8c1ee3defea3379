import Derived.Test.YtgoepemmcibdaaaGreatDoorSTreeRest
import Derived.Test.YtgoepemmcibdaaaGreatDoorSRefRest
import Derived.Test.YtgoepemmcibdaaaGreatDoorSTreeLaw
import Derived.Test.YtgoepemmcibdaaaGreatDoorSShown4
import Derived.Test.YtgoepemmcibdaaaGreatDoorM3
namespace Go.Proofs.YtgoepemmcibdaaaGreatDoor
open Sy Go
set_option maxRecDepth 100000
set_option maxHeartbeats 4000000
set_option linter.unusedSimpArgs false
set_option linter.unusedVariables false
variable {G : Glob}
abbrev belM (b : Bool) (v : Val) : Bool := b || !decide (v.mask = 0)
theorem bel_eq (b : Bool) (v : Val) : (b || decide (v.mask ≠ 0)) = belM b v := by simp [belM]
theorem flatV_no {b : Bool} {v k : Val} (hk : k ∈ v.kids) (h : flatV (belM b v) k = false) : flatV b v = false := by
  rw [flatV_eq, bel_eq, List.all_eq_false.2 ⟨k, hk, by rw [h]; simp⟩]; simp
theorem flat_step (v : Val) (below : Bool) (hlm : v.kids.length ≤ 1000000) (ih : ∀ k ∈ v.kids, ∀ b, AFn Tryz.prog G 23 [k.enc, .bool b] (.bool (flatV b k))) : AFn Tryz.prog G 23 [v.enc, .bool below] (.bool (flatV below v)) := by
  refine AFn.introU tok Tryz.func23 (by kernel_rfl) rfl rfl ?_
  simp only [Tryz.f23, enumA, List.map_cons, List.map_nil]
  refine AW.seqRegionO [] ?_
  refine s1 tok [1, 2] ?_
  refine s1 tok [1, 2] ?_
  refine AOpsO.nil ?_
  refine AW.seq ?_
  refine AW.seqRegionO [] ?_
  refine s1 tok [1, 2, 7] ?_
  refine s1 tok [1, 2, 8] ?_
  refine s2 tok [1, 2, 8, 9] 8 rfl rfl ?_
  refine s2 tok [1, 2, 8, 10] 8 rfl rfl ?_
  refine s2 tok [1, 2, 8, 11] 8 rfl rfl ?_
  refine s1 tok [1, 2, 12] ?_
  refine AOpsO.nil ?_
  refine AW.cond (c := .tmp 12) (by conv => lhs; simp) trivial ?_ ?_
  · intro h12
    try simp at h12
    have hR : flatV below v = false := by rw [flatV_eq]; simp [h12.1, h12.2]
    refine AW.seqRegionO [] ?_
    refine s1 tok [4] ?_
    refine AOpsO.nil ?_
    exact AW.ret ⟨.inr rfl, _, _, by (conv => lhs; simp), trivial, by simp [hR]⟩
  · intro h12
    try simp at h12
    have hE : (below && decide (v.mask ≠ 0)) = false := by
      cases below
      · rfl
      · simpa using h12
    refine AW.skip ?_
    refine AW.seq ?_
    refine AW.seqRegionO [] ?_
    refine s1 tok [1, 2, 5] ?_
    refine AOpsO.nil ?_
    refine AW.block ?_
    refine AW.loop (α := Nat) (fun k => k ≤ v.kids.length ∧ (v.kids.take k).all (flatV (belM below v)) = true) (fun k => ⟨upds 34 [(1, .p (.bool below)), (2, .ptr 2 0), (5, .p (.int .i64 k))], [], [(2, .vars 31 v.cells)], 0⟩) (fun k => v.kids.length - k) (0) ⟨by omega, rfl⟩ ⟨upds_le (by simp), rfl, by simp, by simp⟩ ?_
    rintro k ⟨hk, hall⟩
    refine AW.seq ?_
    refine AW.seqRegionO [] ?_
    refine s1 tok [1, 2, 5, 13] ?_
    refine s1 tok [1, 2, 5, 13, 14] ?_
    refine s1 tok [1, 2, 5, 13, 15] ?_
    refine s1 tok [1, 2, 5, 13, 16] ?_
    refine s1 tok [1, 2, 5, 17] ?_
    refine AOpsO.nil ?_
    refine AW.cond (c := .tmp 17) (by conv => lhs; simp) trivial ?_ ?_
    · intro h17
      try simp at h17
      obtain ⟨x, hx⟩ : ∃ x, v.kids[k]? = some x := ⟨v.kids[k], by simp [h17]⟩
      have hix := ih x (List.mem_of_getElem? hx) (belM below v)
      simp only [Val.enc_def] at hix
      refine AW.skip ?_
      refine AW.seq ?_
      refine AW.block ?_
      refine AW.seqDrawS tok mixed 12 [[2], [20], [5], [21, 22], [23], [1], [25], [2, 26], [27, 26], [28, 26], [26, 29], [24, 30]] [x.enc, .nilp, .bool (flatV (belM below v) x)] [] (by kernel_rfl) ?_
      refine d1 ?_
      refine d1 ?_ (hv := by first | with_reducible exact True.intro | (first | (simp [hx]; done) | (simp at hix ⊢; exact hix) | exact hix; done) | omega | simp | (simp; omega) | (simp +contextual; omega))
      refine d1 ?_
      refine d1 ?_ (hv := by first | with_reducible exact True.intro | (first | (simp [hx]; done) | (simp at hix ⊢; exact hix) | exact hix; done) | omega | simp | (simp; omega) | (simp +contextual; omega))
      refine d1 ?_ (hv := by first | with_reducible exact True.intro | (first | (simp [hx]; done) | (simp at hix ⊢; exact hix) | exact hix; done) | omega | simp | (simp; omega) | (simp +contextual; omega))
      refine d1 ?_
      refine d1 ?_
      refine d2 26 rfl rfl ?_
      refine d2 26 rfl rfl ?_ (hv := by first | with_reducible exact True.intro | (first | (simp [hx]; done) | (simp at hix ⊢; exact hix) | exact hix; done) | omega | simp | (simp; omega) | (simp +contextual; omega))
      refine d2 26 rfl rfl ?_ (hv := by first | with_reducible exact True.intro | (first | (simp [hx]; done) | (simp at hix ⊢; exact hix) | exact hix; done) | omega | simp | (simp; omega) | (simp +contextual; omega))
      refine d1 ?_ (hv := by first | with_reducible exact True.intro | (first | (simp [hx]; done) | (simp at hix ⊢; exact hix) | exact hix; done) | omega | simp | (simp; omega) | (simp +contextual; omega))
      refine d1 ?_ (hv := by first | with_reducible exact True.intro | (first | (simp [hx]; done) | (simp at hix ⊢; exact hix) | exact hix; done) | omega | simp | (simp; omega) | (simp +contextual; omega))
      refine DGo.nil (by kernel_rfl) ⟨by kernel_rfl, ?_⟩
      refine s1 tok [1, 2, 5, 6] ?_
      refine AOpsO.nil ?_
      refine AW.seqRegionO [] ?_
      refine s1 tok [1, 2, 5, 32] ?_
      refine s1 tok [1, 2, 5, 33] ?_
      refine AOpsO.nil ?_
      refine AW.cond (c := .tmp 33) (by conv => lhs; simp) trivial ?_ ?_
      · intro h33
        try simp at h33
        have hno : flatV below v = false := flatV_no (List.mem_of_getElem? hx) h33
        refine AW.seqRegionO [] ?_
        refine s1 tok [4] ?_
        refine AOpsO.nil ?_
        exact AW.ret ⟨.inr rfl, _, _, by (conv => lhs; simp), trivial, by simp [hno]⟩
      · intro h33
        try simp at h33
        refine AW.skip ?_
        refine AW.regionO [] ?_
        refine s1 tok [1, 2, 18] ?_
        refine s1 tok [1, 2, 19] ?_
        refine s1 tok [1, 2, 5] ?_
        refine AOpsO.nil ?_
        exact ⟨k + 1, ⟨by omega, by rw [List.take_add_one, hx, List.all_append, hall]; simpa using h33⟩, by omega, upds_le (by simp), rfl, by simp, by simp⟩
    · intro h17
      try simp at h17
      rw [List.take_of_length_le (by omega)] at hall
      have hyes : flatV below v = true := by rw [flatV_eq, hE, bel_eq, hall]; rfl
      refine AW.exit ?_
      simp
      refine AW.seqRegionO [] ?_
      refine s1 tok [4] ?_
      refine AOpsO.nil ?_
      exact AW.ret ⟨.inr rfl, _, _, by (conv => lhs; simp), trivial, by simp [hyes]⟩
theorem flat_ev (v : Val) : mayT v = true → ∀ b, AFn Tryz.prog G 23 [v.enc, .bool b] (.bool (flatV b v)) :=
  Val.induct (p := fun v => mayT v = true → ∀ b, AFn Tryz.prog G 23 [v.enc, .bool b] (.bool (flatV b v))) (fun v ih hv b => flat_step v b (by have := may_small hv; omega) fun k hk => ih k hk (may_kid hv hk)) v
theorem TreeTidy_ev (hG : U8 G) (l : List Item) (hl : ∀ x ∈ l, x.keys.length ≤ 140737488351232) (hin : ∀ x ∈ l, InM x.mask) : AFn Tryz.prog G 5 [.sl 6 (l.map Item.enc)] (.bool true) := by
  refine AFn.introU tok Tryz.func5 (by kernel_rfl) rfl rfl ?_
  simp only [Tryz.f5, enumA, List.map_cons, List.map_nil]
  have hsh := shown4_ev hG
  have hb := Built_ev (G := G) l hl
  have mv := built_may l
  have iv := built_in hin
  have zv := built_sz l
  generalize builtM l = v at hb mv iv zv
  have mt : mayT (tidyV v) = true := by rw [tidy_may]; exact mv
  have h1 := tidy_ev (G := G) v mv
  have h2 := tidy_ev (G := G) (tidyV v) mt
  rw [tidy_tidy iv] at h2
  have h3 := refSame_ev (G := G) (tidyV v) mt (tidyV v)
  have h4 := refBare_ev (G := G) (tidyV v) mt
  rw [bare_tidy] at h4
  have h5 := refBare_ev (G := G) v mv
  have h6 := refSame_ev (G := G) (bareV v) (by rw [bare_may]; exact mv) (bareV v)
  have h7 := size_ev (G := G) v (by omega)
  have h8 := bare_ev (G := G) v mv
  have h9 := held_ev (G := G) (bareV v) (by rw [bare_sz]; omega)
  rw [held_bare] at h9
  have h10 := with_ev (G := G) v 1 mv
  have h11 := held_ev (G := G) (withV v 1) (by rw [with_sz]; omega)
  rw [held_with v (or_one _)] at h11
  have h12 := flat_ev (G := G) (tidyV v) mt false
  rw [flat_tidy] at h12
  have h13 := deep_ev (G := G) (tidyV v)
  rw [deep_tidy iv] at h13
  have h14 := deep_ev (G := G) v
  have h15 := held_ev (G := G) (tidyV v) (by rw [tidy_sz]; omega)
  rw [held_tidy iv] at h15
  have h16 := held_ev (G := G) v (by omega)
  have f1 := tidy_mask iv
  have f2 : ((heldV v : Int) ≤ (Val.sz v : Int)) = True := eq_true (by have := held_le_sz v; omega)
  have f2' : (heldV v ≤ Val.sz v) = True := eq_true (held_le_sz v)
  rw [same_self] at h3 h6
  generalize withV v 1 = w at *
  generalize bareV v = b at *
  generalize tidyV v = t at *
  simp only [Val.enc_def, Item.enc] at hb h1 h2 h3 h4 h5 h6 h7 h8 h9 h10 h11 h12 h13 h14 h15 h16
  refine AW.seqRegionO [] ?_
  refine s1 tok [0] ?_
  refine AOpsO.nil ?_
  refine AW.seqRegionO [.nilp, .bool true] ?_
  refine s1 tok [0, 11] ?_ (hv := by first | with_reducible exact True.intro | (exact hsh; done) | omega | simp | (simp; omega) | (simp +contextual; omega))
  refine s1 tok [0, 3] ?_
  refine AOpsO.nil ?_
  refine AW.seqRegionO [.nilp, v.enc] ?_
  refine s1 tok [3, 12] ?_
  refine s1 tok [3, 13] ?_ (hv := by first | with_reducible exact True.intro | ((simp at hb ⊢; exact hb); done) | omega | simp | (simp; omega) | (simp +contextual; omega))
  refine s1 tok [3, 4, 13] ?_
  refine s1 tok [3, 4] ?_ (hv := by first | with_reducible exact True.intro | ((simp at hb ⊢; exact hb); done) | omega | simp | (simp; omega) | (simp +contextual; omega))
  refine AOpsO.nil ?_
  refine AW.seqRegionO [.nilp, t.enc] ?_
  refine s1 tok [3, 4, 14] ?_ (hv := by first | with_reducible exact True.intro | (exact h1; done) | omega | simp | (simp; omega) | (simp +contextual; omega))
  refine s1 tok [3, 4, 15] ?_ (hv := by first | with_reducible exact True.intro | (exact h1; done) | omega | simp | (simp; omega) | (simp +contextual; omega))
  refine s1 tok [3, 4, 5, 15] ?_
  refine s1 tok [3, 4, 5] ?_ (hv := by first | with_reducible exact True.intro | (exact h1; done) | omega | simp | (simp; omega) | (simp +contextual; omega))
  refine AOpsO.nil ?_
  refine AW.seqDrawS tok mixed 4 [[5], [16], [5], [17, 18]] [.nilp, t.enc, .nilp, .bool true] [] (by kernel_rfl) ?_
  refine d1 ?_ (hv := by first | with_reducible exact True.intro | (first | exact h2 | exact h3; done) | omega | simp | (simp; omega) | (simp +contextual; omega))
  refine d1 ?_ (hv := by first | with_reducible exact True.intro | (first | exact h2 | exact h3; done) | omega | simp | (simp; omega) | (simp +contextual; omega))
  refine d1 ?_ (hv := by first | with_reducible exact True.intro | (first | exact h2 | exact h3; done) | omega | simp | (simp; omega) | (simp +contextual; omega))
  refine d1 ?_ (hv := by first | with_reducible exact True.intro | (first | exact h2 | exact h3; done) | omega | simp | (simp; omega) | (simp +contextual; omega))
  refine DGo.nil (by kernel_rfl) ⟨by kernel_rfl, ?_⟩
  refine s1 tok [3, 4, 5, 6] ?_
  refine AOpsO.nil ?_
  refine AW.seqDrawS tok mixed 5 [[5], [20], [4], [22], [21, 23]] [.nilp, b.enc, .nilp, b.enc, .nilp, .bool true] [] (by kernel_rfl) ?_
  refine d1 ?_ (hv := by first | with_reducible exact True.intro | (first | exact h4 | exact h5 | exact h6; done) | omega | simp | (simp; omega) | (simp +contextual; omega))
  refine d1 ?_ (hv := by first | with_reducible exact True.intro | (first | exact h4 | exact h5 | exact h6; done) | omega | simp | (simp; omega) | (simp +contextual; omega))
  refine d1 ?_ (hv := by first | with_reducible exact True.intro | (first | exact h4 | exact h5 | exact h6; done) | omega | simp | (simp; omega) | (simp +contextual; omega))
  refine d1 ?_ (hv := by first | with_reducible exact True.intro | (first | exact h4 | exact h5 | exact h6; done) | omega | simp | (simp; omega) | (simp +contextual; omega))
  refine d1 ?_ (hv := by first | with_reducible exact True.intro | (first | exact h4 | exact h5 | exact h6; done) | omega | simp | (simp; omega) | (simp +contextual; omega))
  refine DGo.nil (by kernel_rfl) ⟨by kernel_rfl, ?_⟩
  refine s1 tok [3, 4, 5, 6, 7] ?_
  refine AOpsO.nil ?_
  refine AW.seqRegionO [.nilp, .tup [.int .i64 (Val.sz v), .int .i64 (depV v)]] ?_
  refine s1 tok [3, 4, 5, 6, 7, 26] ?_ (hv := by first | with_reducible exact True.intro | (exact h7; done) | omega | simp | (simp; omega) | (simp +contextual; omega))
  refine s1 tok [3, 4, 5, 6, 7, 27] ?_ (hv := by first | with_reducible exact True.intro | (exact h7; done) | omega | simp | (simp; omega) | (simp +contextual; omega))
  refine s1 tok [3, 4, 5, 6, 7, 25] ?_
  refine s1 tok [3, 4, 5, 6, 7, 25, 28] ?_
  refine s1 tok [3, 4, 5, 6, 7, 28, 29] ?_
  refine s1 tok [3, 4, 5, 6, 7, 8, 29] ?_
  refine s1 tok [3, 4, 5, 6, 7, 8] ?_
  refine AOpsO.nil ?_
  refine AW.seqRegionO [.nilp, b.enc, .nilp, .int .i64 (Val.sz v), .nilp, w.enc, .nilp, .int .i64 1] ?_
  refine s1 tok [3, 4, 5, 6, 7, 8, 30] ?_ (hv := by first | with_reducible exact True.intro | (first | exact h8 | exact h9 | exact h10 | exact h11; done) | omega | simp | (simp; omega) | (simp +contextual; omega))
  refine s1 tok [3, 4, 5, 6, 7, 8, 31] ?_ (hv := by first | with_reducible exact True.intro | (first | exact h8 | exact h9 | exact h10 | exact h11; done) | omega | simp | (simp; omega) | (simp +contextual; omega))
  refine s1 tok [3, 4, 5, 6, 7, 8, 32] ?_ (hv := by first | with_reducible exact True.intro | (first | exact h8 | exact h9 | exact h10 | exact h11; done) | omega | simp | (simp; omega) | (simp +contextual; omega))
  refine s1 tok [3, 4, 5, 6, 7, 8, 32, 33] ?_
  refine s1 tok [3, 4, 5, 6, 7, 8, 34] ?_ (hv := by first | with_reducible exact True.intro | (first | exact h8 | exact h9 | exact h10 | exact h11; done) | omega | simp | (simp; omega) | (simp +contextual; omega))
  refine s1 tok [3, 4, 5, 6, 7, 8, 35] ?_
  refine s2 tok [3, 4, 5, 6, 7, 8, 35, 36] 35 rfl rfl ?_ (hv := by first | with_reducible exact True.intro | (first | exact h8 | exact h9 | exact h10 | exact h11; done) | omega | simp | (simp; omega) | (simp +contextual; omega))
  refine s2 tok [3, 4, 5, 6, 7, 8, 35, 37] 35 rfl rfl ?_ (hv := by first | with_reducible exact True.intro | (first | exact h8 | exact h9 | exact h10 | exact h11; done) | omega | simp | (simp; omega) | (simp +contextual; omega))
  refine s2 tok [3, 4, 5, 6, 7, 8, 35, 38] 35 rfl rfl ?_ (hv := by first | with_reducible exact True.intro | (first | exact h8 | exact h9 | exact h10 | exact h11; done) | omega | simp | (simp; omega) | (simp +contextual; omega))
  refine s2 tok [3, 4, 5, 6, 7, 8, 35, 39] 35 rfl rfl ?_ (hv := by first | with_reducible exact True.intro | (first | exact h8 | exact h9 | exact h10 | exact h11; done) | omega | simp | (simp; omega) | (simp +contextual; omega))
  refine s1 tok [3, 4, 5, 6, 7, 8, 40] ?_ (hv := by first | with_reducible exact True.intro | (first | exact h8 | exact h9 | exact h10 | exact h11; done) | omega | simp | (simp; omega) | (simp +contextual; omega))
  refine s1 tok [3, 4, 5, 6, 7, 8, 10] ?_
  refine AOpsO.nil ?_
  refine AW.seqDrawS tok mixed 44 [[3], [41], [6, 42], [42, 43], [44], [7, 45], [45, 46], [47], [10, 48], [48, 49], [50], [5, 51], [52, 51], [51, 53], [54], [5, 55], [56, 55], [4, 55], [58, 55], [57, 59, 55], [55, 60], [61], [5, 62], [63, 62], [4, 62], [65, 62], [64, 66, 62], [4, 62], [68, 62], [67, 69, 62], [62, 70], [71], [5, 72], [73, 72], [4, 72], [75, 72], [74, 76, 72], [72, 77], [78], [4, 79], [80, 79], [8, 79], [81, 82, 79], [79, 83]] [.nilp, .bool true, .nilp, .int .u64 (deepV v), .nilp, .int .u64 (deepV v), .nilp, .int .i64 (heldV v), .nilp, .int .i64 (heldV v), .nilp, .int .i64 (heldV v)] [] (by kernel_rfl) ?_
  refine d1 ?_ (h := by intro C; conv => lhs; simp [and_wrap, f1, f2, f2'])
  refine d1 ?_ (h := by intro C; conv => lhs; simp [and_wrap, f1, f2, f2'])
  refine d2 42 rfl rfl ?_ (h := by intro C; conv => lhs; simp [and_wrap, f1, f2, f2'])
  refine d1 ?_ (h := by intro C; conv => lhs; simp [and_wrap, f1, f2, f2']) (hv := by first | with_reducible exact True.intro | (first | exact h12 | exact h13 | exact h14 | exact h15 | exact h16; done) | omega | simp | (simp; omega) | (simp +contextual; omega))
  refine d1 ?_ (h := by intro C; conv => lhs; simp [and_wrap, f1, f2, f2'])
  refine d2 45 rfl rfl ?_ (h := by intro C; conv => lhs; simp [and_wrap, f1, f2, f2'])
  refine d1 ?_ (h := by intro C; conv => lhs; simp [and_wrap, f1, f2, f2']) (hv := by first | with_reducible exact True.intro | (first | exact h12 | exact h13 | exact h14 | exact h15 | exact h16; done) | omega | simp | (simp; omega) | (simp +contextual; omega))
  refine d1 ?_ (h := by intro C; conv => lhs; simp [and_wrap, f1, f2, f2'])
  refine d2 48 rfl rfl ?_ (h := by intro C; conv => lhs; simp [and_wrap, f1, f2, f2'])
  refine d1 ?_ (h := by intro C; conv => lhs; simp [and_wrap, f1, f2, f2']) (hv := by first | with_reducible exact True.intro | (first | exact h12 | exact h13 | exact h14 | exact h15 | exact h16; done) | omega | simp | (simp; omega) | (simp +contextual; omega))
  refine d1 ?_ (h := by intro C; conv => lhs; simp [and_wrap, f1, f2, f2'])
  refine d2 51 rfl rfl ?_ (h := by intro C; conv => lhs; simp [and_wrap, f1, f2, f2']) (hv := by first | with_reducible exact True.intro | (first | exact h12 | exact h13 | exact h14 | exact h15 | exact h16; done) | omega | simp | (simp; omega) | (simp +contextual; omega))
  refine d2 51 rfl rfl ?_ (h := by intro C; conv => lhs; simp [and_wrap, f1, f2, f2']) (hv := by first | with_reducible exact True.intro | (first | exact h12 | exact h13 | exact h14 | exact h15 | exact h16; done) | omega | simp | (simp; omega) | (simp +contextual; omega))
  refine d1 ?_ (h := by intro C; conv => lhs; simp [and_wrap, f1, f2, f2']) (hv := by first | with_reducible exact True.intro | (first | exact h12 | exact h13 | exact h14 | exact h15 | exact h16; done) | omega | simp | (simp; omega) | (simp +contextual; omega))
  refine d1 ?_ (h := by intro C; conv => lhs; simp [and_wrap, f1, f2, f2'])
  refine d2 55 rfl rfl ?_ (h := by intro C; conv => lhs; simp [and_wrap, f1, f2, f2']) (hv := by first | with_reducible exact True.intro | (first | exact h12 | exact h13 | exact h14 | exact h15 | exact h16; done) | omega | simp | (simp; omega) | (simp +contextual; omega))
  refine d2 55 rfl rfl ?_ (h := by intro C; conv => lhs; simp [and_wrap, f1, f2, f2']) (hv := by first | with_reducible exact True.intro | (first | exact h12 | exact h13 | exact h14 | exact h15 | exact h16; done) | omega | simp | (simp; omega) | (simp +contextual; omega))
  refine d2 55 rfl rfl ?_ (h := by intro C; conv => lhs; simp [and_wrap, f1, f2, f2']) (hv := by first | with_reducible exact True.intro | (first | exact h12 | exact h13 | exact h14 | exact h15 | exact h16; done) | omega | simp | (simp; omega) | (simp +contextual; omega))
  refine d2 55 rfl rfl ?_ (h := by intro C; conv => lhs; simp [and_wrap, f1, f2, f2']) (hv := by first | with_reducible exact True.intro | (first | exact h12 | exact h13 | exact h14 | exact h15 | exact h16; done) | omega | simp | (simp; omega) | (simp +contextual; omega))
  refine d2 55 rfl rfl ?_ (h := by intro C; conv => lhs; simp [and_wrap, f1, f2, f2']) (hv := by first | with_reducible exact True.intro | (first | exact h12 | exact h13 | exact h14 | exact h15 | exact h16; done) | omega | simp | (simp; omega) | (simp +contextual; omega))
  refine d1 ?_ (h := by intro C; conv => lhs; simp [and_wrap, f1, f2, f2']) (hv := by first | with_reducible exact True.intro | (first | exact h12 | exact h13 | exact h14 | exact h15 | exact h16; done) | omega | simp | (simp; omega) | (simp +contextual; omega))
  refine d1 ?_ (h := by intro C; conv => lhs; simp [and_wrap, f1, f2, f2'])
  refine d2 62 rfl rfl ?_ (h := by intro C; conv => lhs; simp [and_wrap, f1, f2, f2'])
  refine d2 62 rfl rfl ?_ (h := by intro C; conv => lhs; simp [and_wrap, f1, f2, f2']) (hv := by first | with_reducible exact True.intro | (first | exact h12 | exact h13 | exact h14 | exact h15 | exact h16; done) | omega | simp | (simp; omega) | (simp +contextual; omega))
  refine d2 62 rfl rfl ?_ (h := by intro C; conv => lhs; simp [and_wrap, f1, f2, f2'])
  refine d2 62 rfl rfl ?_ (h := by intro C; conv => lhs; simp [and_wrap, f1, f2, f2']) (hv := by first | with_reducible exact True.intro | (first | exact h12 | exact h13 | exact h14 | exact h15 | exact h16; done) | omega | simp | (simp; omega) | (simp +contextual; omega))
  refine d2 62 rfl rfl ?_ (h := by intro C; conv => lhs; simp [and_wrap, f1, f2, f2']) (hv := by first | with_reducible exact True.intro | (first | exact h12 | exact h13 | exact h14 | exact h15 | exact h16; done) | omega | simp | (simp; omega) | (simp +contextual; omega))
  refine d2 62 rfl rfl ?_ (h := by intro C; conv => lhs; simp [and_wrap, f1, f2, f2'])
  refine d2 62 rfl rfl ?_ (h := by intro C; conv => lhs; simp [and_wrap, f1, f2, f2']) (hv := by first | with_reducible exact True.intro | (first | exact h12 | exact h13 | exact h14 | exact h15 | exact h16; done) | omega | simp | (simp; omega) | (simp +contextual; omega))
  refine d2 62 rfl rfl ?_ (h := by intro C; conv => lhs; simp [and_wrap, f1, f2, f2']) (hv := by first | with_reducible exact True.intro | (first | exact h12 | exact h13 | exact h14 | exact h15 | exact h16; done) | omega | simp | (simp; omega) | (simp +contextual; omega))
  refine d1 ?_ (h := by intro C; conv => lhs; simp [and_wrap, f1, f2, f2']) (hv := by first | with_reducible exact True.intro | (first | exact h12 | exact h13 | exact h14 | exact h15 | exact h16; done) | omega | simp | (simp; omega) | (simp +contextual; omega))
  refine d1 ?_ (h := by intro C; conv => lhs; simp [and_wrap, f1, f2, f2'])
  refine d2 72 rfl rfl ?_ (h := by intro C; conv => lhs; simp [and_wrap, f1, f2, f2']) (hv := by first | with_reducible exact True.intro | (first | exact h12 | exact h13 | exact h14 | exact h15 | exact h16; done) | omega | simp | (simp; omega) | (simp +contextual; omega))
  refine d2 72 rfl rfl ?_ (h := by intro C; conv => lhs; simp [and_wrap, f1, f2, f2']) (hv := by first | with_reducible exact True.intro | (first | exact h12 | exact h13 | exact h14 | exact h15 | exact h16; done) | omega | simp | (simp; omega) | (simp +contextual; omega))
  refine d2 72 rfl rfl ?_ (h := by intro C; conv => lhs; simp [and_wrap, f1, f2, f2']) (hv := by first | with_reducible exact True.intro | (first | exact h12 | exact h13 | exact h14 | exact h15 | exact h16; done) | omega | simp | (simp; omega) | (simp +contextual; omega))
  refine d2 72 rfl rfl ?_ (h := by intro C; conv => lhs; simp [and_wrap, f1, f2, f2']) (hv := by first | with_reducible exact True.intro | (first | exact h12 | exact h13 | exact h14 | exact h15 | exact h16; done) | omega | simp | (simp; omega) | (simp +contextual; omega))
  refine d2 72 rfl rfl ?_ (h := by intro C; conv => lhs; simp [and_wrap, f1, f2, f2']) (hv := by first | with_reducible exact True.intro | (first | exact h12 | exact h13 | exact h14 | exact h15 | exact h16; done) | omega | simp | (simp; omega) | (simp +contextual; omega))
  refine d1 ?_ (h := by intro C; conv => lhs; simp [and_wrap, f1, f2, f2']) (hv := by first | with_reducible exact True.intro | (first | exact h12 | exact h13 | exact h14 | exact h15 | exact h16; done) | omega | simp | (simp; omega) | (simp +contextual; omega))
  refine d1 ?_ (h := by intro C; conv => lhs; simp [and_wrap, f1, f2, f2'])
  refine d2 79 rfl rfl ?_ (h := by intro C; conv => lhs; simp [and_wrap, f1, f2, f2']) (hv := by first | with_reducible exact True.intro | (first | exact h12 | exact h13 | exact h14 | exact h15 | exact h16; done) | omega | simp | (simp; omega) | (simp +contextual; omega))
  refine d2 79 rfl rfl ?_ (h := by intro C; conv => lhs; simp [and_wrap, f1, f2, f2']) (hv := by first | with_reducible exact True.intro | (first | exact h12 | exact h13 | exact h14 | exact h15 | exact h16; done) | omega | simp | (simp; omega) | (simp +contextual; omega))
  refine d2 79 rfl rfl ?_ (h := by intro C; conv => lhs; simp [and_wrap, f1, f2, f2'])
  refine d2 79 rfl rfl ?_ (h := by intro C; conv => lhs; simp [and_wrap, f1, f2, f2']) (hv := by first | with_reducible exact True.intro | (first | exact h12 | exact h13 | exact h14 | exact h15 | exact h16; done) | omega | simp | (simp; omega) | (simp +contextual; omega))
  refine d1 ?_ (h := by intro C; conv => lhs; simp [and_wrap, f1, f2, f2']) (hv := by first | with_reducible exact True.intro | (first | exact h12 | exact h13 | exact h14 | exact h15 | exact h16; done) | omega | simp | (simp; omega) | (simp +contextual; omega))
  refine DGo.nil (by kernel_rfl) ⟨by kernel_rfl, ?_⟩
  refine s1 tok [2] ?_ (h := by intro C; conv => lhs; simp [and_wrap, f1, f2, f2'])
  refine AOpsO.nil ?_
  exact AW.ret ⟨.inr rfl, _, _, by (conv => lhs; simp), trivial, by simp⟩
end Go.Proofs.YtgoepemmcibdaaaGreatDoor
