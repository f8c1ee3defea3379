import Derived.Test.YtdlejiiiifhiiaaGreatDoorSTreeL2
import Derived.Test.YtdlejiiiifhiiaaGreatDoorSSameL
import Derived.Test.YtdlejiiiifhiiaaGreatDoorM3
namespace Go.Proofs.YtdlejiiiifhiiaaGreatDoor
open Sy Go
set_option maxRecDepth 100000
set_option maxHeartbeats 4000000
set_option linter.unusedSimpArgs false
set_option linter.unusedVariables false
variable {G : Glob}

theorem texts_ev (l m : List (List UInt8)) : AFn Tryz.prog G 31 [.sl 1 (l.map PD.str), .sl 1 (m.map PD.str)] (.bool (eqL eqS l m)) := by
  refine AFn.introU tok Tryz.func31 (by kernel_rfl) rfl rfl ?_
  simp only [Tryz.f31, enumA, List.map_cons, List.map_nil]
  refine AW.seqRegionO [] ?_
  refine s1 tok [0, 1] ?_
  refine AOpsO.nil ?_
  refine AW.seq ?_
  refine AW.seqRegionO [] ?_
  refine s1 tok [0, 1, 6] ?_
  refine s1 tok [0, 1, 7] ?_
  refine s1 tok [0, 1, 7, 8] ?_
  refine s1 tok [0, 1, 7, 9] ?_
  refine s1 tok [0, 1, 10] ?_
  refine AOpsO.nil ?_
  refine AW.cond (c := .tmp 10) (by conv => lhs; simp) trivial ?_ ?_
  · intro h10
    try simp at h10
    have hR : eqL eqS l m = false := by
      rw [← Bool.not_eq_true]; intro h; have := eqL_len h; omega
    refine AW.seqRegionO [] ?_
    refine s1 tok [4] ?_
    refine AOpsO.nil ?_
    exact AW.ret ⟨.inr rfl, _, _, by (conv => lhs; simp), trivial, by simp [hR]⟩
  · intro h10
    try simp at h10
    refine AW.skip ?_
    refine AW.seq ?_
    refine AW.seqRegionO [] ?_
    refine s1 tok [0, 1, 5] ?_
    refine AOpsO.nil ?_
    refine AW.block ?_
    refine AW.slFactU (i := 0) rfl (by decide) ?_; intro hlen; simp at hlen
    refine AW.loop (α := Nat) (fun k => k ≤ l.length ∧ eqL eqS l m = eqL eqS (l.drop k) (m.drop k)) (fun k => ⟨upds 26 [(0, .p (.sl 1 (l.map PD.str))), (1, .p (.sl 1 (m.map PD.str))), (5, .p (.int .i64 k))], [], [], 0⟩) (fun k => l.length - k) (0) ⟨by omega, rfl⟩ ⟨upds_le (by simp), rfl, by simp, by simp⟩ ?_
    rintro k ⟨hk, hall⟩
    refine AW.seq ?_
    refine AW.seqRegionO [] ?_
    refine s1 tok [0, 1, 5, 11] ?_
    refine s1 tok [0, 1, 5, 11, 12] ?_
    refine s1 tok [0, 1, 5, 11, 13] ?_
    refine s1 tok [0, 1, 5, 14] ?_
    refine AOpsO.nil ?_
    refine AW.cond (c := .tmp 14) (by conv => lhs; simp) trivial ?_ ?_
    · intro h14
      try simp at h14
      obtain ⟨x, hx⟩ : ∃ x, l[k]? = some x := ⟨l[k], by simp [h14]⟩
      obtain ⟨y, hy⟩ : ∃ y, m[k]? = some y := ⟨m[k]'(by omega), by simp [show k < m.length by omega]⟩
      have hst := eqL_drop (p := eqS) hx hy
      refine AW.skip ?_
      refine AW.seq ?_
      refine AW.block ?_
      refine AW.seqRunDrawK tok mixed [0, 1, 5, 25] 9 [[0], [5], [17, 18], [19], [1], [5], [21, 22], [23], [20, 24]] [.str x, .str y] [] (by kernel_rfl) (by intro C; conv => lhs; simp) (by simp [hx, hy]) (by simp [Sm.sum, Sm.foot, Sm.tch, Sm.refs]; kernel_rfl) (by intro C; conv => lhs; simp) (by first | with_reducible exact True.intro | omega | simp | (simp; omega) | (simp +contextual; omega)) ?_
      refine AW.cond (c := .tmp 25) (by conv => lhs; simp) trivial ?_ ?_
      · intro h25
        try simp at h25
        have hR : eqL eqS l m = false := by rw [hall, hst]; simp [eqS, h25]
        refine AW.seqRegionO [] ?_
        refine s1 tok [4] ?_
        refine AOpsO.nil ?_
        exact AW.ret ⟨.inr rfl, _, _, by (conv => lhs; simp), trivial, by simp [hR]⟩
      · intro h25
        try simp at h25
        have hnx : eqL eqS l m = eqL eqS (l.drop (k + 1)) (m.drop (k + 1)) := by rw [hall, hst]; simp [eqS, h25]
        refine AW.skip ?_
        refine AW.regionO [] ?_
        refine s1 tok [0, 1, 15] ?_
        refine s1 tok [0, 1, 16] ?_
        refine s1 tok [0, 1, 5] ?_
        refine AOpsO.nil ?_
        exact ⟨k + 1, ⟨by omega, hnx⟩, by omega, upds_le (by simp), rfl, by simp, by simp⟩
    · intro h14
      try simp at h14
      have hR : eqL eqS l m = true := by rw [hall]; exact eqL_end (by omega) (by omega)
      refine AW.exit ?_
      simp
      refine AW.seqRegionO [] ?_
      refine s1 tok [4] ?_
      refine AOpsO.nil ?_
      exact AW.ret ⟨.inr rfl, _, _, by (conv => lhs; simp), trivial, by simp [hR]⟩
theorem refSame_step (a b : Val) (hlm : a.kids.length ≤ 1000000) (ih : ∀ x ∈ a.kids, ∀ y ∈ b.kids, AFn Tryz.prog G 13 [x.enc, y.enc] (.bool (sameT x y))) : AFn Tryz.prog G 13 [a.enc, b.enc] (.bool (sameT a b)) := by
  refine AFn.introU tok Tryz.func13 (by kernel_rfl) rfl rfl ?_
  simp only [Tryz.f13, enumA, List.map_cons, List.map_nil]
  have ht := texts_ev (G := G) a.keys b.keys
  refine AW.seqRegionO [] ?_
  refine s1 tok [1, 2] ?_
  refine s1 tok [2, 3] ?_
  refine s1 tok [2, 3] ?_
  refine AOpsO.nil ?_
  refine AW.seqRegionO [.nilp, .bool (eqL eqS a.keys b.keys)] ?_
  refine s1 tok [2, 3, 8] ?_
  refine s1 tok [2, 3, 9] ?_ (hv := by first | with_reducible exact True.intro | (exact ht; done) | omega | simp | (simp; omega) | (simp +contextual; omega))
  refine s1 tok [2, 3, 9, 10] ?_
  refine s1 tok [2, 3, 9, 11] ?_ (hv := by first | with_reducible exact True.intro | (exact ht; done) | omega | simp | (simp; omega) | (simp +contextual; omega))
  refine s1 tok [2, 3, 12] ?_ (hv := by first | with_reducible exact True.intro | (exact ht; done) | omega | simp | (simp; omega) | (simp +contextual; omega))
  refine s1 tok [2, 3, 5] ?_
  refine AOpsO.nil ?_
  refine AW.seq ?_
  refine AW.seqRegionO [] ?_
  refine s1 tok [2, 3, 5, 13] ?_
  refine s1 tok [2, 3, 5, 14] ?_
  refine s1 tok [2, 3, 5, 14, 15] ?_
  refine s1 tok [2, 3, 5, 14, 16] ?_
  refine s1 tok [2, 3, 5, 17] ?_
  refine s1 tok [2, 3, 5, 18] ?_
  refine s2 tok [2, 3, 5, 18, 19] 18 rfl rfl ?_
  refine s2 tok [2, 3, 5, 18, 20] 18 rfl rfl ?_
  refine s2 tok [2, 3, 5, 18, 20, 21] 18 rfl rfl ?_
  refine s2 tok [2, 3, 5, 18, 20, 22] 18 rfl rfl ?_
  refine s2 tok [2, 3, 5, 18, 23] 18 rfl rfl ?_
  refine s1 tok [2, 3, 5, 24] ?_
  refine s1 tok [2, 3, 5, 25] ?_
  refine s2 tok [2, 3, 5, 25, 26] 25 rfl rfl ?_
  refine s2 tok [2, 3, 5, 25, 27] 25 rfl rfl ?_
  refine s2 tok [2, 3, 5, 25, 27, 28] 25 rfl rfl ?_
  refine s2 tok [2, 3, 5, 25, 27, 29] 25 rfl rfl ?_
  refine s2 tok [2, 3, 5, 25, 30] 25 rfl rfl ?_
  refine s1 tok [2, 3, 5, 31] ?_
  refine s1 tok [2, 3, 5, 32] ?_
  refine s2 tok [2, 3, 5, 32, 33] 32 rfl rfl ?_
  refine s2 tok [2, 3, 5, 32, 34] 32 rfl rfl ?_
  refine s2 tok [2, 3, 5, 32, 34, 35] 32 rfl rfl ?_
  refine s2 tok [2, 3, 5, 32, 34, 36] 32 rfl rfl ?_
  refine s2 tok [2, 3, 5, 32, 37] 32 rfl rfl ?_
  refine s1 tok [2, 3, 5, 38] ?_
  refine s1 tok [2, 3, 5, 39] ?_
  refine s2 tok [2, 3, 5, 39, 40] 39 rfl rfl ?_
  refine s2 tok [2, 3, 5, 39, 41] 39 rfl rfl ?_
  refine s2 tok [2, 3, 5, 39, 41, 42] 39 rfl rfl ?_
  refine s2 tok [2, 3, 5, 39, 41, 43] 39 rfl rfl ?_
  refine s2 tok [2, 3, 5, 39, 44] 39 rfl rfl ?_
  refine s1 tok [2, 3, 5, 45] ?_
  refine s1 tok [2, 3, 5, 46] ?_
  refine s2 tok [2, 3, 46, 47] 46 rfl rfl ?_
  refine s2 tok [2, 3, 46, 48] 46 rfl rfl ?_
  refine s1 tok [2, 3, 49] ?_
  refine s1 tok [2, 3, 50] ?_
  refine s2 tok [2, 3, 50, 51] 50 rfl rfl ?_
  refine s2 tok [2, 3, 50, 52] 50 rfl rfl ?_
  refine s2 tok [2, 3, 50, 53] 50 rfl rfl ?_
  refine s2 tok [2, 3, 50, 53, 54] 50 rfl rfl ?_
  refine s2 tok [2, 3, 50, 53, 55] 50 rfl rfl ?_
  refine s2 tok [2, 3, 50, 53, 56] 50 rfl rfl ?_
  refine s2 tok [2, 3, 50, 57] 50 rfl rfl ?_
  refine s1 tok [2, 3, 58] ?_
  refine AOpsO.nil ?_
  refine AW.cond (c := .tmp 58) (by conv => lhs; simp) trivial ?_ ?_
  · intro h58
    try simp at h58
    have hR : sameT a b = false := by
      rw [← Bool.not_eq_true]; intro h
      have hl : a.kids.length = b.kids.length := by rw [(sameT_iff a b).1 h]
      have hk : eqL eqS a.keys b.keys = true := by rw [(sameT_iff a b).1 h]; exact (eqL_iff (p := eqS) (fun x y => by simp [eqS])).2 rfl
      have := (sameT_iff a b).1 h
      subst this
      simp [hk] at h58
    refine AW.seqRegionO [] ?_
    refine s1 tok [4] ?_
    refine AOpsO.nil ?_
    exact AW.ret ⟨.inr rfl, _, _, by (conv => lhs; simp), trivial, by simp [hR]⟩
  · intro h58
    try simp at h58
    have hE : sameT a b = eqL sameT a.kids b.kids := by
      rw [sameT_eq]; grind
    have hlen : a.kids.length = b.kids.length := by grind
    refine AW.skip ?_
    refine AW.seq ?_
    refine AW.seqRegionO [] ?_
    refine s1 tok [2, 3, 6] ?_
    refine AOpsO.nil ?_
    refine AW.block ?_
    refine AW.loop (α := Nat) (fun k => k ≤ a.kids.length ∧ sameT a b = eqL sameT (a.kids.drop k) (b.kids.drop k)) (fun k => ⟨upds 79 [(2, .ptr 2 0), (3, .ptr 3 0), (6, .p (.int .i64 k))], [], [(2, .vars 31 a.cells), (3, .vars 31 b.cells)], 0⟩) (fun k => a.kids.length - k) (0) ⟨by omega, hE⟩ ⟨upds_le (by simp), rfl, by simp, by simp⟩ ?_
    rintro k ⟨hk, hall⟩
    refine AW.seq ?_
    refine AW.seqRegionO [] ?_
    refine s1 tok [2, 3, 6, 59] ?_
    refine s1 tok [2, 3, 6, 59, 60] ?_
    refine s1 tok [2, 3, 6, 59, 61] ?_
    refine s1 tok [2, 3, 6, 59, 62] ?_
    refine s1 tok [2, 3, 6, 63] ?_
    refine AOpsO.nil ?_
    refine AW.cond (c := .tmp 63) (by conv => lhs; simp) trivial ?_ ?_
    · intro h63
      try simp at h63
      obtain ⟨x, hx⟩ : ∃ x, a.kids[k]? = some x := ⟨a.kids[k], by simp [h63]⟩
      obtain ⟨y, hy⟩ : ∃ y, b.kids[k]? = some y := ⟨b.kids[k]'(by omega), by simp [show k < b.kids.length by omega]⟩
      have hst := eqL_drop (p := sameT) hx hy
      have hgv := ih x (List.mem_of_getElem? hx) y (List.mem_of_getElem? hy)
      simp only [Val.enc_def] at hgv
      refine AW.skip ?_
      refine AW.seq ?_
      refine AW.block ?_
      refine AW.seqRunDrawK tok mixed [2, 3, 6, 7] 11 [[2], [66], [6], [67, 68], [69], [3], [71], [6], [72, 73], [74], [70, 75]] [x.enc, y.enc, .nilp, .bool (sameT x y)] [] (by kernel_rfl) (by intro C; conv => lhs; simp) (by (simp [hx, hy]; exact hgv)) (by simp [Sm.sum, Sm.foot, Sm.tch, Sm.refs]; kernel_rfl) (by intro C; conv => lhs; simp) (by first | with_reducible exact True.intro | omega | simp | (simp; omega) | (simp +contextual; omega)) ?_
      refine AW.seqRegionO [] ?_
      refine s1 tok [2, 3, 6, 77] ?_
      refine s1 tok [2, 3, 6, 78] ?_
      refine AOpsO.nil ?_
      refine AW.cond (c := .tmp 78) (by conv => lhs; simp) trivial ?_ ?_
      · intro h78
        try simp at h78
        have hR : sameT a b = false := by rw [hall, hst]; simp [h78]
        refine AW.seqRegionO [] ?_
        refine s1 tok [4] ?_
        refine AOpsO.nil ?_
        exact AW.ret ⟨.inr rfl, _, _, by (conv => lhs; simp), trivial, by simp [hR]⟩
      · intro h78
        try simp at h78
        have hnx : sameT a b = eqL sameT (a.kids.drop (k + 1)) (b.kids.drop (k + 1)) := by rw [hall, hst]; simp [h78]
        refine AW.skip ?_
        refine AW.regionO [] ?_
        refine s1 tok [2, 3, 64] ?_
        refine s1 tok [2, 3, 65] ?_
        refine s1 tok [2, 3, 6] ?_
        refine AOpsO.nil ?_
        exact ⟨k + 1, ⟨by omega, hnx⟩, by omega, upds_le (by simp), rfl, by simp, by simp⟩
    · intro h63
      try simp at h63
      have hR : sameT a b = true := by rw [hall]; exact eqL_end (by omega) (by omega)
      refine AW.exit ?_
      simp
      refine AW.seqRegionO [] ?_
      refine s1 tok [4] ?_
      refine AOpsO.nil ?_
      exact AW.ret ⟨.inr rfl, _, _, by (conv => lhs; simp), trivial, by simp [hR]⟩
theorem refSame_ev (a : Val) : mayT a = true → ∀ b, AFn Tryz.prog G 13 [a.enc, b.enc] (.bool (sameT a b)) :=
  Val.induct (p := fun a => mayT a = true → ∀ b, AFn Tryz.prog G 13 [a.enc, b.enc] (.bool (sameT a b))) (fun a ih ha b => refSame_step a b (by have := may_small ha; omega) fun x hx y _ => ih x hx (may_kid ha hx) y) a
theorem refSame_sz (a : Val) : Val.sz a ≤ 1000000 → ∀ b, AFn Tryz.prog G 13 [a.enc, b.enc] (.bool (sameT a b)) :=
  Val.induct (p := fun a => Val.sz a ≤ 1000000 → ∀ b, AFn Tryz.prog G 13 [a.enc, b.enc] (.bool (sameT a b))) (fun a ih ha b => refSame_step a b (kids_le_sz ha) fun x hx y _ => ih x hx (by have := Val.sz_kid hx; omega) y) a
theorem refBare_step (v : Val) (hl : v.kids.length ≤ 1000000) (ih : ∀ k ∈ v.kids, AFn Tryz.prog G 14 [k.enc] (bareV k).enc) : AFn Tryz.prog G 14 [v.enc] ((bareV v).enc) := by
  refine AFn.introU tok Tryz.func14 (by kernel_rfl) rfl rfl ?_
  simp only [Tryz.f14, enumA, List.map_cons, List.map_nil]
  refine AW.seqRegionO [] ?_
  refine s1 tok [1] ?_
  refine s1 tok [1, 2] ?_
  refine AOpsO.nil ?_
  refine AW.seqRegionO [] ?_
  refine s1 tok [1, 2, 5] ?_
  refine s1 tok [1, 2] ?_
  refine AOpsO.nil ?_
  refine AW.seqRegionO [] ?_
  refine s1 tok [1, 2, 6] ?_
  refine s1 tok [1, 2, 3] ?_
  refine AOpsO.nil ?_
  refine AW.seq ?_
  refine AW.seqRegionO [] ?_
  refine s1 tok [1, 2, 3, 4] ?_
  refine AOpsO.nil ?_
  refine AW.block ?_
  refine AW.loop (α := Nat) (fun k => k ≤ v.kids.length) (fun k => ⟨upds 26 [(1, .ptr 1 0), (2, .ptr 2 0), (3, .ms 6), (4, .p (.int .i64 k))], [], [(1, .vars 31 (setM v 0).cells), (2, .vars 31 zeroN), (6, .row 31 9 (((v.kids.take k).map bareV).map Val.enc))], 0⟩) (fun k => v.kids.length - k) (0) (by omega) ⟨upds_le (by simp), rfl, by simp, by simp⟩ ?_
  rintro k hk
  refine AW.seq ?_
  refine AW.seqRegionO [] ?_
  refine s1 tok [1, 2, 3, 4, 7] ?_
  refine s1 tok [1, 2, 3, 4, 7, 8] ?_
  refine s1 tok [1, 2, 3, 4, 7, 9] ?_
  refine s1 tok [1, 2, 3, 4, 7, 10] ?_
  refine s1 tok [1, 2, 3, 4, 11] ?_
  refine AOpsO.nil ?_
  refine AW.cond (c := .tmp 11) (by conv => lhs; simp) trivial ?_ ?_
  · intro h11
    try simp at h11
    obtain ⟨x, hx⟩ : ∃ x, v.kids[k]? = some x := ⟨v.kids[k], by simp [h11]⟩
    have hix := ih x (List.mem_of_getElem? hx)
    simp only [Val.enc_def] at hix
    refine AW.skip ?_
    refine AW.seq ?_
    refine AW.block ?_
    refine AW.regionO [x.enc, .nilp, (bareV x).enc, (bareV x).enc] ?_
    refine s1 tok [1, 2, 4, 14] ?_
    refine s1 tok [1, 2, 4, 14, 15] ?_
    refine s1 tok [1, 2, 4, 14, 16] ?_ (hv := by first | with_reducible exact True.intro | (first | (simp at hix ⊢; exact hix) | (simp [hx]; done) | (simp; omega); done) | omega | simp | (simp; omega) | (simp +contextual; omega))
    refine s1 tok [1, 2, 4, 14, 16, 17] ?_
    refine s1 tok [1, 2, 4, 14, 18] ?_ (hv := by first | with_reducible exact True.intro | (first | (simp at hix ⊢; exact hix) | (simp [hx]; done) | (simp; omega); done) | omega | simp | (simp; omega) | (simp +contextual; omega))
    refine s1 tok [1, 2, 4, 14, 19] ?_ (hv := by first | with_reducible exact True.intro | (first | (simp at hix ⊢; exact hix) | (simp [hx]; done) | (simp; omega); done) | omega | simp | (simp; omega) | (simp +contextual; omega))
    refine s1 tok [1, 2, 4, 14, 20] ?_ (hv := by first | with_reducible exact True.intro | (first | (simp at hix ⊢; exact hix) | (simp [hx]; done) | (simp; omega); done) | omega | simp | (simp; omega) | (simp +contextual; omega))
    refine s1 tok [1, 2, 4, 14, 21] ?_ (hv := by first | with_reducible exact True.intro | (first | (simp at hix ⊢; exact hix) | (simp [hx]; done) | (simp; omega); done) | omega | simp | (simp; omega) | (simp +contextual; omega))
    refine s1 tok [1, 2, 4, 22] ?_ (hv := by first | with_reducible exact True.intro | (first | (simp at hix ⊢; exact hix) | (simp [hx]; done) | (simp; omega); done) | omega | simp | (simp; omega) | (simp +contextual; omega))
    refine s1 tok [1, 2, 3, 4] ?_
    refine AOpsO.nil ?_
    refine AW.regionO [] ?_
    refine s1 tok [1, 2, 3, 12] ?_
    refine s1 tok [1, 2, 3, 13] ?_
    refine s1 tok [1, 2, 3, 4] ?_
    refine AOpsO.nil ?_
    exact ⟨k + 1, by omega, by omega, upds_le (by simp [List.take_add_one, hx]), rfl, by simp [List.take_add_one, hx], by simp [List.take_add_one, hx]⟩
  · intro h11
    try simp at h11
    refine AW.exit ?_
    simp
    refine AW.seqRegionO [] ?_
    refine s1 tok [1, 2, 23] ?_
    refine s1 tok [1, 2, 23, 24] ?_
    refine s1 tok [1, 2] ?_
    refine AOpsO.nil ?_
    refine AW.seqRegionO [] ?_
    refine s1 tok [2, 25] ?_
    refine s1 tok [2] ?_
    refine AOpsO.nil ?_
    exact AW.ret ⟨.inr rfl, _, _, by (conv => lhs; simp), trivial, by simp; exact List.take_of_length_le (by simpa using h11)⟩
theorem refBare_ev (v : Val) : mayT v = true → AFn Tryz.prog G 14 [v.enc] (bareV v).enc :=
  Val.induct (p := fun v => mayT v = true → AFn Tryz.prog G 14 [v.enc] (bareV v).enc) (fun v ih hv => refBare_step v (by have := may_small hv; omega) fun k hk => ih k hk (may_kid hv hk)) v
theorem refSize_step (v : Val) (hs : Val.sz v ≤ 1000000) (hlm : v.kids.length ≤ 1000000) (ih : ∀ k ∈ v.kids, AFn Tryz.prog G 10 [k.enc] (.tup [.int .i64 (Val.sz k), .int .i64 (depV k)])) : AFn Tryz.prog G 10 [v.enc] (.tup [.int .i64 (Val.sz v), .int .i64 (depV v)]) := by
  refine AFn.introU tok Tryz.func10 (by kernel_rfl) rfl rfl ?_
  simp only [Tryz.f10, enumA, List.map_cons, List.map_nil]
  have hse := sz_eq v
  have hde := dep_le_sz v
  rw [depV_eq] at hde
  refine AW.seqRegionO [] ?_
  refine s1 tok [1] ?_
  refine s1 tok [1] ?_
  refine s1 tok [1] ?_
  refine AOpsO.nil ?_
  refine AW.seqRegionO [] ?_
  refine s1 tok [1, 4] ?_
  refine AOpsO.nil ?_
  refine AW.seqRegionO [] ?_
  refine s1 tok [1, 4, 5] ?_
  refine AOpsO.nil ?_
  refine AW.seq ?_
  refine AW.seqRegionO [] ?_
  refine s1 tok [1, 4, 5, 6] ?_
  refine AOpsO.nil ?_
  refine AW.block ?_
  refine AW.loop (α := Nat) (fun k => k ≤ v.kids.length) (fun k => ⟨upds 34 [(1, .ptr 1 0), (4, .p (.int .i64 (1 + Val.szL (v.kids.take k) : Nat))), (5, .p (.int .i64 (depL 0 (v.kids.take k)))), (6, .p (.int .i64 k))], [], [(1, .vars 31 v.cells)], 0⟩) (fun k => v.kids.length - k) (0) (by omega) ⟨upds_le (by simp), rfl, by simp, by simp⟩ ?_
  rintro k hk
  refine AW.seq ?_
  refine AW.seqRegionO [] ?_
  refine s1 tok [1, 4, 5, 6, 9] ?_
  refine s1 tok [1, 4, 5, 6, 9, 10] ?_
  refine s1 tok [1, 4, 5, 6, 9, 11] ?_
  refine s1 tok [1, 4, 5, 6, 9, 12] ?_
  refine s1 tok [1, 4, 5, 6, 13] ?_
  refine AOpsO.nil ?_
  refine AW.cond (c := .tmp 13) (by conv => lhs; simp) trivial ?_ ?_
  · intro h13
    try simp at h13
    obtain ⟨x, hx⟩ : ∃ x, v.kids[k]? = some x := ⟨v.kids[k], by simp [h13]⟩
    have hix := ih x (List.mem_of_getElem? hx)
    simp only [Val.enc_def] at hix
    have hst := szL_take hx
    have hle := szL_take_le v.kids (k + 1)
    have hdt := depL_take (m := 0) hx
    have hmx : (if depL 0 (v.kids.take k) < depV x then ((depV x : Nat) : Int) else ((depL 0 (v.kids.take k) : Nat) : Int)) = ((depL 0 (v.kids.take (k + 1)) : Nat) : Int) := by rw [hdt]; split <;> omega
    refine AW.skip ?_
    refine AW.seq ?_
    refine AW.block ?_
    refine AW.seqRegionO [x.enc, .nilp, .tup [.int .i64 (Val.sz x), .int .i64 (depV x)]] ?_
    refine s1 tok [1, 4, 5, 6, 17] ?_
    refine s1 tok [1, 4, 5, 6, 18] ?_ (hv := by first | with_reducible exact True.intro | (first | exact hix | simp [hx]; done) | omega | simp | (simp; omega) | (simp +contextual; omega))
    refine s1 tok [1, 4, 5, 6, 18, 19] ?_
    refine s1 tok [1, 4, 5, 6, 20] ?_ (hv := by first | with_reducible exact True.intro | (first | exact hix | simp [hx]; done) | omega | simp | (simp; omega) | (simp +contextual; omega))
    refine s1 tok [1, 4, 5, 6, 21] ?_ (hv := by first | with_reducible exact True.intro | (first | exact hix | simp [hx]; done) | omega | simp | (simp; omega) | (simp +contextual; omega))
    refine s1 tok [1, 4, 5, 6, 22] ?_ (hv := by first | with_reducible exact True.intro | (first | exact hix | simp [hx]; done) | omega | simp | (simp; omega) | (simp +contextual; omega))
    refine s1 tok [1, 4, 5, 6, 16] ?_
    refine s1 tok [1, 4, 5, 6, 16, 23] ?_
    refine s1 tok [1, 4, 5, 6, 23, 24] ?_
    refine s1 tok [1, 4, 5, 6, 7, 24] ?_
    refine s1 tok [1, 4, 5, 6, 7, 8] ?_
    refine AOpsO.nil ?_
    refine AW.seqRegionO [] ?_
    refine s1 tok [1, 5, 6, 7, 8, 25] ?_
    refine s1 tok [1, 5, 6, 8, 25, 26] ?_
    refine s1 tok [1, 5, 6, 8, 27] ?_
    refine s1 tok [1, 4, 5, 6, 8] ?_
    refine AOpsO.nil ?_
    refine AW.regionO [] ?_
    refine s1 tok [1, 4, 6, 8, 28] ?_
    refine s1 tok [1, 4, 6, 28, 29] ?_
    refine s1 tok [1, 4, 6, 30] ?_
    refine s1 tok [1, 4, 5, 6] ?_
    refine AOpsO.nil ?_
    refine AW.regionO [] ?_
    refine s1 tok [1, 4, 5, 14] ?_
    refine s1 tok [1, 4, 5, 15] ?_
    refine s1 tok [1, 4, 5, 6] ?_
    refine AOpsO.nil ?_
    exact ⟨k + 1, by omega, by omega, upds_le (by simp [show ((1 + Val.szL (v.kids.take (k + 1)) : Nat) : Int) = 1 + (Val.szL (v.kids.take k) : Int) + Val.sz x from by omega, hmx]), rfl, by simp [show ((1 + Val.szL (v.kids.take (k + 1)) : Nat) : Int) = 1 + (Val.szL (v.kids.take k) : Int) + Val.sz x from by omega, hmx], by simp [show ((1 + Val.szL (v.kids.take (k + 1)) : Nat) : Int) = 1 + (Val.szL (v.kids.take k) : Int) + Val.sz x from by omega, hmx]⟩
  · intro h13
    try simp at h13
    rw [List.take_of_length_le h13]
    refine AW.exit ?_
    simp
    refine AW.seqRegionO [] ?_
    refine s1 tok [5, 31] ?_
    refine s1 tok [31, 32] ?_
    refine s1 tok [31, 33] ?_
    refine s1 tok [2, 33] ?_
    refine s1 tok [2, 3] ?_
    refine AOpsO.nil ?_
    exact AW.ret ⟨.inr rfl, _, _, by (conv => lhs; simp), trivial, by simp [hse, depV_eq]⟩
theorem refSize_ev (v : Val) : Val.sz v ≤ 1000000 → AFn Tryz.prog G 10 [v.enc] (.tup [.int .i64 (Val.sz v), .int .i64 (depV v)]) :=
  Val.induct (p := fun v => Val.sz v ≤ 1000000 → AFn Tryz.prog G 10 [v.enc] (.tup [.int .i64 (Val.sz v), .int .i64 (depV v)])) (fun v ih hs => refSize_step v hs (kids_le_sz hs) fun k hk => ih k hk (by have := Val.sz_kid hk; omega)) v
end Go.Proofs.YtdlejiiiifhiiaaGreatDoor
