import Derived.Test.YtgoepemmcibdaaaGreatDoorSTreeRest
import Derived.Test.YtgoepemmcibdaaaGreatDoorSRefRest
import Derived.Test.YtgoepemmcibdaaaGreatDoorSTreeLaw2
import Derived.Test.YtgoepemmcibdaaaGreatDoorSShown4
import Derived.Test.YtgoepemmcibdaaaGreatDoorM3
namespace Go.Proofs.YtgoepemmcibdaaaGreatDoor
open Sy Go
set_option maxRecDepth 100000
set_option maxHeartbeats 4000000
set_option linter.unusedSimpArgs false
set_option linter.unusedVariables false
variable {G : Glob}
theorem cloneR_ax (a b c d e f g : V) (ks kids : List PD) : AX Tryz.prog G 65 [.ptr 902 0] [(902, .vars 31 [a, b, c, d, e, f, .ms 909, .ms 912, g]), (909, .row 9 1 ks), (912, .row 31 9 kids)] (.tuple []) [902, 909, 912] [(902, .vars 31 [a, b, c, d, e, f, .ms 909, .ms 912, g]), (909, .row 9 1 ks), (912, .row 31 9 kids)] := by
  refine AX.introU tok 800 Tryz.func65 (by kernel_rfl) rfl rfl ?_
  simp only [Tryz.f65, enumA, List.map_cons, List.map_nil]
  refine AW.skip ?_
  exact ⟨.inl rfl, _, _, by (conv => lhs; simp), trivial, by simp, by simp, by simp, by simp⟩
theorem mappedR_ax (v : Val) (hv : mayT v = true) : AX Tryz.prog G 54 [.p v.enc, .p (.fn 65)] [] (.agg [.p (.int .i64 v.kind), .p (.int .u64 v.mask), .p (.bool v.num.neg), .p (.str v.num.digits), .p (.int .i64 v.num.scale), .p (.str v.text), .ms 909, .ms 912, .p (.int .i64 v.code)]) [] [(909, .row 9 1 (v.keys.map PD.str)), (912, .row 31 9 (v.kids.map Val.enc))] := by
  refine AX.introU tok 900 Tryz.func54 (by kernel_rfl) rfl rfl ?_
  simp only [Tryz.f54, enumA, List.map_cons, List.map_nil]
  have hsm := may_small hv
  have hck := cloneK_ar (G := G) v.keys (by omega)
  have hcv := cloneV_ar (G := G) v.kids (by omega)
  have ih : ∀ k ∈ v.kids, AFn Tryz.prog G 54 [k.enc, .fn 65] (mapV id k).enc := fun k hk => mapped_ev (G := G) 65 id clone1_ax k (may_kid hv hk)
  refine AW.seqRegionO [] ?_
  refine s1 tok [1, 2] ?_
  refine s1 tok [1, 2, 4] ?_
  refine AOpsO.nil ?_
  refine AW.seqRunDrawK tok mixed [1, 2, 4] 8 [[2], [7], [8], [2], [10], [11], [2], [13, 9]] [.nilf, .sl 1 (v.keys.map PD.str), .clo 9 [], .nilf, .sl 9 (v.kids.map Val.enc), .clo 31 []] [] (by kernel_rfl) (by intro C; conv => lhs; simp) (by first | exact hck | exact hcv | ((repeat' (first | with_reducible apply And.intro | intro _)) <;> first | exact (hck) | exact (hcv) | assumption | omega | contradiction | simp_all)) (by simp [Sm.sum, Sm.foot, Sm.tch, Sm.refs]; kernel_rfl) (by intro C; conv => lhs; simp) (by first | with_reducible exact True.intro | omega | simp | (simp; omega) | (simp +contextual; omega)) ?_
  refine AW.seq ?_
  refine AW.seqRegionO [] ?_
  refine s1 tok [1, 2, 4, 15] ?_
  refine s1 tok [1, 2, 4, 16] ?_
  refine s1 tok [1, 2, 4, 16, 17] ?_
  refine s1 tok [1, 2, 4, 16, 17, 18] ?_
  refine AOpsO.nil ?_
  refine AW.block ?_
  refine AW.loop (α := Nat) (fun k => k ≤ v.kids.length) (fun k => ⟨upds 34 [(1, .p (.fn 65)), (2, .ptr 902 0), (4, .ptr 904 0), (16, .ms 912), (17, .p (.int .i64 v.kids.length)), (18, .p (.int .i64 k))], [], [(902, .vars 31 [.p (.int .i64 v.kind), .p (.int .u64 v.mask), .p (.bool v.num.neg), .p (.str v.num.digits), .p (.int .i64 v.num.scale), .p (.str v.text), .ms 909, .ms 912, .p (.int .i64 v.code)]), (904, .vars 31 zeroN), (909, .row 9 1 (v.keys.map PD.str)), (912, .row 31 9 (kidsAt id v k))], 900⟩) (fun k => v.kids.length - k) (0) (by simp) ⟨upds_le (by simp), rfl, by simp, by simp⟩ ?_
  rintro k hk
  refine AW.seqRegionO [] ?_
  refine s1 tok [1, 2, 4, 16, 17, 18, 19] ?_
  refine AOpsO.nil ?_
  refine AW.seq ?_
  refine AW.cond (c := .tmp 19) (by conv => lhs; simp) trivial ?_ ?_
  · intro h19
    try simp at h19
    obtain ⟨x, hx⟩ : ∃ x, v.kids[k]? = some x := ⟨v.kids[k], by simp [h19]⟩
    have hix := ih x (List.mem_of_getElem? hx)
    have hx' := kidsAt_get (ch := id) hx
    have hkl := kidsAt_len id v k
    have hset := kidsAt_set (ch := id) hx
    rw [mapV_id] at hix hset
    simp only [Val.enc_def] at hx' hix hset
    refine AW.skip ?_
    refine AW.seq ?_
    refine AW.block ?_
    refine AW.seqRegionO [x.enc] ?_
    refine s1 tok [1, 2, 4, 16, 17, 18, 20] ?_
    refine s1 tok [1, 2, 4, 16, 17, 18, 20, 21] ?_ (hv := by first | with_reducible exact True.intro | (simpa using hx'; done) | omega | simp | (simp; omega) | (simp +contextual; omega))
    refine s1 tok [1, 2, 4, 16, 17, 18, 20, 22] ?_ (hv := by first | with_reducible exact True.intro | (simpa using hx'; done) | omega | simp | (simp; omega) | (simp +contextual; omega))
    refine s1 tok [1, 2, 4, 6, 16, 17, 18, 20, 22] ?_
    refine s1 tok [1, 2, 4, 5, 6, 16, 17, 18, 22] ?_
    refine s1 tok [1, 2, 4, 5, 6, 16, 17, 18] ?_ (hv := by first | with_reducible exact True.intro | (simpa using hx'; done) | omega | simp | (simp; omega) | (simp +contextual; omega))
    refine AOpsO.nil ?_
    refine AW.runDrawK tok mixed [1, 2, 4, 16, 17, 18] 6 [[2], [23], [5], [6], [1], [26, 27]] [.nilp, x.enc] [x.enc, x.enc] (by kernel_rfl) (by intro C; conv => lhs; simp) (by first | exact hix | ((repeat' (first | with_reducible apply And.intro | intro _)) <;> first | exact (hix) | exact (hx') | assumption | omega | contradiction | simp_all)) (by simp [Sm.sum, Sm.foot, Sm.tch, Sm.refs]; kernel_rfl) (by intro C; conv => lhs; simp) (by exact ⟨by omega, hx'⟩) ?_
    refine AW.regionO [] ?_
    refine s1 tok [1, 2, 4, 16, 17, 30] ?_
    refine s1 tok [1, 2, 4, 16, 17, 18] ?_
    refine AOpsO.nil ?_
    exact ⟨k + 1, (by omega), (by omega), upds_le (by simp [hset]), rfl, by simp [hset], by simp [hset]⟩
  · intro h19
    try simp at h19
    obtain rfl : k = v.kids.length := by omega
    have hfull : kidsAt id v v.kids.length = v.kids.map Val.enc := by simp only [kidsAt, List.take_length, List.drop_length, List.map_nil, List.append_nil, mapV_id]
    rw [hfull]
    refine AW.exit ?_
    simp
    refine AW.seqRegionO [] ?_
    refine s1 tok [2, 4, 31] ?_
    refine AOpsO.stepK [2, 4] (y_cx rfl (cloneR_ax (.p (.int .i64 v.kind)) (.p (.int .u64 v.mask)) (.p (.bool v.num.neg)) (.p (.str v.num.digits)) (.p (.int .i64 v.num.scale)) (.p (.str v.text)) (.p (.int .i64 v.code)) (v.keys.map PD.str) (v.kids.map Val.enc)) (by simp)) (by conv => lhs; simp) rfl ?_
    refine AOpsO.nil ?_
    refine AW.seqRegionO [] ?_
    refine s1 tok [4, 33] ?_
    refine s1 tok [4] ?_
    refine AOpsO.nil ?_
    exact AW.ret ⟨.inr rfl, _, _, by (conv => lhs; simp), trivial, by simp, by simp, by simp, by simp⟩
theorem cloneR_ev (v : Val) (hv : mayT v = true) : AX Tryz.prog G 28 [.p v.enc] [] (.agg [.p (.int .i64 v.kind), .p (.int .u64 v.mask), .p (.bool v.num.neg), .p (.str v.num.digits), .p (.int .i64 v.num.scale), .p (.str v.text), .ms 909, .ms 912, .p (.int .i64 v.code)]) [] [(909, .row 9 1 (v.keys.map PD.str)), (912, .row 31 9 (v.kids.map Val.enc))] := by
  refine AX.introU tok 1900 Tryz.func28 (by kernel_rfl) rfl rfl ?_
  simp only [Tryz.f28, enumA, List.map_cons, List.map_nil]
  have hm := mappedR_ax (G := G) v hv
  simp only [Val.enc_def] at hm
  refine AW.seqRegionO [] ?_
  refine s1 tok [1] ?_
  refine s1 tok [1, 2] ?_
  refine AOpsO.nil ?_
  refine AW.seqRegionO [] ?_
  refine s1 tok [2, 3] ?_
  refine AOpsO.stepK [2, 4] (y_cx rfl hm (by simp)) (by conv => lhs; simp) rfl ?_
  refine s1 tok [2] ?_
  refine AOpsO.nil ?_
  exact AW.ret ⟨.inr rfl, _, _, by (conv => lhs; simp), trivial, by simp, by simp, by simp, by simp⟩
/-- A mask that is one more. -/
def bumpV (u : Val) : Val := setM u (IntKind.u64.wrap (u.mask + 1))
theorem TreeKids_ev (hG : U8 G) (l : List Item) (hl : ∀ x ∈ l, x.keys.length ≤ 140737488351232) : AFn Tryz.prog G 7 [.sl 6 (l.map Item.enc)] (.bool true) := by
  refine AFn.introU tok Tryz.func7 (by kernel_rfl) rfl rfl ?_
  simp only [Tryz.f7, enumA, List.map_cons, List.map_nil]
  have hsh := shown4_ev hG
  have hb := Built_ev (G := G) l hl
  have mv := built_may l
  have zv := built_sz l
  generalize builtM l = v at hb mv zv
  have hsm := may_small mv
  have h1 := clone_ev (G := G) v mv
  have h2 := cloneR_ev (G := G) v mv
  have h3 := sameT_ev (G := G) v v
  rw [same_self] at h3
  have h4 := at_ev (G := G) v v.kids.length mv (by omega)
  rw [at_over] at h4
  have h5 := at_ev (G := G) v (-v.kids.length - 1) mv (by omega)
  rw [at_under] at h5
  have f5 : IntKind.i64.wrap (-(v.kids.length : Int)) = -(v.kids.length : Int) := by simp [IntKind.wrap, IntKind.bits, IntKind.signed]; omega
  simp only [Val.enc_def, Item.enc] at hb h1 h2 h3 h4 h5
  refine AW.seqRegionO [] ?_
  refine s1 tok [0] ?_
  refine AOpsO.nil ?_
  refine AW.seqRegionO [.nilp, .bool true] ?_
  refine s1 tok [0, 21] ?_ (hv := by first | with_reducible exact True.intro | (exact hsh; done) | omega | simp | (simp; omega) | (simp +contextual; omega))
  refine s1 tok [0, 3] ?_
  refine AOpsO.nil ?_
  refine AW.seqRegionO [.nilp, v.enc] ?_
  refine s1 tok [3, 22] ?_
  refine s1 tok [3, 23] ?_ (hv := by first | with_reducible exact True.intro | ((simp at hb ⊢; exact hb); done) | omega | simp | (simp; omega) | (simp +contextual; omega))
  refine s1 tok [3, 4, 23] ?_
  refine s1 tok [3, 4] ?_ (hv := by first | with_reducible exact True.intro | ((simp at hb ⊢; exact hb); done) | omega | simp | (simp; omega) | (simp +contextual; omega))
  refine AOpsO.nil ?_
  refine AW.seqRegionO [.nilp, v.enc] ?_
  refine s1 tok [3, 4, 24] ?_ (hv := by first | with_reducible exact True.intro | (exact h1; done) | omega | simp | (simp; omega) | (simp +contextual; omega))
  refine s1 tok [3, 4, 25] ?_ (hv := by first | with_reducible exact True.intro | (exact h1; done) | omega | simp | (simp; omega) | (simp +contextual; omega))
  refine s1 tok [3, 4, 5, 25] ?_
  refine s1 tok [3, 4, 5] ?_ (hv := by first | with_reducible exact True.intro | (exact h1; done) | omega | simp | (simp; omega) | (simp +contextual; omega))
  refine AOpsO.nil ?_
  refine AW.seq ?_
  refine AW.seqRegionO [] ?_
  refine s1 tok [3, 4, 5, 6] ?_
  refine AOpsO.nil ?_
  refine AW.block ?_
  refine AW.loop (α := Nat) (fun k => k ≤ v.kids.length) (fun k => ⟨upds 160 [(3, .p (.bool true)), (4, .ptr 4 0), (5, .ptr 5 0), (6, .p (.int .i64 k))], [], [(4, .vars 31 v.cells), (5, .vars 31 v.cells)], 0⟩) (fun k => v.kids.length - k) (0) (by omega) ⟨upds_le (by simp), rfl, by simp, by simp⟩ ?_
  rintro k hk
  refine AW.seq ?_
  refine AW.seqRegionO [] ?_
  refine s1 tok [3, 4, 5, 6, 26] ?_
  refine s1 tok [3, 4, 5, 6, 26, 27] ?_
  refine s1 tok [3, 4, 5, 6, 26, 28] ?_
  refine s1 tok [3, 4, 5, 6, 26, 29] ?_
  refine s1 tok [3, 4, 5, 6, 30] ?_
  refine AOpsO.nil ?_
  refine AW.cond (c := .tmp 30) (by conv => lhs; simp) trivial ?_ ?_
  · intro h30
    try simp at h30
    obtain ⟨x, hx⟩ : ∃ x, v.kids[k]? = some x := ⟨v.kids[k], by simp [h30]⟩
    have hkm := List.mem_of_getElem? hx
    have zx := Val.sz_kid hkm
    obtain ⟨w, e1, e2, zw⟩ : ∃ w, atV v k = (w, decide (v.kind = 6)) ∧ atV v (k - v.kids.length) = (w, decide (v.kind = 6)) ∧ Val.sz w ≤ 80 := by
      by_cases h6 : v.kind = 6
      · obtain ⟨a1, a2⟩ := at_in (i := k) h6 (by omega) (by simpa using hx)
        exact ⟨withV x v.mask, by rw [a1]; simp [h6], by rw [a2]; simp [h6], by rw [with_sz]; omega⟩
      · exact ⟨zeroV, by rw [at_no (.inl h6)]; simp [h6], by rw [at_no (.inl h6)]; simp [h6], by decide +kernel⟩
    have a1 := at_ev (G := G) v k mv (by omega)
    have a2 := at_ev (G := G) v (k - v.kids.length) mv (by omega)
    rw [e1] at a1
    rw [e2] at a2
    have a3 := refSame_sz (G := G) w (by omega) w
    rw [same_self] at a3
    have b1 : ∀ s, v.kind = 7 → v.keys[k]? = some s → AFn Tryz.prog G 12 [v.enc, .str s] (.tup [(withV x v.mask).enc, .bool true]) := fun s h7 hs => by
      have := get_ev (G := G) v s mv
      rw [get_in mv h7 hx hs] at this; exact this
    have b2 := refWith_ev (G := G) x v.mask
    have b3 := refSame_sz (G := G) (withV x v.mask) (by rw [with_sz]; omega) (withV x v.mask)
    rw [same_self] at b3
    generalize withV x v.mask = y at *
    simp only [Val.enc_def] at a1 a2 a3 b1 b2 b3
    refine AW.skip ?_
    refine AW.seq ?_
    refine AW.block ?_
    refine AW.seqRegionO [.nilp, .tup [w.enc, .bool (decide (v.kind = 6))]] ?_
    refine s1 tok [3, 4, 5, 6, 34] ?_ (hv := by first | with_reducible exact True.intro | (exact a1; done) | omega | simp | (simp; omega) | (simp +contextual; omega))
    refine s1 tok [3, 4, 5, 6, 34, 35] ?_
    refine s1 tok [3, 4, 5, 6, 36] ?_ (hv := by first | with_reducible exact True.intro | (exact a1; done) | omega | simp | (simp; omega) | (simp +contextual; omega))
    refine s1 tok [3, 4, 5, 6, 33] ?_
    refine s1 tok [3, 4, 5, 6, 33, 37] ?_
    refine s1 tok [3, 4, 5, 6, 37, 38] ?_
    refine s1 tok [3, 4, 5, 6, 7, 37, 38] ?_
    refine s1 tok [3, 4, 5, 6, 7, 38] ?_ (hv := by first | with_reducible exact True.intro | (exact a1; done) | omega | simp | (simp; omega) | (simp +contextual; omega))
    refine s1 tok [3, 4, 5, 6, 7, 8] ?_
    refine AOpsO.nil ?_
    refine AW.seqRegionO [.nilp, .tup [w.enc, .bool (decide (v.kind = 6))]] ?_
    refine s1 tok [3, 4, 5, 6, 7, 8, 40] ?_ (hv := by first | with_reducible exact True.intro | (exact a2; done) | omega | simp | (simp; omega) | (simp +contextual; omega))
    refine s1 tok [3, 4, 5, 6, 7, 8, 40, 41] ?_
    refine s1 tok [3, 4, 5, 6, 7, 8, 40, 41, 42] ?_
    refine s1 tok [3, 4, 5, 6, 7, 8, 40, 41, 43] ?_ (hv := by first | with_reducible exact True.intro | (exact a2; done) | omega | simp | (simp; omega) | (simp +contextual; omega))
    refine s1 tok [3, 4, 5, 6, 7, 8, 40, 41, 44] ?_ (hv := by first | with_reducible exact True.intro | (exact a2; done) | omega | simp | (simp; omega) | (simp +contextual; omega))
    refine s1 tok [3, 4, 5, 6, 7, 8, 40, 45] ?_ (hv := by first | with_reducible exact True.intro | (exact a2; done) | omega | simp | (simp; omega) | (simp +contextual; omega))
    refine s1 tok [3, 4, 5, 6, 7, 8, 46] ?_ (hv := by first | with_reducible exact True.intro | (exact a2; done) | omega | simp | (simp; omega) | (simp +contextual; omega))
    refine s1 tok [3, 4, 5, 6, 7, 8, 39] ?_
    refine s1 tok [3, 4, 5, 6, 7, 8, 39, 47] ?_
    refine s1 tok [3, 4, 5, 6, 7, 8, 47, 48] ?_
    refine s1 tok [3, 4, 5, 6, 7, 8, 9, 47, 48] ?_
    refine s1 tok [3, 4, 5, 6, 7, 8, 9, 48] ?_ (hv := by first | with_reducible exact True.intro | (exact a2; done) | omega | simp | (simp; omega) | (simp +contextual; omega))
    refine s1 tok [3, 4, 5, 6, 7, 8, 9, 10] ?_
    refine AOpsO.nil ?_
    refine AW.seqRegionO [.nilp, .bool true] ?_
    refine s1 tok [3, 4, 5, 6, 8, 9, 10, 49] ?_ (hv := by first | with_reducible exact True.intro | (exact a3; done) | omega | simp | (simp; omega) | (simp +contextual; omega))
    refine s1 tok [3, 4, 5, 6, 8, 10, 49, 50] ?_ (hv := by first | with_reducible exact True.intro | (exact a3; done) | omega | simp | (simp; omega) | (simp +contextual; omega))
    refine s1 tok [3, 4, 5, 6, 8, 10, 51] ?_ (hv := by first | with_reducible exact True.intro | (exact a3; done) | omega | simp | (simp; omega) | (simp +contextual; omega))
    refine s1 tok [3, 4, 5, 6, 8, 10, 11] ?_
    refine AOpsO.nil ?_
    refine AW.seq ?_
    by_cases hs10 : v.kind = 6
    ·
      refine AW.seqRegionO [] ?_
      refine s1 tok [3, 4, 5, 6, 8, 10, 11, 52] ?_ (h := by intro C; conv => lhs; simp [hs10])
      refine s1 tok [3, 4, 5, 6, 8, 10, 11, 53] ?_ (h := by intro C; conv => lhs; simp [hs10])
      refine s1 tok [3, 4, 5, 6, 8, 10, 11, 54] ?_ (h := by intro C; conv => lhs; simp [hs10])
      refine s1 tok [3, 4, 5, 6, 8, 10, 11, 55] ?_ (h := by intro C; conv => lhs; simp [hs10])
      refine s2 tok [3, 4, 5, 6, 8, 10, 11, 55, 56] 55 rfl rfl ?_ (h := by intro C; conv => lhs; simp [hs10])
      refine s2 tok [3, 4, 5, 6, 8, 10, 11, 55, 57] 55 rfl rfl ?_ (h := by intro C; conv => lhs; simp [hs10])
      refine s2 tok [3, 4, 5, 6, 8, 10, 11, 55, 58] 55 rfl rfl ?_ (h := by intro C; conv => lhs; simp [hs10])
      refine s2 tok [3, 4, 5, 6, 8, 10, 11, 55, 58, 59] 58 rfl rfl ?_ (h := by intro C; conv => lhs; simp [hs10])
      refine s2 tok [3, 4, 5, 6, 8, 10, 11, 55, 58, 60] 58 rfl rfl ?_ (h := by intro C; conv => lhs; simp [hs10])
      refine s2 tok [3, 4, 5, 6, 8, 10, 11, 55, 61] 55 rfl rfl ?_ (h := by intro C; conv => lhs; simp [hs10])
      refine s2 tok [3, 4, 5, 6, 8, 10, 11, 55, 62] 55 rfl rfl ?_ (h := by intro C; conv => lhs; simp [hs10])
      refine s2 tok [3, 4, 5, 6, 8, 10, 55, 62, 63] 62 rfl rfl ?_ (h := by intro C; conv => lhs; simp [hs10])
      refine s2 tok [3, 4, 5, 6, 8, 10, 55, 62, 64] 62 rfl rfl ?_ (h := by intro C; conv => lhs; simp [hs10])
      refine s2 tok [3, 4, 5, 6, 8, 10, 55, 65] 55 rfl rfl ?_ (h := by intro C; conv => lhs; simp [hs10])
      refine s1 tok [3, 4, 5, 6, 8, 10, 66] ?_ (h := by intro C; conv => lhs; simp [hs10])
      refine s1 tok [3, 4, 5, 6, 8, 10, 67] ?_ (h := by intro C; conv => lhs; simp [hs10])
      refine s2 tok [3, 4, 5, 6, 8, 10, 67, 68] 67 rfl rfl ?_ (h := by intro C; conv => lhs; simp [hs10])
      refine s2 tok [3, 4, 5, 6, 8, 10, 67, 69] 67 rfl rfl ?_ (h := by intro C; conv => lhs; simp [hs10])
      refine s2 tok [3, 4, 5, 6, 8, 10, 67, 70] 67 rfl rfl ?_ (h := by intro C; conv => lhs; simp [hs10])
      refine s2 tok [3, 4, 5, 6, 8, 10, 67, 71] 67 rfl rfl ?_ (h := by intro C; conv => lhs; simp [hs10])
      refine s2 tok [3, 4, 5, 6, 10, 67, 71, 72] 71 rfl rfl ?_ (h := by intro C; conv => lhs; simp [hs10])
      refine s2 tok [3, 4, 5, 6, 10, 67, 71, 73] 71 rfl rfl ?_ (h := by intro C; conv => lhs; simp [hs10])
      refine s2 tok [3, 4, 5, 6, 67, 71, 73, 74] 73 rfl rfl ?_ (h := by intro C; conv => lhs; simp [hs10])
      refine s2 tok [3, 4, 5, 6, 67, 71, 75] 71 rfl rfl ?_ (h := by intro C; conv => lhs; simp [hs10])
      refine s2 tok [3, 4, 5, 6, 67, 76] 67 rfl rfl ?_ (h := by intro C; conv => lhs; simp [hs10])
      refine s1 tok [3, 4, 5, 6, 77] ?_ (h := by intro C; conv => lhs; simp [hs10])
      refine AOpsO.nil ?_
      refine AW.cond (c := .tmp 77) (by conv => lhs; simp) trivial ?_ ?_
      · intro h77
        try simp at h77
      · intro h77
        try simp at h77
        refine AW.skip ?_
        refine AW.seqRegionO [] ?_
        refine s1 tok [3, 4, 5, 6, 78] ?_
        refine s1 tok [3, 4, 5, 6, 79] ?_
        refine s1 tok [3, 4, 5, 6, 80] ?_
        refine AOpsO.nil ?_
        refine AW.cond (c := .tmp 80) (by conv => lhs; simp) trivial ?_ ?_
        · intro h80
          try simp at h80
        · intro h80
          try simp at h80
          refine AW.skip ?_
          refine AW.regionO [] ?_
          refine s1 tok [3, 4, 5, 31] ?_
          refine s1 tok [3, 4, 5, 32] ?_
          refine s1 tok [3, 4, 5, 6] ?_
          refine AOpsO.nil ?_
          exact ⟨k + 1, by omega, by omega, upds_le (by simp [hs10]), rfl, by simp [hs10], by simp [hs10]⟩
    ·
      refine AW.seqRegionO [] ?_
      refine s1 tok [3, 4, 5, 6, 8, 10, 11, 52] ?_ (h := by intro C; conv => lhs; simp [hs10])
      refine s1 tok [3, 4, 5, 6, 8, 10, 11, 53] ?_ (h := by intro C; conv => lhs; simp [hs10])
      refine s1 tok [3, 4, 5, 6, 8, 10, 11, 54] ?_ (h := by intro C; conv => lhs; simp [hs10])
      refine s1 tok [3, 4, 5, 6, 8, 10, 11, 55] ?_ (h := by intro C; conv => lhs; simp [hs10])
      refine s2 tok [3, 4, 5, 6, 8, 10, 11, 55, 56] 55 rfl rfl ?_ (h := by intro C; conv => lhs; simp [hs10])
      refine s2 tok [3, 4, 5, 6, 8, 10, 11, 55, 57] 55 rfl rfl ?_ (h := by intro C; conv => lhs; simp [hs10])
      refine s2 tok [3, 4, 5, 6, 8, 10, 11, 55, 58] 55 rfl rfl ?_ (h := by intro C; conv => lhs; simp [hs10])
      refine s2 tok [3, 4, 5, 6, 8, 10, 11, 55, 58, 59] 58 rfl rfl ?_ (h := by intro C; conv => lhs; simp [hs10])
      refine s2 tok [3, 4, 5, 6, 8, 10, 11, 55, 58, 60] 58 rfl rfl ?_ (h := by intro C; conv => lhs; simp [hs10])
      refine s2 tok [3, 4, 5, 6, 8, 10, 11, 55, 61] 55 rfl rfl ?_ (h := by intro C; conv => lhs; simp [hs10])
      refine s2 tok [3, 4, 5, 6, 8, 10, 11, 55, 62] 55 rfl rfl ?_ (h := by intro C; conv => lhs; simp [hs10])
      refine s2 tok [3, 4, 5, 6, 8, 10, 55, 62, 63] 62 rfl rfl ?_ (h := by intro C; conv => lhs; simp [hs10])
      refine s2 tok [3, 4, 5, 6, 8, 10, 55, 62, 64] 62 rfl rfl ?_ (h := by intro C; conv => lhs; simp [hs10])
      refine s2 tok [3, 4, 5, 6, 8, 10, 55, 65] 55 rfl rfl ?_ (h := by intro C; conv => lhs; simp [hs10])
      refine s1 tok [3, 4, 5, 6, 8, 10, 66] ?_ (h := by intro C; conv => lhs; simp [hs10])
      refine s1 tok [3, 4, 5, 6, 8, 10, 67] ?_ (h := by intro C; conv => lhs; simp [hs10])
      refine s2 tok [3, 4, 5, 6, 8, 10, 67, 68] 67 rfl rfl ?_ (h := by intro C; conv => lhs; simp [hs10])
      refine s2 tok [3, 4, 5, 6, 8, 10, 67, 69] 67 rfl rfl ?_ (h := by intro C; conv => lhs; simp [hs10])
      refine s2 tok [3, 4, 5, 6, 8, 10, 67, 70] 67 rfl rfl ?_ (h := by intro C; conv => lhs; simp [hs10])
      refine s2 tok [3, 4, 5, 6, 8, 10, 67, 71] 67 rfl rfl ?_ (h := by intro C; conv => lhs; simp [hs10])
      refine s2 tok [3, 4, 5, 6, 10, 67, 71, 72] 71 rfl rfl ?_ (h := by intro C; conv => lhs; simp [hs10])
      refine s2 tok [3, 4, 5, 6, 10, 67, 71, 73] 71 rfl rfl ?_ (h := by intro C; conv => lhs; simp [hs10])
      refine s2 tok [3, 4, 5, 6, 67, 71, 73, 74] 73 rfl rfl ?_ (h := by intro C; conv => lhs; simp [hs10])
      refine s2 tok [3, 4, 5, 6, 67, 71, 75] 71 rfl rfl ?_ (h := by intro C; conv => lhs; simp [hs10])
      refine s2 tok [3, 4, 5, 6, 67, 76] 67 rfl rfl ?_ (h := by intro C; conv => lhs; simp [hs10])
      refine s1 tok [3, 4, 5, 6, 77] ?_ (h := by intro C; conv => lhs; simp [hs10])
      refine AOpsO.nil ?_
      refine AW.cond (c := .tmp 77) (by conv => lhs; simp) trivial ?_ ?_
      · intro h77
        try simp at h77
      · intro h77
        try simp at h77
        refine AW.skip ?_
        refine AW.seqRegionO [] ?_
        refine s1 tok [3, 4, 5, 6, 78] ?_
        refine s1 tok [3, 4, 5, 6, 79] ?_
        refine s1 tok [3, 4, 5, 6, 80] ?_
        refine AOpsO.nil ?_
        refine AW.cond (c := .tmp 80) (by conv => lhs; simp) trivial ?_ ?_
        · intro h80
          try simp at h80
          have h7 : v.kind = 7 := h80
          have hob := may_obj mv h7
          obtain ⟨s, hs⟩ : ∃ s, v.keys[k]? = some s := ⟨v.keys[k]'(by omega), by simp <;> omega⟩
          have b4 := b1 s h7 hs
          refine AW.seqDrawS tok mixed 12 [[4], [4], [83], [6], [84, 85], [86], [82, 87], [88], [81], [81], [], [12, 89]] [.str s, .nilp, .tup [y.enc, .bool true]] [] (by kernel_rfl) ?_
          refine d1 ?_ (hv := by first | with_reducible exact True.intro | (first | (simp [hs]; done) | exact b4; done) | omega | simp | (simp; omega) | (simp +contextual; omega))
          refine d1 ?_
          refine d1 ?_ (hv := by first | with_reducible exact True.intro | (first | (simp [hs]; done) | exact b4; done) | omega | simp | (simp; omega) | (simp +contextual; omega))
          refine d1 ?_
          refine d1 ?_ (hv := by first | with_reducible exact True.intro | (first | (simp [hs]; done) | exact b4; done) | omega | simp | (simp; omega) | (simp +contextual; omega))
          refine d1 ?_ (hv := by first | with_reducible exact True.intro | (first | (simp [hs]; done) | exact b4; done) | omega | simp | (simp; omega) | (simp +contextual; omega))
          refine d1 ?_ (hv := by first | with_reducible exact True.intro | (first | (simp [hs]; done) | exact b4; done) | omega | simp | (simp; omega) | (simp +contextual; omega))
          refine d1 ?_
          refine d1 ?_
          refine d1 ?_
          refine d1 ?_
          refine d1 ?_ (hv := by first | with_reducible exact True.intro | (first | (simp [hs]; done) | exact b4; done) | omega | simp | (simp; omega) | (simp +contextual; omega))
          refine DGo.nil (by kernel_rfl) ⟨by kernel_rfl, ?_⟩
          refine s1 tok [3, 4, 5, 6, 12, 13] ?_
          refine AOpsO.nil ?_
          refine AW.seqDrawS tok mixed 10 [[12], [4], [92], [6], [93, 94], [95], [4], [97], [96, 98], [91, 99]] [x.enc, .nilp, y.enc, .nilp, .bool true] [] (by kernel_rfl) ?_
          refine d1 ?_ (hv := by first | with_reducible exact True.intro | (first | (simp [hx]; done) | exact b2 | exact b3; done) | omega | simp | (simp; omega) | (simp +contextual; omega))
          refine d1 ?_
          refine d1 ?_ (hv := by first | with_reducible exact True.intro | (first | (simp [hx]; done) | exact b2 | exact b3; done) | omega | simp | (simp; omega) | (simp +contextual; omega))
          refine d1 ?_
          refine d1 ?_ (hv := by first | with_reducible exact True.intro | (first | (simp [hx]; done) | exact b2 | exact b3; done) | omega | simp | (simp; omega) | (simp +contextual; omega))
          refine d1 ?_ (hv := by first | with_reducible exact True.intro | (first | (simp [hx]; done) | exact b2 | exact b3; done) | omega | simp | (simp; omega) | (simp +contextual; omega))
          refine d1 ?_
          refine d1 ?_ (hv := by first | with_reducible exact True.intro | (first | (simp [hx]; done) | exact b2 | exact b3; done) | omega | simp | (simp; omega) | (simp +contextual; omega))
          refine d1 ?_ (hv := by first | with_reducible exact True.intro | (first | (simp [hx]; done) | exact b2 | exact b3; done) | omega | simp | (simp; omega) | (simp +contextual; omega))
          refine d1 ?_ (hv := by first | with_reducible exact True.intro | (first | (simp [hx]; done) | exact b2 | exact b3; done) | omega | simp | (simp; omega) | (simp +contextual; omega))
          refine DGo.nil (by kernel_rfl) ⟨by kernel_rfl, ?_⟩
          refine s1 tok [3, 4, 5, 6, 13, 14] ?_
          refine AOpsO.nil ?_
          refine AW.seqRegionO [] ?_
          refine s1 tok [3, 4, 5, 6, 14, 101] ?_
          refine s1 tok [3, 4, 5, 6, 14, 102] ?_
          refine s1 tok [3, 4, 5, 6, 14, 103] ?_
          refine s2 tok [3, 4, 5, 6, 103, 104] 103 rfl rfl ?_
          refine s2 tok [3, 4, 5, 6, 103, 105] 103 rfl rfl ?_
          refine s1 tok [3, 4, 5, 6, 106] ?_
          refine AOpsO.nil ?_
          refine AW.cond (c := .tmp 106) (by conv => lhs; simp) trivial ?_ ?_
          · intro h106
            try simp at h106
          · intro h106
            try simp at h106
            refine AW.skip ?_
            refine AW.regionO [] ?_
            refine s1 tok [3, 4, 5, 31] ?_
            refine s1 tok [3, 4, 5, 32] ?_
            refine s1 tok [3, 4, 5, 6] ?_
            refine AOpsO.nil ?_
            exact ⟨k + 1, by omega, by omega, upds_le (by simp), rfl, by simp, by simp⟩
        · intro h80
          try simp at h80
          refine AW.skip ?_
          refine AW.regionO [] ?_
          refine s1 tok [3, 4, 5, 31] ?_
          refine s1 tok [3, 4, 5, 32] ?_
          refine s1 tok [3, 4, 5, 6] ?_
          refine AOpsO.nil ?_
          exact ⟨k + 1, by omega, by omega, upds_le (by simp), rfl, by simp, by simp⟩
  · intro h30
    try simp at h30
    refine AW.exit ?_
    simp
    refine AW.seqRegionO [.nilp, .tup [zeroV.enc, .bool false]] ?_
    refine s1 tok [3, 4, 5, 108] ?_ (hv := by first | with_reducible exact True.intro | (exact h4; done) | omega | simp | (simp; omega) | (simp +contextual; omega))
    refine s1 tok [3, 4, 5, 108, 109] ?_
    refine s1 tok [3, 4, 5, 108, 110] ?_ (hv := by first | with_reducible exact True.intro | (exact h4; done) | omega | simp | (simp; omega) | (simp +contextual; omega))
    refine s1 tok [3, 4, 5, 108, 111] ?_ (hv := by first | with_reducible exact True.intro | (exact h4; done) | omega | simp | (simp; omega) | (simp +contextual; omega))
    refine s1 tok [3, 4, 5, 112] ?_ (hv := by first | with_reducible exact True.intro | (exact h4; done) | omega | simp | (simp; omega) | (simp +contextual; omega))
    refine s1 tok [3, 4, 5, 107] ?_
    refine s1 tok [3, 4, 5, 107, 113] ?_
    refine s1 tok [3, 4, 5, 113, 114] ?_
    refine s1 tok [3, 4, 5, 15, 113, 114] ?_
    refine s1 tok [3, 4, 5, 114] ?_ (hv := by first | with_reducible exact True.intro | (exact h4; done) | omega | simp | (simp; omega) | (simp +contextual; omega))
    refine s1 tok [3, 4, 5, 16] ?_
    refine AOpsO.nil ?_
    refine AW.seqRegionO [.nilp, .tup [zeroV.enc, .bool false]] ?_
    refine s1 tok [3, 4, 5, 16, 116] ?_ (h := by intro C; conv => lhs; simp [f5]) (hv := by first | with_reducible exact True.intro | (first | exact h5 | (simp; omega); done) | omega | simp | (simp; omega) | (simp +contextual; omega))
    refine s1 tok [3, 4, 5, 16, 116, 117] ?_ (h := by intro C; conv => lhs; simp [f5])
    refine s1 tok [3, 4, 5, 16, 116, 118] ?_ (h := by intro C; conv => lhs; simp [f5]) (hv := by first | with_reducible exact True.intro | (first | exact h5 | (simp; omega); done) | omega | simp | (simp; omega) | (simp +contextual; omega))
    refine s1 tok [3, 4, 5, 16, 116, 119] ?_ (h := by intro C; conv => lhs; simp [f5]) (hv := by first | with_reducible exact True.intro | (first | exact h5 | (simp; omega); done) | omega | simp | (simp; omega) | (simp +contextual; omega))
    refine s1 tok [3, 4, 5, 16, 116, 120] ?_ (h := by intro C; conv => lhs; simp [f5]) (hv := by first | with_reducible exact True.intro | (first | exact h5 | (simp; omega); done) | omega | simp | (simp; omega) | (simp +contextual; omega))
    refine s1 tok [3, 4, 5, 16, 116, 121] ?_ (h := by intro C; conv => lhs; simp [f5]) (hv := by first | with_reducible exact True.intro | (first | exact h5 | (simp; omega); done) | omega | simp | (simp; omega) | (simp +contextual; omega))
    refine s1 tok [3, 4, 5, 16, 122] ?_ (h := by intro C; conv => lhs; simp [f5]) (hv := by first | with_reducible exact True.intro | (first | exact h5 | (simp; omega); done) | omega | simp | (simp; omega) | (simp +contextual; omega))
    refine s1 tok [3, 4, 5, 16, 115] ?_ (h := by intro C; conv => lhs; simp [f5])
    refine s1 tok [3, 4, 5, 16, 115, 123] ?_ (h := by intro C; conv => lhs; simp [f5])
    refine s1 tok [3, 4, 5, 16, 123, 124] ?_ (h := by intro C; conv => lhs; simp [f5])
    refine s1 tok [3, 4, 5, 16, 17, 123, 124] ?_ (h := by intro C; conv => lhs; simp [f5])
    refine s1 tok [3, 4, 5, 16, 124] ?_ (h := by intro C; conv => lhs; simp [f5]) (hv := by first | with_reducible exact True.intro | (first | exact h5 | (simp; omega); done) | omega | simp | (simp; omega) | (simp +contextual; omega))
    refine s1 tok [3, 4, 5, 16, 18] ?_ (h := by intro C; conv => lhs; simp [f5])
    refine AOpsO.nil ?_
    refine AW.seqRegionO [] ?_
    refine s1 tok [3, 4, 5, 16, 18, 125] ?_
    refine AOpsO.stepK [3, 4, 5, 16, 18, 126] (y_cx rfl h2 (by simp)) (by conv => lhs; simp) rfl ?_
    refine s1 tok [3, 4, 5, 16, 18, 19, 126] ?_
    refine s1 tok [3, 4, 5, 16, 18, 19] ?_
    refine AOpsO.nil ?_
    refine AW.seq ?_
    refine AW.seqRegionO [] ?_
    refine s1 tok [3, 4, 5, 16, 18, 19, 20] ?_
    refine AOpsO.nil ?_
    refine AW.block ?_
    refine AW.loop (α := Nat) (fun k => k ≤ v.kids.length) (fun k => ⟨upds 160 [(3, .p (.bool true)), (4, .ptr 4 0), (5, .ptr 5 0), (16, .p (.bool false)), (18, .p (.bool false)), (19, .ptr 19 0), (20, .p (.int .i64 k))], [], [(4, .vars 31 v.cells), (5, .vars 31 v.cells), (19, .vars 31 [.p (.int .i64 v.kind), .p (.int .u64 v.mask), .p (.bool v.num.neg), .p (.str v.num.digits), .p (.int .i64 v.num.scale), .p (.str v.text), .ms 909, .ms 912, .p (.int .i64 v.code)]), (909, .row 9 1 (v.keys.map PD.str)), (912, .row 31 9 (partK bumpV v.kids k))], 0⟩) (fun k => v.kids.length - k) (0) (by omega) ⟨upds_le (by simp), rfl, by simp, by simp⟩ ?_
    rintro k hk
    refine AW.seq ?_
    refine AW.seqRegionO [] ?_
    refine s1 tok [3, 4, 5, 16, 18, 19, 20, 127] ?_
    refine s1 tok [3, 4, 5, 16, 18, 19, 20, 127, 128] ?_
    refine s1 tok [3, 4, 5, 16, 18, 19, 20, 127, 129] ?_
    refine s1 tok [3, 4, 5, 16, 18, 19, 20, 127, 130] ?_
    refine s1 tok [3, 4, 5, 16, 18, 19, 20, 131] ?_
    refine AOpsO.nil ?_
    refine AW.cond (c := .tmp 131) (by conv => lhs; simp) trivial ?_ ?_
    · intro h131
      try simp at h131
      have hk2 : k < v.kids.length := by first | exact h131 | simpa [partK_len] using h131
      obtain ⟨x, hx⟩ : ∃ x, v.kids[k]? = some x := ⟨v.kids[k], by simp [hk2]⟩
      have hx' := partK_get (f := bumpV) hx
      have hkl := partK_len bumpV v.kids k
      have hset := partK_set (f := bumpV) hx
      simp only [Val.enc_def] at hx' hset
      refine AW.skip ?_
      refine AW.seq ?_
      refine AW.block ?_
      refine AW.drawS tok mixed 13 [[19], [134], [20], [19], [137], [20], [138, 139], [140], [141], [142], [135, 136], [144], [145, 143]] [x.enc, x.enc, (bumpV x).enc] [] (by kernel_rfl) ?_
      refine d1 ?_
      refine d1 ?_ (hv := by first | with_reducible exact True.intro | (first | exact hx' | (simp [hx', bumpV]; omega) | (simp [hx', bumpV]; done); done) | omega | simp | (simp; omega) | (simp +contextual; omega))
      refine d1 ?_
      refine d1 ?_
      refine d1 ?_ (hv := by first | with_reducible exact True.intro | (first | exact hx' | (simp [hx', bumpV]; omega) | (simp [hx', bumpV]; done); done) | omega | simp | (simp; omega) | (simp +contextual; omega))
      refine d1 ?_
      refine d1 ?_ (hv := by first | with_reducible exact True.intro | (first | exact hx' | (simp [hx', bumpV]; omega) | (simp [hx', bumpV]; done); done) | omega | simp | (simp; omega) | (simp +contextual; omega))
      refine d1 ?_
      refine d1 ?_ (hv := by first | with_reducible exact True.intro | (first | exact hx' | (simp [hx', bumpV]; omega) | (simp [hx', bumpV]; done); done) | omega | simp | (simp; omega) | (simp +contextual; omega))
      refine d1 ?_ (hv := by first | with_reducible exact True.intro | (first | exact hx' | (simp [hx', bumpV]; omega) | (simp [hx', bumpV]; done); done) | omega | simp | (simp; omega) | (simp +contextual; omega))
      refine d1 ?_ (hv := by first | with_reducible exact True.intro | (first | exact hx' | (simp [hx', bumpV]; omega) | (simp [hx', bumpV]; done); done) | omega | simp | (simp; omega) | (simp +contextual; omega))
      refine d1 ?_
      refine d1 ?_ (hv := by first | with_reducible exact True.intro | (first | exact hx' | (simp [hx', bumpV]; omega) | (simp [hx', bumpV]; done); done) | omega | simp | (simp; omega) | (simp +contextual; omega))
      refine DGo.nil (by kernel_rfl) ⟨by kernel_rfl, ?_⟩
      refine AOpsO.nil ?_
      refine AW.regionO [] ?_
      refine s1 tok [3, 4, 5, 16, 18, 19, 132] ?_
      refine s1 tok [3, 4, 5, 16, 18, 19, 133] ?_
      refine s1 tok [3, 4, 5, 16, 18, 19, 20] ?_
      refine AOpsO.nil ?_
      exact ⟨k + 1, (by first | omega | (simp [partK_len] at h131; omega)), (by first | omega | (simp [partK_len] at h131; omega)), upds_le (by simp [hset]), rfl, by simp [hset], by simp [hset]⟩
    · intro h131
      try simp at h131
      refine AW.exit ?_
      simp
      refine AW.seqRegionO [.nilp, .bool true] ?_
      refine s1 tok [4, 5, 16, 18, 146] ?_
      refine s1 tok [4, 5, 16, 18, 147] ?_
      refine s2 tok [4, 5, 18, 147, 148] 147 rfl rfl ?_
      refine s2 tok [4, 5, 18, 147, 149] 147 rfl rfl ?_ (hv := by first | with_reducible exact True.intro | (exact h3; done) | omega | simp | (simp; omega) | (simp +contextual; omega))
      refine s1 tok [4, 5, 18, 150] ?_ (hv := by first | with_reducible exact True.intro | (exact h3; done) | omega | simp | (simp; omega) | (simp +contextual; omega))
      refine s1 tok [4, 5, 18, 151] ?_
      refine s2 tok [4, 5, 151, 152] 151 rfl rfl ?_
      refine s2 tok [4, 5, 151, 153] 151 rfl rfl ?_ (hv := by first | with_reducible exact True.intro | (exact h3; done) | omega | simp | (simp; omega) | (simp +contextual; omega))
      refine s1 tok [4, 5, 154] ?_ (hv := by first | with_reducible exact True.intro | (exact h3; done) | omega | simp | (simp; omega) | (simp +contextual; omega))
      refine s1 tok [4, 5, 155] ?_
      refine s2 tok [4, 155, 156] 155 rfl rfl ?_ (hv := by first | with_reducible exact True.intro | (exact h3; done) | omega | simp | (simp; omega) | (simp +contextual; omega))
      refine s2 tok [155, 156, 157] 155 rfl rfl ?_ (hv := by first | with_reducible exact True.intro | (exact h3; done) | omega | simp | (simp; omega) | (simp +contextual; omega))
      refine s2 tok [155, 158] 155 rfl rfl ?_ (hv := by first | with_reducible exact True.intro | (exact h3; done) | omega | simp | (simp; omega) | (simp +contextual; omega))
      refine s1 tok [159] ?_ (hv := by first | with_reducible exact True.intro | (exact h3; done) | omega | simp | (simp; omega) | (simp +contextual; omega))
      refine s1 tok [2] ?_
      refine AOpsO.nil ?_
      exact AW.ret ⟨.inr rfl, _, _, by (conv => lhs; simp), trivial, by simp⟩
end Go.Proofs.YtgoepemmcibdaaaGreatDoor
