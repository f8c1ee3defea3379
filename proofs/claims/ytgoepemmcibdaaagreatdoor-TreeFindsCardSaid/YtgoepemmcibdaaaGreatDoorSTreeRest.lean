import Derived.Test.YtgoepemmcibdaaaGreatDoorSTreeMap
import Derived.Test.YtgoepemmcibdaaaGreatDoorSTreeL2
namespace Go.Proofs.YtgoepemmcibdaaaGreatDoor
open Sy Go
set_option maxRecDepth 100000
set_option maxHeartbeats 4000000
set_option linter.unusedSimpArgs false
set_option linter.unusedVariables false
variable {G : Glob}

theorem deep_step (v : Val) (ih : ∀ k ∈ v.kids, AFn Tryz.prog G 18 [k.enc] (.int .u64 (deepV k))) : AFn Tryz.prog G 18 [v.enc] (.int .u64 (deepV v)) := by
  refine AFn.introU tok Tryz.func18 (by kernel_rfl) rfl rfl ?_
  simp only [Tryz.f18, enumA, List.map_cons, List.map_nil]
  refine AW.seqRegionO [] ?_
  refine s1 tok [1] ?_
  refine s1 tok [1] ?_
  refine AOpsO.nil ?_
  refine AW.seqRegionO [] ?_
  refine s1 tok [1, 6] ?_
  refine s1 tok [1, 7] ?_
  refine s1 tok [1, 3] ?_
  refine AOpsO.nil ?_
  refine AW.seq ?_
  refine AW.seqRegionO [] ?_
  refine s1 tok [3, 8] ?_
  refine s1 tok [3, 9] ?_
  refine s1 tok [3, 9, 10] ?_
  refine s1 tok [3, 9, 10, 11] ?_
  refine AOpsO.nil ?_
  refine AW.block ?_
  refine AW.intFactU (i := 10) rfl (by decide) ?_; intro hlen; simp at hlen
  refine AW.loop (α := Nat) (fun k => k ≤ v.kids.length) (fun k => ⟨upds 21 [(3, .p (.int .u64 (deepL v.mask (v.kids.take k)))), (9, .p (.sl 9 (v.kids.map Val.enc))), (10, .p (.int .i64 v.kids.length)), (11, .p (.int .i64 k))], [], [], 0⟩) (fun k => v.kids.length - k) (0) (by omega) ⟨upds_le (by simp), rfl, by simp, by simp⟩ ?_
  rintro k hk
  refine AW.seqRegionO [] ?_
  refine s1 tok [3, 9, 10, 11, 12] ?_
  refine AOpsO.nil ?_
  refine AW.seq ?_
  refine AW.cond (c := .tmp 12) (by conv => lhs; simp) trivial ?_ ?_
  · intro h12
    try simp at h12
    obtain ⟨x, hx⟩ : ∃ x, v.kids[k]? = some x := ⟨v.kids[k], by simp [h12]⟩
    have hix := ih x (List.mem_of_getElem? hx)
    simp only [Val.enc_def] at hix
    refine AW.skip ?_
    refine AW.seq ?_
    refine AW.block ?_
    refine AW.seqRegionO [x.enc] ?_
    refine s1 tok [3, 9, 10, 11, 13] ?_ (hv := by first | with_reducible exact True.intro | (simp [hx]; done) | omega | simp | (simp; omega) | (simp +contextual; omega))
    refine s1 tok [3, 9, 10, 11, 14] ?_ (hv := by first | with_reducible exact True.intro | (simp [hx]; done) | omega | simp | (simp; omega) | (simp +contextual; omega))
    refine s1 tok [3, 5, 9, 10, 11, 14] ?_
    refine s1 tok [3, 5, 9, 10, 11] ?_ (hv := by first | with_reducible exact True.intro | (simp [hx]; done) | omega | simp | (simp; omega) | (simp +contextual; omega))
    refine AOpsO.nil ?_
    refine AW.regionO [.nilp, .int .u64 (deepV x)] ?_
    refine s1 tok [5, 9, 10, 11, 15] ?_ (h := by intro C; conv => lhs; simp [or_wrap])
    refine s1 tok [9, 10, 11, 15, 16] ?_ (h := by intro C; conv => lhs; simp [or_wrap]) (hv := by first | with_reducible exact True.intro | (exact hix; done) | omega | simp | (simp; omega) | (simp +contextual; omega))
    refine s1 tok [9, 10, 11, 15, 17] ?_ (h := by intro C; conv => lhs; simp [or_wrap]) (hv := by first | with_reducible exact True.intro | (exact hix; done) | omega | simp | (simp; omega) | (simp +contextual; omega))
    refine s1 tok [9, 10, 11, 18] ?_ (h := by intro C; conv => lhs; simp [or_wrap]) (hv := by first | with_reducible exact True.intro | (exact hix; done) | omega | simp | (simp; omega) | (simp +contextual; omega))
    refine s1 tok [3, 9, 10, 11] ?_ (h := by intro C; conv => lhs; simp [or_wrap])
    refine AOpsO.nil ?_
    refine AW.regionO [] ?_
    refine s1 tok [3, 9, 10, 19] ?_
    refine s1 tok [3, 9, 10, 11] ?_
    refine AOpsO.nil ?_
    exact ⟨k + 1, by omega, by omega, upds_le (by simp [deepL_take hx]), rfl, by simp [deepL_take hx], by simp [deepL_take hx]⟩
  · intro h12
    try simp at h12
    rw [List.take_of_length_le h12]
    refine AW.exit ?_
    simp
    refine AW.seqRegionO [] ?_
    refine s1 tok [20] ?_
    refine s1 tok [2] ?_
    refine AOpsO.nil ?_
    exact AW.ret ⟨.inr rfl, _, _, by (conv => lhs; simp), trivial, by simp [deepV_eq v]⟩
theorem deep_ev (v : Val) : AFn Tryz.prog G 18 [v.enc] (.int .u64 (deepV v)) := Val.induct (fun v ih => deep_step v ih) v
theorem clone1_ax (u : Val) : AX Tryz.prog G 65 [.ptr 2 0] [(2, .vars 31 u.cells)] (.tuple []) [2] [(2, .vars 31 (id u).cells)] := by
  refine AX.introU tok 900 Tryz.func65 (by kernel_rfl) rfl rfl ?_
  simp only [Tryz.f65, enumA, List.map_cons, List.map_nil]
  refine AW.skip ?_
  exact ⟨.inl rfl, _, _, by (conv => lhs; simp), trivial, by simp, by simp, by simp, by simp⟩
theorem clone_ev (v : Val) (hv : mayT v = true) : AFn Tryz.prog G 28 [v.enc] (v.enc) := by
  refine AFn.introU tok Tryz.func28 (by kernel_rfl) rfl rfl ?_
  simp only [Tryz.f28, enumA, List.map_cons, List.map_nil]
  have hm := mapped_ev (G := G) 65 id clone1_ax v hv
  rw [mapV_id] at hm
  simp only [Val.enc_def] at hm
  refine AW.seqRegionO [] ?_
  refine s1 tok [1] ?_
  refine s1 tok [1, 2] ?_
  refine AOpsO.nil ?_
  refine AW.seqRegionO [.nilp, v.enc] ?_
  refine s1 tok [2, 3] ?_ (hv := by first | with_reducible exact True.intro | (exact hm; done) | omega | simp | (simp; omega) | (simp +contextual; omega))
  refine s1 tok [2, 4] ?_ (hv := by first | with_reducible exact True.intro | (exact hm; done) | omega | simp | (simp; omega) | (simp +contextual; omega))
  refine s1 tok [2] ?_ (hv := by first | with_reducible exact True.intro | (exact hm; done) | omega | simp | (simp; omega) | (simp +contextual; omega))
  refine AOpsO.nil ?_
  exact AW.ret ⟨.inr rfl, _, _, by (conv => lhs; simp), trivial, by simp⟩
theorem with_ev (v : Val) (m : Int) (hv : mayT v = true) : AFn Tryz.prog G 15 [v.enc, .int .u64 m] ((withV v m).enc) := by
  refine AFn.introU tok Tryz.func15 (by kernel_rfl) rfl rfl ?_
  simp only [Tryz.f15, enumA, List.map_cons, List.map_nil]
  have hm := clone_ev (G := G) v hv
  simp only [Val.enc_def] at hm
  refine AW.seqRegionO [] ?_
  refine s1 tok [1, 2] ?_
  refine s1 tok [1, 2, 4] ?_
  refine AOpsO.nil ?_
  refine AW.seqRegionO [.nilp, v.enc] ?_
  refine s1 tok [1, 2, 4, 5] ?_ (hv := by first | with_reducible exact True.intro | (exact hm; done) | omega | simp | (simp; omega) | (simp +contextual; omega))
  refine s1 tok [1, 2, 4, 6] ?_ (hv := by first | with_reducible exact True.intro | (exact hm; done) | omega | simp | (simp; omega) | (simp +contextual; omega))
  refine s1 tok [1, 2, 4] ?_ (hv := by first | with_reducible exact True.intro | (exact hm; done) | omega | simp | (simp; omega) | (simp +contextual; omega))
  refine AOpsO.nil ?_
  refine AW.seqRegionO [] ?_
  refine s1 tok [1, 2, 4, 7] ?_ (h := by intro C; conv => lhs; simp [or_wrap])
  refine s1 tok [1, 2, 4, 8] ?_ (h := by intro C; conv => lhs; simp [or_wrap])
  refine s1 tok [2, 4, 8, 9] ?_ (h := by intro C; conv => lhs; simp [or_wrap])
  refine s1 tok [2, 4, 10] ?_ (h := by intro C; conv => lhs; simp [or_wrap])
  refine s1 tok [2, 4, 10, 11] ?_ (h := by intro C; conv => lhs; simp [or_wrap])
  refine s1 tok [2, 4] ?_ (h := by intro C; conv => lhs; simp [or_wrap])
  refine AOpsO.nil ?_
  refine AW.seqRegionO [] ?_
  refine s1 tok [4, 12] ?_
  refine s1 tok [4] ?_
  refine AOpsO.nil ?_
  exact AW.ret ⟨.inr rfl, _, _, by (conv => lhs; simp), trivial, by simp⟩
theorem size_step (v : Val) (hs : Val.sz v ≤ 1000000) (ih : ∀ k ∈ v.kids, AFn Tryz.prog G 13 [k.enc] (.tup [.int .i64 (Val.sz k), .int .i64 (depV k)])) : AFn Tryz.prog G 13 [v.enc] (.tup [.int .i64 (Val.sz v), .int .i64 (depV v)]) := by
  refine AFn.introU tok Tryz.func13 (by kernel_rfl) rfl rfl ?_
  simp only [Tryz.f13, enumA, List.map_cons, List.map_nil]
  have hse := sz_eq v
  have hde := dep_le_sz v
  rw [depV_eq] at hde
  refine AW.seqRegionO [] ?_
  refine s1 tok [1] ?_
  refine s1 tok [1, 2] ?_
  refine s1 tok [1, 2, 3] ?_
  refine AOpsO.nil ?_
  refine AW.seq ?_
  refine AW.seqRegionO [] ?_
  refine s1 tok [2, 3, 8] ?_
  refine s1 tok [2, 3, 9] ?_
  refine s1 tok [2, 3, 9, 10] ?_
  refine s1 tok [2, 3, 9, 10, 11] ?_
  refine AOpsO.nil ?_
  refine AW.block ?_
  refine AW.intFactU (i := 10) rfl (by decide) ?_; intro hlen; simp at hlen
  refine AW.loop (α := Nat) (fun k => k ≤ v.kids.length) (fun k => ⟨upds 31 [(2, .p (.int .i64 (Val.szL (v.kids.take k)))), (3, .p (.int .i64 (depL 0 (v.kids.take k)))), (9, .p (.sl 9 (v.kids.map Val.enc))), (10, .p (.int .i64 v.kids.length)), (11, .p (.int .i64 k))], [], [], 0⟩) (fun k => v.kids.length - k) (0) (by omega) ⟨upds_le (by simp), rfl, by simp, by simp⟩ ?_
  rintro k hk
  refine AW.seqRegionO [] ?_
  refine s1 tok [2, 3, 9, 10, 11, 12] ?_
  refine AOpsO.nil ?_
  refine AW.seq ?_
  refine AW.cond (c := .tmp 12) (by conv => lhs; simp) trivial ?_ ?_
  · intro h12
    try simp at h12
    obtain ⟨x, hx⟩ : ∃ x, v.kids[k]? = some x := ⟨v.kids[k], by simp [h12]⟩
    have hix := ih x (List.mem_of_getElem? hx)
    simp only [Val.enc_def] at hix
    have hst := szL_take hx
    have hle := szL_take_le v.kids (k + 1)
    have hdt := depL_take (m := 0) hx
    have hmx : (if depL 0 (v.kids.take k) < depV x then ((depV x : Nat) : Int) else ((depL 0 (v.kids.take k) : Nat) : Int)) = ((depL 0 (v.kids.take (k + 1)) : Nat) : Int) := by rw [hdt]; split <;> omega
    refine AW.skip ?_
    refine AW.seq ?_
    refine AW.block ?_
    refine AW.seqRegionO [x.enc] ?_
    refine s1 tok [2, 3, 9, 10, 11, 13] ?_ (hv := by first | with_reducible exact True.intro | (simp [hx]; done) | omega | simp | (simp; omega) | (simp +contextual; omega))
    refine s1 tok [2, 3, 9, 10, 11, 14] ?_ (hv := by first | with_reducible exact True.intro | (simp [hx]; done) | omega | simp | (simp; omega) | (simp +contextual; omega))
    refine s1 tok [2, 3, 5, 9, 10, 11, 14] ?_
    refine s1 tok [2, 3, 5, 9, 10, 11] ?_ (hv := by first | with_reducible exact True.intro | (simp [hx]; done) | omega | simp | (simp; omega) | (simp +contextual; omega))
    refine AOpsO.nil ?_
    refine AW.seqRegionO [.nilp, .tup [.int .i64 (Val.sz x), .int .i64 (depV x)]] ?_
    refine s1 tok [2, 3, 9, 10, 11, 16] ?_ (hv := by first | with_reducible exact True.intro | (exact hix; done) | omega | simp | (simp; omega) | (simp +contextual; omega))
    refine s1 tok [2, 3, 9, 10, 11, 17] ?_ (hv := by first | with_reducible exact True.intro | (exact hix; done) | omega | simp | (simp; omega) | (simp +contextual; omega))
    refine s1 tok [2, 3, 9, 10, 11, 15] ?_
    refine s1 tok [2, 3, 9, 10, 11, 15, 18] ?_
    refine s1 tok [2, 3, 9, 10, 11, 18, 19] ?_
    refine s1 tok [2, 3, 6, 9, 10, 11, 19] ?_
    refine s1 tok [2, 3, 6, 7, 9, 10, 11] ?_
    refine AOpsO.nil ?_
    refine AW.regionO [] ?_
    refine s1 tok [3, 6, 7, 9, 10, 11, 20] ?_
    refine s1 tok [3, 7, 9, 10, 11, 20, 21] ?_
    refine s1 tok [3, 7, 9, 10, 11, 22] ?_
    refine s1 tok [7, 9, 10, 11, 22, 23] ?_
    refine s1 tok [9, 10, 11, 22, 23, 24] ?_
    refine s1 tok [9, 10, 11, 22, 25] ?_
    refine s1 tok [2, 9, 10, 11, 25] ?_
    refine s1 tok [2, 3, 9, 10, 11] ?_
    refine AOpsO.nil ?_
    refine AW.regionO [] ?_
    refine s1 tok [2, 3, 9, 10, 26] ?_
    refine s1 tok [2, 3, 9, 10, 11] ?_
    refine AOpsO.nil ?_
    exact ⟨k + 1, by omega, by omega, upds_le (by simp [hst, hmx]), rfl, by simp [hst, hmx], by simp [hst, hmx]⟩
  · intro h12
    try simp at h12
    rw [List.take_of_length_le h12]
    refine AW.exit ?_
    simp
    refine AW.seqRegionO [] ?_
    refine s1 tok [3, 27] ?_
    refine s1 tok [3, 28] ?_
    refine s1 tok [28, 29] ?_
    refine s1 tok [28, 30] ?_
    refine s1 tok [2, 30] ?_
    refine s1 tok [2, 3] ?_
    refine AOpsO.nil ?_
    exact AW.ret ⟨.inr rfl, _, _, by (conv => lhs; simp), trivial, by simp [hse, depV_eq]; omega⟩
theorem size_ev (v : Val) : Val.sz v ≤ 1000000 → AFn Tryz.prog G 13 [v.enc] (.tup [.int .i64 (Val.sz v), .int .i64 (depV v)]) :=
  Val.induct (p := fun v => Val.sz v ≤ 1000000 → AFn Tryz.prog G 13 [v.enc] (.tup [.int .i64 (Val.sz v), .int .i64 (depV v)])) (fun v ih hs => size_step v hs fun k hk => ih k hk (by have := Val.sz_kid hk; omega)) v
theorem held_step (v : Val) (hs : Val.sz v ≤ 1000000) (ih : ∀ k ∈ v.kids, AFn Tryz.prog G 22 [k.enc] (.int .i64 (heldV k))) : AFn Tryz.prog G 22 [v.enc] (.int .i64 (heldV v)) := by
  refine AFn.introU tok Tryz.func22 (by kernel_rfl) rfl rfl ?_
  simp only [Tryz.f22, enumA, List.map_cons, List.map_nil]
  have hse := held_le_sz v
  rw [heldV_eq] at hse
  refine AW.seqRegionO [] ?_
  refine s1 tok [1] ?_
  refine s1 tok [1] ?_
  refine AOpsO.nil ?_
  refine AW.seqRegionO [] ?_
  refine s1 tok [1, 3] ?_
  refine AOpsO.nil ?_
  refine AW.seq ?_
  refine AW.seqRegionO [] ?_
  refine s1 tok [1, 3, 6] ?_
  refine s1 tok [1, 3, 7] ?_
  refine s1 tok [1, 3, 8] ?_
  refine AOpsO.nil ?_
  refine AW.cond (c := .tmp 8) (by conv => lhs; simp) trivial ?_ ?_
  · intro h8
    try simp at h8
    rw [if_pos h8] at hse
    refine AW.seqRegionO [] ?_
    refine s1 tok [3, 9] ?_
    refine s1 tok [3, 10] ?_
    refine s1 tok [3, 10, 11] ?_
    refine s1 tok [3, 10, 11, 12] ?_
    refine AOpsO.nil ?_
    refine AW.block ?_
    refine AW.intFactU (i := 11) rfl (by decide) ?_; intro hlen; simp at hlen
    refine AW.loop (α := Nat) (fun k => k ≤ v.kids.length) (fun k => ⟨upds 22 [(3, .p (.int .i64 (1 + heldL (v.kids.take k) : Nat))), (10, .p (.sl 9 (v.kids.map Val.enc))), (11, .p (.int .i64 v.kids.length)), (12, .p (.int .i64 k))], [], [], 0⟩) (fun k => v.kids.length - k) (0) (by omega) ⟨upds_le (by simp), rfl, by simp, by simp⟩ ?_
    rintro k hk
    refine AW.seqRegionO [] ?_
    refine s1 tok [3, 10, 11, 12, 13] ?_
    refine AOpsO.nil ?_
    refine AW.seq ?_
    refine AW.cond (c := .tmp 13) (by conv => lhs; simp) trivial ?_ ?_
    · intro h13
      try simp at h13
      obtain ⟨x, hx⟩ : ∃ x, v.kids[k]? = some x := ⟨v.kids[k], by simp [h13]⟩
      have hix := ih x (List.mem_of_getElem? hx)
      simp only [Val.enc_def] at hix
      have hst := heldL_take hx
      have hle := heldL_take_le v.kids (k + 1)
      refine AW.skip ?_
      refine AW.seq ?_
      refine AW.block ?_
      refine AW.seqRegionO [x.enc] ?_
      refine s1 tok [3, 10, 11, 12, 14] ?_ (hv := by first | with_reducible exact True.intro | (simp [hx]; done) | omega | simp | (simp; omega) | (simp +contextual; omega))
      refine s1 tok [3, 10, 11, 12, 15] ?_ (hv := by first | with_reducible exact True.intro | (simp [hx]; done) | omega | simp | (simp; omega) | (simp +contextual; omega))
      refine s1 tok [3, 5, 10, 11, 12, 15] ?_
      refine s1 tok [3, 5, 10, 11, 12] ?_ (hv := by first | with_reducible exact True.intro | (simp [hx]; done) | omega | simp | (simp; omega) | (simp +contextual; omega))
      refine AOpsO.nil ?_
      refine AW.regionO [.nilp, .int .i64 (heldV x)] ?_
      refine s1 tok [5, 10, 11, 12, 16] ?_
      refine s1 tok [10, 11, 12, 16, 17] ?_ (hv := by first | with_reducible exact True.intro | (exact hix; done) | omega | simp | (simp; omega) | (simp +contextual; omega))
      refine s1 tok [10, 11, 12, 16, 18] ?_ (hv := by first | with_reducible exact True.intro | (exact hix; done) | omega | simp | (simp; omega) | (simp +contextual; omega))
      refine s1 tok [10, 11, 12, 19] ?_ (hv := by first | with_reducible exact True.intro | (exact hix; done) | omega | simp | (simp; omega) | (simp +contextual; omega))
      refine s1 tok [3, 10, 11, 12] ?_
      refine AOpsO.nil ?_
      refine AW.regionO [] ?_
      refine s1 tok [3, 10, 11, 20] ?_
      refine s1 tok [3, 10, 11, 12] ?_
      refine AOpsO.nil ?_
      exact ⟨k + 1, by omega, by omega, upds_le (by simp [show ((1 + heldL (v.kids.take (k + 1)) : Nat) : Int) = 1 + (heldL (v.kids.take k) : Int) + heldV x from by omega]), rfl, by simp [show ((1 + heldL (v.kids.take (k + 1)) : Nat) : Int) = 1 + (heldL (v.kids.take k) : Int) + heldV x from by omega], by simp [show ((1 + heldL (v.kids.take (k + 1)) : Nat) : Int) = 1 + (heldL (v.kids.take k) : Int) + heldV x from by omega]⟩
    · intro h13
      try simp at h13
      rw [List.take_of_length_le h13]
      refine AW.exit ?_
      simp
      refine AW.seqRegionO [] ?_
      refine s1 tok [21] ?_
      refine s1 tok [2] ?_
      refine AOpsO.nil ?_
      exact AW.ret ⟨.inr rfl, _, _, by (conv => lhs; simp), trivial, by simp [heldV_eq v, h8]⟩
  · intro h8
    try simp at h8
    refine AW.skip ?_
    refine AW.seqRegionO [] ?_
    refine s1 tok [21] ?_
    refine s1 tok [2] ?_
    refine AOpsO.nil ?_
    exact AW.ret ⟨.inr rfl, _, _, by (conv => lhs; simp), trivial, by simp [heldV_eq v, h8]⟩
theorem held_ev (v : Val) : Val.sz v ≤ 1000000 → AFn Tryz.prog G 22 [v.enc] (.int .i64 (heldV v)) :=
  Val.induct (p := fun v => Val.sz v ≤ 1000000 → AFn Tryz.prog G 22 [v.enc] (.int .i64 (heldV v))) (fun v ih hs => held_step v hs fun k hk => ih k hk (by have := Val.sz_kid hk; omega)) v
theorem tidy_step (v : Val) (hv : mayT v = true) (ih : ∀ k ∈ v.kids, AFn Tryz.prog G 20 [k.enc] (tidyV k).enc) : AFn Tryz.prog G 20 [v.enc] ((tidyV v).enc) := by
  refine AFn.introU tok Tryz.func20 (by kernel_rfl) rfl rfl ?_
  simp only [Tryz.f20, enumA, List.map_cons, List.map_nil]
  have hsm := may_small hv
  have hck := cloneK_ar (G := G) v.keys (by omega)
  have hcv := cloneV_ar (G := G) v.kids (by omega)
  have hd := deep_ev (G := G) v
  have hb := bare_ev (G := G) v hv
  simp only [Val.enc_def] at hd hb
  refine AW.seqRegionO [] ?_
  refine s1 tok [1] ?_
  refine s1 tok [1, 2] ?_
  refine AOpsO.nil ?_
  refine AW.seq ?_
  refine AW.seqRegionO [.nilp, .int .u64 (deepV v)] ?_
  refine s1 tok [1, 2, 6] ?_ (hv := by first | with_reducible exact True.intro | (exact hd; done) | omega | simp | (simp; omega) | (simp +contextual; omega))
  refine s1 tok [1, 2, 7] ?_ (hv := by first | with_reducible exact True.intro | (exact hd; done) | omega | simp | (simp; omega) | (simp +contextual; omega))
  refine s1 tok [1, 2, 3] ?_
  refine AOpsO.nil ?_
  refine AW.seqRegionO [] ?_
  refine s1 tok [1, 2, 3, 8] ?_
  refine s1 tok [1, 2, 3, 9] ?_
  refine s1 tok [1, 2, 3, 10] ?_
  refine AOpsO.nil ?_
  refine AW.cond (c := .tmp 10) (by conv => lhs; simp) trivial ?_ ?_
  · intro h10
    try simp at h10
    refine AW.seqRegionO [.nilp, (bareV v).enc] ?_
    refine s1 tok [1, 2, 3, 11] ?_ (hv := by first | with_reducible exact True.intro | ((simp at hb ⊢; exact hb); done) | omega | simp | (simp; omega) | (simp +contextual; omega))
    refine s1 tok [1, 2, 3, 12] ?_ (hv := by first | with_reducible exact True.intro | ((simp at hb ⊢; exact hb); done) | omega | simp | (simp; omega) | (simp +contextual; omega))
    refine s1 tok [1, 2, 3] ?_ (hv := by first | with_reducible exact True.intro | ((simp at hb ⊢; exact hb); done) | omega | simp | (simp; omega) | (simp +contextual; omega))
    refine AOpsO.nil ?_
    refine AW.seqRegionO [] ?_
    refine s1 tok [1, 2, 13] ?_
    refine s1 tok [1, 2, 13, 14] ?_
    refine s1 tok [1, 2] ?_
    refine AOpsO.nil ?_
    refine AW.seqRegionO [] ?_
    refine s1 tok [2, 15] ?_
    refine s1 tok [2] ?_
    refine AOpsO.nil ?_
    exact AW.ret ⟨.inr rfl, _, _, by (conv => lhs; simp), trivial, by simp [tidyV_eq v, h10]⟩
  · intro h10
    try simp at h10
    refine AW.skip ?_
    refine AW.seqRunDrawK tok mixed [1, 2] 7 [[1], [16], [17], [1], [19], [20], [1]] [.nilf, .sl 1 (v.keys.map PD.str), .clo 9 [], .nilf, .sl 9 (v.kids.map Val.enc), .clo 31 []] [] (by kernel_rfl) (by intro C; conv => lhs; simp) (by first | exact hck | exact hcv | ((repeat' (first | with_reducible apply And.intro | intro _)) <;> first | exact (hck) | exact (hcv) | assumption | omega | contradiction | simp_all)) (by simp [Sm.sum, Sm.foot, Sm.tch, Sm.refs]; kernel_rfl) (by intro C; conv => lhs; simp) (by first | with_reducible exact True.intro | omega | simp | (simp; omega) | (simp +contextual; omega)) ?_
    refine AW.seq ?_
    refine AW.seqRegionO [] ?_
    refine s1 tok [1, 2, 24] ?_
    refine s1 tok [1, 2, 25] ?_
    refine s1 tok [1, 2, 25, 26] ?_
    refine s1 tok [1, 2, 25, 26, 27] ?_
    refine AOpsO.nil ?_
    refine AW.block ?_
    refine AW.loop (α := Nat) (fun k => k ≤ v.kids.length) (fun k => ⟨upds 40 [(1, .ptr 1 0), (2, .ptr 2 0), (25, .ms 21), (26, .p (.int .i64 v.kids.length)), (27, .p (.int .i64 k))], [], [(1, .vars 31 [.p (.int .i64 v.kind), .p (.int .u64 v.mask), .p (.bool v.num.neg), .p (.str v.num.digits), .p (.int .i64 v.num.scale), .p (.str v.text), .ms 18, .ms 21, .p (.int .i64 v.code)]), (2, .vars 31 [.p (.int .i64 0), .p (.int .u64 0), .p (.bool false), .p (.str []), .p (.int .i64 0), .p (.str []), .nilsl, .nilsl, .p (.int .i64 0)]), (18, .row 9 1 (v.keys.map PD.str)), (21, .row 31 9 (partK tidyV v.kids k))], 0⟩) (fun k => v.kids.length - k) (0) (by simp) ⟨upds_le (by simp), rfl, by simp, by simp⟩ ?_
    rintro k hk
    refine AW.seqRegionO [] ?_
    refine s1 tok [1, 2, 25, 26, 27, 28] ?_
    refine AOpsO.nil ?_
    refine AW.seq ?_
    refine AW.cond (c := .tmp 28) (by conv => lhs; simp) trivial ?_ ?_
    · intro h28
      try simp at h28
      obtain ⟨x, hx⟩ : ∃ x, v.kids[k]? = some x := ⟨v.kids[k], by simp [h28]⟩
      have hx' := partK_get (f := tidyV) hx
      have hkl := partK_len tidyV v.kids k
      have hix := ih x (List.mem_of_getElem? hx)
      have hset := partK_set (f := tidyV) hx
      simp only [Val.enc_def] at hx' hix hset
      refine AW.skip ?_
      refine AW.seq ?_
      refine AW.block ?_
      refine AW.seqRegionO [x.enc] ?_
      refine s1 tok [1, 2, 25, 26, 27, 29] ?_
      refine s1 tok [1, 2, 25, 26, 27, 29, 30] ?_ (hv := by first | with_reducible exact True.intro | (simpa using hx'; done) | omega | simp | (simp; omega) | (simp +contextual; omega))
      refine s1 tok [1, 2, 25, 26, 27, 29, 31] ?_ (hv := by first | with_reducible exact True.intro | (simpa using hx'; done) | omega | simp | (simp; omega) | (simp +contextual; omega))
      refine s1 tok [1, 2, 5, 25, 26, 27, 29, 31] ?_
      refine s1 tok [1, 2, 4, 5, 25, 26, 27, 31] ?_
      refine s1 tok [1, 2, 4, 5, 25, 26, 27] ?_ (hv := by first | with_reducible exact True.intro | (simpa using hx'; done) | omega | simp | (simp; omega) | (simp +contextual; omega))
      refine AOpsO.nil ?_
      refine AW.runDrawK tok mixed [1, 2, 25, 26, 27] 5 [[1], [32], [4], [5], [35]] [.nilp, (tidyV x).enc] [x.enc, (tidyV x).enc] (by kernel_rfl) (by intro C; conv => lhs; simp) (by first | exact hix | ((repeat' (first | with_reducible apply And.intro | intro _)) <;> first | exact (hix) | exact (hx') | assumption | omega | contradiction | simp_all)) (by simp [Sm.sum, Sm.foot, Sm.tch, Sm.refs]; kernel_rfl) (by intro C; conv => lhs; simp) (by exact ⟨by omega, hx'⟩) ?_
      refine AW.regionO [] ?_
      refine s1 tok [1, 2, 25, 26, 38] ?_
      refine s1 tok [1, 2, 25, 26, 27] ?_
      refine AOpsO.nil ?_
      exact ⟨k + 1, (by omega), (by omega), upds_le (by simp [hset]), rfl, by simp [hset], by simp [hset]⟩
    · intro h28
      try simp at h28
      obtain rfl : k = v.kids.length := by omega
      rw [partK_full]
      refine AW.exit ?_
      simp
      refine AW.seqRegionO [] ?_
      refine AOpsO.freeze 18 (by conv => lhs; simp) ?_
      refine AOpsO.freeze 21 (by conv => lhs; simp) ?_
      refine s1 tok [2, 39] ?_
      refine s1 tok [2] ?_
      refine AOpsO.nil ?_
      exact AW.ret ⟨.inr rfl, _, _, by (conv => lhs; simp), trivial, by simp [tidyV_eq v, h10]⟩
theorem tidy_ev (v : Val) : mayT v = true → AFn Tryz.prog G 20 [v.enc] (tidyV v).enc :=
  Val.induct (p := fun v => mayT v = true → AFn Tryz.prog G 20 [v.enc] (tidyV v).enc) (fun v ih hv => tidy_step v hv fun k hk => ih k hk (may_kid hv hk)) v
theorem get_ev (v : Val) (s : List UInt8) (hv : mayT v = true) : AFn Tryz.prog G 12 [v.enc, .str s] (.tup [(getV v s).1.enc, .bool (getV v s).2]) := by
  refine AFn.introU tok Tryz.func12 (by kernel_rfl) rfl rfl ?_
  simp only [Tryz.f12, enumA, List.map_cons, List.map_nil]
  have hi := idxK_ev (G := G) v.keys s
  refine AW.seqRegionO [] ?_
  refine s1 tok [1, 2] ?_
  refine s1 tok [1, 2, 4] ?_
  refine s1 tok [1, 2, 4] ?_
  refine AOpsO.nil ?_
  refine AW.seqRegionO [.nilp, .int .i64 (idxK v.keys s)] ?_
  refine s1 tok [1, 2, 4, 7] ?_
  refine s1 tok [1, 2, 4, 8] ?_ (hv := by first | with_reducible exact True.intro | (exact hi; done) | omega | simp | (simp; omega) | (simp +contextual; omega))
  refine s1 tok [2, 4, 8, 9] ?_
  refine s1 tok [2, 4, 10] ?_ (hv := by first | with_reducible exact True.intro | (exact hi; done) | omega | simp | (simp; omega) | (simp +contextual; omega))
  refine s1 tok [2, 4, 6] ?_
  refine AOpsO.nil ?_
  refine AW.seq ?_
  refine AW.seqRegionO [] ?_
  refine s1 tok [2, 4, 6, 11] ?_
  refine s1 tok [2, 4, 6, 12] ?_
  refine s1 tok [2, 4, 6, 13] ?_
  refine s1 tok [2, 4, 6, 14] ?_
  refine s2 tok [2, 4, 6, 14, 15] 14 rfl rfl ?_
  refine s2 tok [2, 4, 6, 14, 16] 14 rfl rfl ?_
  refine s1 tok [2, 4, 6, 17] ?_
  refine AOpsO.nil ?_
  refine AW.cond (c := .tmp 17) (by conv => lhs; simp) trivial ?_ ?_
  · intro h17
    try simp at h17
    have hR : getV v s = (zeroV, false) := by
      unfold getV; rw [if_neg]; rintro ⟨h1, h2⟩; unfold idxK at h17; rw [if_pos h2] at h17; omega
    refine AW.seqRegionO [] ?_
    refine s1 tok [4, 18] ?_
    refine s1 tok [4] ?_
    refine s1 tok [4, 5] ?_
    refine AOpsO.nil ?_
    exact AW.ret ⟨.inr rfl, _, _, by (conv => lhs; simp), trivial, by simp [hR, dc0]⟩
  · intro h17
    try simp at h17
    have hin : s ∈ v.keys := by
      by_cases h : s ∈ v.keys
      · exact h
      · unfold idxK at h17; rw [if_neg h] at h17; omega
    have hR : getV v s = (withV (kidOf v s) v.mask, true) := by unfold getV; rw [if_pos ⟨by omega, hin⟩]
    have hk := kidOf_get (v := v) (by have := may_obj hv (by omega); omega) hin
    have hw := with_ev (G := G) (kidOf v s) v.mask (may_kid hv (List.mem_of_getElem? hk))
    simp only [Val.enc_def] at hw
    have hix : idxK v.keys s = (v.keys.idxOf s : Int) := by unfold idxK; rw [if_pos hin]
    rw [hix]
    refine AW.skip ?_
    refine AW.seqRunDrawK tok mixed [4, 5] 8 [[2], [19], [6], [20, 21], [22], [2], [24], [23, 25]] [(kidOf v s).enc, .nilp, (withV (kidOf v s) v.mask).enc] [] (by kernel_rfl) (by intro C; conv => lhs; simp) (by (simp [hk]; exact hw)) (by simp [Sm.sum, Sm.foot, Sm.tch, Sm.refs]; kernel_rfl) (by intro C; conv => lhs; simp) (by first | with_reducible exact True.intro | omega | simp | (simp; omega) | (simp +contextual; omega)) ?_
    exact AW.ret ⟨.inr rfl, _, _, by (conv => lhs; simp), trivial, by simp [hR]⟩
theorem at_ev (v : Val) (i : Int) (hv : mayT v = true) (hi : -9223372036854775808 ≤ i ∧ i ≤ 9223372036854775807) : AFn Tryz.prog G 11 [v.enc, .int .i64 i] (.tup [(atV v i).1.enc, .bool (atV v i).2]) := by
  refine AFn.introU tok Tryz.func11 (by kernel_rfl) rfl rfl ?_
  simp only [Tryz.f11, enumA, List.map_cons, List.map_nil]
  have hsm := may_small hv
  refine AW.seqRegionO [] ?_
  refine s1 tok [1, 2] ?_
  refine s1 tok [1, 2, 4] ?_
  refine s1 tok [1, 2, 4] ?_
  refine AOpsO.nil ?_
  refine AW.join (α := Unit) (fun _ => True) (fun a => ⟨upds 36 [(1, .p (.int .i64 (atI v i))), (2, .ptr 2 0), (4, .ptr 4 0)], [], [(2, .vars 31 v.cells), (4, .vars 31 zeroN)], 0⟩) ?_ ?_
  ·
    refine AW.seqRegionO [] ?_
    refine s1 tok [1, 2, 4, 6] ?_
    refine s1 tok [1, 2, 4, 7] ?_
    refine AOpsO.nil ?_
    refine AW.cond (c := .tmp 7) (by conv => lhs; simp) trivial ?_ ?_
    · intro h7
      try simp at h7
      refine AW.regionO [] ?_
      refine s1 tok [2, 4, 8] ?_
      refine s1 tok [2, 4, 8, 9] ?_
      refine s1 tok [2, 4, 8, 10] ?_
      refine s1 tok [2, 4, 8, 11] ?_
      refine s1 tok [2, 4, 12] ?_
      refine s1 tok [1, 2, 4] ?_
      refine AOpsO.nil ?_
      exact ⟨(), trivial, upds_le (by simp [atI, h7]), rfl, by simp [atI, h7], by simp [atI, h7]⟩
    · intro h7
      try simp at h7
      refine AW.skip ?_
      exact ⟨(), trivial, upds_le (by simp [atI, h7, show ¬ i < 0 from by omega]), rfl, by simp [atI, h7, show ¬ i < 0 from by omega], by simp [atI, h7, show ¬ i < 0 from by omega]⟩
  ·
    rintro a hI
    refine AW.seq ?_
    refine AW.seqRegionO [] ?_
    refine s1 tok [1, 2, 4, 13] ?_
    refine s1 tok [1, 2, 4, 14] ?_
    refine s1 tok [1, 2, 4, 15] ?_
    refine s1 tok [1, 2, 4, 16] ?_
    refine s2 tok [1, 2, 4, 16, 17] 16 rfl rfl ?_
    refine s2 tok [1, 2, 4, 16, 18] 16 rfl rfl ?_
    refine s1 tok [1, 2, 4, 19] ?_
    refine s1 tok [1, 2, 4, 20] ?_
    refine s2 tok [1, 2, 4, 20, 21] 20 rfl rfl ?_
    refine s2 tok [1, 2, 4, 20, 21, 22] 20 rfl rfl ?_
    refine s2 tok [1, 2, 4, 20, 21, 23] 20 rfl rfl ?_
    refine s2 tok [1, 2, 4, 20, 21, 24] 20 rfl rfl ?_
    refine s2 tok [1, 2, 4, 20, 25] 20 rfl rfl ?_
    refine s1 tok [1, 2, 4, 26] ?_
    refine AOpsO.nil ?_
    refine AW.cond (c := .tmp 26) (by conv => lhs; simp) trivial ?_ ?_
    · intro h26
      try simp at h26
      have hR : atV v i = (zeroV, false) := by
        unfold atV; rw [if_neg]; omega
      refine AW.seqRegionO [] ?_
      refine s1 tok [4, 27] ?_
      refine s1 tok [4] ?_
      refine s1 tok [4, 5] ?_
      refine AOpsO.nil ?_
      exact AW.ret ⟨.inr rfl, _, _, by (conv => lhs; simp), trivial, by simp [hR, dc0]⟩
    · intro h26
      try simp at h26
      have hR : atV v i = (withV (v.kids.getD (atI v i).toNat zeroV) v.mask, true) := by unfold atV; rw [if_pos (by omega)]
      have hk : v.kids[(atI v i).toNat]? = some (v.kids.getD (atI v i).toNat zeroV) := by
        rw [List.getD_eq_getElem?_getD, List.getElem?_eq_getElem (by omega)]; rfl
      generalize v.kids.getD (atI v i).toNat zeroV = x at *
      have hw := with_ev (G := G) x v.mask (may_kid hv (List.mem_of_getElem? hk))
      simp only [Val.enc_def] at hw
      refine AW.skip ?_
      refine AW.seqRunDrawK tok mixed [4, 5] 8 [[2], [28], [1], [29, 30], [31], [2], [33], [32, 34]] [x.enc, .nilp, (withV x v.mask).enc] [] (by kernel_rfl) (by intro C; conv => lhs; simp) (by (simp [hk]; exact ⟨by omega, hw⟩)) (by simp [Sm.sum, Sm.foot, Sm.tch, Sm.refs]; kernel_rfl) (by intro C; conv => lhs; simp) (by first | with_reducible exact True.intro | omega | simp | (simp; omega) | (simp +contextual; omega)) ?_
      exact AW.ret ⟨.inr rfl, _, _, by (conv => lhs; simp), trivial, by simp [hR]⟩
end Go.Proofs.YtgoepemmcibdaaaGreatDoor
