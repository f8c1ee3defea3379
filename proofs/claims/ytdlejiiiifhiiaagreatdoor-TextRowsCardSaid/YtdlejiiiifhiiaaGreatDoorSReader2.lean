import Derived.Test.YtdlejiiiifhiiaaGreatDoorSReader
namespace Go.Proofs.YtdlejiiiifhiiaaGreatDoor
open Sy Go
set_option maxRecDepth 100000
set_option maxHeartbeats 4000000
set_option linter.unusedSimpArgs false
set_option linter.unusedVariables false
variable {G : Glob}
/-! ### Parts are told as long as there is something left -/
theorem sep_nodes (c : UInt8) (many : Nat) (st : RS) : (sepR c many st).2.nodes = st.nodes := by
  unfold sepR; simp only; split
  · rfl
  · split <;> simp
theorem sep_bad (c : UInt8) (many : Nat) (st : RS) (h : (sepR c many st).2.bad = false) : st.bad = false := by
  unfold sepR at h; simp only at h; split at h
  · rename_i hb; rw [hb] at h; cases h
  · rename_i hb; simpa using hb
theorem sep_bad' (c : UInt8) (many : Nat) (st : RS) (h : (sepR c many st).1 = false) : st.bad = false := by
  unfold sepR at h; simp only at h; split at h
  · cases h
  · rename_i hb; simpa using hb
theorem quoted_nodes (st : RS) : (quotedR st).1.nodes = st.nodes := by
  unfold quotedR quotedL; split
  · rfl
  · split <;> rfl
theorem quoted_bad (st : RS) (h : (quotedR st).1.bad = false) : st.bad = false := by
  unfold quotedR quotedL at h; split at h
  · exact h
  · split at h
    · exact h
    · cases h
theorem colon_nodes (st : RS) : (colonR st).nodes = st.nodes := by
  unfold colonR; split
  · rfl
  · simp
theorem colon_bad (st : RS) (h : (colonR st).bad = false) : st.bad = false := by
  unfold colonR at h; split at h
  · exact h
  · rename_i hb; simpa using hb
theorem atom_nodes (st : RS) : (atomR st).1.nodes = st.nodes := by
  unfold atomR
  split
  · rfl
  · split
    · rfl
    · split
      · rfl
      · split
        · exact quoted_nodes st
        · split <;> rfl
theorem atom_bad (st : RS) (h : (atomR st).1.bad = false) : st.bad = false := by
  unfold atomR at h
  split at h
  · exact h
  · split at h
    · exact h
    · split at h
      · exact h
      · split at h
        · exact quoted_bad st h
        · split at h
          · simp only [numberR, Bool.or_eq_false_iff] at h; exact h.1
          · cases h
theorem lens2 : ∀ n : Nat, (∀ st d, (valR n st d).1.bad = false → st.bad = false ∧ (valR n st d).1.nodes + (valR n st d).1.left.length ≤ st.nodes + st.left.length) ∧
    (∀ st d many vs, (lstR n st d many vs).1.bad = false → st.bad = false ∧ (lstR n st d many vs).1.nodes + (lstR n st d many vs).1.left.length ≤ st.nodes + st.left.length) ∧
    (∀ st d many ks vs, (objR n st d many ks vs).1.bad = false → st.bad = false ∧ (objR n st d many ks vs).1.nodes + (objR n st d many ks vs).1.left.length ≤ st.nodes + st.left.length)
  | 0 => ⟨fun st d h => by simp [valR] at h, fun st d many vs h => by simp [lstR] at h, fun st d many ks vs h => by simp [objR] at h⟩
  | n + 1 => by
    obtain ⟨ih1, ih2, ih3⟩ := lens2 n
    refine ⟨fun st d => ?_, fun st d many vs => ?_, fun st d many ks vs => ?_⟩
    · have he := enter_le st d
      have hen : (enterR st d).nodes = st.nodes + 1 := rfl
      have heb : (enterR st d).bad = st.bad := rfl
      have ht : trimB (enterR st d).left = (enterR st d).left := trimB_trim _
      simp only [valR]
      split
      · rename_i h
        have h1 := prefix_len h
        have h2 := tk_le [93] (dropR (enterR st d) 1)
        have h5 := tk_nodes [93] (dropR (enterR st d) 1)
        have h6 := tk_bad [93] (dropR (enterR st d) 1)
        simp only [dropR, List.length_drop, List.length_cons, List.length_nil] at h1 h2 h5 h6
        split
        · simp only [dropR]; intro hb; exact ⟨by rw [← heb, ← h6]; exact hb, by omega⟩
        · have h3 := ih2 (tk [93] (dropR (enterR st d) 1)).2 (d + 1) 1 []
          simp only [dropR] at h3 ⊢
          intro hb
          obtain ⟨h7, h8⟩ := h3 hb
          exact ⟨by rw [← heb, ← h6]; exact h7, by omega⟩
      · split
        · rename_i h
          have h1 := prefix_len h
          have h2 := tk_le [125] (dropR (enterR st d) 1)
          have h5 := tk_nodes [125] (dropR (enterR st d) 1)
          have h6 := tk_bad [125] (dropR (enterR st d) 1)
          simp only [dropR, List.length_drop, List.length_cons, List.length_nil] at h1 h2 h5 h6
          split
          · simp only [dropR]; intro hb; exact ⟨by rw [← heb, ← h6]; exact hb, by omega⟩
          · have h3 := ih3 (tk [125] (dropR (enterR st d) 1)).2 (d + 1) 1 [] []
            simp only [dropR] at h3 ⊢
            intro hb
            obtain ⟨h7, h8⟩ := h3 hb
            exact ⟨by rw [← heb, ← h6]; exact h7, by omega⟩
        · have h1 := atom_lt (enterR st d) ht
          have h2 := atom_nodes (enterR st d)
          intro hb
          have := h1.2 hb
          exact ⟨heb ▸ atom_bad _ hb, by omega⟩
    · simp only [lstR]
      split
      · rename_i hb; intro h; simp only at h; rw [h] at hb; cases hb
      · rename_i hb
        have hb' : st.bad = false := by simpa using hb
        have h1 := ih1 st d
        have h2 := sep_le 93 many (valR n st d).1
        have h3 := sep_nodes 93 many (valR n st d).1
        have h4 := sep_bad 93 many (valR n st d).1
        split
        · simp only; intro h; have := h1 (h4 h); exact ⟨hb', by omega⟩
        · intro h
          obtain ⟨h5, h6⟩ := ih2 (sepR 93 many (valR n st d).1).2 d (many + 1) (vs ++ [(valR n st d).2]) h
          have := h1 (h4 h5); exact ⟨hb', by omega⟩
    · simp only [objR]
      split
      · rename_i hb; intro h; simp only at h; rw [h] at hb; cases hb
      · rename_i hb
        have hb' : st.bad = false := by simpa using hb
        have h1 := quoted_le st
        have h1' := quoted_nodes st
        have h2 := colon_le (quotedR st).1
        have h2' := colon_nodes (quotedR st).1
        have h3 := ih1 (colonR (quotedR st).1) d
        generalize hA : (if (colonR (quotedR st).1).bad = true then (colonR (quotedR st).1, ks, vs) else ((valR n (colonR (quotedR st).1) d).1, putM ks vs (quotedR st).2 (valR n (colonR (quotedR st).1) d).2)) = A
        have h4 : A.1.bad = false → A.1.nodes + A.1.left.length ≤ st.nodes + st.left.length := by
          rw [← hA]; split
          · rename_i h; intro h'; simp only at h'; rw [h] at h'; cases h'
          · intro h'; have := (h3 h').2; simp only; omega
        have h5 := sep_le 125 many A.1
        have h6 := sep_nodes 125 many A.1
        have h7 := sep_bad 125 many A.1
        split
        · simp only; intro h; have := h4 (h7 h); exact ⟨hb', by omega⟩
        · intro h
          obtain ⟨h8, h9⟩ := ih3 (sepR 125 many A.1).2 d (many + 1) A.2.1 A.2.2 h
          have := h4 (h7 h8); exact ⟨hb', by omega⟩
/-- What a value's reading is told to do, for less fuel. -/
def ValHyp (G : Glob) (N d : Nat) : Prop := ∀ (m : Nat) (s : RS), m < N → 2 * s.left.length + 2 ≤ m → s.left.length ≤ 1000000000 → s.nodes + s.left.length ≤ 10000000000 → d + s.left.length ≤ 10000000000 →
  AX Tryz.prog G 27 [.ptr 2 0, .p (.int .i64 d)] [(2, .vars 59 (rdC s))] (.agg (valR m s d).2.cells) [2] [(2, .vars 59 (rdC (valR m s d).1))]
theorem list1_ax (st st' : RS) (d : Nat) (v : Val) (vs : List Val) (hl : vs.length ≤ 1000000000) (hv : AX Tryz.prog G 27 [.ptr 2 0, .p (.int .i64 d)] [(2, .vars 59 (rdC st))] (.agg v.cells) [2] [(2, .vars 59 (rdC st'))]) : AX Tryz.prog G 70 [.ptr 5 0, .ptr 6 0, .ptr 7 0] [(2, .vars 59 (rdC st)), (5, .vars 31 [.p (.int .i64 6), .p (.int .u64 0), .p (.bool false), .p (.str []), .p (.int .i64 0), .p (.str []), .nilsl, .ms 8, .p (.int .i64 0)]), (6, .vars 57 [.ptr 2 0]), (7, .vars 3 [.p (.int .i64 d)]), (8, .row 31 9 (vs.map Val.enc))] (.tuple []) [2, 5, 6, 7] [(2, .vars 59 (rdC st')), (5, .vars 31 [.p (.int .i64 6), .p (.int .u64 0), .p (.bool false), .p (.str []), .p (.int .i64 0), .p (.str []), .nilsl, .ms 8, .p (.int .i64 0)]), (6, .vars 57 [.ptr 2 0]), (7, .vars 3 [.p (.int .i64 d)]), (8, .row 31 9 ((vs ++ [v]).map Val.enc))] := by
  refine AX.introU tok 900 Tryz.func70 (by kernel_rfl) rfl rfl ?_
  simp only [Tryz.f70, enumA, List.map_cons, List.map_nil]
  simp only [rdC, Val.cells] at hv
  refine AW.drawS tok mixed 12 [[0], [3], [1], [2], [5, 6], [4], [], [4, 9], [10, 8], [11, 7], [0], [12, 10]] [.ref [.str st'.left, .int .i64 st'.nodes, .bool st'.bad, .bool st'.deep, .bool st'.big], v.enc, zeroV.enc, zeroV.enc, v.enc] [] (by kernel_rfl) ?_
  refine d1 ?_ (h := by intro C; conv => lhs; simp [Value.oneCell'])
  refine d1 ?_ (h := by intro C; conv => lhs; simp [Value.oneCell']) (hv := by first | with_reducible exact True.intro | (first | omega | (simpa [pcells] using hv) | (simp; omega) | (trace_state; fail); done) | omega | simp | (simp; omega) | (simp +contextual; omega))
  refine d1 ?_ (h := by intro C; conv => lhs; simp [Value.oneCell']) (hv := by first | with_reducible exact True.intro | (first | omega | (simpa [pcells] using hv) | (simp; omega) | (trace_state; fail); done) | omega | simp | (simp; omega) | (simp +contextual; omega))
  refine d1 ?_ (h := by intro C; conv => lhs; simp [Value.oneCell']) (hv := by first | with_reducible exact True.intro | (first | omega | (simpa [pcells] using hv) | (simp; omega) | (trace_state; fail); done) | omega | simp | (simp; omega) | (simp +contextual; omega))
  refine d1 ?_ (h := by intro C; conv => lhs; simp [Value.oneCell']) (hv := by first | with_reducible exact True.intro | (first | omega | (simpa [pcells] using hv) | (simp; omega) | (trace_state; fail); done) | omega | simp | (simp; omega) | (simp +contextual; omega))
  refine d1 ?_ (h := by intro C; conv => lhs; simp [Value.oneCell']) (hv := by first | with_reducible exact True.intro | (first | omega | (simpa [pcells] using hv) | (simp; omega) | (trace_state; fail); done) | omega | simp | (simp; omega) | (simp +contextual; omega))
  refine d1 ?_ (h := by intro C; conv => lhs; simp [Value.oneCell']) (hv := by first | with_reducible exact True.intro | (first | omega | (simpa [pcells] using hv) | (simp; omega) | (trace_state; fail); done) | omega | simp | (simp; omega) | (simp +contextual; omega))
  refine d1 ?_ (h := by intro C; conv => lhs; simp [Value.oneCell']) (hv := by first | with_reducible exact True.intro | (first | omega | (simpa [pcells] using hv) | (simp; omega) | (trace_state; fail); done) | omega | simp | (simp; omega) | (simp +contextual; omega))
  refine d1 ?_ (h := by intro C; conv => lhs; simp [Value.oneCell']) (hv := by first | with_reducible exact True.intro | (first | omega | (simpa [pcells] using hv) | (simp; omega) | (trace_state; fail); done) | omega | simp | (simp; omega) | (simp +contextual; omega))
  refine d1 ?_ (h := by intro C; conv => lhs; simp [Value.oneCell']) (hv := by first | with_reducible exact True.intro | (first | omega | (simpa [pcells] using hv) | (simp; omega) | (trace_state; fail); done) | omega | simp | (simp; omega) | (simp +contextual; omega))
  refine d1 ?_ (h := by intro C; conv => lhs; simp [Value.oneCell'])
  refine d1 ?_ (h := by intro C; conv => lhs; simp [Value.oneCell']) (hv := by first | with_reducible exact True.intro | (first | omega | (simpa [pcells] using hv) | (simp; omega) | (trace_state; fail); done) | omega | simp | (simp; omega) | (simp +contextual; omega))
  refine DGo.nil (by kernel_rfl) ⟨by kernel_rfl, ?_⟩
  refine AOpsO.take 910 8 (by conv => lhs; simp) ?_
  refine AOpsO.nil ?_
  exact ⟨.inl rfl, _, _, by (conv => lhs; simp), trivial, by simp, by simp, by simp, by simp⟩
/-- A list's parts, from the first on. -/
def lstM (n : Nat) (st : RS) (d : Nat) : RS × List Val := if (tk [93] st).1 = true then ((tk [93] st).2, []) else lstR n (tk [93] st).2 d 1 []
theorem lst_step (n : Nat) (st : RS) (d many : Nat) (vs : List Val) : lstR (n + 1) st d many vs = if st.bad = true then (st, vs) else if (sepR 93 many (valR n st d).1).1 = true then ((sepR 93 many (valR n st d).1).2, vs ++ [(valR n st d).2]) else lstR n (sepR 93 many (valR n st d).1).2 d (many + 1) (vs ++ [(valR n st d).2]) := by
  simp only [lstR]
theorem eachL_ax (N : Nat) (st : RS) (d : Nat) (hN : 2 * st.left.length + 3 ≤ N) (hl : st.left.length ≤ 1000000000) (hk : st.nodes + st.left.length ≤ 10000000000) (hd : d + st.left.length ≤ 10000000000) (hv : ValHyp G N d) : AX Tryz.prog G 69 [.ptr 2 0, .p (.str [93]), .func (.func 70) [] [.ptr 5 0, .ptr 6 0, .ptr 7 0]] [(2, .vars 59 (rdC st)), (5, .vars 31 [.p (.int .i64 6), .p (.int .u64 0), .p (.bool false), .p (.str []), .p (.int .i64 0), .p (.str []), .nilsl, .ms 8, .p (.int .i64 0)]), (6, .vars 57 [.ptr 2 0]), (7, .vars 3 [.p (.int .i64 d)]), (8, .row 31 9 (([] : List Val).map Val.enc))] (.tuple []) [2, 5, 6, 7] [(2, .vars 59 (rdC (lstM N st d).1)), (5, .vars 31 [.p (.int .i64 6), .p (.int .u64 0), .p (.bool false), .p (.str []), .p (.int .i64 0), .p (.str []), .nilsl, .ms 8, .p (.int .i64 0)]), (6, .vars 57 [.ptr 2 0]), (7, .vars 3 [.p (.int .i64 d)]), (8, .row 31 9 ((lstM N st d).2.map Val.enc))] := by
  refine AX.introU tok 900 Tryz.func69 (by kernel_rfl) rfl rfl ?_
  simp only [Tryz.f69, enumA, List.map_cons, List.map_nil]
  have hM : lstM N st d = if (tk [93] st).1 = true then ((tk [93] st).2, []) else lstR N (tk [93] st).2 d 1 [] := rfl
  rw [hM]
  have htl := (tk_le [93] st).1
  have htn := tk_nodes [93] st
  have htb := tk_bad [93] st
  have htd := tk_deep [93] st
  have htg := tk_big [93] st
  refine AW.seq ?_
  refine AW.seqRegionO [] ?_
  refine s1 tok [0, 1, 2, 7] ?_
  refine s1 tok [0, 1, 2, 7, 8] ?_
  refine AOpsO.stepK [0, 1, 2, 9] (y_cx rfl (takes_ax st [93]) (by simp)) (by conv => lhs; simp) rfl ?_
  refine AOpsO.nil ?_
  refine AW.cond (c := .tmp 9) (by conv => lhs; simp) trivial ?_ ?_
  · intro h9
    try simp at h9
    rw [if_pos h9]
    exact AW.ret ⟨.inr rfl, _, _, by (conv => lhs; simp), trivial, by simp, by simp, by simp, by simp⟩
  · intro h9
    try simp at h9
    rw [if_neg (by rw [h9]; simp)]
    generalize (tk [93] st).2 = sa at *
    refine AW.skip ?_
    refine AW.seqRegionO [] ?_
    refine s1 tok [0, 1, 2, 6] ?_
    refine AOpsO.nil ?_
    refine AW.block ?_
    refine AW.pinsTo [2, 5, 6, 7] (by simp) (by conv => lhs; simp) ?_
    refine AW.loop (α := Nat × RS × Nat × List Val) (fun a => lstR N sa d 1 [] = lstR a.1 a.2.1 d a.2.2.1 a.2.2.2 ∧ 2 * a.2.1.left.length + 3 ≤ a.1 ∧ a.1 ≤ N ∧ a.2.1.left.length ≤ st.left.length ∧ (a.2.1.bad = false → a.2.1.nodes + a.2.1.left.length ≤ 10000000000) ∧ a.2.2.2.length + a.2.1.left.length ≤ 1000000000 ∧ a.2.2.1 + a.2.1.left.length ≤ 1000000001) (fun a => ⟨upds 45 [(0, .ptr 2 0), (1, .p (.str [93])), (2, .func (.func 70) [] [.ptr 5 0, .ptr 6 0, .ptr 7 0]), (6, .p (.int .i64 a.2.2.1))], [2, 5, 6, 7], [(2, .vars 59 (rdC a.2.1)), (5, .vars 31 [.p (.int .i64 6), .p (.int .u64 0), .p (.bool false), .p (.str []), .p (.int .i64 0), .p (.str []), .nilsl, .ms 8, .p (.int .i64 0)]), (6, .vars 57 [.ptr 2 0]), (7, .vars 3 [.p (.int .i64 d)]), (8, .row 31 9 (a.2.2.2.map Val.enc))], 900⟩) (fun a => a.1) ((N, sa, 1, [])) ⟨rfl, by simp only; omega, by simp, by simp only; omega, fun _ => by simp only; omega, by simp; omega, by simp only; omega⟩ ⟨upds_le (by simp), rfl, by simp [htn, htb, htd, htg], by simp⟩ ?_
    rintro ⟨n, s, many, vs⟩ ⟨hq, hf, hfN, hsl, hnl, hvl, hml⟩
    simp only at hq hf hfN hsl hnl hvl hml
    rw [hq]
    clear hq
    obtain ⟨n, rfl⟩ : ∃ g, n = g + 1 := ⟨n - 1, by omega⟩
    rw [lst_step]
    refine AW.seq ?_
    refine AW.seqRegionO [] ?_
    refine s1 tok [0, 1, 2, 6, 10] ?_
    refine s1 tok [0, 1, 2, 6, 11] ?_
    refine s1 tok [0, 1, 2, 6, 12] ?_
    refine s1 tok [0, 1, 2, 6, 13] ?_
    refine s1 tok [0, 1, 2, 6, 14] ?_
    refine AOpsO.nil ?_
    refine AW.cond (c := .tmp 14) (by conv => lhs; simp) trivial ?_ ?_
    · intro h14
      try simp at h14
      have hb : s.bad = false := by simpa using h14
      rw [if_neg (by rw [hb]; simp)]
      have hnb := hnl hb
      have hvn := hv n s (by omega) (by omega) (by omega) (hnl hb) (by omega)
      have hle := ((lens n).1 s d)
      have hln := ((lens2 n).1 s d)
      refine AW.skip ?_
      refine AW.seq ?_
      refine AW.block ?_
      refine AW.seqRegionO [] ?_
      refine s1 tok [0, 1, 2, 6, 17] ?_
      refine AOpsO.stepK [0, 1, 2, 6] (y_cx rfl (list1_ax s (valR n s d).1 d (valR n s d).2 vs (by omega) hvn) (by simp)) (by conv => lhs; simp) rfl ?_
      refine AOpsO.nil ?_
      generalize valR n s d = A at *; obtain ⟨⟨l, nn, b, dp, bg⟩, v⟩ := A
      simp only at hle hln ⊢
      clear hvn
      have hdm : decide ((200 : Int) < (many : Int)) = decide (200 < many) := by rw [decide_eq_decide]; omega
      refine AW.seqRegionO [] ?_
      refine s1 tok [0, 1, 2, 6, 19] ?_
      refine s1 tok [0, 1, 2, 6, 19, 20] ?_
      refine s1 tok [0, 1, 2, 6, 19, 21] ?_
      refine s1 tok [0, 1, 2, 6, 19, 22] ?_
      refine s1 tok [0, 1, 2, 6, 19, 23] ?_
      refine s1 tok [0, 1, 2, 6, 19, 24] ?_
      refine s2 tok [0, 1, 2, 6, 19, 24, 25] 24 rfl rfl ?_
      refine s2 tok [0, 1, 2, 6, 19, 24, 26] 24 rfl rfl ?_
      refine s1 tok [0, 1, 2, 6, 19, 27] ?_
      refine s1 tok [0, 1, 2, 6, 27, 28] ?_
      refine s1 tok [0, 1, 2, 6, 27, 29] ?_
      refine s1 tok [0, 1, 2, 6] ?_
      refine AOpsO.nil ?_
      refine AW.seq ?_
      by_cases hs6 : b = true
      ·
        simp only [hdm]
        first | subst hs6 | obtain rfl : b = false := by simpa using hs6
        refine AW.seqRegionO [] ?_
        refine s1 tok [0, 1, 2, 6, 30] ?_
        refine s1 tok [0, 1, 2, 6, 31] ?_
        refine s1 tok [0, 1, 2, 6, 32] ?_
        refine s1 tok [0, 1, 2, 6, 33] ?_
        refine s1 tok [0, 1, 2, 6, 34] ?_
        refine s2 tok [0, 1, 2, 6, 34, 35] 34 rfl rfl ?_
        refine s2 tok [0, 1, 2, 6, 34, 35, 36] 34 rfl rfl ?_
        refine s2 tok [0, 1, 2, 6, 34, 37] 34 rfl rfl ?_
        refine s1 tok [0, 1, 2, 6, 38] ?_
        refine AOpsO.nil ?_
        refine AW.cond (c := .tmp 38) (by conv => lhs; simp) trivial ?_ ?_
        · intro h38
          try simp at h38
          rw [show sepR 93 many ⟨l, nn, true, dp, bg⟩ = (true, ⟨l, nn, true, dp, Bool.or bg (decide (200 < many))⟩) by simp [sepR]]
          exact AW.ret ⟨.inr rfl, _, _, by (conv => lhs; simp), trivial, by simp, by simp, by simp, by simp⟩
        · intro h38
          try simp at h38
      ·
        simp only [hdm]
        first | subst hs6 | obtain rfl : b = false := by simpa using hs6
        refine AW.seqRegionO [] ?_
        refine s1 tok [0, 1, 2, 6, 30] ?_
        refine s1 tok [0, 1, 2, 6, 31] ?_
        refine s1 tok [0, 1, 2, 6, 32] ?_
        refine s1 tok [0, 1, 2, 6, 33] ?_
        refine s1 tok [0, 1, 2, 6, 34] ?_
        refine s2 tok [0, 1, 2, 6, 34, 35] 34 rfl rfl ?_
        refine s2 tok [0, 1, 2, 6, 34, 35, 36] 34 rfl rfl ?_
        refine AOpsO.stepKIf [0, 1, 2, 6, 34, 37] 34 rfl rfl (y_cx rfl (takes_ax ⟨l, nn, false, dp, Bool.or bg (decide (200 < many))⟩ [93]) (by simp)) (by simp) (by conv => lhs; simp) ?_
        refine s1 tok [0, 1, 2, 6, 38] ?_
        refine AOpsO.nil ?_
        refine AW.cond (c := .tmp 38) (by conv => lhs; simp) trivial ?_ ?_
        · intro h38
          try simp at h38
          rw [show sepR 93 many ⟨l, nn, false, dp, bg⟩ = (true, (tk [93] ⟨l, nn, false, dp, Bool.or bg (decide (200 < many))⟩).2) by simp [sepR, h38]]
          exact AW.ret ⟨.inr rfl, _, _, by (conv => lhs; simp), trivial, by simp, by simp, by simp, by simp⟩
        · intro h38
          try simp at h38
          rw [show sepR 93 many ⟨l, nn, false, dp, bg⟩ = (false, { (tk [44] (tk [93] ⟨l, nn, false, dp, Bool.or bg (decide (200 < many))⟩).2).2 with bad := !(tk [44] (tk [93] ⟨l, nn, false, dp, Bool.or bg (decide (200 < many))⟩).2).1 }) by simp [sepR, h38]]
          have hx := (tk_le [93] ⟨l, nn, false, dp, Bool.or bg (decide (200 < many))⟩).1
          have hy := (tk_le [44] (tk [93] ⟨l, nn, false, dp, Bool.or bg (decide (200 < many))⟩).2).1
          simp only [Bool.false_eq_true, if_false]
          simp only at hx
          have hlt := hle.2 rfl
          have hl2 := (hln rfl).2
          refine AW.skip ?_
          refine AW.regionO [] ?_
          refine s1 tok [0, 1, 2, 6, 39] ?_
          refine s1 tok [0, 1, 2, 6, 39, 40] ?_
          refine AOpsO.stepK [0, 1, 2, 6, 39, 41] (y_cx rfl (takes_ax (tk [93] ⟨l, nn, false, dp, Bool.or bg (decide (200 < many))⟩).2 [44]) (by simp)) (by conv => lhs; simp) rfl ?_
          refine s1 tok [0, 1, 2, 6, 39, 42] ?_
          refine s1 tok [0, 1, 2, 6, 42, 43] ?_
          refine s1 tok [0, 1, 2, 6, 42, 44] ?_
          refine s1 tok [0, 1, 2, 6] ?_
          refine AOpsO.nil ?_
          refine AW.regionO [] ?_
          refine s1 tok [0, 1, 2, 15] ?_
          refine s1 tok [0, 1, 2, 16] ?_
          refine s1 tok [0, 1, 2, 6] ?_
          refine AOpsO.nil ?_
          exact ⟨(n, { (tk [44] (tk [93] ⟨l, nn, false, dp, Bool.or bg (decide (200 < many))⟩).2).2 with bad := !(tk [44] (tk [93] ⟨l, nn, false, dp, Bool.or bg (decide (200 < many))⟩).2).1 }, many + 1, vs ++ [v]), ⟨by simp, by simp only; omega, by omega, by simp only; omega, fun _ => by simp only [tk_nodes]; omega, by simp; omega, by simp only; omega⟩, by simp only; omega, upds_le (by simp), rfl, by simp, by simp⟩
    · intro h14
      try simp at h14
      rw [if_pos (show s.bad = true by simpa using h14)]
      refine AW.exit ?_
      simp
      exact ⟨.inl rfl, _, _, by (conv => lhs; simp), trivial, by simp, by simp, by simp, by simp⟩
theorem list_ax (N : Nat) (st : RS) (d : Nat) (hN : 2 * st.left.length + 3 ≤ N) (hl : st.left.length ≤ 1000000000) (hk : st.nodes + st.left.length ≤ 10000000000) (hd : d + st.left.length ≤ 10000000000) (hv : ValHyp G N d) : AX Tryz.prog G 45 [.ptr 2 0, .p (.int .i64 d)] [(2, .vars 59 (rdC st))] (.agg (Val.mk 6 0 dc0 [] [] (lstM N st d).2 0).cells) [2] [(2, .vars 59 (rdC (lstM N st d).1))] := by
  refine AX.introU tok 900 Tryz.func45 (by kernel_rfl) rfl rfl ?_
  simp only [Tryz.f45, enumA, List.map_cons, List.map_nil]
  refine AW.seqRegionO [] ?_
  refine s1 tok [1, 2] ?_
  refine s1 tok [2, 3] ?_
  refine s1 tok [2, 3, 4] ?_
  refine AOpsO.nil ?_
  refine AW.seqRegionO [] ?_
  refine s1 tok [2, 3, 4, 6] ?_
  refine s1 tok [2, 3, 4, 5, 6] ?_
  refine s1 tok [2, 3, 4, 5] ?_
  refine AOpsO.nil ?_
  refine AW.renE 902 6 (by simp) (by conv => lhs; simp) ?_
  refine AW.renE 903 7 (by simp) (by conv => lhs; simp) ?_
  refine AW.renE 905 5 (by simp) (by conv => lhs; simp) ?_
  refine AW.beginBox 5 8 7 31 9 (by simp; exact ⟨rfl, rfl⟩) (by simp) (by simp) (by conv => lhs; simp) ?_
  refine AW.seqRegionO [] ?_
  refine s1 tok [2, 3, 4, 5, 7] ?_
  refine s1 tok [4, 5, 7, 8] ?_
  refine AOpsO.stepK [4, 5] (y_cx rfl (eachL_ax N st d hN hl hk hd hv) (by simp)) (by conv => lhs; simp) rfl ?_
  refine AOpsO.nil ?_
  refine AW.fillE 5 [none, none, none, none, none, none, some 1] (by conv => lhs; simp) ?_
  refine AW.freeze 8 ?_
  refine AW.seqRegionO [] ?_
  refine s1 tok [4, 10] ?_
  refine s1 tok [4] ?_
  refine AOpsO.nil ?_
  exact AW.ret ⟨.inr rfl, _, _, by (conv => lhs; simp), trivial, by simp [dc0], by simp, by simp, by simp⟩
def idxT (ks : List (List UInt8)) (s : List UInt8) : Int := if s ∈ ks then (ks.idxOf s : Int) else -1
theorem idxT_ax (l : List (List UInt8)) (s : List UInt8) : AX Tryz.prog G 72 [.ms 3, .p (.str s)] [(3, .row 9 1 (l.map PD.str))] (.p (.int .i64 (idxT l s))) [3] [(3, .row 9 1 (l.map PD.str))] := by
  refine AX.introU tok 900 Tryz.func72 (by kernel_rfl) rfl rfl ?_
  simp only [Tryz.f72, enumA, List.map_cons, List.map_nil]
  refine AW.seqRegionO [] ?_
  refine s1 tok [0, 1] ?_
  refine AOpsO.nil ?_
  refine AW.seq ?_
  refine AW.seqRegionO [] ?_
  refine s1 tok [0, 1, 6] ?_
  refine s1 tok [0, 1, 7] ?_
  refine s1 tok [0, 1, 7, 8] ?_
  refine AOpsO.nil ?_
  refine AW.block ?_
  refine AW.intFactU (i := 7) rfl (by decide) ?_; intro hlen; simp at hlen
  refine AW.loop (α := Nat) (fun k => k ≤ l.length ∧ s ∉ l.take k) (fun k => ⟨upds 19 [(0, .ms 3), (1, .p (.str s)), (7, .p (.int .i64 l.length)), (8, .p (.int .i64 k))], [3], [(3, .row 9 1 (l.map PD.str))], 900⟩) (fun k => l.length - k) (0) ⟨by omega, by simp⟩ ⟨upds_le (by simp), rfl, by simp, by simp⟩ ?_
  rintro k ⟨hk, hno⟩
  refine AW.seqRegionO [] ?_
  refine s1 tok [0, 1, 7, 8, 9] ?_
  refine AOpsO.nil ?_
  refine AW.seq ?_
  refine AW.cond (c := .tmp 9) (by conv => lhs; simp) trivial ?_ ?_
  · intro h9
    try simp at h9
    obtain ⟨x, hx⟩ : ∃ x, l[k]? = some x := ⟨l[k], by simp [h9]⟩
    refine AW.skip ?_
    refine AW.seq ?_
    refine AW.block ?_
    refine AW.seqRegionO [] ?_
    refine s1 tok [0, 1, 7, 8, 10] ?_
    refine s1 tok [0, 1, 5, 7, 8] ?_
    refine AOpsO.nil ?_
    refine AW.seqRegionO [.str x] ?_
    refine s1 tok [0, 1, 5, 7, 8, 11] ?_
    refine s1 tok [0, 1, 5, 7, 8, 11, 12] ?_
    refine s1 tok [0, 1, 5, 7, 8, 11, 12, 13] ?_
    refine s1 tok [0, 1, 5, 7, 8, 11, 14] ?_ (hv := by first | with_reducible exact True.intro | (simp [hx]; done) | omega | simp | (simp; omega) | (simp +contextual; omega))
    refine s1 tok [0, 1, 5, 7, 8, 11, 15] ?_ (hv := by first | with_reducible exact True.intro | (simp [hx]; done) | omega | simp | (simp; omega) | (simp +contextual; omega))
    refine s1 tok [0, 1, 5, 7, 8, 16] ?_ (hv := by first | with_reducible exact True.intro | (simp [hx]; done) | omega | simp | (simp; omega) | (simp +contextual; omega))
    refine AOpsO.nil ?_
    refine AW.cond (c := .tmp 16) (by conv => lhs; simp) trivial ?_ ?_
    · intro h16
      try simp at h16
      have hR : idxT l s = k := by
        have hm : s ∈ l := by rw [h16]; exact List.mem_of_getElem? hx
        unfold idxT; rw [if_pos hm]
        have : l.idxOf s = k := by
          obtain ⟨h1, h2⟩ := List.getElem?_eq_some_iff.1 hx
          have h3 := List.take_append_drop k l
          rw [← h3, List.idxOf_append, if_neg hno, List.drop_eq_getElem_cons h1, h2, h16, List.idxOf_cons_self]
          simp; omega
        rw [this]
      refine AW.seqRegionO [] ?_
      refine s1 tok [17] ?_
      refine s1 tok [4] ?_
      refine AOpsO.nil ?_
      exact AW.ret ⟨.inr rfl, _, _, by (conv => lhs; simp), trivial, by simp [hR], by simp, by simp, by simp⟩
    · intro h16
      try simp at h16
      refine AW.skip ?_
      refine AW.regionO [] ?_
      refine s1 tok [0, 1, 7, 18] ?_
      refine s1 tok [0, 1, 7, 8] ?_
      refine AOpsO.nil ?_
      exact ⟨k + 1, ⟨by omega, by rw [List.take_add_one, hx]; simp; exact ⟨hno, h16⟩⟩, by omega, upds_le (by simp), rfl, by simp, by simp⟩
  · intro h9
    try simp at h9
    have hR : idxT l s = -1 := by rw [List.take_of_length_le h9] at hno; unfold idxT; rw [if_neg hno]
    refine AW.exit ?_
    simp
    refine AW.seqRegionO [] ?_
    refine s1 tok [4] ?_
    refine AOpsO.nil ?_
    exact AW.ret ⟨.inr rfl, _, _, by (conv => lhs; simp), trivial, by simp [hR], by simp, by simp, by simp⟩
/-- One entry. -/
def entM (q : RS × List UInt8) (ks : List (List UInt8)) (vs : List Val) (v : RS × Val) : RS × List (List UInt8) × List Val := if (colonR q.1).bad = true then (colonR q.1, ks, vs) else (v.1, putM ks vs q.2 v.2)
theorem obj1_ax (hG : U8 G) (st : RS) (d : Nat) (v : RS × Val) (ks : List (List UInt8)) (vs : List Val) (hl : st.left.length ≤ 1000000000) (hlen : ks.length = vs.length) (hvl : vs.length ≤ 1000000000) (hv : (colonR (quotedR st).1).bad = false → AX Tryz.prog G 27 [.ptr 2 0, .p (.int .i64 d)] [(2, .vars 59 (rdC (colonR (quotedR st).1)))] (.agg v.2.cells) [2] [(2, .vars 59 (rdC v.1))]) : AX Tryz.prog G 71 [.ptr 6 0, .ptr 7 0, .ptr 5 0] [(2, .vars 59 (rdC st)), (5, .vars 31 [.p (.int .i64 7), .p (.int .u64 0), .p (.bool false), .p (.str []), .p (.int .i64 0), .p (.str []), .ms 3, .ms 8, .p (.int .i64 0)]), (6, .vars 57 [.ptr 2 0]), (7, .vars 3 [.p (.int .i64 d)]), (3, .row 9 1 (ks.map PD.str)), (8, .row 31 9 (vs.map Val.enc))] (.tuple []) [2, 5, 6, 7] [(2, .vars 59 (rdC (entM (quotedR st) ks vs v).1)), (5, .vars 31 [.p (.int .i64 7), .p (.int .u64 0), .p (.bool false), .p (.str []), .p (.int .i64 0), .p (.str []), .ms 3, .ms 8, .p (.int .i64 0)]), (6, .vars 57 [.ptr 2 0]), (7, .vars 3 [.p (.int .i64 d)]), (3, .row 9 1 ((entM (quotedR st) ks vs v).2.1.map PD.str)), (8, .row 31 9 ((entM (quotedR st) ks vs v).2.2.map Val.enc))] := by
  refine AX.introU tok 900 Tryz.func71 (by kernel_rfl) rfl rfl ?_
  simp only [Tryz.f71, enumA, List.map_cons, List.map_nil]
  refine AW.seqRegionO [] ?_
  refine s1 tok [0, 1, 2, 6] ?_
  refine AOpsO.stepK [0, 1, 2, 7] (y_cx rfl (quoted_ax hG st hl) (by simp)) (by conv => lhs; simp) rfl ?_
  refine s1 tok [0, 1, 2, 3] ?_
  refine AOpsO.nil ?_
  refine AW.seq ?_
  by_cases hs1 : (quotedR st).1.bad = true
  ·
    generalize quotedR st = q at *; obtain ⟨⟨l, nn, b, dp, bg⟩, key⟩ := q
    simp only at hs1 hv ⊢
    first | subst hs1 | obtain rfl : b = false := by simpa using hs1
    refine AW.seqDrawS tok mixed 13 [[0], [0], [9], [10], [11], [12], [0, 13], [14, 13], [15, 13], [13, 16], [8], [18], [19, 17]] [] [] (by kernel_rfl) ?_
    refine d1 ?_
    refine d1 ?_
    refine d1 ?_
    refine d1 ?_
    refine d1 ?_
    refine d1 ?_
    refine d2 13 rfl rfl ?_
    refine d2 13 rfl rfl ?_
    refine d2 13 rfl rfl ?_
    refine d1 ?_
    refine d1 ?_
    refine d1 ?_
    refine d1 ?_
    refine DGo.nil (by kernel_rfl) ⟨by kernel_rfl, ?_⟩
    refine AOpsO.nil ?_
    refine AW.seqRegionO [] ?_
    refine s1 tok [0, 1, 2, 3, 20] ?_
    refine s1 tok [0, 1, 2, 3, 21] ?_
    refine s1 tok [0, 1, 2, 3, 22] ?_
    refine s1 tok [0, 1, 2, 3, 23] ?_
    refine AOpsO.nil ?_
    refine AW.cond (c := .tmp 23) (by conv => lhs; simp) trivial ?_ ?_
    · intro h23
      try simp at h23
      rw [show entM (⟨l, nn, true, dp, bg⟩, key) ks vs v = (⟨l, nn, true, dp, bg⟩, ks, vs) by simp [entM, colonR]]
      exact AW.ret ⟨.inr rfl, _, _, by (conv => lhs; simp), trivial, by simp, by simp, by simp, by simp⟩
    · intro h23
      try simp at h23
  ·
    generalize quotedR st = q at *; obtain ⟨⟨l, nn, b, dp, bg⟩, key⟩ := q
    simp only at hs1 hv ⊢
    first | subst hs1 | obtain rfl : b = false := by simpa using hs1
    have htk := takes_ax (G := G) ⟨l, nn, false, dp, bg⟩ [58]
    simp only [rdC] at htk
    have hcl : colonR ⟨l, nn, false, dp, bg⟩ = { (tk [58] ⟨l, nn, false, dp, bg⟩).2 with bad := !(tk [58] ⟨l, nn, false, dp, bg⟩).1 } := rfl
    rw [hcl] at hv
    simp only [entM, hcl]
    have htn := tk_nodes [58] ⟨l, nn, false, dp, bg⟩
    have htd := tk_deep [58] ⟨l, nn, false, dp, bg⟩
    have htg := tk_big [58] ⟨l, nn, false, dp, bg⟩
    refine AW.seqDrawS tok mixed 13 [[0], [0], [9], [10], [11], [12], [0, 13], [14, 13], [15, 13], [13, 16], [8], [18], [19, 17]] [.ref [.str (tk [58] ⟨l, nn, false, dp, bg⟩).2.left, .int .i64 (tk [58] ⟨l, nn, false, dp, bg⟩).2.nodes, .bool (tk [58] ⟨l, nn, false, dp, bg⟩).2.bad, .bool (tk [58] ⟨l, nn, false, dp, bg⟩).2.deep, .bool (tk [58] ⟨l, nn, false, dp, bg⟩).2.big], .bool (tk [58] ⟨l, nn, false, dp, bg⟩).1] [] (by kernel_rfl) ?_
    refine d1 ?_ (hv := by first | with_reducible exact True.intro | (simpa [pcells] using htk; done) | omega | simp | (simp; omega) | (simp +contextual; omega))
    refine d1 ?_ (hv := by first | with_reducible exact True.intro | (simpa [pcells] using htk; done) | omega | simp | (simp; omega) | (simp +contextual; omega))
    refine d1 ?_ (hv := by first | with_reducible exact True.intro | (simpa [pcells] using htk; done) | omega | simp | (simp; omega) | (simp +contextual; omega))
    refine d1 ?_
    refine d1 ?_ (hv := by first | with_reducible exact True.intro | (simpa [pcells] using htk; done) | omega | simp | (simp; omega) | (simp +contextual; omega))
    refine d1 ?_
    refine d2 13 rfl rfl ?_ (hv := by first | with_reducible exact True.intro | (simpa [pcells] using htk; done) | omega | simp | (simp; omega) | (simp +contextual; omega))
    refine d2 13 rfl rfl ?_ (hv := by first | with_reducible exact True.intro | (simpa [pcells] using htk; done) | omega | simp | (simp; omega) | (simp +contextual; omega))
    refine d2 13 rfl rfl ?_ (hv := by first | with_reducible exact True.intro | (simpa [pcells] using htk; done) | omega | simp | (simp; omega) | (simp +contextual; omega))
    refine d1 ?_ (hv := by first | with_reducible exact True.intro | (simpa [pcells] using htk; done) | omega | simp | (simp; omega) | (simp +contextual; omega))
    refine d1 ?_ (hv := by first | with_reducible exact True.intro | (simpa [pcells] using htk; done) | omega | simp | (simp; omega) | (simp +contextual; omega))
    refine d1 ?_
    refine d1 ?_ (hv := by first | with_reducible exact True.intro | (simpa [pcells] using htk; done) | omega | simp | (simp; omega) | (simp +contextual; omega))
    refine DGo.nil (by kernel_rfl) ⟨by kernel_rfl, ?_⟩
    refine AOpsO.nil ?_
    refine AW.seqRegionO [] ?_
    refine s1 tok [0, 1, 2, 3, 20] ?_
    refine s1 tok [0, 1, 2, 3, 21] ?_
    refine s1 tok [0, 1, 2, 3, 22] ?_
    refine s1 tok [0, 1, 2, 3, 23] ?_
    refine AOpsO.nil ?_
    refine AW.cond (c := .tmp 23) (by conv => lhs; simp) trivial ?_ ?_
    · intro h23
      try simp at h23
      rw [if_pos (by simpa using h23)]
      exact AW.ret ⟨.inr rfl, _, _, by (conv => lhs; simp), trivial, by simp, by simp, by simp, by simp⟩
    · intro h23
      try simp at h23
      rw [if_neg (by simpa using h23)]
      have hv := hv (by simpa using h23)
      obtain ⟨sv, v⟩ := v
      refine AW.skip ?_
      refine AW.seqRegionO [] ?_
      refine s1 tok [1, 2, 3, 24] ?_
      refine s1 tok [2, 3, 24, 25] ?_
      refine AOpsO.stepK [2, 3, 26] (y_cx rfl hv (by simp [h23, htn, htd, htg])) (by conv => lhs; simp) rfl ?_
      refine s1 tok [2, 3, 4, 26] ?_
      refine s1 tok [2, 3, 4] ?_
      refine AOpsO.nil ?_
      refine AW.seq ?_
      refine AW.seqRegionO [] ?_
      refine s1 tok [2, 3, 4, 27] ?_
      refine s1 tok [2, 3, 4, 28] ?_
      refine s1 tok [2, 3, 4, 28, 29] ?_
      refine AOpsO.stepK [2, 3, 4, 30] (y_cx rfl (idxT_ax ks key) (by simp)) (by conv => lhs; simp) rfl ?_
      refine s1 tok [2, 3, 4, 5] ?_
      refine AOpsO.nil ?_
      have hidx : idxT ks key = if key ∈ ks then (ks.idxOf key : Int) else -1 := rfl; have hput : putM ks vs key v = if key ∈ ks then (ks, vs.set (ks.idxOf key) v) else (ks ++ [key], vs ++ [v]) := rfl
      refine AW.seqRegionO [] ?_
      refine s1 tok [2, 3, 4, 5, 31] ?_
      refine s1 tok [2, 3, 4, 5, 32] ?_
      refine AOpsO.nil ?_
      refine AW.cond (c := .tmp 32) (by conv => lhs; simp) trivial ?_ ?_
      · intro h32
        try simp at h32
        have hm : key ∈ ks := by false_or_by_contra; rename_i hm; rw [if_neg hm] at hidx; omega
        rw [if_pos hm] at hidx hput
        have hi := List.idxOf_lt_length_iff.2 hm
        rw [hidx, hput]
        obtain ⟨o, ho⟩ : ∃ o, vs[ks.idxOf key]? = some o := ⟨vs[ks.idxOf key]'(by omega), by simp⟩
        have hio : ks.idxOf key < vs.length := by omega
        refine AW.seqRegionO [o.enc, v.enc] ?_
        refine s1 tok [4, 5, 33] ?_
        refine s1 tok [4, 5, 34] ?_ (hv := by first | with_reducible exact True.intro | (first | omega | (simp [ho]; done) | (simp [ho, Val.cells, V.fitsL]; done); done) | omega | simp | (simp; omega) | (simp +contextual; omega))
        refine s1 tok [4, 34, 35] ?_
        refine s1 tok [34, 35, 36] ?_ (hv := by first | with_reducible exact True.intro | (first | omega | (simp [ho]; done) | (simp [ho, Val.cells, V.fitsL]; done); done) | omega | simp | (simp; omega) | (simp +contextual; omega))
        refine s1 tok [36, 37] ?_ (hv := by first | with_reducible exact True.intro | (first | omega | (simp [ho]; done) | (simp [ho, Val.cells, V.fitsL]; done); done) | omega | simp | (simp; omega) | (simp +contextual; omega))
        refine s1 tok [] ?_ (hv := by first | with_reducible exact True.intro | (first | omega | (simp [ho]; done) | (simp [ho, Val.cells, V.fitsL]; done); done) | omega | simp | (simp; omega) | (simp +contextual; omega))
        refine AOpsO.nil ?_
        exact AW.ret ⟨.inr rfl, _, _, by (conv => lhs; simp), trivial, by simp, by simp, by simp, by simp⟩
      · intro h32
        try simp at h32
        have hm : key ∉ ks := by intro hm; rw [if_pos hm] at hidx; omega
        rw [hput, if_neg hm]
        refine AW.skip ?_
        refine AW.drawS tok mixed 12 [[2], [38], [3], [40], [39, 41], [2], [43], [4], [45], [44, 46], [2], [48, 42]] [.str key, v.enc] [] (by kernel_rfl) ?_
        refine d1 ?_ (h := by intro C; conv => lhs; simp [Value.oneCell'])
        refine d1 ?_ (h := by intro C; conv => lhs; simp [Value.oneCell']) (hv := by first | with_reducible exact True.intro | (first | omega | (simp; omega); done) | omega | simp | (simp; omega) | (simp +contextual; omega))
        refine d1 ?_ (h := by intro C; conv => lhs; simp [Value.oneCell'])
        refine d1 ?_ (h := by intro C; conv => lhs; simp [Value.oneCell']) (hv := by first | with_reducible exact True.intro | (first | omega | (simp; omega); done) | omega | simp | (simp; omega) | (simp +contextual; omega))
        refine d1 ?_ (h := by intro C; conv => lhs; simp [Value.oneCell']) (hv := by first | with_reducible exact True.intro | (first | omega | (simp; omega); done) | omega | simp | (simp; omega) | (simp +contextual; omega))
        refine d1 ?_ (h := by intro C; conv => lhs; simp [Value.oneCell'])
        refine d1 ?_ (h := by intro C; conv => lhs; simp [Value.oneCell']) (hv := by first | with_reducible exact True.intro | (first | omega | (simp; omega); done) | omega | simp | (simp; omega) | (simp +contextual; omega))
        refine d1 ?_ (h := by intro C; conv => lhs; simp [Value.oneCell']) (hv := by first | with_reducible exact True.intro | (first | omega | (simp; omega); done) | omega | simp | (simp; omega) | (simp +contextual; omega))
        refine d1 ?_ (h := by intro C; conv => lhs; simp [Value.oneCell']) (hv := by first | with_reducible exact True.intro | (first | omega | (simp; omega); done) | omega | simp | (simp; omega) | (simp +contextual; omega))
        refine d1 ?_ (h := by intro C; conv => lhs; simp [Value.oneCell']) (hv := by first | with_reducible exact True.intro | (first | omega | (simp; omega); done) | omega | simp | (simp; omega) | (simp +contextual; omega))
        refine d1 ?_ (h := by intro C; conv => lhs; simp [Value.oneCell'])
        refine d1 ?_ (h := by intro C; conv => lhs; simp [Value.oneCell']) (hv := by first | with_reducible exact True.intro | (first | omega | (simp; omega); done) | omega | simp | (simp; omega) | (simp +contextual; omega))
        refine DGo.nil (by kernel_rfl) ⟨by kernel_rfl, ?_⟩
        refine s1 tok [47, 49] ?_ (h := by intro C; conv => lhs; simp [Value.oneCell'])
        refine s1 tok [] ?_ (h := by intro C; conv => lhs; simp [Value.oneCell'])
        refine AOpsO.take 942 3 (by conv => lhs; simp) ?_
        refine AOpsO.take 947 8 (by conv => lhs; simp) ?_
        refine AOpsO.nil ?_
        exact ⟨.inl rfl, _, _, by (conv => lhs; simp), trivial, by simp, by simp, by simp, by simp⟩
/-- An object's entries, from the first on. -/
def objM (n : Nat) (st : RS) (d : Nat) : RS × List (List UInt8) × List Val := if (tk [125] st).1 = true then ((tk [125] st).2, [], []) else objR n (tk [125] st).2 d 1 [] []
theorem put_len {ks : List (List UInt8)} {vs : List Val} (h : ks.length = vs.length) (key : List UInt8) (v : Val) : (putM ks vs key v).1.length = (putM ks vs key v).2.length ∧ vs.length ≤ (putM ks vs key v).2.length ∧ (putM ks vs key v).2.length ≤ vs.length + 1 := by
  unfold putM; split
  · simp [h]
  · simp [h]
theorem obj_step (n : Nat) (st : RS) (d many : Nat) (ks : List (List UInt8)) (vs : List Val) : objR (n + 1) st d many ks vs = if st.bad = true then (st, ks, vs) else if (sepR 125 many (entM (quotedR st) ks vs (valR n (colonR (quotedR st).1) d)).1).1 = true then ((sepR 125 many (entM (quotedR st) ks vs (valR n (colonR (quotedR st).1) d)).1).2, (entM (quotedR st) ks vs (valR n (colonR (quotedR st).1) d)).2)
    else objR n (sepR 125 many (entM (quotedR st) ks vs (valR n (colonR (quotedR st).1) d)).1).2 d (many + 1) (entM (quotedR st) ks vs (valR n (colonR (quotedR st).1) d)).2.1 (entM (quotedR st) ks vs (valR n (colonR (quotedR st).1) d)).2.2 := by
  rw [objR]; rfl
theorem ent_facts (n : Nat) (s : RS) (d : Nat) (ks : List (List UInt8)) (vs : List Val) (hl : ks.length = vs.length) : (entM (quotedR s) ks vs (valR n (colonR (quotedR s).1) d)).2.1.length = (entM (quotedR s) ks vs (valR n (colonR (quotedR s).1) d)).2.2.length ∧
    (entM (quotedR s) ks vs (valR n (colonR (quotedR s).1) d)).1.left.length ≤ s.left.length ∧ ((entM (quotedR s) ks vs (valR n (colonR (quotedR s).1) d)).1.bad = false → (entM (quotedR s) ks vs (valR n (colonR (quotedR s).1) d)).1.left.length < s.left.length ∧
      (entM (quotedR s) ks vs (valR n (colonR (quotedR s).1) d)).1.nodes + (entM (quotedR s) ks vs (valR n (colonR (quotedR s).1) d)).1.left.length ≤ s.nodes + s.left.length ∧ (entM (quotedR s) ks vs (valR n (colonR (quotedR s).1) d)).2.2.length ≤ vs.length + 1) := by
  have h1 := quoted_le s
  have h2 := colon_le (quotedR s).1
  have h3 := quoted_nodes s
  have h4 := colon_nodes (quotedR s).1
  have h5 := (lens n).1 (colonR (quotedR s).1) d
  have h6 := (lens2 n).1 (colonR (quotedR s).1) d
  unfold entM
  split
  · rename_i hb
    refine ⟨hl, by simp only; omega, fun h => ?_⟩
    simp only at h
    rw [hb] at h; cases h
  · obtain ⟨p1, p2, p3⟩ := put_len hl (quotedR s).2 (valR n (colonR (quotedR s).1) d).2
    refine ⟨p1, by simp only; omega, fun h => ?_⟩
    have h7 := h5.2 h
    have h8 := h6 h
    exact ⟨by simp only; omega, by simp only; omega, p3⟩
theorem eachO_ax (hG : U8 G) (N : Nat) (st : RS) (d : Nat) (hN : 2 * st.left.length + 3 ≤ N) (hl : st.left.length ≤ 1000000000) (hk : st.nodes + st.left.length ≤ 10000000000) (hd : d + st.left.length ≤ 10000000000) (hv : ValHyp G N d) : AX Tryz.prog G 69 [.ptr 2 0, .p (.str [125]), .func (.func 71) [] [.ptr 6 0, .ptr 7 0, .ptr 5 0]] [(2, .vars 59 (rdC st)), (5, .vars 31 [.p (.int .i64 7), .p (.int .u64 0), .p (.bool false), .p (.str []), .p (.int .i64 0), .p (.str []), .ms 3, .ms 8, .p (.int .i64 0)]), (6, .vars 57 [.ptr 2 0]), (7, .vars 3 [.p (.int .i64 d)]), (3, .row 9 1 (([] : List (List UInt8)).map PD.str)), (8, .row 31 9 (([] : List Val).map Val.enc))] (.tuple []) [2, 5, 6, 7] [(2, .vars 59 (rdC (objM N st d).1)), (5, .vars 31 [.p (.int .i64 7), .p (.int .u64 0), .p (.bool false), .p (.str []), .p (.int .i64 0), .p (.str []), .ms 3, .ms 8, .p (.int .i64 0)]), (6, .vars 57 [.ptr 2 0]), (7, .vars 3 [.p (.int .i64 d)]), (3, .row 9 1 ((objM N st d).2.1.map PD.str)), (8, .row 31 9 ((objM N st d).2.2.map Val.enc))] := by
  refine AX.introU tok 900 Tryz.func69 (by kernel_rfl) rfl rfl ?_
  simp only [Tryz.f69, enumA, List.map_cons, List.map_nil]
  have hM : objM N st d = if (tk [125] st).1 = true then ((tk [125] st).2, [], []) else objR N (tk [125] st).2 d 1 [] [] := rfl
  rw [hM]
  have htl := (tk_le [125] st).1
  have htn := tk_nodes [125] st
  have htb := tk_bad [125] st
  have htd := tk_deep [125] st
  have htg := tk_big [125] st
  refine AW.seq ?_
  refine AW.seqRegionO [] ?_
  refine s1 tok [0, 1, 2, 7] ?_
  refine s1 tok [0, 1, 2, 7, 8] ?_
  refine AOpsO.stepK [0, 1, 2, 9] (y_cx rfl (takes_ax st [125]) (by simp)) (by conv => lhs; simp) rfl ?_
  refine AOpsO.nil ?_
  refine AW.cond (c := .tmp 9) (by conv => lhs; simp) trivial ?_ ?_
  · intro h9
    try simp at h9
    rw [if_pos h9]
    exact AW.ret ⟨.inr rfl, _, _, by (conv => lhs; simp), trivial, by simp, by simp, by simp, by simp⟩
  · intro h9
    try simp at h9
    rw [if_neg (by rw [h9]; simp)]
    generalize (tk [125] st).2 = sa at *
    refine AW.skip ?_
    refine AW.seqRegionO [] ?_
    refine s1 tok [0, 1, 2, 6] ?_
    refine AOpsO.nil ?_
    refine AW.block ?_
    refine AW.pinsTo [2, 5, 6, 7] (by simp) (by conv => lhs; simp) ?_
    refine AW.loop (α := Nat × RS × Nat × List (List UInt8) × List Val) (fun a => objR N sa d 1 [] [] = objR a.1 a.2.1 d a.2.2.1 a.2.2.2.1 a.2.2.2.2 ∧ 2 * a.2.1.left.length + 3 ≤ a.1 ∧ a.1 ≤ N ∧ a.2.1.left.length ≤ st.left.length ∧ (a.2.1.bad = false → a.2.1.nodes + a.2.1.left.length ≤ 10000000000) ∧ a.2.2.2.2.length + a.2.1.left.length ≤ 1000000000 ∧ a.2.2.1 + a.2.1.left.length ≤ 1000000001 ∧ a.2.2.2.1.length = a.2.2.2.2.length) (fun a => ⟨upds 45 [(0, .ptr 2 0), (1, .p (.str [125])), (2, .func (.func 71) [] [.ptr 6 0, .ptr 7 0, .ptr 5 0]), (6, .p (.int .i64 a.2.2.1))], [2, 5, 6, 7], [(2, .vars 59 (rdC a.2.1)), (5, .vars 31 [.p (.int .i64 7), .p (.int .u64 0), .p (.bool false), .p (.str []), .p (.int .i64 0), .p (.str []), .ms 3, .ms 8, .p (.int .i64 0)]), (6, .vars 57 [.ptr 2 0]), (7, .vars 3 [.p (.int .i64 d)]), (3, .row 9 1 (a.2.2.2.1.map PD.str)), (8, .row 31 9 (a.2.2.2.2.map Val.enc))], 900⟩) (fun a => a.1) ((N, sa, 1, [], [])) ⟨rfl, by simp only; omega, by simp, by simp only; omega, fun _ => by simp only; omega, by simp; omega, by simp only; omega, rfl⟩ ⟨upds_le (by simp), rfl, by simp [htn, htb, htd, htg], by simp⟩ ?_
    rintro ⟨n, s, many, ks, vs⟩ ⟨hq, hf, hfN, hsl, hnl, hvl, hml, hlen⟩
    simp only at hq hf hfN hsl hnl hvl hml hlen
    rw [hq]
    clear hq
    obtain ⟨n, rfl⟩ : ∃ g, n = g + 1 := ⟨n - 1, by omega⟩
    rw [obj_step]
    refine AW.seq ?_
    refine AW.seqRegionO [] ?_
    refine s1 tok [0, 1, 2, 6, 10] ?_
    refine s1 tok [0, 1, 2, 6, 11] ?_
    refine s1 tok [0, 1, 2, 6, 12] ?_
    refine s1 tok [0, 1, 2, 6, 13] ?_
    refine s1 tok [0, 1, 2, 6, 14] ?_
    refine AOpsO.nil ?_
    refine AW.cond (c := .tmp 14) (by conv => lhs; simp) trivial ?_ ?_
    · intro h14
      try simp at h14
      have hb : s.bad = false := by simpa using h14
      rw [if_neg (by rw [hb]; simp)]
      have hcl := Nat.le_trans (colon_le (quotedR s).1) (quoted_le s)
      have hcn : (colonR (quotedR s).1).nodes = s.nodes := (colon_nodes _).trans (quoted_nodes s)
      have hnb := hnl hb
      have hvn := hv n (colonR (quotedR s).1) (by omega) (by omega) (by omega) (by omega) (by omega)
      have hent := ent_facts n s d ks vs hlen
      refine AW.skip ?_
      refine AW.seq ?_
      refine AW.block ?_
      refine AW.seqRegionO [] ?_
      refine s1 tok [0, 1, 2, 6, 17] ?_
      refine AOpsO.stepK [0, 1, 2, 6] (y_cx rfl (obj1_ax hG s d (valR n (colonR (quotedR s).1) d) ks vs (by omega) hlen (by omega) (fun _ => hvn)) (by simp)) (by conv => lhs; simp) rfl ?_
      refine AOpsO.nil ?_
      generalize entM (quotedR s) ks vs (valR n (colonR (quotedR s).1) d) = A at *; obtain ⟨⟨l, nn, b, dp, bg⟩, ks2, vs2⟩ := A
      simp only at hent ⊢
      clear hvn
      have hdm : decide ((200 : Int) < (many : Int)) = decide (200 < many) := by rw [decide_eq_decide]; omega
      refine AW.seqRegionO [] ?_
      refine s1 tok [0, 1, 2, 6, 19] ?_
      refine s1 tok [0, 1, 2, 6, 19, 20] ?_
      refine s1 tok [0, 1, 2, 6, 19, 21] ?_
      refine s1 tok [0, 1, 2, 6, 19, 22] ?_
      refine s1 tok [0, 1, 2, 6, 19, 23] ?_
      refine s1 tok [0, 1, 2, 6, 19, 24] ?_
      refine s2 tok [0, 1, 2, 6, 19, 24, 25] 24 rfl rfl ?_
      refine s2 tok [0, 1, 2, 6, 19, 24, 26] 24 rfl rfl ?_
      refine s1 tok [0, 1, 2, 6, 19, 27] ?_
      refine s1 tok [0, 1, 2, 6, 27, 28] ?_
      refine s1 tok [0, 1, 2, 6, 27, 29] ?_
      refine s1 tok [0, 1, 2, 6] ?_
      refine AOpsO.nil ?_
      refine AW.seq ?_
      by_cases hs6 : b = true
      ·
        simp only [hdm]
        first | subst hs6 | obtain rfl : b = false := by simpa using hs6
        refine AW.seqRegionO [] ?_
        refine s1 tok [0, 1, 2, 6, 30] ?_
        refine s1 tok [0, 1, 2, 6, 31] ?_
        refine s1 tok [0, 1, 2, 6, 32] ?_
        refine s1 tok [0, 1, 2, 6, 33] ?_
        refine s1 tok [0, 1, 2, 6, 34] ?_
        refine s2 tok [0, 1, 2, 6, 34, 35] 34 rfl rfl ?_
        refine s2 tok [0, 1, 2, 6, 34, 35, 36] 34 rfl rfl ?_
        refine s2 tok [0, 1, 2, 6, 34, 37] 34 rfl rfl ?_
        refine s1 tok [0, 1, 2, 6, 38] ?_
        refine AOpsO.nil ?_
        refine AW.cond (c := .tmp 38) (by conv => lhs; simp) trivial ?_ ?_
        · intro h38
          try simp at h38
          rw [show sepR 125 many ⟨l, nn, true, dp, bg⟩ = (true, ⟨l, nn, true, dp, Bool.or bg (decide (200 < many))⟩) by simp [sepR]]
          exact AW.ret ⟨.inr rfl, _, _, by (conv => lhs; simp), trivial, by simp, by simp, by simp, by simp⟩
        · intro h38
          try simp at h38
      ·
        simp only [hdm]
        first | subst hs6 | obtain rfl : b = false := by simpa using hs6
        refine AW.seqRegionO [] ?_
        refine s1 tok [0, 1, 2, 6, 30] ?_
        refine s1 tok [0, 1, 2, 6, 31] ?_
        refine s1 tok [0, 1, 2, 6, 32] ?_
        refine s1 tok [0, 1, 2, 6, 33] ?_
        refine s1 tok [0, 1, 2, 6, 34] ?_
        refine s2 tok [0, 1, 2, 6, 34, 35] 34 rfl rfl ?_
        refine s2 tok [0, 1, 2, 6, 34, 35, 36] 34 rfl rfl ?_
        refine AOpsO.stepKIf [0, 1, 2, 6, 34, 37] 34 rfl rfl (y_cx rfl (takes_ax ⟨l, nn, false, dp, Bool.or bg (decide (200 < many))⟩ [125]) (by simp)) (by simp) (by conv => lhs; simp) ?_
        refine s1 tok [0, 1, 2, 6, 38] ?_
        refine AOpsO.nil ?_
        refine AW.cond (c := .tmp 38) (by conv => lhs; simp) trivial ?_ ?_
        · intro h38
          try simp at h38
          rw [show sepR 125 many ⟨l, nn, false, dp, bg⟩ = (true, (tk [125] ⟨l, nn, false, dp, Bool.or bg (decide (200 < many))⟩).2) by simp [sepR, h38]]
          exact AW.ret ⟨.inr rfl, _, _, by (conv => lhs; simp), trivial, by simp, by simp, by simp, by simp⟩
        · intro h38
          try simp at h38
          rw [show sepR 125 many ⟨l, nn, false, dp, bg⟩ = (false, { (tk [44] (tk [125] ⟨l, nn, false, dp, Bool.or bg (decide (200 < many))⟩).2).2 with bad := !(tk [44] (tk [125] ⟨l, nn, false, dp, Bool.or bg (decide (200 < many))⟩).2).1 }) by simp [sepR, h38]]
          have hx := (tk_le [125] ⟨l, nn, false, dp, Bool.or bg (decide (200 < many))⟩).1
          have hy := (tk_le [44] (tk [125] ⟨l, nn, false, dp, Bool.or bg (decide (200 < many))⟩).2).1
          simp only [Bool.false_eq_true, if_false]
          simp only at hx
          obtain ⟨hlt, hl2, hl3⟩ := hent.2.2 rfl
          refine AW.skip ?_
          refine AW.regionO [] ?_
          refine s1 tok [0, 1, 2, 6, 39] ?_
          refine s1 tok [0, 1, 2, 6, 39, 40] ?_
          refine AOpsO.stepK [0, 1, 2, 6, 39, 41] (y_cx rfl (takes_ax (tk [125] ⟨l, nn, false, dp, Bool.or bg (decide (200 < many))⟩).2 [44]) (by simp)) (by conv => lhs; simp) rfl ?_
          refine s1 tok [0, 1, 2, 6, 39, 42] ?_
          refine s1 tok [0, 1, 2, 6, 42, 43] ?_
          refine s1 tok [0, 1, 2, 6, 42, 44] ?_
          refine s1 tok [0, 1, 2, 6] ?_
          refine AOpsO.nil ?_
          refine AW.regionO [] ?_
          refine s1 tok [0, 1, 2, 15] ?_
          refine s1 tok [0, 1, 2, 16] ?_
          refine s1 tok [0, 1, 2, 6] ?_
          refine AOpsO.nil ?_
          exact ⟨(n, { (tk [44] (tk [125] ⟨l, nn, false, dp, Bool.or bg (decide (200 < many))⟩).2).2 with bad := !(tk [44] (tk [125] ⟨l, nn, false, dp, Bool.or bg (decide (200 < many))⟩).2).1 }, many + 1, ks2, vs2), ⟨by simp, by simp only; omega, by omega, by simp only; omega, fun _ => by simp only [tk_nodes]; omega, by simp only; omega, by simp only; omega, hent.1⟩, by simp only; omega, upds_le (by simp), rfl, by simp, by simp⟩
    · intro h14
      try simp at h14
      rw [if_pos (show s.bad = true by simpa using h14)]
      refine AW.exit ?_
      simp
      exact ⟨.inl rfl, _, _, by (conv => lhs; simp), trivial, by simp, by simp, by simp, by simp⟩
theorem object_ax (hG : U8 G) (N : Nat) (st : RS) (d : Nat) (hN : 2 * st.left.length + 3 ≤ N) (hl : st.left.length ≤ 1000000000) (hk : st.nodes + st.left.length ≤ 10000000000) (hd : d + st.left.length ≤ 10000000000) (hv : ValHyp G N d) : AX Tryz.prog G 46 [.ptr 2 0, .p (.int .i64 d)] [(2, .vars 59 (rdC st))] (.agg (Val.mk 7 0 dc0 [] (objM N st d).2.1 (objM N st d).2.2 0).cells) [2] [(2, .vars 59 (rdC (objM N st d).1))] := by
  refine AX.introU tok 900 Tryz.func46 (by kernel_rfl) rfl rfl ?_
  simp only [Tryz.f46, enumA, List.map_cons, List.map_nil]
  refine AW.seqRegionO [] ?_
  refine s1 tok [1, 2] ?_
  refine s1 tok [2, 3] ?_
  refine s1 tok [2, 3, 4] ?_
  refine AOpsO.nil ?_
  refine AW.seqRegionO [] ?_
  refine s1 tok [2, 3, 4, 6] ?_
  refine s1 tok [2, 3, 4, 5, 6] ?_
  refine s1 tok [2, 3, 4, 5] ?_
  refine AOpsO.nil ?_
  refine AW.renE 902 6 (by simp) (by conv => lhs; simp) ?_
  refine AW.renE 903 7 (by simp) (by conv => lhs; simp) ?_
  refine AW.renE 905 5 (by simp) (by conv => lhs; simp) ?_
  refine AW.beginBox 5 3 6 9 1 (by simp; exact ⟨rfl, rfl⟩) (by simp) (by simp) (by conv => lhs; simp) ?_
  refine AW.beginBox 5 8 7 31 9 (by simp; exact ⟨rfl, rfl⟩) (by simp) (by simp) (by conv => lhs; simp) ?_
  refine AW.seqRegionO [] ?_
  refine s1 tok [2, 3, 4, 5, 7] ?_
  refine s1 tok [4, 5, 7, 8] ?_
  refine AOpsO.stepK [4, 5] (y_cx rfl (eachO_ax hG N st d hN hl hk hd hv) (by simp)) (by conv => lhs; simp) rfl ?_
  refine AOpsO.nil ?_
  refine AW.freeze 3 ?_
  refine AW.freeze 8 ?_
  refine AW.seqRegionO [] ?_
  refine s1 tok [4, 10] ?_
  refine s1 tok [4] ?_
  refine AOpsO.nil ?_
  exact AW.ret ⟨.inr rfl, _, _, by (conv => lhs; simp), trivial, by simp [dc0], by simp, by simp, by simp⟩
end Go.Proofs.YtdlejiiiifhiiaaGreatDoor
