import Derived.Test.YtdjjmppnnkkloaaGreatDoorSPolHead
import Derived.Test.YtdjjmppnnkkloaaGreatDoorM3
namespace Go.Proofs.YtdjjmppnnkkloaaGreatDoor
open Sy Go
set_option maxRecDepth 100000
set_option maxHeartbeats 4000000
set_option linter.unusedSimpArgs false
set_option linter.unusedVariables false
variable {G : Glob}
theorem all_step (v : Val) (hm : v.mask = 1) (hlm : v.kids.length ≤ 1000000) (ih : ∀ x ∈ v.kids, AFn Tryz.prog G 27 [x.enc] (.bool true)) : AFn Tryz.prog G 27 [v.enc] (.bool true) := by
 refine AFn.introU tok Tryz.func27 (by kernel_rfl) rfl rfl ?_
 simp only [Tryz.f27, enumA, List.map_cons, List.map_nil]
 refine rgn [] [[], [1]] ?_
 iterate 2 refine op1 tok ?_
 refine runEnd ?_
 refine rgn [] [[], [], [], [1, 3]] ?_
 iterate 4 refine op1 tok ?_ (h := by intro C; conv => lhs; simp [hm])
 refine runEnd ?_
 refine AW.seq ?_
 refine rgn [] [[]] ?_
 refine op1 tok ?_
 refine runEnd ?_
 refine AW.block ?_
 refine AW.loop (α := Nat) (fun k => k ≤ v.kids.length) (fun k => ⟨upds 25 [(1, .ptr 1 0), (3, .p (.bool true)), (4, .p (.int .i64 k))], [], [(1, .vars 42 v.cells)], 0⟩) (fun k => v.kids.length - k) (0) (by omega) ⟨upds_le (by simp [hm]), rfl, by simp [hm], by simp [hm]⟩ ?_
 rintro k hk
 refine AW.seq ?_
 refine rgn [] [[], [], [], [], [1, 3, 4, 12], [], [], [1, 3, 4, 15]] ?_
 iterate 6 refine op1 tok ?_
 refine op2 tok ?_
 refine op1 tok ?_
 refine runEnd ?_
 refine cnd ?_ ?_
 ·intro h15
  try simp at h15
  obtain ⟨x, hx⟩ : ∃ x, v.kids[k]? = some x := ⟨v.kids[k], by simp [h15]⟩
  have hix := ih x (List.mem_of_getElem? hx)
  simp only [Val.enc_def] at hix
  refine AW.skip ?_
  refine AW.seq ?_
  refine AW.block ?_
  refine rgz [x.enc, .nilp, .bool true] [[], [], [], [], [1, 4, 22], [], [1, 3, 4]] ?_
  iterate 7 refine op1 tok ?_ (hv := by first | with_reducible exact True.intro | (first | exact hix | simp [hx]; done) | omega | simp | (simp; omega) | (simp +contextual; omega))
  refine runEnd ?_
  refine rgz [] [[], [], [1, 3, 4]] ?_
  iterate 3 refine op1 tok ?_
  refine runEnd ?_
  exact ⟨k + 1, by omega, by omega, upds_le (by simp), rfl, by simp, by simp⟩
 ·intro h15
  try simp at h15
  refine AW.exit ?_
  simp
  refine rgn [] [[], [2]] ?_
  iterate 2 refine op1 tok ?_
  refine runEnd ?_
  exact AW.ret ⟨.inr rfl, _, _, by (conv => lhs; simp), trivial, by simp⟩
theorem all_lab (v : Val) : mayT v = true → ∀ pl : List Step, AFn Tryz.prog G 27 [(labT [⟨[⟨5, [], 0⟩], 1⟩] v pl).enc] (.bool true) := by
 refine Val.induct (p := fun v => mayT v = true → ∀ pl : List Step, AFn Tryz.prog G 27 [(labT [⟨[⟨5, [], 0⟩], 1⟩] v pl).enc] (.bool true)) (fun v ih hv pl => ?_) v
 have hsm := may_small hv
 refine all_step _ (by rw [lab_mask, deepMark_at]) (by rw [lab_kids, labK_len]; omega) fun x hx => ?_
 rw [lab_kids] at hx
 obtain ⟨j, u, hu, rfl⟩ := labK_mem hx
 exact ih u (List.mem_of_getElem? hu) (may_kid hv (List.mem_of_getElem? hu)) _
theorem PolicyWild_ev (hG : U8 G) (hP : PW G) (hE : PE G) (p : Pol) (l : List Item) (i : Int) (hm : ∀ m ∈ p.marks, InM m.mask) (hl : ∀ x ∈ l, x.keys.length ≤ 140737488351232) (hi : -9223372036854775808 ≤ i ∧ i ≤ 9223372036854775807) : AFn Tryz.prog G 8 [p.enc, .sl 6 (l.map Item.enc), .int .i64 i] (.bool true) := by
 refine AFn.introU tok Tryz.func8 (by kernel_rfl) rfl rfl ?_
 simp only [Tryz.f8, enumA, List.map_cons, List.map_nil]
 have hsh := shown8_ev hG hP hE
 have hF := few8_ev (G := G) p
 have hf := polFew hm
 generalize fewPol p = q at *
 have hMay := (hf.with [] (by simp) (by simp)).may (G := G)
 have hb := Built_ev (G := G) l hl
 have mv := built_may l
 have zv := built_sz l
 generalize builtM l = v at hb mv zv
 have ma : ∀ ms, mayT (labT ms v []) = true := fun ms => by rw [lab_may]; exact mv
 have l1 := (hf.with [⟨[⟨5, [], 0⟩], 1⟩] (by simp) (by simp)).label (G := G) mv zv
 have l2 := (hf.with [⟨[], 1⟩] (by simp) (by simp)).label (G := G) mv zv
 have a1 := all_lab (G := G) v mv []
 have eN : (labT [⟨[], 1⟩] v []).mask = 1 := by rw [lab_mask, noMark_at, if_pos rfl]
 have nk : ∀ y ∈ (labT [⟨[], 1⟩] v []).kids, AFn Tryz.prog G 22 [y.enc] (.int .u64 0) := fun y hy => by
  have h1 := refDeep_ev (G := G) y (may_kid (ma _) hy)
  rw [lab_kids] at hy
  obtain ⟨j, hj⟩ := List.mem_iff_getElem?.1 hy
  rw [none_kids v j hj] at h1; exact h1
 have hpk : ∀ t, AFn Tryz.prog G 15 [({ q with marks := [⟨[t], 1⟩] } : Pol).enc] (.int .i64 (polMay { q with marks := [⟨[t], 1⟩] })) := fun t => polMay_ev hG _
 have hlk : ∀ t, AFn Tryz.prog G 19 [({ q with marks := [⟨[t], 1⟩] } : Pol).enc, v.enc] (labT [⟨[t], 1⟩] v []).enc := fun t => label_ev _ v (by simp) (by simp) mv (by omega)
 have hdk := fun t => refDeep_ev (G := G) (labT [⟨[t], 1⟩] v []) (ma _)
 have hkd := fun j (hj : j < v.kids.length) => key_deep v mv hj
 have hkk := fun j (hj : j < v.kids.length) k (y : Val) => key_kid v mv hj (j := k) (y := y)
 have hkm : ∀ t : Step, (t.kind = 1 ∨ t.kind = 2) → (labT [⟨[t], 1⟩] v []).mask = 0 := fun t ht => by rw [lab_mask, match_step ht, if_neg (by simp)]
 have hkl0 : (labT [⟨[], 1⟩] v []).kids = labK [⟨[], 1⟩] v [] := lab_kids _ _ _
 have hkl : ∀ t, (labT [⟨[t], 1⟩] v []).kids = labK [⟨[t], 1⟩] v [] := fun t => lab_kids _ _ _
 have hkn : ∀ t, (labK [⟨[t], 1⟩] v []).length = v.kids.length := fun t => labK_len _ _ _
 have hsk := stepOf_kind v.kind v.keys
 have hsm := may_small mv
 have hbl : (labT [⟨[], 1⟩] v []).kids.length ≤ 1000000 := by rw [hkl0, labK_len]; omega
 clear hf ma hkl0
 generalize labT [⟨[⟨5, [], 0⟩], 1⟩] v [] = a at *
 generalize labT [⟨[], 1⟩] v [] = b at *
 obtain ⟨cats, marks, token, fuel, quota⟩ := q
 simp only at hpk hlk hMay l1 l2
 generalize polMay { cats := cats, marks := [], token := token, fuel := fuel, quota := quota } = m0 at *
 simp only [Val.enc_def, Item.enc, Pol.enc, Mk.enc, Step.enc, List.map_nil, List.map_cons] at hF hMay hb l1 l2 a1 nk
 refine rgn [] [[], [1, 2, 3]] ?_
 iterate 2 refine op1 tok ?_
 refine runEnd ?_
 refine rgn [.nilp, .bool true] [[], [1, 2, 3, 7]] ?_
 iterate 2 refine op1 tok ?_ (hv := by first | with_reducible exact True.intro | (exact hsh; done) | omega | simp | (simp; omega) | (simp +contextual; omega))
 refine runEnd ?_
 refine rgn [.nilp, .agg [.sl 1 (cats.map PD.str), .sl 2 (marks.map Mk.enc), .str token, .int .i64 fuel, .int .i64 quota]] [[], [], [1, 2, 3, 7]] ?_
 iterate 3 refine op1 tok ?_ (hv := by first | with_reducible exact True.intro | (exact hF; done) | omega | simp | (simp; omega) | (simp +contextual; omega))
 refine runEnd ?_
 refine rgn [] [[], [1, 2, 3, 7]] ?_
 iterate 2 refine op1 tok ?_
 refine runEnd ?_
 refine AW.seq ?_
 refine rgn [.nilp, .int .i64 m0] [[], [], [], [], [], [1, 2, 3, 7, 26, 28], [], [], [1, 2, 3, 7, 31]] ?_
 iterate 4 refine op1 tok ?_ (hv := by first | with_reducible exact True.intro | (exact hMay; done) | omega | simp | (simp; omega) | (simp +contextual; omega))
 iterate 4 refine op2 tok ?_ (hv := by first | with_reducible exact True.intro | (exact hMay; done) | omega | simp | (simp; omega) | (simp +contextual; omega))
 refine op1 tok ?_ (hv := by first | with_reducible exact True.intro | (exact hMay; done) | omega | simp | (simp; omega) | (simp +contextual; omega))
 refine runEnd ?_
 refine cnd ?_ ?_
 ·intro h31
  try simp at h31
  refine rgn [] [[], [6]] ?_
  iterate 2 refine op1 tok ?_
  refine runEnd ?_
  exact AW.ret ⟨.inr rfl, _, _, by (conv => lhs; simp), trivial, by simp⟩
 ·intro h31
  try simp at h31
  refine AW.skip ?_
  refine rgn [.nilp, v.enc] [[], [], [], [2, 3, 7, 8]] ?_
  iterate 4 refine op1 tok ?_ (hv := by first | with_reducible exact True.intro | ((simp at hb ⊢; exact hb); done) | omega | simp | (simp; omega) | (simp +contextual; omega))
  refine runEnd ?_
  refine rgn [] [[], [], [2, 3, 7, 8, 9]] ?_
  iterate 3 refine op1 tok ?_
  refine runEnd ?_
  refine rgn [.agg [.int .i64 5, .str [], .int .i64 0], .agg [.sl 3 [.agg [.int .i64 5, .str [], .int .i64 0]], .int .u64 1]] [[], []] ?_
  iterate 2 refine op1 tok ?_
  refine runOff ?_
  refine AOpsO.freeze 37 (by conv => lhs; simp) ?_
  refine AOpsO.run [[], [], [], [2, 3, 7, 8, 9]] ?_
  iterate 4 refine op1 tok ?_
  refine runEnd ?_
  refine AW.freezeE 39 (by conv => lhs; simp) ?_
  refine rgn [] [[], [], [2, 3, 7, 8, 9, 10]] ?_
  iterate 3 refine op1 tok ?_
  refine runEnd ?_
  refine rgn [.agg [.sl 3 [], .int .u64 1]] [[], [], [], [2, 3, 7, 8, 9, 10]] ?_
  iterate 4 refine op1 tok ?_
  refine runEnd ?_
  refine AW.freezeE 43 (by conv => lhs; simp) ?_
  refine rgn [.nilp, a.enc] [[], [], [], [], [2, 3, 7, 8, 10, 11]] ?_
  iterate 5 refine op1 tok ?_ (hv := by first | with_reducible exact True.intro | (exact l1; done) | omega | simp | (simp; omega) | (simp +contextual; omega))
  refine runEnd ?_
  refine rgn [.nilp, b.enc] [[], [], [], [], [2, 3, 7, 8, 11, 12]] ?_
  iterate 5 refine op1 tok ?_ (hv := by first | with_reducible exact True.intro | (exact l2; done) | omega | simp | (simp; omega) | (simp +contextual; omega))
  refine runEnd ?_
  refine rgn [.nilp, .bool true] [[], [], [2, 3, 7, 8, 12, 13]] ?_
  iterate 3 refine op1 tok ?_ (hv := by first | with_reducible exact True.intro | (exact a1; done) | omega | simp | (simp; omega) | (simp +contextual; omega))
  refine runEnd ?_
  refine AW.seq ?_
  refine rgn [] [[], [], [], [], [2, 3, 7, 8, 12, 55, 57], [], [2, 3, 7, 8, 12, 59]] ?_
  iterate 3 refine op1 tok ?_ (h := by intro C; conv => lhs; simp [eN])
  iterate 3 refine op2 tok ?_ (h := by intro C; conv => lhs; simp [eN])
  refine op1 tok ?_ (h := by intro C; conv => lhs; simp [eN])
  refine runEnd ?_
  refine cnd ?_ ?_
  ·intro h59
   try simp at h59
  ·intro h59
   try simp at h59
   refine AW.skip ?_
   refine AW.seq ?_
   refine rgn [] [[]] ?_
   refine op1 tok ?_
   refine runEnd ?_
   refine AW.block ?_
   refine AW.loop (α := Nat) (fun k => k ≤ b.kids.length) (fun k => ⟨upds 137 [(2, .p (.int .i64 i)), (3, .ptr 3 0), (7, .p (.bool true)), (8, .ptr 8 0), (12, .ptr 12 0), (14, .p (.int .i64 k))], [], [(3, .vars 25 [.p (.sl 1 (cats.map PD.str)), .nilsl, .p (.str token), .p (.int .i64 fuel), .p (.int .i64 quota)]), (8, .vars 42 v.cells), (12, .vars 42 b.cells)], 0⟩) (fun k => b.kids.length - k) (0) (by omega) ⟨upds_le (by simp [eN]), rfl, by simp [eN], by simp [eN]⟩ ?_
   rintro k hk
   refine AW.seq ?_
   refine rgn [] [[], [], [], [], [2, 3, 7, 8, 12, 14, 64]] ?_
   iterate 5 refine op1 tok ?_
   refine runEnd ?_
   refine cnd ?_ ?_
   ·intro h64
    try simp at h64
    obtain ⟨x, hx⟩ : ∃ x, b.kids[k]? = some x := ⟨b.kids[k], by simp [h64]⟩
    have hix := nk x (List.mem_of_getElem? hx)
    refine AW.skip ?_
    refine AW.seq ?_
    refine AW.block ?_
    refine rgn [x.enc, .nilp, .int .u64 0] [[], [], [], [], [2, 3, 7, 8, 12, 14, 71], [], [2, 3, 7, 8, 12, 14, 73]] ?_
    iterate 7 refine op1 tok ?_ (hv := by first | with_reducible exact True.intro | (first | exact hix | simp [hx]; done) | omega | simp | (simp; omega) | (simp +contextual; omega))
    refine runEnd ?_
    refine cnd ?_ ?_
    ·intro h73
     try simp at h73
    ·intro h73
     try simp at h73
     refine AW.skip ?_
     refine rgz [] [[], [], [2, 3, 7, 8, 12, 14]] ?_
     iterate 3 refine op1 tok ?_
     refine runEnd ?_
     exact ⟨k + 1, by omega, by omega, upds_le (by simp), rfl, by simp, by simp⟩
   ·intro h64
    try simp at h64
    refine AW.exit ?_
    simp
    refine AW.seq ?_
    refine rgn [] [[], [], [], [], [], [], [2, 3, 7, 8, 76, 77, 80], [], [2, 3, 7, 8, 82]] ?_
    iterate 3 refine op1 tok ?_
    iterate 5 refine op2 tok ?_
    refine op1 tok ?_
    refine runEnd ?_
    refine cnd ?_ ?_
    ·intro h82
     try simp at h82
     refine rgn [] [[], [6]] ?_
     iterate 2 refine op1 tok ?_
     refine runEnd ?_
     exact AW.ret ⟨.inr rfl, _, _, by (conv => lhs; simp), trivial, by simp⟩
    ·intro h82
     try simp at h82
     obtain ⟨j, rfl⟩ : ∃ j : Nat, i = j := ⟨i.toNat, by omega⟩
     have hj : j < v.kids.length := by omega
     have hpk := hpk (stepOf v.kind v.keys j)
     have hlk := hlk (stepOf v.kind v.keys j)
     have hdk := hdk (stepOf v.kind v.keys j)
     have hkd := hkd j hj
     have hkk := hkk j hj
     have hkm := hkm _ (hsk j)
     have hkl := hkl (stepOf v.kind v.keys j)
     have hkn := hkn (stepOf v.kind v.keys j)
     rw [hkd] at hdk
     have hob := may_obj mv
     have hst : stepOf v.kind v.keys j = if v.kind = 7 then ⟨1, v.keys.getD j [], 0⟩ else ⟨2, [], j⟩ := rfl
     rw [← hkl] at hkn hkk
     clear hkl hsk hkd
     generalize labT [⟨[stepOf v.kind v.keys j], 1⟩] v [] = c at *
     generalize polMay { cats := cats, marks := [⟨[stepOf v.kind v.keys j], 1⟩], token := token, fuel := fuel, quota := quota } = m1 at *
     generalize stepOf v.kind v.keys j = t at *
     simp only [Val.enc_def, Item.enc, Pol.enc, Mk.enc, Step.enc, List.map_nil, List.map_cons] at hpk hlk hdk
     refine AW.skip ?_
     refine rgn [] [[], [], [], [2, 3, 7, 8, 15]] ?_
     iterate 4 refine op1 tok ?_
     refine runEnd ?_
     refine AW.join (α := Unit) (fun _ => True) (fun _ => ⟨upds 137 [(2, .p (.int .i64 j)), (3, .ptr 3 0), (7, .p (.bool true)), (8, .ptr 8 0), (15, .ptr 15 0)], [], [(3, .vars 25 [.p (.sl 1 (cats.map PD.str)), .nilsl, .p (.str token), .p (.int .i64 fuel), .p (.int .i64 quota)]), (8, .vars 42 v.cells), (15, .vars 57 [.p (.int .i64 t.kind), .p (.str t.key), .p (.int .i64 t.n)])], 0⟩) ?_ ?_
     ·
      refine rgn [] [[], [], [2, 3, 7, 8, 15, 88]] ?_
      iterate 3 refine op1 tok ?_
      refine runEnd ?_
      refine cnd ?_ ?_
      ·intro h88
       try simp at h88
       obtain ⟨s, hs⟩ : ∃ s, v.keys[j]? = some s := ⟨v.keys[j]'(by have := hob h88; omega), List.getElem?_eq_getElem _⟩
       rw [if_pos h88, List.getD_eq_getElem?_getD, hs] at hst
       refine rgz [.str s] [[], [], [], [], [2, 3, 7, 8, 15, 93], [], [2, 3, 7, 8, 15]] ?_
       iterate 7 refine op1 tok ?_ (hv := by first | with_reducible exact True.intro | (first | (simp [hs]; done) | (simp [hs]; omega); done) | omega | simp | (simp; omega) | (simp +contextual; omega))
       refine runEnd ?_
       exact ⟨(), trivial, upds_le (by simp [hst]), rfl, by simp [hst], by simp [hst]⟩
      ·intro h88
       try simp at h88
       rw [if_neg h88] at hst
       refine AW.skip ?_
       exact ⟨(), trivial, upds_le (by simp [hst]), rfl, by simp [hst], by simp [hst]⟩
     ·
      rintro _ _
      refine rgn [] [[], [], [2, 7, 8, 15, 16]] ?_
      iterate 3 refine op1 tok ?_
      refine runEnd ?_
      refine rgn [.agg [.int .i64 t.kind, .str t.key, .int .i64 t.n], .agg [.sl 3 [.agg [.int .i64 t.kind, .str t.key, .int .i64 t.n]], .int .u64 1]] [[], []] ?_
      iterate 2 refine op1 tok ?_
      refine runOff ?_
      refine AOpsO.freeze 97 (by conv => lhs; simp) ?_
      refine AOpsO.run [[], [2, 7, 8, 16, 99], [], [2, 7, 8, 16]] ?_
      iterate 4 refine op1 tok ?_
      refine runEnd ?_
      refine AW.seq ?_
      refine AW.freezeE 99 (by conv => lhs; simp) ?_
      refine rgn [.nilp, .int .i64 m1] [[], [], [2, 7, 8, 16, 103]] ?_
      iterate 3 refine op1 tok ?_ (hv := by first | with_reducible exact True.intro | (exact hpk; done) | omega | simp | (simp; omega) | (simp +contextual; omega))
      refine runEnd ?_
      refine cnd ?_ ?_
      ·intro h103
       try simp at h103
       refine rgn [] [[], [6]] ?_
       iterate 2 refine op1 tok ?_
       refine runEnd ?_
       exact AW.ret ⟨.inr rfl, _, _, by (conv => lhs; simp), trivial, by simp⟩
      ·intro h103
       try simp at h103
       refine AW.skip ?_
       refine rgn [.nilp, c.enc] [[], [], [2, 7, 107], [], [2, 7, 17]] ?_
       iterate 5 refine op1 tok ?_ (hv := by first | with_reducible exact True.intro | (exact hlk; done) | omega | simp | (simp; omega) | (simp +contextual; omega))
       refine runEnd ?_
       refine AW.seq ?_
       refine rgn [] [[]] ?_
       refine op1 tok ?_
       refine runEnd ?_
       refine AW.block ?_
       refine AW.loop (α := Nat) (fun k => k ≤ c.kids.length) (fun k => ⟨upds 137 [(2, .p (.int .i64 j)), (7, .p (.bool true)), (17, .ptr 17 0), (18, .p (.int .i64 k))], [], [(17, .vars 42 c.cells)], 0⟩) (fun k => c.kids.length - k) (0) (by omega) ⟨upds_le (by simp), rfl, by simp, by simp⟩ ?_
       rintro k hk
       refine AW.seq ?_
       refine rgn [] [[], [], [], [], [2, 7, 17, 18, 112]] ?_
       iterate 5 refine op1 tok ?_
       refine runEnd ?_
       refine cnd ?_ ?_
       ·intro h112
        try simp at h112
        obtain ⟨x, hx⟩ : ∃ x, c.kids[k]? = some x := ⟨c.kids[k], by simp [h112]⟩
        have hxm := hkk k x hx
        have hxe : (decide (x.mask = 1)) = decide ((k : Int) = j) := by
         rw [hxm]
         by_cases h : k = j
         ·simp [h]
         ·rw [if_neg h]; simp; omega
        refine AW.skip ?_
        refine AW.seq ?_
        refine AW.block ?_
        refine rgn [x.enc] [[], [], [], [], [2, 7, 17, 18, 119], [], [], [], [], [2, 7, 17, 18, 121, 124], [2, 7, 17, 18, 125]] ?_
        iterate 11 refine op1 tok ?_ (h := by intro C; conv => lhs; simp [hxe]) (hv := by first | with_reducible exact True.intro | (simp [hx]; done) | omega | simp | (simp; omega) | (simp +contextual; omega))
        refine runEnd ?_
        refine cnd ?_ ?_
        ·intro h125
         try simp at h125
        ·intro h125
         try simp at h125
         refine AW.skip ?_
         refine rgz [] [[], [], [2, 7, 17, 18]] ?_
         iterate 3 refine op1 tok ?_
         refine runEnd ?_
         exact ⟨k + 1, by omega, by omega, upds_le (by simp), rfl, by simp, by simp⟩
       ·intro h112
        try simp at h112
        refine AW.exit ?_
        simp
        refine rgn [.nilp, .int .u64 1] [[], [], [], [], [17, 127, 130], [], [], [132, 133], [], [], [136], [6]] ?_
        iterate 12 first | refine op1 tok ?_ (h := by intro C; conv => lhs; simp [hkm]) (hv := by first | with_reducible exact True.intro | ((have h := hdk; simp only [hkm] at h; exact h); done) | omega | simp | (simp; omega) | (simp +contextual; omega)) | refine op2 tok ?_ (h := by intro C; conv => lhs; simp [hkm]) (hv := by first | with_reducible exact True.intro | ((have h := hdk; simp only [hkm] at h; exact h); done) | omega | simp | (simp; omega) | (simp +contextual; omega))
        refine runEnd ?_
        exact AW.ret ⟨.inr rfl, _, _, by (conv => lhs; simp), trivial, by simp⟩
end Go.Proofs.YtdjjmppnnkkloaaGreatDoor
