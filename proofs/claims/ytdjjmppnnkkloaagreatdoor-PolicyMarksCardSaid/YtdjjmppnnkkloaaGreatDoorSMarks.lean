import Derived.Test.YtdjjmppnnkkloaaGreatDoorSPolHead
import Derived.Test.YtdjjmppnnkkloaaGreatDoorM3
namespace Go.Proofs.YtdjjmppnnkkloaaGreatDoor
open Sy Go
set_option maxRecDepth 100000
set_option maxHeartbeats 4000000
set_option linter.unusedSimpArgs false
set_option linter.unusedVariables false
variable {G : Glob}
theorem PolicyMarks_ev (hG : U8 G) (hP : PW G) (hE : PE G) (p : Pol) (l : List Item) (hm : ∀ m ∈ p.marks, InM m.mask) (hl : ∀ x ∈ l, x.keys.length ≤ 140737488351232) : AFn Tryz.prog G 5 [p.enc, .sl 6 (l.map Item.enc)] (.bool true) := by
 refine AFn.introU tok Tryz.func5 (by kernel_rfl) rfl rfl ?_
 simp only [Tryz.f5, enumA, List.map_cons, List.map_nil]
 have hsh := shown8_ev hG hP hE
 have hF := few8_ev (G := G) p
 have hf := polFew hm
 generalize fewPol p = q at *
 have hMay := hf.may (G := G)
 have hb := Built_ev (G := G) l hl
 have mv := built_may l
 have zv := built_sz l
 generalize builtM l = v at hb mv zv
 have mb : mayT (bareV v) = true := by rw [bare_may]; exact mv
 have ma : ∀ ms, mayT (labT ms v []) = true := fun ms => by rw [lab_may]; exact mv
 have l1 := hf.label (G := G) mv zv
 have l2 := hf.label (G := G) mb (by rw [bare_sz]; exact zv)
 rw [lab_bare] at l2
 have l3 := (hf.with [] (by simp) (by simp)).label (G := G) mv zv
 have l4 := (hf.with (q.marks.drop 1) (fun m h => .inl (List.mem_of_mem_drop h)) (by have := hf.marks; simp; omega)).label (G := G) mv zv
 have b1 := refBare_ev (G := G) v mv
 have b2 := refBare_ev (G := G) (labT q.marks v []) (ma _)
 rw [bare_lab] at b2
 have sa1 := refSame_ev (G := G) (labT q.marks v []) (ma _) (labT q.marks v [])
 rw [same_self] at sa1
 have sa2 := refSame_ev (G := G) (bareV v) mb (bareV v)
 rw [same_self] at sa2
 have da1 := refDeep_ev (G := G) (labT q.marks v []) (ma _)
 have da3 := refDeep_ev (G := G) (labT [] v []) (ma _)
 rw [deep_lab_nil] at da3
 have da4 := refDeep_ev (G := G) (labT (q.marks.drop 1) v []) (ma _)
 have f1 : subM (deepV (labT (q.marks.drop 1) v [])) (deepV (labT q.marks v [])) = 0 := (deep_lab_mono (maskAt_drop q.marks) v []).sub
 have mA := maskAt_ev (G := G) q [] hf.paths (by have := hf.marks; omega) (by simp)
 have mM := refMay_ev (G := G) [] (by simp)
 rw [show refMayL [] = 0 by rfl] at mM
 have e1 : (labT q.marks v []).mask = maskAtM q.marks [] := lab_mask _ _ _
 rw [← e1] at mA
 clear e1 ma mb hf
 generalize labT q.marks v [] = a at *
 generalize labT [] v [] = n at *
 generalize labT (q.marks.drop 1) v [] = b at *
 generalize bareV v = w at *
 simp only [Val.enc_def, Item.enc, Pol.enc, List.map_nil] at hF hMay hb l1 l2 l3 l4 b1 b2 sa1 sa2 da1 da3 da4 mA mM
 simp only [List.map_drop] at l4
 simp only [List.drop_one] at l4
 refine rgn [] [[], [1, 2]] ?_
 iterate 2 refine op1 tok ?_
 refine runEnd ?_
 refine rgn [.nilp, .bool true] [[], [1, 2, 5]] ?_
 iterate 2 refine op1 tok ?_ (hv := by first | with_reducible exact True.intro | (exact hsh; done) | omega | simp | (simp; omega) | (simp +contextual; omega))
 refine runEnd ?_
 refine rgn [.nilp, q.enc] [[], [], [1, 2, 5]] ?_
 iterate 3 refine op1 tok ?_ (hv := by first | with_reducible exact True.intro | (exact hF; done) | omega | simp | (simp; omega) | (simp +contextual; omega))
 refine runEnd ?_
 refine AW.seq ?_
 refine rgn [.nilp, .int .i64 (polMay q)] [[], [], [1, 2, 5, 18]] ?_
 iterate 3 refine op1 tok ?_ (hv := by first | with_reducible exact True.intro | (exact hMay; done) | omega | simp | (simp; omega) | (simp +contextual; omega))
 refine runEnd ?_
 refine cnd ?_ ?_
 ·intro h18
  try simp at h18
  refine rgn [] [[], [4]] ?_
  iterate 2 refine op1 tok ?_
  refine runEnd ?_
  exact AW.ret ⟨.inr rfl, _, _, by (conv => lhs; simp), trivial, by simp⟩
 ·intro h18
  try simp at h18
  refine AW.skip ?_
  refine rgn [.nilp, v.enc] [[], [], [], [2, 5, 6]] ?_
  iterate 4 refine op1 tok ?_ (hv := by first | with_reducible exact True.intro | ((simp at hb ⊢; exact hb); done) | omega | simp | (simp; omega) | (simp +contextual; omega))
  refine runEnd ?_
  refine rgn [.nilp, a.enc] [[], [], [], [], [2, 5, 6, 7]] ?_
  iterate 5 refine op1 tok ?_ (hv := by first | with_reducible exact True.intro | (exact l1; done) | omega | simp | (simp; omega) | (simp +contextual; omega))
  refine runEnd ?_
  refine AW.seqDrawS tok mixed 6 [[7], [2], [6], [27], [26, 28], [25, 29]] [.nilp, w.enc, .nilp, a.enc, .nilp, .bool true] [] (by kernel_rfl) ?_
  iterate 6 refine d1 ?_ (hv := by first | with_reducible exact True.intro | (first | exact b1 | exact l2 | exact sa1; done) | omega | simp | (simp; omega) | (simp +contextual; omega))
  refine DGo.nil (by kernel_rfl) ⟨by kernel_rfl, ?_⟩
  refine AOpsO.run [[2, 5, 6, 7, 8]] ?_
  refine op1 tok ?_
  refine runEnd ?_
  refine AW.seqDrawS tok mixed 5 [[7], [31], [6], [33], [32, 34]] [.nilp, w.enc, .nilp, w.enc, .nilp, .bool true] [] (by kernel_rfl) ?_
  iterate 5 refine d1 ?_ (hv := by first | with_reducible exact True.intro | (first | exact b2 | exact b1 | exact sa2; done) | omega | simp | (simp; omega) | (simp +contextual; omega))
  refine DGo.nil (by kernel_rfl) ⟨by kernel_rfl, ?_⟩
  refine AOpsO.run [[2, 5, 6, 7, 8, 9]] ?_
  refine op1 tok ?_
  refine runEnd ?_
  refine rgn [] [[], [], [2, 5, 6, 7, 8, 9, 10]] ?_
  iterate 3 refine op1 tok ?_
  refine runEnd ?_
  refine rgn [] [[], [2, 5, 6, 7, 8, 9, 10]] ?_
  iterate 2 refine op1 tok ?_
  refine runEnd ?_
  refine rgn [] [[], [], [2, 5, 6, 7, 8, 9, 10, 11]] ?_
  iterate 3 refine op1 tok ?_
  refine runEnd ?_
  refine AW.join (α := Unit) (fun _ => True) (fun _ => ⟨upds 83 [(2, .ptr 2 0), (5, .p (.bool true)), (6, .ptr 6 0), (7, .ptr 7 0), (8, .p (.bool true)), (9, .p (.bool true)), (10, .ptr 10 0), (11, .ptr 11 0)], [], [(2, .vars 25 [.p (.sl 1 (q.cats.map PD.str)), .p (.sl 2 (q.marks.map Mk.enc)), .p (.str q.token), .p (.int .i64 q.fuel), .p (.int .i64 q.quota)]), (6, .vars 42 v.cells), (7, .vars 42 a.cells), (10, .vars 25 [.p (.sl 1 (q.cats.map PD.str)), .nilsl, .p (.str q.token), .p (.int .i64 q.fuel), .p (.int .i64 q.quota)]), (11, .vars 25 [.p (.sl 1 (q.cats.map PD.str)), .p (.sl 2 ((q.marks.drop 1).map Mk.enc)), .p (.str q.token), .p (.int .i64 q.fuel), .p (.int .i64 q.quota)])], 0⟩) ?_ ?_
  ·
   refine rgn [] [[], [], [], [2, 5, 6, 7, 8, 9, 10, 11, 42]] ?_
   iterate 4 refine op1 tok ?_
   refine runEnd ?_
   refine cnd ?_ ?_
   ·intro h42
    try simp at h42
    refine rgz [] [[], [], [], [], [2, 5, 6, 7, 8, 9, 10, 11]] ?_
    iterate 5 refine op1 tok ?_
    refine runEnd ?_
    exact ⟨(), trivial, upds_le (by simp [List.map_drop, show (q.marks.map Mk.enc).take q.marks.length = q.marks.map Mk.enc from List.take_of_length_le (by simp)]), rfl, by simp [List.map_drop, show (q.marks.map Mk.enc).take q.marks.length = q.marks.map Mk.enc from List.take_of_length_le (by simp)], by simp [List.map_drop, show (q.marks.map Mk.enc).take q.marks.length = q.marks.map Mk.enc from List.take_of_length_le (by simp)]⟩
   ·intro h42
    try simp at h42
    have hd : q.marks.drop 1 = q.marks := by
     have : q.marks = [] := by first | exact h42 | (simpa using h42)
     rw [this]; rfl
    refine AW.skip ?_
    exact ⟨(), trivial, upds_le (by simp [List.map_drop, show (q.marks.map Mk.enc).tail = q.marks.map Mk.enc by rw [← List.drop_one, ← List.map_drop, hd]]), rfl, by simp [List.map_drop, show (q.marks.map Mk.enc).tail = q.marks.map Mk.enc by rw [← List.drop_one, ← List.map_drop, hd]], by simp [List.map_drop, show (q.marks.map Mk.enc).tail = q.marks.map Mk.enc by rw [← List.drop_one, ← List.map_drop, hd]]⟩
  ·
   rintro _ _
   refine rgn [.nilp, b.enc] [[], [], [], [], [2, 5, 6, 7, 8, 9, 10, 12]] ?_
   iterate 5 refine op1 tok ?_ (hv := by first | with_reducible exact True.intro | (exact l4; done) | omega | simp | (simp; omega) | (simp +contextual; omega))
   refine runEnd ?_
   refine AW.seqDrawS tok mixed 33 [[5], [50], [8, 51], [51, 52], [53], [9, 54], [54, 55], [56], [10, 57], [6, 57], [58, 59, 57], [60, 57], [61, 57], [57, 62], [63], [12, 64], [65, 64], [7, 64], [67, 64], [66, 68, 64], [69, 64], [64, 70], [71], [7, 72], [73, 72], [2, 72], [75, 72], [74, 76, 72], [72, 77], [78], [79], [80, 79], [79, 81]] [.nilp, n.enc, .nilp, .int .u64 0, .nilp, .int .u64 (deepV b), .nilp, .int .u64 (deepV a), .nilp, .int .u64 a.mask, .nilp, .int .i64 0] [] (by kernel_rfl) ?_
   iterate 2 refine d1 ?_ (h := by intro C; conv => lhs; simp [sub_wrap, f1]) (hv := by first | with_reducible exact True.intro | (first | exact l3 | exact da3 | exact da4 | exact da1 | exact mA | exact mM; done) | omega | simp | (simp; omega) | (simp +contextual; omega))
   refine d2 51 rfl rfl ?_ (h := by intro C; conv => lhs; simp [sub_wrap, f1]) (hv := by first | with_reducible exact True.intro | (first | exact l3 | exact da3 | exact da4 | exact da1 | exact mA | exact mM; done) | omega | simp | (simp; omega) | (simp +contextual; omega))
   iterate 2 refine d1 ?_ (h := by intro C; conv => lhs; simp [sub_wrap, f1]) (hv := by first | with_reducible exact True.intro | (first | exact l3 | exact da3 | exact da4 | exact da1 | exact mA | exact mM; done) | omega | simp | (simp; omega) | (simp +contextual; omega))
   refine d2 54 rfl rfl ?_ (h := by intro C; conv => lhs; simp [sub_wrap, f1]) (hv := by first | with_reducible exact True.intro | (first | exact l3 | exact da3 | exact da4 | exact da1 | exact mA | exact mM; done) | omega | simp | (simp; omega) | (simp +contextual; omega))
   iterate 2 refine d1 ?_ (h := by intro C; conv => lhs; simp [sub_wrap, f1]) (hv := by first | with_reducible exact True.intro | (first | exact l3 | exact da3 | exact da4 | exact da1 | exact mA | exact mM; done) | omega | simp | (simp; omega) | (simp +contextual; omega))
   iterate 5 refine d2 57 rfl rfl ?_ (h := by intro C; conv => lhs; simp [sub_wrap, f1]) (hv := by first | with_reducible exact True.intro | (first | exact l3 | exact da3 | exact da4 | exact da1 | exact mA | exact mM; done) | omega | simp | (simp; omega) | (simp +contextual; omega))
   iterate 2 refine d1 ?_ (h := by intro C; conv => lhs; simp [sub_wrap, f1]) (hv := by first | with_reducible exact True.intro | (first | exact l3 | exact da3 | exact da4 | exact da1 | exact mA | exact mM; done) | omega | simp | (simp; omega) | (simp +contextual; omega))
   iterate 6 refine d2 64 rfl rfl ?_ (h := by intro C; conv => lhs; simp [sub_wrap, f1]) (hv := by first | with_reducible exact True.intro | (first | exact l3 | exact da3 | exact da4 | exact da1 | exact mA | exact mM; done) | omega | simp | (simp; omega) | (simp +contextual; omega))
   iterate 2 refine d1 ?_ (h := by intro C; conv => lhs; simp [sub_wrap, f1]) (hv := by first | with_reducible exact True.intro | (first | exact l3 | exact da3 | exact da4 | exact da1 | exact mA | exact mM; done) | omega | simp | (simp; omega) | (simp +contextual; omega))
   iterate 5 refine d2 72 rfl rfl ?_ (h := by intro C; conv => lhs; simp [sub_wrap, f1]) (hv := by first | with_reducible exact True.intro | (first | exact l3 | exact da3 | exact da4 | exact da1 | exact mA | exact mM; done) | omega | simp | (simp; omega) | (simp +contextual; omega))
   iterate 2 refine d1 ?_ (h := by intro C; conv => lhs; simp [sub_wrap, f1]) (hv := by first | with_reducible exact True.intro | (first | exact l3 | exact da3 | exact da4 | exact da1 | exact mA | exact mM; done) | omega | simp | (simp; omega) | (simp +contextual; omega))
   iterate 2 refine d2 79 rfl rfl ?_ (h := by intro C; conv => lhs; simp [sub_wrap, f1]) (hv := by first | with_reducible exact True.intro | (first | exact l3 | exact da3 | exact da4 | exact da1 | exact mA | exact mM; done) | omega | simp | (simp; omega) | (simp +contextual; omega))
   refine d1 ?_ (h := by intro C; conv => lhs; simp [sub_wrap, f1]) (hv := by first | with_reducible exact True.intro | (first | exact l3 | exact da3 | exact da4 | exact da1 | exact mA | exact mM; done) | omega | simp | (simp; omega) | (simp +contextual; omega))
   refine DGo.nil (by kernel_rfl) ⟨by kernel_rfl, ?_⟩
   refine AOpsO.run [[4]] ?_
   refine op1 tok ?_ (h := by intro C; conv => lhs; simp [sub_wrap, f1])
   refine runEnd ?_
   exact AW.ret ⟨.inr rfl, _, _, by (conv => lhs; simp), trivial, by simp⟩
end Go.Proofs.YtdjjmppnnkkloaaGreatDoor
