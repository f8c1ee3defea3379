import Derived.Test.YtdjjmppnnkkloaaGreatDoorSPolHead
import Derived.Test.YtdjjmppnnkkloaaGreatDoorM3
namespace Go.Proofs.YtdjjmppnnkkloaaGreatDoor
open Sy Go
set_option maxRecDepth 100000
set_option maxHeartbeats 4000000
set_option linter.unusedSimpArgs false
set_option linter.unusedVariables false
variable {G : Glob}
theorem joined_step (a b c : Val) (hm : c.mask = orM a.mask b.mask) (h1 : a.kids.length = c.kids.length) (h2 : b.kids.length = c.kids.length) (hlm : c.kids.length ≤ 1000000) (ih : ∀ (k : Nat) (x y z : Val), a.kids[k]? = some x → b.kids[k]? = some y → c.kids[k]? = some z → AFn Tryz.prog G 26 [x.enc, y.enc, z.enc] (.bool true)) : AFn Tryz.prog G 26 [a.enc, b.enc, c.enc] (.bool true) := by
 refine AFn.introU tok Tryz.func26 (by kernel_rfl) rfl rfl ?_
 simp only [Tryz.f26, enumA, List.map_cons, List.map_nil]
 refine rgn [] [[], [], [], [3, 4, 5]] ?_
 iterate 4 refine op1 tok ?_
 refine runEnd ?_
 refine AW.seq ?_
 refine rgn [] [[], [], [], [], [], [], [3, 4, 5, 10, 15], [], [], [], [3, 4, 5, 17, 19], [], [], [], [], [3, 4, 5, 17, 24], [], [], [], [3, 4, 5, 26, 28], [], [], [], [], [3, 4, 5, 26, 33], [3, 4, 5, 34]] ?_
 iterate 26 first | refine op1 tok ?_ (h := by intro C; conv => lhs; simp [or_wrap, hm, h1, h2]) | refine op2 tok ?_ (h := by intro C; conv => lhs; simp [or_wrap, hm, h1, h2])
 refine runEnd ?_
 refine cnd ?_ ?_
 ·intro h34
  try simp at h34
 ·intro h34
  try simp at h34
  refine AW.skip ?_
  refine AW.seq ?_
  refine rgn [] [[]] ?_
  refine op1 tok ?_
  refine runEnd ?_
  refine AW.block ?_
  refine AW.loop (α := Nat) (fun k => k ≤ c.kids.length) (fun k => ⟨upds 60 [(3, .ptr 3 0), (4, .ptr 4 0), (5, .ptr 5 0), (7, .p (.int .i64 k))], [], [(3, .vars 42 a.cells), (4, .vars 42 b.cells), (5, .vars 42 c.cells)], 0⟩) (fun k => c.kids.length - k) (0) (by omega) ⟨upds_le (by simp [hm]), rfl, by simp [hm], by simp [hm]⟩ ?_
  rintro k hk
  refine AW.seq ?_
  refine rgn [] [[], [], [], [], [3, 4, 5, 7, 39]] ?_
  iterate 5 refine op1 tok ?_
  refine runEnd ?_
  refine cnd ?_ ?_
  ·intro h39
   try simp at h39
   obtain ⟨x, hx⟩ : ∃ x, a.kids[k]? = some x := ⟨a.kids[k]'(by omega), by simp [show k < a.kids.length by omega]⟩
   obtain ⟨y, hy⟩ : ∃ y, b.kids[k]? = some y := ⟨b.kids[k]'(by omega), by simp [show k < b.kids.length by omega]⟩
   obtain ⟨z, hz⟩ : ∃ z, c.kids[k]? = some z := ⟨c.kids[k]'(by omega), by simp [show k < c.kids.length by omega]⟩
   have hix := ih k x y z hx hy hz
   simp only [Val.enc_def] at hix
   refine AW.skip ?_
   refine AW.seq ?_
   refine AW.block ?_
   refine AW.seqDrawS tok mixed 16 [[3], [42], [7], [43, 44], [45], [4], [47], [7], [48, 49], [50], [5], [52], [7], [53, 54], [55], [46, 51, 56]] [x.enc, y.enc, z.enc, .nilp, .bool true] [] (by kernel_rfl) ?_
   iterate 16 refine d1 ?_ (hv := by first | with_reducible exact True.intro | (first | (simp [hx]; done) | (simp [hx]; omega) | (simp [hy]; done) | (simp [hy]; omega) | (simp [hz]; done) | (simp [hz]; omega) | exact hix; done) | omega | simp | (simp; omega) | (simp +contextual; omega))
   refine DGo.nil (by kernel_rfl) ⟨by kernel_rfl, ?_⟩
   refine AOpsO.run [[3, 4, 5, 7, 8]] ?_
   refine op1 tok ?_
   refine runEnd ?_
   refine rgn [] [[], [3, 4, 5, 7, 59]] ?_
   iterate 2 refine op1 tok ?_
   refine runEnd ?_
   refine cnd ?_ ?_
   ·intro h59
    try simp at h59
   ·intro h59
    try simp at h59
    refine AW.skip ?_
    refine rgz [] [[], [], [3, 4, 5, 7]] ?_
    iterate 3 refine op1 tok ?_
    refine runEnd ?_
    exact ⟨k + 1, by omega, by omega, upds_le (by simp), rfl, by simp, by simp⟩
  ·intro h39
   try simp at h39
   refine AW.exit ?_
   simp
   refine rgn [] [[]] ?_
   refine op1 tok ?_
   refine runEnd ?_
   exact AW.ret ⟨.inr rfl, _, _, by (conv => lhs; simp), trivial, by simp⟩
theorem joined_ev (ms ns : List Mk) (v : Val) : mayT v = true → ∀ pl : List Step, AFn Tryz.prog G 26 [(labT ms v pl).enc, (labT ns v pl).enc, (labT (ms ++ ns) v pl).enc] (.bool true) := by
 refine Val.induct (p := fun v => mayT v = true → ∀ pl : List Step, AFn Tryz.prog G 26 [(labT ms v pl).enc, (labT ns v pl).enc, (labT (ms ++ ns) v pl).enc] (.bool true)) (fun v ih hv pl => ?_) v
 have hsm := may_small hv
 refine joined_step _ _ _ (by rw [lab_mask, lab_mask, lab_mask, maskAt_append]) (by simp only [lab_kids, labK_len]) (by simp only [lab_kids, labK_len]) (by simp only [lab_kids, labK_len]; omega) ?_
 intro k x y z hx hy hz
 rw [lab_kids, labK_get] at hx hy hz
 cases hu : v.kids[k]? with
 | none => rw [hu] at hx; cases hx
 | some u =>
  rw [hu] at hx hy hz
  cases hx; cases hy; cases hz
  exact ih u (List.mem_of_getElem? hu) (may_kid hv (List.mem_of_getElem? hu)) _
def bothP (p q : Pol) : Pol := { p with marks := p.marks ++ q.marks }
theorem marks_append (n : Nat) : ∀ (l m : List Mk), marksM n l = 0 → marksM n m = 0 → marksM n (l ++ m) = 0
 | [], m, _, h => h
 | x :: l, m, h1, h2 => by
  simp only [marksM, List.cons_append] at h1 ⊢
  by_cases a : mayL x.path ≠ 0
  ·rw [if_pos a] at h1; exact absurd h1 a
  ·rw [if_neg a] at h1 ⊢
   by_cases b : badM n x.mask = true
   ·rw [if_pos b] at h1; cases h1
   ·rw [if_neg b] at h1 ⊢; exact marks_append n l m h1 h2
theorem both_may {p q : Pol} (hp : polMay p = 0) (hq : polMay q = 0) (hc : q.cats = p.cats) (h1 : p.marks.length ≤ 8) (h2 : q.marks.length ≤ 8) : polMay (bothP p q) = 0 := by
 rw [may_pol] at hp hq ⊢
 exact ⟨hp.cats, by simp [bothP]; omega, marks_append _ _ _ hp.marks (by have := hq.marks; rw [hc] at this; exact this), hp.token, hp.fuel, hp.quota⟩
theorem PolicyUnion_ev (hG : U8 G) (hP : PW G) (hE : PE G) (p q : Pol) (l : List Item) (hm : ∀ m ∈ p.marks, InM m.mask) (hm2 : ∀ m ∈ q.marks, InM m.mask) (hl : ∀ x ∈ l, x.keys.length ≤ 140737488351232) : AFn Tryz.prog G 7 [p.enc, q.enc, .sl 6 (l.map Item.enc)] (.bool true) := by
 refine AFn.introU tok Tryz.func7 (by kernel_rfl) rfl rfl ?_
 simp only [Tryz.f7, enumA, List.map_cons, List.map_nil]
 have hsh := shown8_ev hG hP hE
 have hF := few8_ev (G := G) p
 have hF2 := few8_ev (G := G) q
 have hf := polFew hm
 have hf2 := polFew hm2
 generalize fewPol p = p' at *
 generalize fewPol q = q' at *
 have hfa := hf.with (p'.marks.take 8) (fun m h => .inl (List.mem_of_mem_take h)) (by simp; omega)
 have hfb := hf2.with (q'.marks.take 8) (fun m h => .inl (List.mem_of_mem_take h)) (by simp; omega)
 have hfc : PolFew { q' with cats := p'.cats, marks := q'.marks.take 8 } := ⟨hfb.masks, hfb.keys, hfb.paths, hfb.marks, hfa.cats, hfb.token⟩
 obtain ⟨cats, marks, token, fuel, quota⟩ := p'
 obtain ⟨cats2, marks2, token2, fuel2, quota2⟩ := q'
 simp only at hfa hfc
 have h8 : (marks.take 8).length ≤ 8 := by simp; omega
 have h82 : (marks2.take 8).length ≤ 8 := by simp; omega
 have ht1 : ¬ 8 < marks.length → marks.take 8 = marks := fun h => List.take_of_length_le (by omega)
 have ht2 : ¬ 8 < marks2.length → marks2.take 8 = marks2 := fun h => List.take_of_length_le (by omega)
 have hmt : (marks.map Mk.enc).take 8 = (marks.take 8).map Mk.enc := List.map_take.symm
 have hmt2 : (marks2.map Mk.enc).take 8 = (marks2.take 8).map Mk.enc := List.map_take.symm
 generalize marks.take 8 = ms at *
 generalize marks2.take 8 = ns at *
 have hM1 := hfa.may (G := G)
 have hM2 := hfc.may (G := G)
 have hb := Built_ev (G := G) l hl
 have mv := built_may l
 have zv := built_sz l
 generalize builtM l = v at hb mv zv
 have hfd : PolFew { cats := cats, marks := ms ++ ns, token := token, fuel := fuel, quota := quota } := ⟨fun m h => (List.mem_append.1 h).elim (hfa.masks m) (hfc.masks m), fun m h => (List.mem_append.1 h).elim (hfa.keys m) (hfc.keys m), fun m h => (List.mem_append.1 h).elim (hfa.paths m) (hfc.paths m), by simp; omega, hfa.cats, hfa.token⟩
 have l1 := hfa.label (G := G) mv zv
 have l2 := hfc.label (G := G) mv zv
 have l3 := hfd.label (G := G) mv zv
 have j := joined_ev (G := G) ms ns v mv []
 have hB := polMay_ev hG { cats := cats, marks := ms ++ ns, token := token, fuel := fuel, quota := quota }
 have hb0 := both_may (p := { cats := cats, marks := ms, token := token, fuel := fuel, quota := quota }) (q := { cats := cats, marks := ns, token := token2, fuel := fuel2, quota := quota2 })
 simp only [bothP] at hb0
 simp only at l1 l2 l3
 generalize labT ms v [] = a at *
 generalize labT ns v [] = b at *
 generalize labT (ms ++ ns) v [] = c at *
 generalize polMay { cats := cats, marks := ms, token := token, fuel := fuel, quota := quota } = m1 at *
 generalize polMay { cats := cats, marks := ns, token := token2, fuel := fuel2, quota := quota2 } = m2 at *
 generalize polMay { cats := cats, marks := ms ++ ns, token := token, fuel := fuel, quota := quota } = m3 at *
 simp only [Val.enc_def, Item.enc, Pol.enc, List.map_nil] at hF hF2 hM1 hM2 hb l1 l2 l3 j hB
 simp only [List.map_append] at l3 hB
 refine rgn [] [[], [], [2, 3, 4]] ?_
 iterate 3 refine op1 tok ?_
 refine runEnd ?_
 refine rgn [.nilp, .bool true] [[], [2, 3, 4, 7]] ?_
 iterate 2 refine op1 tok ?_ (hv := by first | with_reducible exact True.intro | (exact hsh; done) | omega | simp | (simp; omega) | (simp +contextual; omega))
 refine runEnd ?_
 refine rgn [.nilp, .agg [.sl 1 (cats.map PD.str), .sl 2 (marks.map Mk.enc), .str token, .int .i64 fuel, .int .i64 quota]] [[], [], [2, 3, 4, 7]] ?_
 iterate 3 refine op1 tok ?_ (hv := by first | with_reducible exact True.intro | (exact hF; done) | omega | simp | (simp; omega) | (simp +contextual; omega))
 refine runEnd ?_
 refine rgn [.nilp, .agg [.sl 1 (cats2.map PD.str), .sl 2 (marks2.map Mk.enc), .str token2, .int .i64 fuel2, .int .i64 quota2]] [[], [], [2, 3, 4, 7]] ?_
 iterate 3 refine op1 tok ?_ (hv := by first | with_reducible exact True.intro | (exact hF2; done) | omega | simp | (simp; omega) | (simp +contextual; omega))
 refine runEnd ?_
 refine rgn [] [[], [], [], [2, 3, 4, 7]] ?_
 iterate 4 refine op1 tok ?_
 refine runEnd ?_
 refine AW.join (α := Unit) (fun _ => True) (fun _ => ⟨upds 78 [(2, .p (.sl 6 (l.map Item.enc))), (3, .ptr 3 0), (4, .ptr 4 0), (7, .p (.bool true))], [], [(3, .vars 25 [.p (.sl 1 (cats.map PD.str)), .p (.sl 2 (ms.map Mk.enc)), .p (.str token), .p (.int .i64 fuel), .p (.int .i64 quota)]), (4, .vars 25 [.p (.sl 1 (cats.map PD.str)), .p (.sl 2 (marks2.map Mk.enc)), .p (.str token2), .p (.int .i64 fuel2), .p (.int .i64 quota2)])], 0⟩) ?_ ?_
 ·
  refine rgn [] [[], [], [], [2, 3, 4, 7, 24]] ?_
  iterate 4 refine op1 tok ?_
  refine runEnd ?_
  refine cnd ?_ ?_
  ·intro h24
   try simp at h24
   refine rgz [] [[], [], [], [], [2, 3, 4, 7]] ?_
   iterate 5 refine op1 tok ?_
   refine runEnd ?_
   exact ⟨(), trivial, upds_le (by simp [hmt]), rfl, by simp [hmt], by simp [hmt]⟩
  ·intro h24
   try simp at h24
   have hd := ht1 (by omega)
   refine AW.skip ?_
   exact ⟨(), trivial, upds_le (by simp [hd]), rfl, by simp [hd], by simp [hd]⟩
 ·
  rintro _ _
  refine AW.join (α := Unit) (fun _ => True) (fun _ => ⟨upds 78 [(2, .p (.sl 6 (l.map Item.enc))), (3, .ptr 3 0), (4, .ptr 4 0), (7, .p (.bool true))], [], [(3, .vars 25 [.p (.sl 1 (cats.map PD.str)), .p (.sl 2 (ms.map Mk.enc)), .p (.str token), .p (.int .i64 fuel), .p (.int .i64 quota)]), (4, .vars 25 [.p (.sl 1 (cats.map PD.str)), .p (.sl 2 (ns.map Mk.enc)), .p (.str token2), .p (.int .i64 fuel2), .p (.int .i64 quota2)])], 0⟩) ?_ ?_
  ·
   refine rgn [] [[], [], [], [2, 3, 4, 7, 32]] ?_
   iterate 4 refine op1 tok ?_
   refine runEnd ?_
   refine cnd ?_ ?_
   ·intro h32
    try simp at h32
    refine rgz [] [[], [], [], [], [2, 3, 4, 7]] ?_
    iterate 5 refine op1 tok ?_
    refine runEnd ?_
    exact ⟨(), trivial, upds_le (by simp [hmt2]), rfl, by simp [hmt2], by simp [hmt2]⟩
   ·intro h32
    try simp at h32
    have hd2 := ht2 (by omega)
    refine AW.skip ?_
    exact ⟨(), trivial, upds_le (by simp [hd2]), rfl, by simp [hd2], by simp [hd2]⟩
  ·
   rintro _ _
   refine AW.seq ?_
   refine rgn [.nilp, .int .i64 m1, .nilp, .int .i64 m2] [[], [], [], [], [], [2, 3, 4, 7, 40, 42], [], [2, 3, 4, 7, 44]] ?_
   iterate 4 refine op1 tok ?_ (hv := by first | with_reducible exact True.intro | (first | exact hM1 | exact hM2 | ((repeat' (first | with_reducible apply And.intro | intro _)) <;> first | exact (hM1) | exact (hM2) | assumption | omega | contradiction | simp_all); done) | omega | simp | (simp; omega) | (simp +contextual; omega))
   iterate 3 refine op2 tok ?_ (hv := by first | with_reducible exact True.intro | (first | exact hM1 | exact hM2 | ((repeat' (first | with_reducible apply And.intro | intro _)) <;> first | exact (hM1) | exact (hM2) | assumption | omega | contradiction | simp_all); done) | omega | simp | (simp; omega) | (simp +contextual; omega))
   refine op1 tok ?_ (hv := by first | with_reducible exact True.intro | (first | exact hM1 | exact hM2 | ((repeat' (first | with_reducible apply And.intro | intro _)) <;> first | exact (hM1) | exact (hM2) | assumption | omega | contradiction | simp_all); done) | omega | simp | (simp; omega) | (simp +contextual; omega))
   refine runEnd ?_
   refine cnd ?_ ?_
   ·intro h44
    try simp at h44
    refine rgn [] [[], [6]] ?_
    iterate 2 refine op1 tok ?_
    refine runEnd ?_
    exact AW.ret ⟨.inr rfl, _, _, by (conv => lhs; simp), trivial, by simp⟩
   ·intro h44
    try simp at h44
    obtain rfl : m3 = 0 := hb0 (by simp_all) (by simp_all) trivial h8 h82
    refine AW.skip ?_
    refine rgn [] [[], [], [2, 3, 4, 7, 8]] ?_
    iterate 3 refine op1 tok ?_
    refine runEnd ?_
    refine AW.seqDrawS tok mixed 7 [[], [3], [48], [47, 49], [4], [51], [50, 52]] [] [] (by kernel_rfl) ?_
    iterate 7 refine d1 ?_
    refine DGo.nil (by kernel_rfl) ⟨by kernel_rfl, ?_⟩
    refine AOpsO.run [[], [2, 3, 4, 7, 8]] ?_
    iterate 2 refine op1 tok ?_
    refine runEnd ?_
    refine AW.freezeE 53 (by conv => lhs; simp) ?_
    refine rgn [.nilp, v.enc] [[], [], [], [3, 4, 7, 8, 9]] ?_
    iterate 4 refine op1 tok ?_ (hv := by first | with_reducible exact True.intro | ((simp at hb ⊢; exact hb); done) | omega | simp | (simp; omega) | (simp +contextual; omega))
    refine runEnd ?_
    refine rgn [.nilp, a.enc] [[], [], [], [], [4, 7, 8, 9, 10]] ?_
    iterate 5 refine op1 tok ?_ (hv := by first | with_reducible exact True.intro | (exact l1; done) | omega | simp | (simp; omega) | (simp +contextual; omega))
    refine runEnd ?_
    refine rgn [.nilp, b.enc] [[], [], [], [], [7, 8, 9, 10, 11]] ?_
    iterate 5 refine op1 tok ?_ (hv := by first | with_reducible exact True.intro | (exact l2; done) | omega | simp | (simp; omega) | (simp +contextual; omega))
    refine runEnd ?_
    refine rgn [.nilp, c.enc] [[], [], [], [], [7, 8, 10, 11, 12]] ?_
    iterate 5 refine op1 tok ?_ (hv := by first | with_reducible exact True.intro | (exact l3; done) | omega | simp | (simp; omega) | (simp +contextual; omega))
    refine runEnd ?_
    refine rgn [.nilp, .int .i64 0, .nilp, .bool true] [[], [], [], [10, 11, 12, 67, 69], [], [], [10, 11, 12, 72], [], [], [], [72, 76], [], [6]] ?_
    iterate 13 first | refine op1 tok ?_ (hv := by first | with_reducible exact True.intro | (first | exact hB | exact j | ((repeat' (first | with_reducible apply And.intro | intro _)) <;> first | exact (hB) | exact (j) | assumption | omega | contradiction | simp_all); done) | omega | simp | (simp; omega) | (simp +contextual; omega)) | refine op2 tok ?_ (hv := by first | with_reducible exact True.intro | (first | exact hB | exact j | ((repeat' (first | with_reducible apply And.intro | intro _)) <;> first | exact (hB) | exact (j) | assumption | omega | contradiction | simp_all); done) | omega | simp | (simp; omega) | (simp +contextual; omega))
    refine runEnd ?_
    exact AW.ret ⟨.inr rfl, _, _, by (conv => lhs; simp), trivial, by simp⟩
end Go.Proofs.YtdjjmppnnkkloaaGreatDoor
