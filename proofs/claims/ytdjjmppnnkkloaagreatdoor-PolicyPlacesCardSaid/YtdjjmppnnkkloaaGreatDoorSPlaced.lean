import Derived.Test.YtdjjmppnnkkloaaGreatDoorSLab
import Derived.Test.YtdjjmppnnkkloaaGreatDoorSCore27
namespace Go.Proofs.YtdjjmppnnkkloaaGreatDoor
open Sy Go
set_option maxRecDepth 100000
set_option maxHeartbeats 4000000
set_option linter.unusedSimpArgs false
set_option linter.unusedVariables false
variable {G : Glob}
theorem placed_step (p : Pol) (v y : Val) (pl : List Step) (d : Nat) (hy : y = labT p.marks v pl) (hm : ∀ m ∈ p.marks, m.path.length ≤ 1000) (hn : p.marks.length ≤ 1000000) (hl : pl.length ≤ 900) (hlm : v.kids.length ≤ 1000000) (hd : d ≤ 7) (hob : v.kind = 7 → v.keys.length = v.kids.length) (ih : ∀ x ∈ v.kids, ∀ s : Step, ∀ e : Nat, e ≤ 7 → AFn Tryz.prog G 25 [p.enc, (labT p.marks x (pl ++ [s])).enc, .sl 3 ((pl ++ [s]).map Step.enc), .int .i64 e] (.bool true)) : AFn Tryz.prog G 25 [p.enc, y.enc, .sl 3 (pl.map Step.enc), .int .i64 d] (.bool true) := by
 refine AFn.introU tok Tryz.func25 (by kernel_rfl) rfl rfl ?_
 simp only [Tryz.f25, enumA, List.map_cons, List.map_nil]
 have hM := maskAt_ev (G := G) p pl hm hn (by omega)
 have hyk : y.kind = v.kind := by rw [hy, labT_eq]; rfl
 have hym : maskAtM p.marks pl = y.mask := by rw [hy, labT_eq]; rfl
 have hys : y.keys = v.keys := by rw [hy, labT_eq]; rfl
 have hyc : y.kids = labK p.marks v pl := by rw [hy, labT_eq]; rfl
 have hyl : y.kids.length = v.kids.length := by rw [hyc]; unfold labK; rw [labTs_len]
 clear hy
 rw [hym] at hM
 simp only [Pol.enc] at hM ih
 refine rgn [] [[], [], [2, 3, 4, 5]] ?_
 iterate 3 refine op1 tok ?_
 refine runEnd ?_
 refine AW.seq ?_
 refine AW.seqDrawS tok mixed 6 [[5], [12], [4], [2], [14, 15], [13, 16]] [.nilp, .int .u64 y.mask] [] (by kernel_rfl) ?_
 iterate 6 refine d1 ?_ (hv := by first | with_reducible exact True.intro | (first | exact hM | simp; done) | omega | simp | (simp; omega) | (simp +contextual; omega))
 refine DGo.nil (by kernel_rfl) ⟨by kernel_rfl, ?_⟩
 refine AOpsO.nil ?_
 refine cnd ?_ ?_
 ·intro h17
  try simp at h17
 ·intro h17
  try simp at h17
  refine AW.skip ?_
  refine AW.seq ?_
  refine rgn [] [[]] ?_
  refine op1 tok ?_
  refine runEnd ?_
  refine AW.block ?_
  refine AW.loop (α := Nat) (fun k => k ≤ v.kids.length) (fun k => ⟨upds 57 [(2, .p (.sl 3 (pl.map Step.enc))), (3, .p (.int .i64 d)), (4, .ptr 4 0), (5, .ptr 5 0), (9, .p (.int .i64 k))], [], [(4, .vars 25 [.p (.sl 1 (p.cats.map PD.str)), .p (.sl 2 (p.marks.map Mk.enc)), .p (.str p.token), .p (.int .i64 p.fuel), .p (.int .i64 p.quota)]), (5, .vars 42 y.cells)], 0⟩) (fun k => v.kids.length - k) (0) (by omega) ⟨upds_le (by simp), rfl, by simp, by simp⟩ ?_
  rintro k hk
  refine AW.seq ?_
  refine rgn [] [[], [], [], [], [2, 3, 4, 5, 9, 22], [], [], [], [2, 3, 4, 5, 9, 26]] ?_
  iterate 6 refine op1 tok ?_
  iterate 2 refine op2 tok ?_
  refine op1 tok ?_
  refine runEnd ?_
  refine cnd ?_ ?_
  ·intro h26
   try simp at h26
   obtain ⟨x, hx⟩ : ∃ x, v.kids[k]? = some x := ⟨v.kids[k]'(by omega), by simp [show k < v.kids.length by omega]⟩
   have hg : y.kids[k]? = some (labT p.marks x (pl ++ [stepOf v.kind v.keys k])) := by
    rw [hyc]; unfold labK; rw [labTs_get, hx]; simp
   have hxm := List.mem_of_getElem? hx
   have hix := ih x hxm (stepOf v.kind v.keys k) (d + 1) (by omega)
   refine AW.skip ?_
   refine AW.seq ?_
   refine AW.block ?_
   refine rgn [] [[], [], [], [2, 3, 4, 5, 9, 10]] ?_
   iterate 4 refine op1 tok ?_
   refine runEnd ?_
   refine AW.seq ?_
   refine rgn [] [[], [], [2, 3, 4, 5, 9, 10, 33]] ?_
   iterate 3 refine op1 tok ?_
   refine runEnd ?_
   refine cnd ?_ ?_
   ·intro h33
    try simp at h33
    obtain ⟨key, hkey⟩ : ∃ key, y.keys[k]? = some key := ⟨y.keys[k]'(by rw [hys, hob (by omega)]; omega), by simp [hys, hob (show v.kind = 7 by omega), show k < v.kids.length by omega]⟩
    have hst : stepOf v.kind v.keys k = ⟨1, key, 0⟩ := by rw [← hys]; simp [stepOf, show v.kind = 7 by omega, List.getD_eq_getElem?_getD, hkey]
    rw [hst] at hix hg
    generalize labT p.marks x (pl ++ [⟨1, key, 0⟩]) = z at *
    refine rgz [.str key] [[], [], [], [], [2, 3, 4, 5, 9, 10, 38], [], [2, 3, 4, 5, 9, 10]] ?_
    iterate 7 refine op1 tok ?_ (hv := by first | with_reducible exact True.intro | (first | (simp [hkey]; done) | (simp [hkey]; omega); done) | omega | simp | (simp; omega) | (simp +contextual; omega))
    refine runEnd ?_
    refine AW.seqDrawR mixed 15 [[4], [5], [41], [9], [42, 43], [44], [], [2], [46, 47], [10], [49], [48, 50], [3], [52], [40, 45, 51, 53]] [] (by kernel_rfl) ?_
    iterate 4 refine DGoR.one tok (orc := []) (by intro C; conv => lhs; simp) (by first | with_reducible exact True.intro | (first | (simp [hg]; done) | (simp [hg]; omega) | omega; done) | omega | simp | (simp; omega) | (simp +contextual; omega)) rfl (by kernel_rfl) ?_
    refine DGoR.one tok (orc := [z.enc]) (by intro C; conv => lhs; simp) (by first | with_reducible exact True.intro | (first | (simp [hg]; done) | (simp [hg]; omega) | omega; done) | omega | simp | (simp; omega) | (simp +contextual; omega)) rfl (by kernel_rfl) ?_
    iterate 5 refine DGoR.one tok (orc := []) (by intro C; conv => lhs; simp) (by first | with_reducible exact True.intro | (first | (simp [hg]; done) | (simp [hg]; omega) | omega; done) | omega | simp | (simp; omega) | (simp +contextual; omega)) rfl (by kernel_rfl) ?_
    refine DGoR.one tok (orc := [.agg [.int .i64 1, .str key, .int .i64 0]]) (by intro C; conv => lhs; simp) (by first | with_reducible exact True.intro | (first | (simp [hg]; done) | (simp [hg]; omega) | omega; done) | omega | simp | (simp; omega) | (simp +contextual; omega)) rfl (by kernel_rfl) ?_
    iterate 3 refine DGoR.one tok (orc := []) (by intro C; conv => lhs; simp) (by first | with_reducible exact True.intro | (first | (simp [hg]; done) | (simp [hg]; omega) | omega; done) | omega | simp | (simp; omega) | (simp +contextual; omega)) rfl (by kernel_rfl) ?_
    refine DGoR.callFlat [(51, .row 57 3 (pl.map Step.enc ++ [.agg [.int .i64 1, .str key, .int .i64 0]]))] hix rfl rfl (by conv => lhs; simp) trivial (by simp) (by simp [Step.enc, Val.enc_def]) rfl (by simp) (by simp) (by kernel_rfl) (by kernel_rfl) (by conv => lhs; simp) ?_
    refine DGoR.nil (by kernel_rfl) ⟨by kernel_rfl, ?_⟩
    refine AOpsO.run [[2, 3, 4, 5, 9, 11]] ?_
    refine op1 tok ?_
    refine runEnd ?_
    refine rgn [] [[], [2, 3, 4, 5, 9, 56]] ?_
    iterate 2 refine op1 tok ?_
    refine runEnd ?_
    refine cnd ?_ ?_
    ·intro h56
     try simp at h56
    ·intro h56
     try simp at h56
     refine AW.skip ?_
     refine rgz [] [[], [], [2, 3, 4, 5, 9]] ?_
     iterate 3 refine op1 tok ?_
     refine runEnd ?_
     exact ⟨k + 1, by omega, by omega, upds_le (by simp), rfl, by simp, by simp⟩
   ·intro h33
    try simp at h33
    have hst : stepOf v.kind v.keys k = ⟨2, [], k⟩ := by simp [stepOf, show ¬ v.kind = 7 by omega]
    rw [hst] at hix hg
    generalize labT p.marks x (pl ++ [⟨2, [], k⟩]) = z at *
    refine AW.skip ?_
    refine AW.seqDrawR mixed 15 [[4], [5], [41], [9], [42, 43], [44], [], [2], [46, 47], [10], [49], [48, 50], [3], [52], [40, 45, 51, 53]] [] (by kernel_rfl) ?_
    iterate 4 refine DGoR.one tok (orc := []) (by intro C; conv => lhs; simp) (by first | with_reducible exact True.intro | (first | (simp [hg]; done) | (simp [hg]; omega) | omega; done) | omega | simp | (simp; omega) | (simp +contextual; omega)) rfl (by kernel_rfl) ?_
    refine DGoR.one tok (orc := [z.enc]) (by intro C; conv => lhs; simp) (by first | with_reducible exact True.intro | (first | (simp [hg]; done) | (simp [hg]; omega) | omega; done) | omega | simp | (simp; omega) | (simp +contextual; omega)) rfl (by kernel_rfl) ?_
    iterate 5 refine DGoR.one tok (orc := []) (by intro C; conv => lhs; simp) (by first | with_reducible exact True.intro | (first | (simp [hg]; done) | (simp [hg]; omega) | omega; done) | omega | simp | (simp; omega) | (simp +contextual; omega)) rfl (by kernel_rfl) ?_
    refine DGoR.one tok (orc := [.agg [.int .i64 2, .str [], .int .i64 k]]) (by intro C; conv => lhs; simp) (by first | with_reducible exact True.intro | (first | (simp [hg]; done) | (simp [hg]; omega) | omega; done) | omega | simp | (simp; omega) | (simp +contextual; omega)) rfl (by kernel_rfl) ?_
    iterate 3 refine DGoR.one tok (orc := []) (by intro C; conv => lhs; simp) (by first | with_reducible exact True.intro | (first | (simp [hg]; done) | (simp [hg]; omega) | omega; done) | omega | simp | (simp; omega) | (simp +contextual; omega)) rfl (by kernel_rfl) ?_
    refine DGoR.callFlat [(51, .row 57 3 (pl.map Step.enc ++ [.agg [.int .i64 2, .str [], .int .i64 k]]))] hix rfl rfl (by conv => lhs; simp) trivial (by simp) (by simp [Step.enc, Val.enc_def]) rfl (by simp) (by simp) (by kernel_rfl) (by kernel_rfl) (by conv => lhs; simp) ?_
    refine DGoR.nil (by kernel_rfl) ⟨by kernel_rfl, ?_⟩
    refine AOpsO.run [[2, 3, 4, 5, 9, 11]] ?_
    refine op1 tok ?_
    refine runEnd ?_
    refine rgn [] [[], [2, 3, 4, 5, 9, 56]] ?_
    iterate 2 refine op1 tok ?_
    refine runEnd ?_
    refine cnd ?_ ?_
    ·intro h56
     try simp at h56
    ·intro h56
     try simp at h56
     refine AW.skip ?_
     refine rgz [] [[], [], [2, 3, 4, 5, 9]] ?_
     iterate 3 refine op1 tok ?_
     refine runEnd ?_
     exact ⟨k + 1, by omega, by omega, upds_le (by simp), rfl, by simp, by simp⟩
  ·intro h26
   try simp at h26
   refine AW.exit ?_
   simp
   refine rgn [] [[]] ?_
   refine op1 tok ?_
   refine runEnd ?_
   exact AW.ret ⟨.inr rfl, _, _, by (conv => lhs; simp), trivial, by simp⟩
theorem placed_ev (p : Pol) (hm : ∀ m ∈ p.marks, m.path.length ≤ 1000) (hn : p.marks.length ≤ 1000000) (v : Val) : mayT v = true → ∀ (pl : List Step) (d : Nat), pl.length + v.sz ≤ 900 → d ≤ 7 → AFn Tryz.prog G 25 [p.enc, (labT p.marks v pl).enc, .sl 3 (pl.map Step.enc), .int .i64 d] (.bool true) := by
 refine Val.induct (p := fun v => mayT v = true → ∀ (pl : List Step) (d : Nat), pl.length + v.sz ≤ 900 → d ≤ 7 → AFn Tryz.prog G 25 [p.enc, (labT p.marks v pl).enc, .sl 3 (pl.map Step.enc), .int .i64 d] (.bool true)) (fun v ih hv pl d hl hd => ?_) v
 have hsm := may_small hv
 exact placed_step p v _ pl d rfl hm hn (by omega) (by omega) hd (fun h7 => (may_obj hv h7).1) fun x hx s e he => ih x hx (may_kid hv hx) _ e (by have := Val.sz_kid hx; simp; omega) he
end Go.Proofs.YtdjjmppnnkkloaaGreatDoor
