import Derived.Test.YtdjjmppnnkkloaaGreatDoorSLabL
import Derived.Test.YtdjjmppnnkkloaaGreatDoorSCore26
import Derived.Test.YtdjjmppnnkkloaaGreatDoorSMayL
import Derived.Test.YtdjjmppnnkkloaaGreatDoorSTreeMapL
namespace Go.Proofs.YtdjjmppnnkkloaaGreatDoor
open Sy Go
set_option maxRecDepth 100000
set_option maxHeartbeats 4000000
set_option linter.unusedSimpArgs false
set_option linter.unusedVariables false
variable {G : Glob}
theorem maskAt_ev (p : Pol) (pl : List Step) (hm : ∀ m ∈ p.marks, m.path.length ≤ 1000) (hn : p.marks.length ≤ 1000000) (hl : pl.length ≤ 1000) : AFn Tryz.prog G 23 [p.enc, .sl 3 (pl.map Step.enc)] (.int .u64 (maskAtM p.marks pl)) := by
 refine AFn.introU tok Tryz.func23 (by kernel_rfl) rfl rfl ?_
 simp only [Tryz.f23, enumA, List.map_cons, List.map_nil]
 refine rgn [] [[], [1, 2]] ?_
 iterate 2 refine op1 tok ?_
 refine runEnd ?_
 refine rgn [] [[]] ?_
 refine op1 tok ?_
 refine runEnd ?_
 refine AW.seq ?_
 refine rgn [] [[], [], [], [1, 5, 9, 10, 11]] ?_
 iterate 4 refine op1 tok ?_
 refine runEnd ?_
 refine AW.block ?_
 refine AW.loop (α := Nat × Int) (fun a => a.1 ≤ p.marks.length ∧ maskAtM p.marks pl = maskF pl (p.marks.drop a.1) a.2) (fun a => ⟨upds 25 [(1, .p (.sl 3 (pl.map Step.enc))), (5, .p (.int .u64 a.2)), (9, .p (.sl 2 (p.marks.map Mk.enc))), (10, .p (.int .i64 p.marks.length)), (11, .p (.int .i64 a.1))], [], [], 0⟩) (fun a => p.marks.length - a.1) ((0, 0)) ⟨by simp only []; omega, rfl⟩ ⟨upds_le (by simp), rfl, by simp, by simp⟩ ?_
 rintro ⟨k, m⟩ ⟨hk, hq⟩
 simp only at hk hq
 refine rgn [] [[]] ?_
 refine op1 tok ?_
 refine runEnd ?_
 refine AW.seq ?_
 refine cnd ?_ ?_
 ·intro h12
  try simp at h12
  obtain ⟨x, hx⟩ : ∃ x, p.marks[k]? = some x := ⟨p.marks[k], by simp [h12]⟩
  have hdx : p.marks.drop k = x :: p.marks.drop (k + 1) := by
   obtain ⟨h, rfl⟩ := List.getElem?_eq_some_iff.1 hx
   exact List.drop_eq_getElem_cons h
  rw [hdx] at hq
  simp only [maskF] at hq
  have hM := match_ev (G := G) x.path pl (hm x (List.mem_of_getElem? hx)) hl
  refine AW.skip ?_
  refine AW.seq ?_
  refine AW.block ?_
  refine rgn [x.enc] [[], [], [], [1, 5, 7, 9, 10, 11]] ?_
  iterate 4 refine op1 tok ?_ (hv := by first | with_reducible exact True.intro | (simp [hx]; done) | omega | simp | (simp; omega) | (simp +contextual; omega))
  refine runEnd ?_
  refine rgn [.nilp, .bool (matchM x.path pl)] [[], [], [], [1, 5, 7, 9, 10, 11, 18]] ?_
  iterate 4 refine op1 tok ?_ (hv := by first | with_reducible exact True.intro | (exact hM; done) | omega | simp | (simp; omega) | (simp +contextual; omega))
  refine runEnd ?_
  refine cnd ?_ ?_
  ·intro h18
   try simp at h18
   rw [if_pos h18] at hq
   refine rgz [] [[], [], [], [1, 9, 10, 11, 22], [1, 5, 9, 10, 11]] ?_
   iterate 5 refine op1 tok ?_
   refine runEnd ?_
   refine rgz [] [[], [1, 5, 9, 10, 11]] ?_
   iterate 2 refine op1 tok ?_
   refine runEnd ?_
   exact ⟨(k + 1, orM m x.mask), ⟨by simp only []; omega, hq⟩, by simp only []; omega, upds_le (by simp [or_wrap]), rfl, by simp [or_wrap], by simp [or_wrap]⟩
  ·intro h18
   try simp at h18
   rw [if_neg (by simp [h18])] at hq
   refine AW.skip ?_
   refine rgz [] [[], [1, 5, 9, 10, 11]] ?_
   iterate 2 refine op1 tok ?_
   refine runEnd ?_
   exact ⟨(k + 1, m), ⟨by simp only []; omega, hq⟩, by simp only []; omega, upds_le (by simp), rfl, by simp, by simp⟩
 ·intro h12
  try simp at h12
  rw [List.drop_of_length_le h12] at hq
  simp only [maskF] at hq
  rw [hq]
  refine AW.exit ?_
  simp
  refine rgn [] [[], [4]] ?_
  iterate 2 refine op1 tok ?_
  refine runEnd ?_
  exact AW.ret ⟨.inr rfl, _, _, by (conv => lhs; simp), trivial, by simp⟩
theorem labRow_zero (ms : List Mk) (v : Val) (pl : List Step) : labRow ms v pl 0 = v.kids.map Val.enc := by simp [labRow]
def labH (n : Nat) (p : Pol) (pl : List Step) : List (Nat × Box) := [(2, .vars 25 [.p (.sl 1 (p.cats.map PD.str)), .p (.sl 2 (p.marks.map Mk.enc)), .p (.str p.token), .p (.int .i64 p.fuel), .p (.int .i64 p.quota)]), (3, .vars 52 [.ms n]), (4, .vars 46 [.func (.func 60) [] [.ptr 2 0, .ptr 3 0, .ptr 4 0]]), (n, .row 57 3 (pl.map Step.enc))]
theorem lab_step (p : Pol) (v : Val) (pl : List Step) (hm : ∀ m ∈ p.marks, m.path.length ≤ 1000) (hn : p.marks.length ≤ 1000000) (hl : pl.length ≤ 900) (hks : v.keys.length ≤ 1000000 ∧ v.kids.length ≤ 1000000) (hob : v.kind = 7 → v.keys.length = v.kids.length) (ih : ∀ x ∈ v.kids, ∀ s : Step, AX Tryz.prog G 60 [.p x.enc, .ptr 2 0, .ptr 3 0, .ptr 4 0] (labH 5 p (pl ++ [s])) (.agg (labT p.marks x (pl ++ [s])).cells) [2, 3, 4] (labH 5 p (pl ++ [s]))) : AX Tryz.prog G 60 [.p v.enc, .ptr 2 0, .ptr 3 0, .ptr 4 0] [(2, .vars 25 [.p (.sl 1 (p.cats.map PD.str)), .p (.sl 2 (p.marks.map Mk.enc)), .p (.str p.token), .p (.int .i64 p.fuel), .p (.int .i64 p.quota)]), (3, .vars 52 [.ms 5]), (4, .vars 46 [.func (.func 60) [] [.ptr 2 0, .ptr 3 0, .ptr 4 0]]), (5, .row 57 3 (pl.map Step.enc))] (.agg (labT p.marks v pl).cells) [2, 3, 4] [(2, .vars 25 [.p (.sl 1 (p.cats.map PD.str)), .p (.sl 2 (p.marks.map Mk.enc)), .p (.str p.token), .p (.int .i64 p.fuel), .p (.int .i64 p.quota)]), (3, .vars 52 [.ms 5]), (4, .vars 46 [.func (.func 60) [] [.ptr 2 0, .ptr 3 0, .ptr 4 0]]), (5, .row 57 3 (pl.map Step.enc))] := by
 refine AX.introU tok 900 Tryz.func60 (by kernel_rfl) rfl rfl ?_
 simp only [Tryz.f60, enumA, List.map_cons, List.map_nil]
 have hM := maskAt_ev (G := G) p pl hm hn (by omega)
 have hck := cloneK_ar (G := G) v.keys hks.1
 have hcv := cloneV_ar (G := G) v.kids hks.2
 simp only [Pol.enc] at hM
 rw [labT_eq]
 refine rgn [] [[], [1, 2, 3, 4, 5]] ?_
 iterate 2 refine op1 tok ?_
 refine runEnd ?_
 refine rgn [] [[], []] ?_
 iterate 2 refine op1 tok ?_
 refine runOff ?_
 refine AOpsO.stepK [2, 3, 4, 5, 11] (y_callFlat [5] rfl (by conv => lhs; simp) trivial hM (by simp) (by simp) rfl) (by conv => lhs; simp) rfl ?_
 refine AOpsO.run [[], [2, 3, 4, 5]] ?_
 iterate 2 refine op1 tok ?_
 refine runEnd ?_
 refine AW.seqDrawS tok mixed 7 [[4], [13], [14], [4], [16], [17], [4]] [.nilf, .sl 1 (v.keys.map PD.str), .clo 9 [], .nilf, .sl 9 (v.kids.map Val.enc), .clo 42 []] [] (by kernel_rfl) ?_
 iterate 7 refine d1 ?_ (hv := by first | with_reducible exact True.intro | (first | exact hck | exact hcv | ((repeat' (first | with_reducible apply And.intro | intro _)) <;> first | exact (hck) | exact (hcv) | assumption | omega | contradiction | simp_all); done) | omega | simp | (simp; omega) | (simp +contextual; omega))
 refine DGo.nil (by kernel_rfl) ⟨by kernel_rfl, ?_⟩
 refine AOpsO.run [[], [], [2, 3, 4, 5]] ?_
 iterate 3 refine op1 tok ?_
 refine runEnd ?_
 refine AW.seq ?_
 refine rgn [] [[], [], [], [2, 3, 4, 5, 22, 23, 24]] ?_
 iterate 4 refine op1 tok ?_
 refine runEnd ?_
 refine AW.block ?_
 refine AW.pinsTo [2, 3, 4] (by simp) rfl ?_
 refine AW.loop (α := Nat) (fun k => k ≤ v.kids.length) (fun k => ⟨upds 58 [(2, .ptr 3 0), (3, .ptr 4 0), (4, .ptr 904 0), (5, .ptr 905 0), (22, .ms 918), (23, .p (.int .i64 v.kids.length)), (24, .p (.int .i64 k))], [2, 3, 4], [(2, .vars 25 [.p (.sl 1 (p.cats.map PD.str)), .p (.sl 2 (p.marks.map Mk.enc)), .p (.str p.token), .p (.int .i64 p.fuel), .p (.int .i64 p.quota)]), (3, .vars 52 [.ms 5]), (4, .vars 46 [.func (.func 60) [] [.ptr 2 0, .ptr 3 0, .ptr 4 0]]), (5, .row 57 3 (pl.map Step.enc)), (904, .vars 42 [.p (.int .i64 v.kind), .p (.int .u64 (maskAtM p.marks pl)), .p (.bool v.num.neg), .p (.str v.num.digits), .p (.int .i64 v.num.scale), .p (.str v.text), .ms 915, .ms 918, .p (.int .i64 v.code)]), (905, .vars 42 [.p (.int .i64 0), .p (.int .u64 0), .p (.bool false), .p (.str []), .p (.int .i64 0), .p (.str []), .nilsl, .nilsl, .p (.int .i64 0)]), (915, .row 9 1 (v.keys.map PD.str)), (918, .row 42 9 (labRow p.marks v pl k))], 900⟩) (fun k => v.kids.length - k) (0) (by omega) ⟨upds_le (by simp), rfl, by simp [labRow_zero], by simp⟩ ?_
 rintro k hk
 refine rgn [] [[]] ?_
 refine op1 tok ?_
 refine runEnd ?_
 refine AW.seq ?_
 refine cnd ?_ ?_
 ·intro h25
  try simp at h25
  obtain ⟨x, hx⟩ : ∃ x, v.kids[k]? = some x := ⟨v.kids[k], by simp [h25]⟩
  have hg := labRow_get (ms := p.marks) (pl := pl) hx
  have hset := labRow_set (ms := p.marks) (pl := pl) hx
  have hlen := labRow_len p.marks v pl k
  generalize hR : labRow p.marks v pl k = R at *
  have hxm := List.mem_of_getElem? hx
  refine AW.skip ?_
  refine AW.seq ?_
  refine AW.block ?_
  refine rgn [x.enc] [[], [], [], [], [], [2, 3, 4, 5, 6, 7, 22, 23, 24]] ?_
  iterate 6 refine op1 tok ?_ (hv := by first | with_reducible exact True.intro | (first | exact ⟨_, hg, rfl⟩ | (simp [hg]; done) | (simp [hg]; omega); done) | omega | simp | (simp; omega) | (simp +contextual; omega))
  refine runEnd ?_
  refine rgn [] [[], [], [], [2, 3, 4, 5, 6, 7, 8, 22, 23, 24]] ?_
  iterate 4 refine op1 tok ?_
  refine runEnd ?_
  refine AW.seq ?_
  refine rgn [] [[], [], [2, 3, 4, 5, 6, 7, 8, 22, 23, 24, 33]] ?_
  iterate 3 refine op1 tok ?_
  refine runEnd ?_
  refine cnd ?_ ?_
  ·intro h33
   try simp at h33
   obtain ⟨key, hkey⟩ : ∃ key, v.keys[k]? = some key := ⟨v.keys[k]'(by rw [hob h33]; exact h25), by simp [hob h33, h25]⟩
   have hst : stepOf v.kind v.keys k = ⟨1, key, 0⟩ := by simp [stepOf, h33, List.getD_eq_getElem?_getD, hkey]
   refine rgz [.str key] [[], [], [], [], [2, 3, 4, 5, 6, 7, 8, 22, 23, 24, 38], [], [2, 3, 4, 5, 6, 7, 8, 22, 23, 24]] ?_
   iterate 7 refine op1 tok ?_ (hv := by first | with_reducible exact True.intro | (first | (simp [hkey]; done) | (simp [hkey]; omega); done) | omega | simp | (simp; omega) | (simp +contextual; omega))
   refine runEnd ?_
   refine rgn [.agg [.int .i64 1, .str key, .int .i64 0]] [[], [], [], [2, 3, 4, 5, 6, 7, 22, 23, 24, 43], [2, 3, 4, 5, 6, 7, 22, 23, 24]] ?_
   iterate 5 refine op1 tok ?_ (hv := by first | with_reducible exact True.intro | (first | (simp; omega) | simp; done) | omega | simp | (simp; omega) | (simp +contextual; omega))
   refine runEnd ?_
   have hih : AX Tryz.prog G 60 [.p x.enc, .ptr 2 0, .ptr 3 0, .ptr 4 0] (labH 5 p (pl ++ [⟨1, key, 0⟩])) (.agg (labT p.marks x (pl ++ [⟨1, key, 0⟩])).cells) [2, 3, 4] (labH 949 p (pl ++ [⟨1, key, 0⟩])) := by
    have h := AX.ren 5 949 (ih x hxm ⟨1, key, 0⟩) (by simp [labH])
    simpa [labH] using h
   rw [hst] at hset
   generalize labT p.marks x (pl ++ [⟨1, key, 0⟩]) = y at *
   refine AW.seqDrawR mixed 6 [[4], [44], [6], [3], [7], [47, 48]] [x.enc, y.enc] (by kernel_rfl) ?_
   iterate 5 refine DGoR.one tok (orc := []) (by intro C; conv => lhs; simp) (by first | with_reducible exact True.intro | omega | simp | (simp; omega) | (simp +contextual; omega)) rfl (by kernel_rfl) ?_
   refine DGoR.call [949] hih rfl rfl (by simp [labH]) (by simp [labH]) (by simp [labH]) (by simp [labH]) (by simp) (by first | (simp [labH]; done) | (simp [labH]; omega)) (by first | (simp [labH]; done) | (simp [labH]; omega)) (by kernel_rfl) (by conv => lhs; simp [labH]) ?_
   refine DGoR.nil (by kernel_rfl) ⟨by kernel_rfl, ?_⟩
   refine AOpsO.run [[], [2, 3, 4, 5, 22, 23, 24]] ?_
   iterate 2 refine op1 tok ?_ (hv := by first | with_reducible exact True.intro | (first | (simp [hg]; done) | (simp [hg]; omega) | omega; done) | omega | simp | (simp; omega) | (simp +contextual; omega))
   refine runEnd ?_
   refine rgz [] [[], [], [], []] ?_
   iterate 4 refine op1 tok ?_
   refine runOff ?_
   refine AOpsO.stepK [2, 3, 4, 5, 22, 23, 24, 55] (y_cutRow tok rfl rfl pl.length (by conv => lhs; simp) trivial (by conv => lhs; simp) trivial rfl (by conv => lhs; simp) (by simp) (by simp)) (by conv => lhs; simp) rfl ?_
   refine AOpsO.run [[2, 3, 4, 5, 22, 23, 24]] ?_
   refine op1 tok ?_
   refine runEnd ?_
   refine AW.renE 949 5 (by simp) (by conv => lhs; simp) ?_
   refine rgz [] [[], [2, 3, 4, 5, 22, 23, 24]] ?_
   iterate 2 refine op1 tok ?_
   refine runEnd ?_
   exact ⟨k + 1, by omega, by omega, upds_le (by simp [← hset]), rfl, by simp [← hset], by simp [← hset]⟩
  ·intro h33
   try simp at h33
   have hst : stepOf v.kind v.keys k = ⟨2, [], k⟩ := by simp [stepOf, h33]
   refine AW.skip ?_
   refine rgn [.agg [.int .i64 2, .str [], .int .i64 k]] [[], [], [], [2, 3, 4, 5, 6, 7, 22, 23, 24, 43], [2, 3, 4, 5, 6, 7, 22, 23, 24]] ?_
   iterate 5 refine op1 tok ?_ (hv := by first | with_reducible exact True.intro | (first | (simp; omega) | simp; done) | omega | simp | (simp; omega) | (simp +contextual; omega))
   refine runEnd ?_
   have hih : AX Tryz.prog G 60 [.p x.enc, .ptr 2 0, .ptr 3 0, .ptr 4 0] (labH 5 p (pl ++ [⟨2, [], k⟩])) (.agg (labT p.marks x (pl ++ [⟨2, [], k⟩])).cells) [2, 3, 4] (labH 949 p (pl ++ [⟨2, [], k⟩])) := by
    have h := AX.ren 5 949 (ih x hxm ⟨2, [], k⟩) (by simp [labH])
    simpa [labH] using h
   rw [hst] at hset
   generalize labT p.marks x (pl ++ [⟨2, [], k⟩]) = y at *
   refine AW.seqDrawR mixed 6 [[4], [44], [6], [3], [7], [47, 48]] [x.enc, y.enc] (by kernel_rfl) ?_
   iterate 5 refine DGoR.one tok (orc := []) (by intro C; conv => lhs; simp) (by first | with_reducible exact True.intro | omega | simp | (simp; omega) | (simp +contextual; omega)) rfl (by kernel_rfl) ?_
   refine DGoR.call [949] hih rfl rfl (by simp [labH]) (by simp [labH]) (by simp [labH]) (by simp [labH]) (by simp) (by first | (simp [labH]; done) | (simp [labH]; omega)) (by first | (simp [labH]; done) | (simp [labH]; omega)) (by kernel_rfl) (by conv => lhs; simp [labH]) ?_
   refine DGoR.nil (by kernel_rfl) ⟨by kernel_rfl, ?_⟩
   refine AOpsO.run [[], [2, 3, 4, 5, 22, 23, 24]] ?_
   iterate 2 refine op1 tok ?_ (hv := by first | with_reducible exact True.intro | (first | (simp [hg]; done) | (simp [hg]; omega) | omega; done) | omega | simp | (simp; omega) | (simp +contextual; omega))
   refine runEnd ?_
   refine rgz [] [[], [], [], []] ?_
   iterate 4 refine op1 tok ?_
   refine runOff ?_
   refine AOpsO.stepK [2, 3, 4, 5, 22, 23, 24, 55] (y_cutRow tok rfl rfl pl.length (by conv => lhs; simp) trivial (by conv => lhs; simp) trivial rfl (by conv => lhs; simp) (by simp) (by simp)) (by conv => lhs; simp) rfl ?_
   refine AOpsO.run [[2, 3, 4, 5, 22, 23, 24]] ?_
   refine op1 tok ?_
   refine runEnd ?_
   refine AW.renE 949 5 (by simp) (by conv => lhs; simp) ?_
   refine rgz [] [[], [2, 3, 4, 5, 22, 23, 24]] ?_
   iterate 2 refine op1 tok ?_
   refine runEnd ?_
   exact ⟨k + 1, by omega, by omega, upds_le (by simp [← hset]), rfl, by simp [← hset], by simp [← hset]⟩
 ·intro h25
  try simp at h25
  obtain rfl : k = v.kids.length := by omega
  have hfin : labRow p.marks v pl v.kids.length = (labK p.marks v pl).map Val.enc := by
   unfold labRow
   rw [List.drop_length, List.append_nil, List.take_of_length_le (by simp [labK, labTs_len])]
  refine AW.exit ?_
  simp
  refine AW.freezeE 915 (by conv => lhs; simp) ?_
  refine AW.freezeE 918 (by conv => lhs; simp) ?_
  refine rgn [] [[], [5]] ?_
  iterate 2 refine op1 tok ?_
  refine runEnd ?_
  exact AW.ret ⟨.inr rfl, _, _, by (conv => lhs; simp), trivial, by simp [hfin], by simp, by simp, by simp⟩
theorem lab_ax (p : Pol) (hm : ∀ m ∈ p.marks, m.path.length ≤ 1000) (hn : p.marks.length ≤ 1000000) (v : Val) : mayT v = true → ∀ pl : List Step, pl.length + v.sz ≤ 900 → AX Tryz.prog G 60 [.p v.enc, .ptr 2 0, .ptr 3 0, .ptr 4 0] (labH 5 p pl) (.agg (labT p.marks v pl).cells) [2, 3, 4] (labH 5 p pl) := by
 refine Val.induct (p := fun v => mayT v = true → ∀ pl : List Step, pl.length + v.sz ≤ 900 → AX Tryz.prog G 60 [.p v.enc, .ptr 2 0, .ptr 3 0, .ptr 4 0] (labH 5 p pl) (.agg (labT p.marks v pl).cells) [2, 3, 4] (labH 5 p pl)) (fun v ih hv pl hl => ?_) v
 have hsm := may_small hv
 exact lab_step p v pl hm hn (by omega) ⟨by omega, by omega⟩ (fun h7 => (may_obj hv h7).1) fun x hx s => ih x hx (may_kid hv hx) _ (by have := Val.sz_kid hx; simp; omega)
theorem label_ev (p : Pol) (v : Val) (hm : ∀ m ∈ p.marks, m.path.length ≤ 1000) (hn : p.marks.length ≤ 1000000) (hv : mayT v = true) (hs : v.sz ≤ 900) : AFn Tryz.prog G 19 [p.enc, v.enc] ((labT p.marks v []).enc) := by
 refine AFn.introU tok Tryz.func19 (by kernel_rfl) rfl rfl ?_
 simp only [Tryz.f19, enumA, List.map_cons, List.map_nil]
 have hL := lab_ax (G := G) p hm hn v hv [] (by simpa using hs)
 simp only [labH, List.map_nil] at hL
 generalize labT p.marks v [] = y at *
 refine rgn [] [[], [], [2, 3, 4]] ?_
 iterate 3 refine op1 tok ?_
 refine runEnd ?_
 refine rgn [] [[]] ?_
 refine op1 tok ?_
 refine runEnd ?_
 refine rgn [] [[]] ?_
 refine op1 tok ?_
 refine runEnd ?_
 refine AW.renE 3 803 (by simp) (by conv => lhs; simp) ?_
 refine AW.renE 4 804 (by simp) (by conv => lhs; simp) ?_
 refine AW.renE 5 3 (by simp) (by conv => lhs; simp) ?_
 refine AW.renE 6 4 (by simp) (by conv => lhs; simp) ?_
 refine rgn [] [[], [3, 4, 6]] ?_
 iterate 2 refine op1 tok ?_
 refine runEnd ?_
 refine rgn [] [[], []] ?_
 iterate 2 refine op1 tok ?_
 refine runOff ?_
 refine AOpsO.beginBox 3 5 0 57 3 (by simp; exact ⟨rfl, rfl⟩) (by simp) (by simp) (by conv => lhs; simp) ?_
 refine AOpsO.stepK [4, 10] (y_cx rfl hL (by simp)) (by conv => lhs; simp) rfl ?_
 refine AOpsO.run [[4]] ?_
 refine op1 tok ?_
 refine runEnd ?_
 exact AW.ret ⟨.inr rfl, _, _, by (conv => lhs; simp), trivial, by simp⟩
end Go.Proofs.YtdjjmppnnkkloaaGreatDoor
