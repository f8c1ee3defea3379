import Derived.Test.YtdojfdaglbphlaaGreatDoorK2
import Derived.Test.YtdojfdaglbphlaaGreatDoorSCore27
namespace Go.Proofs.YtdojfdaglbphlaaGreatDoor
open Sy Go
set_option maxRecDepth 100000
set_option maxHeartbeats 4000000
set_option linter.unusedSimpArgs false
set_option linter.unusedVariables false
variable {G : Glob}
theorem kinds_ev (a b : Val) (top deep k : Int) : AFn Tryz.prog G 77 [.agg (prC a b top deep), .int .i64 k] (.bool (decide (a.kind = k) && decide (b.kind = k))) := by
 refine AFn.introU tok Tryz.func77 (by kernel_rfl) rfl rfl ?_
 simp only [Tryz.f77, enumA, List.map_cons, List.map_nil]
 refine rgn [] [[], [1, 2]] ?_
 iterate 2 refine op1 tok ?_
 refine runEnd ?_
 refine rgn [] [[], [], [], [], [1, 2, 9], [], [], [], [1, 10, 13], [], [], [16], [4]] ?_
 iterate 6 refine op1 tok ?_
 iterate 5 refine op2 tok ?_
 iterate 2 refine op1 tok ?_
 refine runEnd ?_
 exact AW.ret ⟨.inr rfl, _, _, by (conv => lhs; simp), trivial, by simp⟩
theorem ufail_ev (code m : Int) : AFn Tryz.prog G 142 [.int .i64 code, .int .u64 m] ((failV code m).enc) := by
 refine AFn.introU tok Tryz.func142 (by kernel_rfl) rfl rfl ?_
 simp only [Tryz.f142, enumA, List.map_cons, List.map_nil]
 have e : failV code m = .mk 8 m dc0 [] [] [] code := rfl
 rw [e]
 refine rgn [] [[]] ?_
 refine op1 tok ?_
 refine runEnd ?_
 refine rgn [] [[], [], [4, 7], [4]] ?_
 iterate 4 refine op1 tok ?_
 refine runEnd ?_
 exact AW.ret ⟨.inr rfl, _, _, by (conv => lhs; simp), trivial, by simp [dc0]⟩
theorem pfail_ev (a b : Val) (top deep code : Int) : AFn Tryz.prog G 82 [.agg (prC a b top deep), .int .i64 code] ((failV code top).enc) := by
 refine AFn.introU tok Tryz.func82 (by kernel_rfl) rfl rfl ?_
 simp only [Tryz.f82, enumA, List.map_cons, List.map_nil]
 have hf := ufail_ev (G := G) code top
 simp only [Val.enc_def] at hf
 refine rgn [] [[], [1, 2, 4]] ?_
 iterate 2 refine op1 tok ?_
 refine runEnd ?_
 refine rgn [.nilp, (failV code top).enc] [[], [], [], [4, 8], [4]] ?_
 iterate 5 refine op1 tok ?_ (hv := by first | with_reducible exact True.intro | (exact hf; done) | omega | simp | (simp; omega) | (simp +contextual; omega))
 refine runEnd ?_
 exact AW.ret ⟨.inr rfl, _, _, by (conv => lhs; simp), trivial, by simp⟩
theorem minus2_ev (v w : Val) (hv : mayT v = true) (hw : mayT w = true) : AFn Tryz.prog G 87 [w.enc, .ref [.int .i64 v.kind, .int .u64 v.mask, .bool v.num.neg, .str v.num.digits, .int .i64 v.num.scale, .str v.text, .sl 1 (v.keys.map PD.str), .sl 9 (v.kids.map Val.enc), .int .i64 v.code]] (.bool (decide (cmpT v w = 0))) := by
 refine AFn.introU tok Tryz.func87 (by kernel_rfl) rfl rfl ?_
 simp only [Tryz.f87, enumA, List.map_cons, List.map_nil]
 have hc := cmpT_ev (G := G) v w hv hw
 simp only [Val.enc_def] at hc
 generalize cmpT v w = n at *
 refine rgn [] [[], [1, 2]] ?_
 iterate 2 refine op1 tok ?_
 refine runEnd ?_
 refine rgn [.nilp, .int .i64 n] [[], [], [6], [], [3]] ?_
 iterate 5 refine op1 tok ?_ (hv := by first | with_reducible exact True.intro | (first | exact hc | (simp; done); done) | omega | simp | (simp; omega) | (simp +contextual; omega))
 refine runEnd ?_
 exact AW.ret ⟨.inr rfl, _, _, by (conv => lhs; simp), trivial, by simp⟩
theorem minus1_ev (a b v : Val) (top deep : Int) (hv : mayT v = true) (hb : ∀ w ∈ b.kids, mayT w = true) : AFn Tryz.prog G 85 [v.enc, .ref (prC a b top deep)] (.bool (b.kids.any fun w => decide (cmpT v w = 0))) := by
 refine AFn.introU tok Tryz.func85 (by kernel_rfl) rfl rfl ?_
 simp only [Tryz.f85, enumA, List.map_cons, List.map_nil]
 have hc := containsVc_ev (G := G) b.kids 87 [.int .i64 v.kind, .int .u64 v.mask, .bool v.num.neg, .str v.num.digits, .int .i64 v.num.scale, .str v.text, .sl 1 (v.keys.map PD.str), .sl 9 (v.kids.map Val.enc), .int .i64 v.code] (fun w => decide (cmpT v w = 0)) (fun w hw => minus2_ev v w hv (hb w hw))
 generalize (b.kids.any fun w => decide (cmpT v w = 0)) = r at *
 refine rgn [] [[], [1, 2]] ?_
 iterate 2 refine op1 tok ?_
 refine runEnd ?_
 refine AW.freezeV 2 (by conv => lhs; simp) ?_
 refine rgn [.nilp, .bool r] [[], [], [], [6, 7], [], [3]] ?_
 iterate 6 refine op1 tok ?_ (hv := by first | with_reducible exact True.intro | (first | exact hc | (simp; done) | (simp at hc ⊢; exact hc); done) | omega | simp | (simp; omega) | (simp +contextual; omega))
 refine runEnd ?_
 exact AW.ret ⟨.inr rfl, _, _, by (conv => lhs; simp), trivial, by simp⟩
theorem minusL_ev (a b : Val) (top deep : Int) (ha : mayT a = true) (hb : mayT b = true) (hka : a.kind = 6) (hkb : b.kind = 6) : AFn Tryz.prog G 33 [.agg (prC a b top deep)] ((lessV a b deep).enc) := by
 refine AFn.introU tok Tryz.func33 (by kernel_rfl) rfl rfl ?_
 simp only [Tryz.f33, enumA, List.map_cons, List.map_nil]
 have hk := kinds_ev (G := G) a b top deep 6
 simp only [hka, hkb, decide_true, Bool.and_true] at hk
 have hsm := may_small ha
 have hcl := cloneR_ev (G := G) a ha
 have hd := delV_ax (G := G) 85 (prC a b top deep) (fun v => b.kids.any fun w => decide (cmpT v w = 0)) a.kids (fun v hv => minus1_ev a b v top deep (may_kid ha hv) (fun w hw => may_kid hb hw)) (by omega)
 have e : lessV a b deep = .mk a.kind deep a.num a.text a.keys (a.kids.filter fun v => !(b.kids.any fun w => decide (cmpT v w = 0))) a.code := rfl
 rw [e]
 generalize (a.kids.filter fun v => !(b.kids.any fun w => decide (cmpT v w = 0))) = fs at *
 refine rgn [] [[], [1, 2]] ?_
 iterate 2 refine op1 tok ?_
 refine runEnd ?_
 refine AW.seq ?_
 refine rgn [.nilp, .bool true] [[], [], [1, 2, 6]] ?_
 iterate 3 refine op1 tok ?_ (hv := by first | with_reducible exact True.intro | ((simp [hka, hkb] at hk ⊢; exact hk); done) | omega | simp | (simp; omega) | (simp +contextual; omega))
 refine runEnd ?_
 refine cnd ?_ ?_
 ·intro h6
  try simp at h6
 ·intro h6
  try simp at h6
  refine AW.skip ?_
  refine rgn [] [[], []] ?_
  iterate 2 refine op1 tok ?_
  refine runOff ?_
  refine AOpsO.stepK [1, 2, 11] (y_cx rfl hcl (by simp)) (by conv => lhs; simp) rfl ?_
  refine AOpsO.run [[], [1, 2, 3]] ?_
  iterate 2 refine op1 tok ?_
  refine runEnd ?_
  refine rgn [] [[], [], [], [1, 2, 3]] ?_
  iterate 4 refine op1 tok ?_
  refine runEnd ?_
  refine AW.freezeV 1 (by conv => lhs; simp) ?_
  refine AW.renE 912 930 (by simp) (by conv => lhs; simp) ?_
  refine rgn [] [[], [], []] ?_
  iterate 3 refine op1 tok ?_
  refine runOff ?_
  refine AOpsO.stepK [2, 3, 18] (y_cx rfl hd (by simp)) (by conv => lhs; simp) rfl ?_
  refine AOpsO.run [[], [2, 3]] ?_
  iterate 2 refine op1 tok ?_
  refine runEnd ?_
  refine AW.freezeE 930 (by conv => lhs; simp) ?_
  refine AW.freezeE 909 (by conv => lhs; simp) ?_
  refine rgn [] [[], [2]] ?_
  iterate 2 refine op1 tok ?_
  refine runEnd ?_
  exact AW.ret ⟨.inr rfl, _, _, by (conv => lhs; simp), trivial, by simp⟩
theorem merged_ev (a b : Val) (top deep : Int) (ha : mayT a = true) (hb : mayT b = true) (hla : a.keys.length = a.kids.length) (hlb : b.keys.length = b.kids.length) : AFn Tryz.prog G 80 [.agg (prC a b top deep)] ((mergeV a b top).enc) := by
 refine AFn.introU tok Tryz.func80 (by kernel_rfl) rfl rfl ?_
 simp only [Tryz.f80, enumA, List.map_cons, List.map_nil]
 have hsa := may_small ha
 have hsb := may_small hb
 have hcl := cloneR_ev (G := G) a ha
 have hcb := clone_ev (G := G) b hb
 simp only [Val.enc_def] at hcb
 have e : mergeV a b top = .mk a.kind top a.num a.text (mergeG b b.keys.length a.keys a.kids).1 (mergeG b b.keys.length a.keys a.kids).2 a.code := rfl
 rw [e]
 refine rgn [] [[], [1, 2]] ?_
 iterate 2 refine op1 tok ?_
 refine runEnd ?_
 refine rgn [] [[], []] ?_
 iterate 2 refine op1 tok ?_
 refine runOff ?_
 refine AOpsO.stepK [1, 2, 10] (y_cx rfl hcl (by simp)) (by conv => lhs; simp) rfl ?_
 refine AOpsO.run [[], [1, 2, 3]] ?_
 iterate 2 refine op1 tok ?_
 refine runEnd ?_
 refine AW.renE 3 800 (by simp) (by conv => lhs; simp) ?_
 refine AW.renE 909 3 (by simp) (by conv => lhs; simp) ?_
 refine AW.renE 912 8 (by simp) (by conv => lhs; simp) ?_
 refine rgn [] [[], [], [], [1, 2, 3]] ?_
 iterate 4 refine op1 tok ?_
 refine runEnd ?_
 refine rgn [.nilp, b.enc] [[], [], [], [], [2, 3, 4]] ?_
 iterate 5 refine op1 tok ?_ (hv := by first | with_reducible exact True.intro | (exact hcb; done) | omega | simp | (simp; omega) | (simp +contextual; omega))
 refine runEnd ?_
 refine AW.seq ?_
 refine rgn [] [[], [], [], [2, 3, 4, 18, 19, 20]] ?_
 iterate 4 refine op1 tok ?_
 refine runEnd ?_
 refine AW.block ?_
 refine AW.loop (α := Nat) (fun k => k ≤ b.keys.length) (fun k => ⟨upds 58 [(2, .ptr 2 0), (3, .ptr 800 0), (4, .ptr 4 0), (18, .p (.sl 1 (b.keys.map PD.str))), (19, .p (.int .i64 b.keys.length)), (20, .p (.int .i64 k))], [], [(2, .vars 31 [.p (.int .i64 0), .p (.int .u64 0), .p (.bool false), .p (.str []), .p (.int .i64 0), .p (.str []), .nilsl, .nilsl, .p (.int .i64 0)]), (800, .vars 31 [.p (.int .i64 a.kind), .p (.int .u64 top), .p (.bool a.num.neg), .p (.str a.num.digits), .p (.int .i64 a.num.scale), .p (.str a.text), .ms 3, .ms 8, .p (.int .i64 a.code)]), (4, .vars 31 b.cells), (3, .row 9 1 ((mergeG b k a.keys a.kids).1.map PD.str)), (8, .row 31 9 ((mergeG b k a.keys a.kids).2.map Val.enc))], 0⟩) (fun k => b.keys.length - k) (0) (by omega) ⟨upds_le (by simp), rfl, by simp [mergeG], by simp⟩ ?_
 rintro k hk
 refine rgn [] [[]] ?_
 refine op1 tok ?_
 refine runEnd ?_
 refine AW.seq ?_
 refine cnd ?_ ?_
 ·intro h21
  try simp at h21
  obtain ⟨key, hkey⟩ : ∃ x, b.keys[k]? = some x := ⟨b.keys[k], by simp [h21]⟩
  obtain ⟨v, hv⟩ : ∃ x, b.kids[k]? = some x := ⟨b.kids[k]'(by omega), List.getElem?_eq_getElem _⟩
  have hlk := mergeG_len b k hla
  have hst : mergeG b (k + 1) a.keys a.kids = putM (mergeG b k a.keys a.kids).1 (mergeG b k a.keys a.kids).2 key v := by
   simp only [mergeG, List.getD_eq_getElem?_getD, hkey, hv, Option.getD_some]
  generalize mergeG b k a.keys a.kids = M at *
  obtain ⟨ks, vs⟩ := M
  simp only at hlk hst
  have hput : putM ks vs key v = if key ∈ ks then (ks, vs.set (ks.idxOf key) v) else (ks ++ [key], vs ++ [v]) := rfl
  have hidx : idxT ks key = if key ∈ ks then (ks.idxOf key : Int) else -1 := rfl
  have hix := idxT_ax (G := G) ks key
  refine AW.skip ?_
  refine AW.seq ?_
  refine AW.block ?_
  refine rgn [.str key] [[], [], [], [], [2, 3, 4, 5, 6, 18, 19, 20]] ?_
  iterate 5 refine op1 tok ?_ (hv := by first | with_reducible exact True.intro | (first | (simp [hkey]; done) | (simp [hkey]; omega); done) | omega | simp | (simp; omega) | (simp +contextual; omega))
  refine runEnd ?_
  refine AW.seq ?_
  refine rgn [] [[], [], []] ?_
  iterate 3 refine op1 tok ?_
  refine runOff ?_
  refine AOpsO.stepK [2, 3, 4, 5, 6, 18, 19, 20, 28] (y_cx rfl hix (by simp)) (by conv => lhs; simp) rfl ?_
  refine AOpsO.run [[2, 3, 4, 5, 6, 7, 18, 19, 20]] ?_
  refine op1 tok ?_
  refine runEnd ?_
  refine rgn [] [[], [2, 3, 4, 5, 6, 7, 18, 19, 20, 30]] ?_
  iterate 2 refine op1 tok ?_
  refine runEnd ?_
  refine cnd ?_ ?_
  ·intro h30
   try simp at h30
   have hm : key ∈ ks := by false_or_by_contra; rename_i hm; rw [if_neg hm] at hidx; omega
   rw [if_pos hm] at hidx hput
   have hi := List.idxOf_lt_length_iff.2 hm
   obtain ⟨o, ho⟩ : ∃ o, vs[ks.idxOf key]? = some o := ⟨vs[ks.idxOf key]'(by omega), by simp⟩
   have hio : ks.idxOf key < vs.length := by omega
   rw [hidx]
   rw [hput] at hst
   refine AW.seqDrawS tok mixed 8 [[3], [31], [7], [4], [34], [5], [35, 36], [37]] [v.enc] [o.enc, v.enc] (by kernel_rfl) ?_
   iterate 8 refine d1 ?_ (hv := by first | with_reducible exact True.intro | (first | omega | (simp [hv]; done) | (simp [hv]; omega); done) | omega | simp | (simp; omega) | (simp +contextual; omega))
   refine DGo.nil (by kernel_rfl) ⟨by kernel_rfl, ?_⟩
   refine AOpsO.run [[], [2, 3, 4, 18, 19, 20]] ?_
   iterate 2 refine op1 tok ?_ (hv := by first | with_reducible exact True.intro | (first | omega | (simp [ho]; done) | (simp [ho, Val.cells, V.fitsL]; done); done) | omega | simp | (simp; omega) | (simp +contextual; omega))
   refine runEnd ?_
   refine AW.exit ?_
   simp
   refine rgz [] [[], [2, 3, 4, 18, 19, 20]] ?_
   iterate 2 refine op1 tok ?_
   refine runEnd ?_
   exact ⟨k + 1, by omega, by omega, upds_le (by simp [hst]), rfl, by simp [hst], by simp [hst]⟩
  ·intro h30
   try simp at h30
   have hm : key ∉ ks := by intro hm; rw [if_pos hm] at hidx; omega
   rw [if_neg hm] at hput
   rw [hput] at hst
   refine AW.skip ?_
   refine AW.drawS tok mixed 16 [[3], [40], [6], [42], [41, 43], [3], [45], [4], [47], [5], [48, 49], [50], [51], [46, 52], [3], [54, 44]] [.str key, v.enc, v.enc] [] (by kernel_rfl) ?_
   iterate 16 refine d1 ?_ (h := by intro C; conv => lhs; simp [Value.oneCell']) (hv := by first | with_reducible exact True.intro | (first | omega | (simp [hv]; done) | (simp [hv]; omega) | (simp; omega); done) | omega | simp | (simp; omega) | (simp +contextual; omega))
   refine DGo.nil (by kernel_rfl) ⟨by kernel_rfl, ?_⟩
   refine AOpsO.run [[], [2, 3, 4, 18, 19, 20]] ?_
   iterate 2 refine op1 tok ?_ (h := by intro C; conv => lhs; simp [Value.oneCell'])
   refine runOff ?_
   refine AOpsO.take 44 3 (by conv => lhs; simp) ?_
   refine AOpsO.take 53 8 (by conv => lhs; simp) ?_
   refine AOpsO.nil ?_
   refine rgz [] [[], [2, 3, 4, 18, 19, 20]] ?_
   iterate 2 refine op1 tok ?_
   refine runEnd ?_
   exact ⟨k + 1, by omega, by omega, upds_le (by simp [hst]), rfl, by simp [hst], by simp [hst]⟩
 ·intro h21
  try simp at h21
  obtain rfl : k = b.keys.length := by omega
  refine AW.exit ?_
  simp
  refine AW.freezeE 3 (by conv => lhs; simp) ?_
  refine AW.freezeE 8 (by conv => lhs; simp) ?_
  refine rgn [] [[], [2]] ?_
  iterate 2 refine op1 tok ?_
  refine runEnd ?_
  exact AW.ret ⟨.inr rfl, _, _, by (conv => lhs; simp), trivial, by simp⟩
end Go.Proofs.YtdojfdaglbphlaaGreatDoor
