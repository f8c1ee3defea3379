import Derived.Test.YtdlejiiiifhiiaaGreatDoorSTreeL2
import Derived.Test.YtdlejiiiifhiiaaGreatDoorM3
namespace Go.Proofs.YtdlejiiiifhiiaaGreatDoor
open Sy Go
set_option maxRecDepth 100000
set_option maxHeartbeats 4000000
set_option linter.unusedSimpArgs false
set_option linter.unusedVariables false
variable {G : Glob}

theorem cloneK_ax (ks : List (List UInt8)) (hn : ks.length ≤ 1000000) : AX Tryz.prog G 78 [.p (.sl 1 (ks.map PD.str))] [] (.ms 905) [] [(905, .row 9 1 (ks.map PD.str))] := by
  refine AX.introU tok 900 Tryz.func78 (by kernel_rfl) rfl rfl ?_
  simp only [Tryz.f78, enumA, List.map_cons, List.map_nil]
  refine AW.seqRegionO [] ?_
  refine s1 tok [0] ?_
  refine AOpsO.nil ?_
  refine AW.seq ?_
  refine AW.seqRegionO [] ?_
  refine s1 tok [0, 3] ?_
  refine AOpsO.nilEq tok [0, 4] rfl rfl (by conv => lhs; simp) trivial rfl ?_
  intro bn1 hbn1
  refine AOpsO.same (by conv => lhs; simp) ?_
  refine AOpsO.nil ?_
  refine AW.cond (c := .tmp 4) (by conv => lhs; simp) trivial ?_ ?_
  · intro h4
    try simp at h4
    have hks : ks = [] := by
      by_cases h : ks = []
      · exact h
      · rw [hbn1 (by simpa using h)] at h4; cases h4
    subst hks
    refine AW.seqRegionO [] ?_
    refine s1 tok [2] ?_
    refine AOpsO.nil ?_
    refine AW.beginE 2 905 9 1 (by simp) (by simp) (by conv => lhs; simp) ?_
    exact AW.ret ⟨.inr rfl, _, _, by (conv => lhs; simp), trivial, by simp, by simp, by simp, by simp⟩
  · intro h4
    try simp at h4
    refine AW.skip ?_
    refine AW.seqRegionO [] ?_
    refine s1 tok [0, 5] ?_
    refine s1 tok [5, 6] ?_
    refine s1 tok [7] ?_
    refine s1 tok [2] ?_
    refine AOpsO.nil ?_
    exact AW.ret ⟨.inr rfl, _, _, by (conv => lhs; simp), trivial, by simp, by simp, by simp, by simp⟩
theorem cloneK_ar (ks : List (List UInt8)) (hn : ks.length ≤ 1000000) : AR Tryz.prog G 78 [.sl 1 (ks.map PD.str)] 9 1 (ks.map PD.str) := AR.of_AX (k := 905) (by simpa using cloneK_ax ks hn)
theorem cloneV_ax (vs : List Val) (hn : vs.length ≤ 1000000) : AX Tryz.prog G 79 [.p (.sl 9 (vs.map Val.enc))] [] (.ms 905) [] [(905, .row 31 9 (vs.map Val.enc))] := by
  refine AX.introU tok 900 Tryz.func79 (by kernel_rfl) rfl rfl ?_
  simp only [Tryz.f79, enumA, List.map_cons, List.map_nil]
  refine AW.seqRegionO [] ?_
  refine s1 tok [0] ?_
  refine AOpsO.nil ?_
  refine AW.seq ?_
  refine AW.seqRegionO [] ?_
  refine s1 tok [0, 3] ?_
  refine AOpsO.nilEq tok [0, 4] rfl rfl (by conv => lhs; simp) trivial rfl ?_
  intro bn1 hbn1
  refine AOpsO.same (by conv => lhs; simp) ?_
  refine AOpsO.nil ?_
  refine AW.cond (c := .tmp 4) (by conv => lhs; simp) trivial ?_ ?_
  · intro h4
    try simp at h4
    have hks : vs = [] := by
      by_cases h : vs = []
      · exact h
      · rw [hbn1 (by simpa using h)] at h4; cases h4
    subst hks
    refine AW.seqRegionO [] ?_
    refine s1 tok [2] ?_
    refine AOpsO.nil ?_
    refine AW.beginE 2 905 31 9 (by simp) (by simp) (by conv => lhs; simp) ?_
    exact AW.ret ⟨.inr rfl, _, _, by (conv => lhs; simp), trivial, by simp, by simp, by simp, by simp⟩
  · intro h4
    try simp at h4
    refine AW.skip ?_
    refine AW.seqRegionO [] ?_
    refine s1 tok [0, 5] ?_
    refine s1 tok [5, 6] ?_
    refine s1 tok [7] ?_
    refine s1 tok [2] ?_
    refine AOpsO.nil ?_
    exact AW.ret ⟨.inr rfl, _, _, by (conv => lhs; simp), trivial, by simp, by simp, by simp, by simp⟩
theorem cloneV_ar (vs : List Val) (hn : vs.length ≤ 1000000) : AR Tryz.prog G 79 [.sl 9 (vs.map Val.enc)] 31 9 (vs.map Val.enc) := AR.of_AX (k := 905) (by simpa using cloneV_ax vs hn)
@[simp] theorem bare1_kind (u : Val) : (bare1 u).kind = u.kind := rfl
@[simp] theorem bare1_mask (u : Val) : (bare1 u).mask = 0 := rfl
@[simp] theorem bare1_num (u : Val) : (bare1 u).num = u.num := rfl
@[simp] theorem bare1_text (u : Val) : (bare1 u).text = u.text := rfl
@[simp] theorem bare1_keys (u : Val) : (bare1 u).keys = u.keys := rfl
@[simp] theorem bare1_kids (u : Val) : (bare1 u).kids = u.kids := rfl
@[simp] theorem bare1_code (u : Val) : (bare1 u).code = u.code := rfl
-- no bare1_ax
/-- The kids once 'k' of them are mapped. -/
def kidsAt (ch : Val → Val) (v : Val) (k : Nat) : List PD := (v.kids.take k).map (fun u => (mapV ch u).enc) ++ (v.kids.drop k).map Val.enc
theorem kidsAt_len (ch : Val → Val) (v : Val) (k : Nat) : (kidsAt ch v k).length = v.kids.length := by
  simp only [kidsAt, List.length_append, List.length_map, List.length_take, List.length_drop]; omega
@[simp] theorem kidsAt_zero (ch : Val → Val) (v : Val) : kidsAt ch v 0 = v.kids.map Val.enc := by simp only [kidsAt, List.take_zero, List.map_nil, List.nil_append, List.drop_zero]
theorem kidsAt_get {ch : Val → Val} {v x : Val} {k : Nat} (hx : v.kids[k]? = some x) : (kidsAt ch v k)[k]? = some x.enc := by
  have hk := (List.getElem?_eq_some_iff.1 hx).1
  have h0 : ((v.kids.take k).map (fun u => (mapV ch u).enc)).length = k := by simp only [List.length_map, List.length_take]; omega
  rw [kidsAt, List.getElem?_append_right (by omega), h0, Nat.sub_self, List.getElem?_map, List.getElem?_drop, Nat.add_zero, hx]; rfl
theorem kidsAt_set {ch : Val → Val} {v x : Val} {k : Nat} (hx : v.kids[k]? = some x) : (kidsAt ch v k).set k (mapV ch x).enc = kidsAt ch v (k + 1) := by
  have hk := (List.getElem?_eq_some_iff.1 hx).1
  have hxk := (List.getElem?_eq_some_iff.1 hx).2
  have h0 : ((v.kids.take k).map (fun u => (mapV ch u).enc)).length = k := by simp only [List.length_map, List.length_take]; omega
  rw [kidsAt, List.set_append_right _ _ (by omega), h0, Nat.sub_self, List.drop_eq_getElem_cons hk, kidsAt, List.take_succ_eq_append_getElem hk, hxk]
  simp only [List.map_cons, List.set_cons_zero, List.map_append, List.map_nil, List.append_assoc, List.cons_append, List.nil_append]
theorem mapped_step (g : FuncId) (ch : Val → Val) (v : Val) (hg : ∀ u : Val, AX Tryz.prog G g [.ptr 2 0] [(2, .vars 31 u.cells)] (.tuple []) [2] [(2, .vars 31 (ch u).cells)]) (hsm : v.keys.length ≤ 1000000 ∧ v.kids.length ≤ 1000000) (ih : ∀ k ∈ v.kids, AFn Tryz.prog G 50 [k.enc, .fn g] (mapV ch k).enc) : AFn Tryz.prog G 50 [v.enc, .fn g] ((mapV ch v).enc) := by
  refine AFn.introU tok Tryz.func50 (by kernel_rfl) rfl rfl ?_
  simp only [Tryz.f50, enumA, List.map_cons, List.map_nil]
  have hck := cloneK_ar (G := G) v.keys (by omega)
  have hcv := cloneV_ar (G := G) v.kids (by omega)
  refine AW.seqRegionO [] ?_
  refine s1 tok [1, 2] ?_
  refine s1 tok [1, 2, 4] ?_
  refine AOpsO.nil ?_
  refine AW.seqRunDrawK tok mixed [1, 2, 4] 8 [[2], [7], [8], [2], [10], [11], [2], [13, 9]] [.nilf, .sl 1 (v.keys.map PD.str), .clo 9 [], .nilf, .sl 9 (v.kids.map Val.enc), .clo 31 []] [] (by kernel_rfl) (by intro C; conv => lhs; simp) (by first | exact hck | exact hcv | ((repeat' (first | with_reducible apply And.intro | intro _)) <;> first | exact (hck) | exact (hcv) | assumption | omega | contradiction | simp_all)) (by simp [Sm.sum, Sm.foot, Sm.tch, Sm.refs]; kernel_rfl) (by intro C; conv => lhs; simp) (by first | with_reducible exact True.intro | omega | simp | (simp; omega) | (simp +contextual; omega)) ?_
  refine AW.seq ?_
  refine AW.seqRegionO [] ?_
  refine s1 tok [1, 2, 4, 15] ?_
  refine s1 tok [1, 2, 4, 16] ?_
  refine s1 tok [1, 2, 4, 16, 17] ?_
  refine s1 tok [1, 2, 4, 16, 17, 18] ?_
  refine AOpsO.nil ?_
  refine AW.block ?_
  refine AW.loop (α := Nat) (fun k => k ≤ v.kids.length) (fun k => ⟨upds 34 [(1, .p (.fn g)), (2, .ptr 2 0), (4, .ptr 4 0), (16, .ms 12), (17, .p (.int .i64 v.kids.length)), (18, .p (.int .i64 k))], [], [(2, .vars 31 [.p (.int .i64 v.kind), .p (.int .u64 v.mask), .p (.bool v.num.neg), .p (.str v.num.digits), .p (.int .i64 v.num.scale), .p (.str v.text), .ms 9, .ms 12, .p (.int .i64 v.code)]), (4, .vars 31 [.p (.int .i64 0), .p (.int .u64 0), .p (.bool false), .p (.str []), .p (.int .i64 0), .p (.str []), .nilsl, .nilsl, .p (.int .i64 0)]), (9, .row 9 1 (v.keys.map PD.str)), (12, .row 31 9 (kidsAt ch v k))], 0⟩) (fun k => v.kids.length - k) (0) (by simp) ⟨upds_le (by simp), rfl, by simp, by simp⟩ ?_
  rintro k hk
  refine AW.seqRegionO [] ?_
  refine s1 tok [1, 2, 4, 16, 17, 18, 19] ?_
  refine AOpsO.nil ?_
  refine AW.seq ?_
  refine AW.cond (c := .tmp 19) (by conv => lhs; simp) trivial ?_ ?_
  · intro h19
    try simp at h19
    obtain ⟨x, hx⟩ : ∃ x, v.kids[k]? = some x := ⟨v.kids[k], by simp [h19]⟩
    have hx' := kidsAt_get (ch := ch) hx
    have hkl := kidsAt_len ch v k
    have hix := ih x (List.mem_of_getElem? hx)
    have hset := kidsAt_set (ch := ch) hx
    simp only [Val.enc_def] at hx' hix hset
    refine AW.skip ?_
    refine AW.seq ?_
    refine AW.block ?_
    refine AW.seqRegionO [x.enc] ?_
    refine s1 tok [1, 2, 4, 16, 17, 18, 20] ?_
    refine s1 tok [1, 2, 4, 16, 17, 18, 20, 21] ?_ (hv := by first | with_reducible exact True.intro | (simpa using hx'; done) | omega | simp | (simp; omega) | (simp +contextual; omega))
    refine s1 tok [1, 2, 4, 16, 17, 18, 20, 22] ?_ (hv := by first | with_reducible exact True.intro | (simpa using hx'; done) | omega | simp | (simp; omega) | (simp +contextual; omega))
    refine s1 tok [1, 2, 4, 6, 16, 17, 18, 20, 22] ?_
    refine s1 tok [1, 2, 4, 5, 6, 16, 17, 18, 22] ?_
    refine s1 tok [1, 2, 4, 5, 6, 16, 17, 18] ?_ (hv := by first | with_reducible exact True.intro | (simpa using hx'; done) | omega | simp | (simp; omega) | (simp +contextual; omega))
    refine AOpsO.nil ?_
    refine AW.runDrawK tok mixed [1, 2, 4, 16, 17, 18] 6 [[2], [23], [5], [6], [1], [26, 27]] [.nilp, (mapV ch x).enc] [x.enc, (mapV ch x).enc] (by kernel_rfl) (by intro C; conv => lhs; simp) (by first | exact hix | ((repeat' (first | with_reducible apply And.intro | intro _)) <;> first | exact (hix) | exact (hx') | assumption | omega | contradiction | simp_all)) (by simp [Sm.sum, Sm.foot, Sm.tch, Sm.refs]; kernel_rfl) (by intro C; conv => lhs; simp) (by exact ⟨by omega, hx'⟩) ?_
    refine AW.regionO [] ?_
    refine s1 tok [1, 2, 4, 16, 17, 30] ?_
    refine s1 tok [1, 2, 4, 16, 17, 18] ?_
    refine AOpsO.nil ?_
    exact ⟨k + 1, (by omega), (by omega), upds_le (by simp [hset]), rfl, by simp [hset], by simp [hset]⟩
  · intro h19
    try simp at h19
    obtain rfl : k = v.kids.length := by omega
    have hfull : kidsAt ch v v.kids.length = (v.kids.map (mapV ch)).map Val.enc := by simp only [kidsAt, List.take_length, List.drop_length, List.map_nil, List.append_nil, List.map_map]; rfl
    rw [hfull]
    refine AW.exit ?_
    simp
    refine AW.seqRegionO [] ?_
    refine s1 tok [2, 4, 31] ?_
    refine AOpsO.freeze 9 (by conv => lhs; simp) ?_
    refine AOpsO.freeze 12 (by conv => lhs; simp) ?_
    refine AOpsO.stepK [2, 4] (y_cx rfl (hg (.mk v.kind v.mask v.num v.text v.keys (v.kids.map (mapV ch)) v.code)) (by simp)) (by conv => lhs; simp) rfl ?_
    refine AOpsO.nil ?_
    refine AW.seqRegionO [] ?_
    refine s1 tok [4, 33] ?_
    refine s1 tok [4] ?_
    refine AOpsO.nil ?_
    exact AW.ret ⟨.inr rfl, _, _, by (conv => lhs; simp), trivial, by simp [mapV_eq ch v]⟩
/-- A value with few entries, all the way down. -/
inductive Few : Val → Prop
  | mk {v : Val} (h1 : v.keys.length ≤ 1000000) (h2 : v.kids.length ≤ 1000000) (h3 : ∀ k ∈ v.kids, Few k) : Few v
theorem few_may (v : Val) (h : mayT v = true) : Few v :=
  Val.induct (p := fun v => mayT v = true → Few v) (fun v ih hv => by
    have hsm := may_small hv
    exact .mk (by omega) (by omega) fun k hk => ih k hk (may_kid hv hk)) v h
theorem mappedF_ev (g : FuncId) (ch : Val → Val) (hg : ∀ u : Val, AX Tryz.prog G g [.ptr 2 0] [(2, .vars 31 u.cells)] (.tuple []) [2] [(2, .vars 31 (ch u).cells)]) (v : Val) (hv : Few v) : AFn Tryz.prog G 50 [v.enc, .fn g] (mapV ch v).enc := by
  induction hv with
  | mk h1 h2 h3 ih => exact mapped_step g ch _ hg ⟨h1, h2⟩ ih
theorem mapped_ev (g : FuncId) (ch : Val → Val) (hg : ∀ u : Val, AX Tryz.prog G g [.ptr 2 0] [(2, .vars 31 u.cells)] (.tuple []) [2] [(2, .vars 31 (ch u).cells)]) (v : Val) (hv : mayT v = true) : AFn Tryz.prog G 50 [v.enc, .fn g] (mapV ch v).enc :=
  mappedF_ev g ch hg v (few_may v hv)
-- no bare_ev
theorem clone1_ax (u : Val) : AX Tryz.prog G 51 [.ptr 2 0] [(2, .vars 31 u.cells)] (.tuple []) [2] [(2, .vars 31 (id u).cells)] := by
  refine AX.introU tok 900 Tryz.func51 (by kernel_rfl) rfl rfl ?_
  simp only [Tryz.f51, enumA, List.map_cons, List.map_nil]
  refine AW.skip ?_
  exact ⟨.inl rfl, _, _, by (conv => lhs; simp), trivial, by simp, by simp, by simp, by simp⟩
theorem cloneF_ev (v : Val) (hv : Few v) : AFn Tryz.prog G 28 [v.enc] (v.enc) := by
  refine AFn.introU tok Tryz.func28 (by kernel_rfl) rfl rfl ?_
  simp only [Tryz.f28, enumA, List.map_cons, List.map_nil]
  have hm := mappedF_ev (G := G) 51 id clone1_ax v hv
  rw [mapV_id] at hm
  simp only [Val.enc_def] at hm
  refine AW.seqRegionO [] ?_
  refine s1 tok [1] ?_
  refine s1 tok [1, 2] ?_
  refine AOpsO.nil ?_
  refine AW.seqRegionO [.nilp, v.enc] ?_
  refine s1 tok [2, 3] ?_ (hv := by first | with_reducible exact True.intro | (exact hm; done) | omega | simp | (simp; omega) | (simp +contextual; omega))
  refine s1 tok [2, 4] ?_ (hv := by first | with_reducible exact True.intro | (exact hm; done) | omega | simp | (simp; omega) | (simp +contextual; omega))
  refine s1 tok [2] ?_ (hv := by first | with_reducible exact True.intro | (exact hm; done) | omega | simp | (simp; omega) | (simp +contextual; omega))
  refine AOpsO.nil ?_
  exact AW.ret ⟨.inr rfl, _, _, by (conv => lhs; simp), trivial, by simp⟩
theorem clone_ev (v : Val) (hv : mayT v = true) : AFn Tryz.prog G 28 [v.enc] v.enc := cloneF_ev v (few_may v hv)
end Go.Proofs.YtdlejiiiifhiiaaGreatDoor
