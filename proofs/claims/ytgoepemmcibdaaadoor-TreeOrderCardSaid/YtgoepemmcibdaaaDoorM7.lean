import Derived.Test.YtgoepemmcibdaaaDoorM6
namespace Go.Proofs.YtgoepemmcibdaaaDoor
open Sy Go
set_option maxRecDepth 100000
set_option maxHeartbeats 4000000
set_option linter.unusedSimpArgs false
set_option linter.unusedVariables false
variable {G : Glob}

/-- An object's kids, in the order of its keys. -/
def kidOf (v : Val) (s : List UInt8) : Val := v.kids.getD (v.keys.idxOf s) nullV
def kidsS (v : Val) : List Val := (sortK v.keys).map (kidOf v)
theorem kidOf_get {v : Val} (hl : v.keys.length ≤ v.kids.length) {s : List UInt8} (h : s ∈ v.keys) : v.kids[v.keys.idxOf s]? = some (kidOf v s) := by
  have := List.idxOf_lt_length_of_mem h
  simp [kidOf, List.getD_eq_getElem?_getD, show v.keys.idxOf s < v.kids.length by omega]
theorem sortK_mem {ks : List (List UInt8)} {s : List UInt8} : s ∈ sortK ks ↔ s ∈ ks := (List.mergeSort_perm ks _).mem_iff
theorem values_ax (ks : List (List UInt8)) : AX Tryd.prog G 51 [.p (.sl 1 (ks.map PD.str))] [] (.func (.func 66) [] [.ptr 901 0]) [] [(901, .vars 25 [.p (.sl 1 (ks.map PD.str))])] := by
  refine AX.introU tok 900 Tryd.func51 (by kernel_rfl) rfl rfl ?_
  simp only [Tryd.f51, enumA, List.map_cons, List.map_nil]
  refine AW.seqRegionO [] ?_
  refine AOpsO.one tok [1] (by intro C; conv => lhs; simp) (by first | with_reducible exact True.intro | omega | simp | (simp; omega) | (simp +contextual; omega)) rfl ?_
  refine AOpsO.one tok [1] (by intro C; conv => lhs; simp) (by first | with_reducible exact True.intro | omega | simp | (simp; omega) | (simp +contextual; omega)) rfl ?_
  refine AOpsO.nil ?_
  refine AW.seqRegionO [] ?_
  refine AOpsO.one tok [3] (by intro C; conv => lhs; simp) (by first | with_reducible exact True.intro | omega | simp | (simp; omega) | (simp +contextual; omega)) rfl ?_
  refine AOpsO.one tok [2] (by intro C; conv => lhs; simp) (by first | with_reducible exact True.intro | omega | simp | (simp; omega) | (simp +contextual; omega)) rfl ?_
  refine AOpsO.nil ?_
  exact AW.ret ⟨.inr rfl, _, _, by (conv => lhs; simp), trivial, by simp, by simp, by simp, by simp⟩
theorem sortedV_ev (v : Val) (hl : v.keys.length ≤ v.kids.length) (hn : v.keys.length ≤ 1000000) : AFn Tryd.prog G 29 [v.enc] (.tup [.sl 1 ((sortK v.keys).map PD.str), .sl 9 ((kidsS v).map Val.enc)]) := by
  refine AFn.introU tok Tryd.func29 (by kernel_rfl) rfl rfl ?_
  simp only [Tryd.f29, enumA, List.map_cons, List.map_nil]
  have hsl := sortK_len v.keys
  have hix := idxK_ev (G := G) v.keys
  refine AW.seqRegionO [] ?_
  refine AOpsO.one tok [1] (by intro C; conv => lhs; simp) (by first | with_reducible exact True.intro | omega | simp | (simp; omega) | (simp +contextual; omega)) rfl ?_
  refine AOpsO.one tok [1] (by intro C; conv => lhs; simp) (by first | with_reducible exact True.intro | omega | simp | (simp; omega) | (simp +contextual; omega)) rfl ?_
  refine AOpsO.one tok [1] (by intro C; conv => lhs; simp) (by first | with_reducible exact True.intro | omega | simp | (simp; omega) | (simp +contextual; omega)) rfl ?_
  refine AOpsO.nil ?_
  refine AW.seqRegionO [] ?_
  refine AOpsO.one tok [1, 8] (by intro C; conv => lhs; simp) (by first | with_reducible exact True.intro | omega | simp | (simp; omega) | (simp +contextual; omega)) rfl ?_
  refine AOpsO.one tok [1, 9] (by intro C; conv => lhs; simp) (by first | with_reducible exact True.intro | omega | simp | (simp; omega) | (simp +contextual; omega)) rfl ?_
  refine AOpsO.stepK [1, 10] (y_cx rfl (values_ax v.keys) (by simp)) (by conv => lhs; simp) rfl ?_
  refine AOpsO.stepK [1, 11] (y_cx rfl (sorted_ax 901 v.keys (by omega)) (by simp)) (by conv => lhs; simp) rfl ?_
  refine AOpsO.one tok [1, 4] (by intro C; conv => lhs; simp) (by first | with_reducible exact True.intro | omega | simp | (simp; omega) | (simp +contextual; omega)) rfl ?_
  refine AOpsO.nil ?_
  refine AW.seqRegionO [] ?_
  refine AOpsO.one tok [1, 4, 5] (by intro C; conv => lhs; simp) (by first | with_reducible exact True.intro | omega | simp | (simp; omega) | (simp +contextual; omega)) rfl ?_
  refine AOpsO.nil ?_
  refine AW.seq ?_
  refine AW.seqRegionO [] ?_
  refine AOpsO.one tok [1, 4, 5, 12] (by intro C; conv => lhs; simp) (by first | with_reducible exact True.intro | omega | simp | (simp; omega) | (simp +contextual; omega)) rfl ?_
  refine AOpsO.one tok [1, 4, 5, 12, 13] (by intro C; conv => lhs; simp) (by first | with_reducible exact True.intro | omega | simp | (simp; omega) | (simp +contextual; omega)) rfl ?_
  refine AOpsO.one tok [1, 4, 5, 12, 13, 14] (by intro C; conv => lhs; simp) (by first | with_reducible exact True.intro | omega | simp | (simp; omega) | (simp +contextual; omega)) rfl ?_
  refine AOpsO.nil ?_
  refine AW.block ?_
  refine AW.beginE 5 5 33 9 (by simp) (by simp) (by conv => lhs; simp) ?_
  refine AW.loop (α := Nat) (fun k => k ≤ v.keys.length) (fun k => ⟨upds 32 [(1, .ptr 1 0), (4, .p (.sl 1 ((sortK v.keys).map PD.str))), (5, .ms 5), (12, .p (.sl 1 ((sortK v.keys).map PD.str))), (13, .p (.int .i64 v.keys.length)), (14, .p (.int .i64 k))], [], [(1, .vars 33 v.cells), (5, .row 33 9 (((kidsS v).take k).map Val.enc))], 0⟩) (fun k => v.keys.length - k) (0) (by omega) ⟨upds_le (by simp [hsl]), rfl, by simp, by simp⟩ ?_
  rintro k hk
  refine AW.seqRegionO [] ?_
  refine AOpsO.one tok [1, 4, 5, 12, 13, 14, 15] (by intro C; conv => lhs; simp) (by first | with_reducible exact True.intro | omega | simp | (simp; omega) | (simp +contextual; omega)) rfl ?_
  refine AOpsO.nil ?_
  refine AW.seq ?_
  refine AW.cond (c := .tmp 15) (by conv => lhs; simp) trivial ?_ ?_
  · intro h15
    try simp at h15
    obtain ⟨s, hs⟩ : ∃ s, (sortK v.keys)[k]? = some s := ⟨(sortK v.keys)[k]'(by omega), by simp [show k < (sortK v.keys).length by omega]⟩
    have hm : s ∈ v.keys := sortK_mem.1 (List.mem_of_getElem? hs)
    have hkid := kidOf_get hl hm
    have hi := hix s
    unfold idxK at hi
    rw [if_pos hm] at hi
    refine AW.skip ?_
    refine AW.seq ?_
    refine AW.block ?_
    have hks : (kidsS v)[k]? = some (kidOf v s) := by simp [kidsS, hs]
    generalize hkv : kidsS v = kv at *
    have hkl : (kv.take k).length ≤ k := List.length_take_le _ _
    refine AW.seqRegionO [.str s] ?_
    refine AOpsO.one tok [1, 4, 5, 12, 13, 14, 16] (by intro C; conv => lhs; simp) (by first | with_reducible exact True.intro | (simp [hs]; done) | omega | simp | (simp; omega) | (simp +contextual; omega)) rfl ?_
    refine AOpsO.one tok [1, 4, 5, 12, 13, 14, 17] (by intro C; conv => lhs; simp) (by first | with_reducible exact True.intro | (simp [hs]; done) | omega | simp | (simp; omega) | (simp +contextual; omega)) rfl ?_
    refine AOpsO.one tok [1, 4, 5, 7, 12, 13, 14] (by intro C; conv => lhs; simp) (by first | with_reducible exact True.intro | (simp [hs]; done) | omega | simp | (simp; omega) | (simp +contextual; omega)) rfl ?_
    refine AOpsO.nil ?_
    refine AW.runDrawK tok mixed [1, 4, 5, 12, 13, 14] 11 [[5], [1], [19], [1], [21], [7], [22, 23], [20, 24], [25], [26], [18, 27]] [.nilp, .int .i64 (v.keys.idxOf s), (kidOf v s).enc, (kidOf v s).enc] [] (by kernel_rfl) (by intro C; conv => lhs; simp) (by (simp [hkid]; exact ⟨hi, by omega⟩)) (by simp [Sm.sum, Sm.foot, Sm.tch, Sm.refs]; kernel_rfl) (by intro C; conv => lhs; simp) (by first | with_reducible exact True.intro | omega | simp | (simp; omega) | (simp +contextual; omega)) ?_
    refine AW.renE 28 5 (by simp) (by conv => lhs; simp) ?_
    refine AW.regionO [] ?_
    refine AOpsO.one tok [1, 4, 5, 12, 13, 29] (by intro C; conv => lhs; simp) (by first | with_reducible exact True.intro | omega | simp | (simp; omega) | (simp +contextual; omega)) rfl ?_
    refine AOpsO.one tok [1, 4, 5, 12, 13, 14] (by intro C; conv => lhs; simp) (by first | with_reducible exact True.intro | omega | simp | (simp; omega) | (simp +contextual; omega)) rfl ?_
    refine AOpsO.nil ?_
    exact ⟨k + 1, by omega, by omega, upds_le (by simp [List.take_add_one, hks]), rfl, by simp [List.take_add_one, hks], by simp [List.take_add_one, hks]⟩
  · intro h15
    try simp at h15
    have hkl : (kidsS v).length = v.keys.length := by simp [kidsS, hsl]
    refine AW.exit ?_
    simp
    refine AW.freezeE 5 (by conv => lhs; simp) ?_
    refine AW.seqRegionO [] ?_
    refine AOpsO.one tok [5, 30] (by intro C; conv => lhs; simp) (by first | with_reducible exact True.intro | omega | simp | (simp; omega) | (simp +contextual; omega)) rfl ?_
    refine AOpsO.one tok [30, 31] (by intro C; conv => lhs; simp) (by first | with_reducible exact True.intro | omega | simp | (simp; omega) | (simp +contextual; omega)) rfl ?_
    refine AOpsO.one tok [2, 31] (by intro C; conv => lhs; simp) (by first | with_reducible exact True.intro | omega | simp | (simp; omega) | (simp +contextual; omega)) rfl ?_
    refine AOpsO.one tok [2, 3] (by intro C; conv => lhs; simp) (by first | with_reducible exact True.intro | omega | simp | (simp; omega) | (simp +contextual; omega)) rfl ?_
    refine AOpsO.nil ?_
    exact AW.ret ⟨.inr rfl, _, _, by (conv => lhs; simp), trivial, by simp; rw [List.take_of_length_le (by simp; omega)]⟩
/-- The order of values. -/
def cmpF : Nat → Val → Val → Int
  | 0, _, _ => 0
  | f + 1, a, b => if a.kind ≠ b.kind then cmpI a.kind b.kind else if a.kind = 4 then cmpD a.num b.num else if a.kind = 5 then Lib.compareBytes a.text b.text else if a.kind = 6 then cmpL (cmpF f) a.kids b.kids
    else if a.kind = 8 then cmpI a.code b.code
    else if a.kind = 7 then (if cmpL cmpS (sortK a.keys) (sortK b.keys) ≠ 0 then cmpL cmpS (sortK a.keys) (sortK b.keys) else cmpL (cmpF f) (kidsS a) (kidsS b)) else 0
theorem may_kid {v k : Val} (h : mayT v = true) (hk : k ∈ v.kids) : mayT k = true := by
  rw [mayT_eq] at h; simp only [Bool.and_eq_true, List.all_eq_true] at h; exact h.2 k hk
theorem may_obj {v : Val} (h : mayT v = true) (h7 : v.kind = 7) : v.keys.length = v.kids.length ∧ v.keys.length ≤ 200 ∧ v.keys.Nodup := by
  rw [mayT_eq] at h
  simp only [Bool.and_eq_true, boundsT, partsT, namedT, decide_eq_true_eq] at h
  obtain ⟨⟨h1, ⟨⟨_, h2⟩, _⟩⟩, _⟩ := h
  rw [if_pos h7] at h2
  simp [keysT] at h2
  exact ⟨by omega, by omega, h2.2.2⟩
theorem may_num {v : Val} (h : mayT v = true) (h4 : v.kind = 4) : dcMay v.num = true := by
  rw [mayT_eq] at h
  simp only [Bool.and_eq_true, partsT, numT] at h
  obtain ⟨⟨h1, ⟨⟨⟨⟨_, h2⟩, _⟩, _⟩, _⟩⟩, _⟩ := h
  rw [if_pos h4] at h2; exact h2
theorem kidsS_mem {v x : Val} (hl : v.keys.length ≤ v.kids.length) (h : x ∈ kidsS v) : x ∈ v.kids := by
  obtain ⟨s, hs, rfl⟩ := List.mem_map.1 h
  exact List.mem_of_getElem? (kidOf_get hl (sortK_mem.1 hs))
theorem cmp_step (f : Nat) (a b : Val) (ha : mayT a = true) (hb : mayT b = true) (ih : ∀ x ∈ a.kids, ∀ y ∈ b.kids, AFn Tryd.prog G 10 [x.enc, y.enc] (.int .i64 (cmpF f x y))) : AFn Tryd.prog G 10 [a.enc, b.enc] (.int .i64 (cmpF (f + 1) a b)) := by
  refine AFn.introU tok Tryd.func10 (by kernel_rfl) rfl rfl ?_
  simp only [Tryd.f10, enumA, List.map_cons, List.map_nil]
  have hki := cmpI_ev (G := G) a.kind b.kind
  have hce := cmpE_ev (G := G) a.code b.code
  have hst := Compare_ev (G := G) a.text b.text
  refine AW.seqRegionO [] ?_
  refine AOpsO.one tok [1, 2] (by intro C; conv => lhs; simp) (by first | with_reducible exact True.intro | omega | simp | (simp; omega) | (simp +contextual; omega)) rfl ?_
  refine AOpsO.one tok [2, 3] (by intro C; conv => lhs; simp) (by first | with_reducible exact True.intro | omega | simp | (simp; omega) | (simp +contextual; omega)) rfl ?_
  refine AOpsO.one tok [2, 3] (by intro C; conv => lhs; simp) (by first | with_reducible exact True.intro | omega | simp | (simp; omega) | (simp +contextual; omega)) rfl ?_
  refine AOpsO.nil ?_
  refine AW.seq ?_
  refine AW.seqRegionO [] ?_
  refine AOpsO.one tok [2, 3, 9] (by intro C; conv => lhs; simp) (by first | with_reducible exact True.intro | omega | simp | (simp; omega) | (simp +contextual; omega)) rfl ?_
  refine AOpsO.one tok [2, 3, 10] (by intro C; conv => lhs; simp) (by first | with_reducible exact True.intro | omega | simp | (simp; omega) | (simp +contextual; omega)) rfl ?_
  refine AOpsO.one tok [2, 3, 10, 11] (by intro C; conv => lhs; simp) (by first | with_reducible exact True.intro | omega | simp | (simp; omega) | (simp +contextual; omega)) rfl ?_
  refine AOpsO.one tok [2, 3, 10, 12] (by intro C; conv => lhs; simp) (by first | with_reducible exact True.intro | omega | simp | (simp; omega) | (simp +contextual; omega)) rfl ?_
  refine AOpsO.one tok [2, 3, 13] (by intro C; conv => lhs; simp) (by first | with_reducible exact True.intro | omega | simp | (simp; omega) | (simp +contextual; omega)) rfl ?_
  refine AOpsO.nil ?_
  refine AW.cond (c := .tmp 13) (by conv => lhs; simp) trivial ?_ ?_
  · intro h13
    try simp at h13
    have hR : cmpF (f + 1) a b = cmpI a.kind b.kind := by simp only [cmpF]; rw [if_pos h13]
    refine AW.seqRegionO [.nilp, .int .i64 (cmpI a.kind b.kind)] ?_
    refine AOpsO.one tok [3, 14] (by intro C; conv => lhs; simp) (by first | with_reducible exact True.intro | (exact hki; done) | omega | simp | (simp; omega) | (simp +contextual; omega)) rfl ?_
    refine AOpsO.one tok [3, 15] (by intro C; conv => lhs; simp) (by first | with_reducible exact True.intro | (exact hki; done) | omega | simp | (simp; omega) | (simp +contextual; omega)) rfl ?_
    refine AOpsO.one tok [15, 16] (by intro C; conv => lhs; simp) (by first | with_reducible exact True.intro | (exact hki; done) | omega | simp | (simp; omega) | (simp +contextual; omega)) rfl ?_
    refine AOpsO.one tok [15, 17] (by intro C; conv => lhs; simp) (by first | with_reducible exact True.intro | (exact hki; done) | omega | simp | (simp; omega) | (simp +contextual; omega)) rfl ?_
    refine AOpsO.one tok [18] (by intro C; conv => lhs; simp) (by first | with_reducible exact True.intro | (exact hki; done) | omega | simp | (simp; omega) | (simp +contextual; omega)) rfl ?_
    refine AOpsO.one tok [4] (by intro C; conv => lhs; simp) (by first | with_reducible exact True.intro | (exact hki; done) | omega | simp | (simp; omega) | (simp +contextual; omega)) rfl ?_
    refine AOpsO.nil ?_
    exact AW.ret ⟨.inr rfl, _, _, by (conv => lhs; simp), trivial, by simp [hR]⟩
  · intro h13
    try simp at h13
    have hkd : ¬ a.kind ≠ b.kind := by simpa using h13
    refine AW.skip ?_
    refine AW.seq ?_
    refine AW.seqRegionO [] ?_
    refine AOpsO.one tok [2, 3, 19] (by intro C; conv => lhs; simp) (by first | with_reducible exact True.intro | omega | simp | (simp; omega) | (simp +contextual; omega)) rfl ?_
    refine AOpsO.one tok [2, 3, 20] (by intro C; conv => lhs; simp) (by first | with_reducible exact True.intro | omega | simp | (simp; omega) | (simp +contextual; omega)) rfl ?_
    refine AOpsO.nil ?_
    refine AW.block ?_
    refine AW.seqRegionO [] ?_
    refine AOpsO.one tok [2, 3, 20, 22] (by intro C; conv => lhs; simp) (by first | with_reducible exact True.intro | omega | simp | (simp; omega) | (simp +contextual; omega)) rfl ?_
    refine AOpsO.one tok [2, 3, 20, 21] (by intro C; conv => lhs; simp) (by first | with_reducible exact True.intro | omega | simp | (simp; omega) | (simp +contextual; omega)) rfl ?_
    refine AOpsO.nil ?_
    refine AW.cond (c := .tmp 21) (by conv => lhs; simp) trivial ?_ ?_
    · intro h21
      try simp at h21
      have hR : cmpF (f + 1) a b = cmpD a.num b.num := by simp only [cmpF]; rw [if_neg hkd, if_pos h21]
      have hnum := cmpD_ev (G := G) a.num b.num (dcMay_ok (may_num ha h21)).1 (dcMay_ok (may_num hb (by omega))).1
      refine AW.seqRegionO [.nilp, .int .i64 (cmpD a.num b.num)] ?_
      refine AOpsO.one tok [3, 23] (by intro C; conv => lhs; simp) (by first | with_reducible exact True.intro | ((simp at hnum ⊢; exact hnum); done) | omega | simp | (simp; omega) | (simp +contextual; omega)) rfl ?_
      refine AOpsO.one tok [3, 24] (by intro C; conv => lhs; simp) (by first | with_reducible exact True.intro | ((simp at hnum ⊢; exact hnum); done) | omega | simp | (simp; omega) | (simp +contextual; omega)) rfl ?_
      refine AOpsO.one tok [24, 25] (by intro C; conv => lhs; simp) (by first | with_reducible exact True.intro | ((simp at hnum ⊢; exact hnum); done) | omega | simp | (simp; omega) | (simp +contextual; omega)) rfl ?_
      refine AOpsO.one tok [24, 26] (by intro C; conv => lhs; simp) (by first | with_reducible exact True.intro | ((simp at hnum ⊢; exact hnum); done) | omega | simp | (simp; omega) | (simp +contextual; omega)) rfl ?_
      refine AOpsO.one tok [27] (by intro C; conv => lhs; simp) (by first | with_reducible exact True.intro | ((simp at hnum ⊢; exact hnum); done) | omega | simp | (simp; omega) | (simp +contextual; omega)) rfl ?_
      refine AOpsO.one tok [4] (by intro C; conv => lhs; simp) (by first | with_reducible exact True.intro | ((simp at hnum ⊢; exact hnum); done) | omega | simp | (simp; omega) | (simp +contextual; omega)) rfl ?_
      refine AOpsO.nil ?_
      exact AW.ret ⟨.inr rfl, _, _, by (conv => lhs; simp), trivial, by simp [hR]⟩
    · intro h21
      try simp at h21
      refine AW.seqRegionO [] ?_
      refine AOpsO.one tok [2, 3, 20, 29] (by intro C; conv => lhs; simp) (by first | with_reducible exact True.intro | omega | simp | (simp; omega) | (simp +contextual; omega)) rfl ?_
      refine AOpsO.one tok [2, 3, 20, 28] (by intro C; conv => lhs; simp) (by first | with_reducible exact True.intro | omega | simp | (simp; omega) | (simp +contextual; omega)) rfl ?_
      refine AOpsO.nil ?_
      refine AW.cond (c := .tmp 28) (by conv => lhs; simp) trivial ?_ ?_
      · intro h28
        try simp at h28
        have hR : cmpF (f + 1) a b = Lib.compareBytes a.text b.text := by simp only [cmpF]; rw [if_neg hkd, if_neg h21, if_pos h28]
        refine AW.seqRegionO [.nilp, .int .i64 (Lib.compareBytes a.text b.text)] ?_
        refine AOpsO.one tok [3, 30] (by intro C; conv => lhs; simp) (by first | with_reducible exact True.intro | (exact hst; done) | omega | simp | (simp; omega) | (simp +contextual; omega)) rfl ?_
        refine AOpsO.one tok [3, 31] (by intro C; conv => lhs; simp) (by first | with_reducible exact True.intro | (exact hst; done) | omega | simp | (simp; omega) | (simp +contextual; omega)) rfl ?_
        refine AOpsO.one tok [31, 32] (by intro C; conv => lhs; simp) (by first | with_reducible exact True.intro | (exact hst; done) | omega | simp | (simp; omega) | (simp +contextual; omega)) rfl ?_
        refine AOpsO.one tok [31, 33] (by intro C; conv => lhs; simp) (by first | with_reducible exact True.intro | (exact hst; done) | omega | simp | (simp; omega) | (simp +contextual; omega)) rfl ?_
        refine AOpsO.one tok [34] (by intro C; conv => lhs; simp) (by first | with_reducible exact True.intro | (exact hst; done) | omega | simp | (simp; omega) | (simp +contextual; omega)) rfl ?_
        refine AOpsO.one tok [4] (by intro C; conv => lhs; simp) (by first | with_reducible exact True.intro | (exact hst; done) | omega | simp | (simp; omega) | (simp +contextual; omega)) rfl ?_
        refine AOpsO.nil ?_
        exact AW.ret ⟨.inr rfl, _, _, by (conv => lhs; simp), trivial, by simp [hR]⟩
      · intro h28
        try simp at h28
        refine AW.seqRegionO [] ?_
        refine AOpsO.one tok [2, 3, 20, 36] (by intro C; conv => lhs; simp) (by first | with_reducible exact True.intro | omega | simp | (simp; omega) | (simp +contextual; omega)) rfl ?_
        refine AOpsO.one tok [2, 3, 20, 35] (by intro C; conv => lhs; simp) (by first | with_reducible exact True.intro | omega | simp | (simp; omega) | (simp +contextual; omega)) rfl ?_
        refine AOpsO.nil ?_
        refine AW.cond (c := .tmp 35) (by conv => lhs; simp) trivial ?_ ?_
        · intro h35
          try simp at h35
          have hR : cmpF (f + 1) a b = cmpL (cmpF f) a.kids b.kids := by simp only [cmpF]; rw [if_neg hkd, if_neg h21, if_neg h28, if_pos h35]
          have hcl := cmpVL_ev (G := G) a.kids b.kids 10 (cmpF f) ih
          refine AW.seqRegionO [.nilp, .int .i64 (cmpL (cmpF f) a.kids b.kids)] ?_
          refine AOpsO.one tok [3, 37] (by intro C; conv => lhs; simp) (by first | with_reducible exact True.intro | (exact hcl; done) | omega | simp | (simp; omega) | (simp +contextual; omega)) rfl ?_
          refine AOpsO.one tok [3, 38] (by intro C; conv => lhs; simp) (by first | with_reducible exact True.intro | (exact hcl; done) | omega | simp | (simp; omega) | (simp +contextual; omega)) rfl ?_
          refine AOpsO.one tok [38, 39] (by intro C; conv => lhs; simp) (by first | with_reducible exact True.intro | (exact hcl; done) | omega | simp | (simp; omega) | (simp +contextual; omega)) rfl ?_
          refine AOpsO.one tok [38, 40] (by intro C; conv => lhs; simp) (by first | with_reducible exact True.intro | (exact hcl; done) | omega | simp | (simp; omega) | (simp +contextual; omega)) rfl ?_
          refine AOpsO.one tok [41] (by intro C; conv => lhs; simp) (by first | with_reducible exact True.intro | (exact hcl; done) | omega | simp | (simp; omega) | (simp +contextual; omega)) rfl ?_
          refine AOpsO.one tok [4] (by intro C; conv => lhs; simp) (by first | with_reducible exact True.intro | (exact hcl; done) | omega | simp | (simp; omega) | (simp +contextual; omega)) rfl ?_
          refine AOpsO.nil ?_
          exact AW.ret ⟨.inr rfl, _, _, by (conv => lhs; simp), trivial, by simp [hR]⟩
        · intro h35
          try simp at h35
          refine AW.seqRegionO [] ?_
          refine AOpsO.one tok [2, 3, 20, 43] (by intro C; conv => lhs; simp) (by first | with_reducible exact True.intro | omega | simp | (simp; omega) | (simp +contextual; omega)) rfl ?_
          refine AOpsO.one tok [2, 3, 20, 42] (by intro C; conv => lhs; simp) (by first | with_reducible exact True.intro | omega | simp | (simp; omega) | (simp +contextual; omega)) rfl ?_
          refine AOpsO.nil ?_
          refine AW.cond (c := .tmp 42) (by conv => lhs; simp) trivial ?_ ?_
          · intro h42
            try simp at h42
            have hR : cmpF (f + 1) a b = cmpI a.code b.code := by simp only [cmpF]; rw [if_neg hkd, if_neg h21, if_neg h28, if_neg h35, if_pos h42]
            refine AW.seqRegionO [.nilp, .int .i64 (cmpI a.code b.code)] ?_
            refine AOpsO.one tok [3, 44] (by intro C; conv => lhs; simp) (by first | with_reducible exact True.intro | (exact hce; done) | omega | simp | (simp; omega) | (simp +contextual; omega)) rfl ?_
            refine AOpsO.one tok [3, 45] (by intro C; conv => lhs; simp) (by first | with_reducible exact True.intro | (exact hce; done) | omega | simp | (simp; omega) | (simp +contextual; omega)) rfl ?_
            refine AOpsO.one tok [45, 46] (by intro C; conv => lhs; simp) (by first | with_reducible exact True.intro | (exact hce; done) | omega | simp | (simp; omega) | (simp +contextual; omega)) rfl ?_
            refine AOpsO.one tok [45, 47] (by intro C; conv => lhs; simp) (by first | with_reducible exact True.intro | (exact hce; done) | omega | simp | (simp; omega) | (simp +contextual; omega)) rfl ?_
            refine AOpsO.one tok [48] (by intro C; conv => lhs; simp) (by first | with_reducible exact True.intro | (exact hce; done) | omega | simp | (simp; omega) | (simp +contextual; omega)) rfl ?_
            refine AOpsO.one tok [4] (by intro C; conv => lhs; simp) (by first | with_reducible exact True.intro | (exact hce; done) | omega | simp | (simp; omega) | (simp +contextual; omega)) rfl ?_
            refine AOpsO.nil ?_
            exact AW.ret ⟨.inr rfl, _, _, by (conv => lhs; simp), trivial, by simp [hR]⟩
          · intro h42
            try simp at h42
            refine AW.seqRegionO [] ?_
            refine AOpsO.one tok [2, 3, 50] (by intro C; conv => lhs; simp) (by first | with_reducible exact True.intro | omega | simp | (simp; omega) | (simp +contextual; omega)) rfl ?_
            refine AOpsO.one tok [2, 3, 49] (by intro C; conv => lhs; simp) (by first | with_reducible exact True.intro | omega | simp | (simp; omega) | (simp +contextual; omega)) rfl ?_
            refine AOpsO.nil ?_
            refine AW.cond (c := .tmp 49) (by conv => lhs; simp) trivial ?_ ?_
            · intro h49
              try simp at h49
              have hR : cmpF (f + 1) a b = (if cmpL cmpS (sortK a.keys) (sortK b.keys) ≠ 0 then cmpL cmpS (sortK a.keys) (sortK b.keys) else cmpL (cmpF f) (kidsS a) (kidsS b)) := by simp only [cmpF]; rw [if_neg hkd, if_neg h21, if_neg h28, if_neg h35, if_neg h42, if_pos h49]
              have hoa := may_obj ha h49
              have hob := may_obj hb (by omega)
              have hsa := sortedV_ev (G := G) a (by omega) (by omega)
              have hsb := sortedV_ev (G := G) b (by omega) (by omega)
              have hcs := cmpSL_ev (G := G) (sortK a.keys) (sortK b.keys)
              have hcl := cmpVL_ev (G := G) (kidsS a) (kidsS b) 10 (cmpF f) fun x hx y hy => ih x (kidsS_mem (by omega) hx) y (kidsS_mem (by omega) hy)
              have hor := or2_ev (G := G) (cmpL cmpS (sortK a.keys) (sortK b.keys)) (cmpL (cmpF f) (kidsS a) (kidsS b))
              rw [← hR] at hor
              refine AW.seqRegionO [.nilp, .tup [.sl 1 ((sortK a.keys).map PD.str), .sl 9 ((kidsS a).map Val.enc)]] ?_
              refine AOpsO.one tok [3, 52] (by intro C; conv => lhs; simp) (by first | with_reducible exact True.intro | ((simp at hsa ⊢; exact hsa); done) | omega | simp | (simp; omega) | (simp +contextual; omega)) rfl ?_
              refine AOpsO.one tok [3, 53] (by intro C; conv => lhs; simp) (by first | with_reducible exact True.intro | ((simp at hsa ⊢; exact hsa); done) | omega | simp | (simp; omega) | (simp +contextual; omega)) rfl ?_
              refine AOpsO.one tok [3, 51] (by intro C; conv => lhs; simp) (by first | with_reducible exact True.intro | ((simp at hsa ⊢; exact hsa); done) | omega | simp | (simp; omega) | (simp +contextual; omega)) rfl ?_
              refine AOpsO.one tok [3, 51, 54] (by intro C; conv => lhs; simp) (by first | with_reducible exact True.intro | ((simp at hsa ⊢; exact hsa); done) | omega | simp | (simp; omega) | (simp +contextual; omega)) rfl ?_
              refine AOpsO.one tok [3, 54, 55] (by intro C; conv => lhs; simp) (by first | with_reducible exact True.intro | ((simp at hsa ⊢; exact hsa); done) | omega | simp | (simp; omega) | (simp +contextual; omega)) rfl ?_
              refine AOpsO.one tok [3, 5, 55] (by intro C; conv => lhs; simp) (by first | with_reducible exact True.intro | ((simp at hsa ⊢; exact hsa); done) | omega | simp | (simp; omega) | (simp +contextual; omega)) rfl ?_
              refine AOpsO.one tok [3, 5, 6] (by intro C; conv => lhs; simp) (by first | with_reducible exact True.intro | ((simp at hsa ⊢; exact hsa); done) | omega | simp | (simp; omega) | (simp +contextual; omega)) rfl ?_
              refine AOpsO.nil ?_
              refine AW.seqRegionO [.nilp, .tup [.sl 1 ((sortK b.keys).map PD.str), .sl 9 ((kidsS b).map Val.enc)]] ?_
              refine AOpsO.one tok [5, 6, 57] (by intro C; conv => lhs; simp) (by first | with_reducible exact True.intro | ((simp at hsb ⊢; exact hsb); done) | omega | simp | (simp; omega) | (simp +contextual; omega)) rfl ?_
              refine AOpsO.one tok [5, 6, 58] (by intro C; conv => lhs; simp) (by first | with_reducible exact True.intro | ((simp at hsb ⊢; exact hsb); done) | omega | simp | (simp; omega) | (simp +contextual; omega)) rfl ?_
              refine AOpsO.one tok [5, 6, 56] (by intro C; conv => lhs; simp) (by first | with_reducible exact True.intro | ((simp at hsb ⊢; exact hsb); done) | omega | simp | (simp; omega) | (simp +contextual; omega)) rfl ?_
              refine AOpsO.one tok [5, 6, 56, 59] (by intro C; conv => lhs; simp) (by first | with_reducible exact True.intro | ((simp at hsb ⊢; exact hsb); done) | omega | simp | (simp; omega) | (simp +contextual; omega)) rfl ?_
              refine AOpsO.one tok [5, 6, 59, 60] (by intro C; conv => lhs; simp) (by first | with_reducible exact True.intro | ((simp at hsb ⊢; exact hsb); done) | omega | simp | (simp; omega) | (simp +contextual; omega)) rfl ?_
              refine AOpsO.one tok [5, 6, 7, 60] (by intro C; conv => lhs; simp) (by first | with_reducible exact True.intro | ((simp at hsb ⊢; exact hsb); done) | omega | simp | (simp; omega) | (simp +contextual; omega)) rfl ?_
              refine AOpsO.one tok [5, 6, 7, 8] (by intro C; conv => lhs; simp) (by first | with_reducible exact True.intro | ((simp at hsb ⊢; exact hsb); done) | omega | simp | (simp; omega) | (simp +contextual; omega)) rfl ?_
              refine AOpsO.nil ?_
              refine AW.seqRegionO [.nilp, .int .i64 (cmpL cmpS (sortK a.keys) (sortK b.keys)), .nilp, .int .i64 (cmpL (cmpF f) (kidsS a) (kidsS b)), .int .i64 (cmpL cmpS (sortK a.keys) (sortK b.keys)), .int .i64 (cmpL (cmpF f) (kidsS a) (kidsS b)), .nilp, .int .i64 (cmpF (f + 1) a b)] ?_
              refine AOpsO.one tok [6, 7, 8, 61] (by intro C; conv => lhs; simp) (by first | with_reducible exact True.intro | (first | exact hcs | exact hcl | exact hor | simp; done) | omega | simp | (simp; omega) | (simp +contextual; omega)) rfl ?_
              refine AOpsO.one tok [6, 8, 61, 62] (by intro C; conv => lhs; simp) (by first | with_reducible exact True.intro | (first | exact hcs | exact hcl | exact hor | simp; done) | omega | simp | (simp; omega) | (simp +contextual; omega)) rfl ?_
              refine AOpsO.one tok [6, 8, 63] (by intro C; conv => lhs; simp) (by first | with_reducible exact True.intro | (first | exact hcs | exact hcl | exact hor | simp; done) | omega | simp | (simp; omega) | (simp +contextual; omega)) rfl ?_
              refine AOpsO.one tok [8, 63, 64] (by intro C; conv => lhs; simp) (by first | with_reducible exact True.intro | (first | exact hcs | exact hcl | exact hor | simp; done) | omega | simp | (simp; omega) | (simp +contextual; omega)) rfl ?_
              refine AOpsO.one tok [63, 64, 65] (by intro C; conv => lhs; simp) (by first | with_reducible exact True.intro | (first | exact hcs | exact hcl | exact hor | simp; done) | omega | simp | (simp; omega) | (simp +contextual; omega)) rfl ?_
              refine AOpsO.one tok [63, 66] (by intro C; conv => lhs; simp) (by first | with_reducible exact True.intro | (first | exact hcs | exact hcl | exact hor | simp; done) | omega | simp | (simp; omega) | (simp +contextual; omega)) rfl ?_
              refine AOpsO.one tok [67] (by intro C; conv => lhs; simp) (by first | with_reducible exact True.intro | (first | exact hcs | exact hcl | exact hor | simp; done) | omega | simp | (simp; omega) | (simp +contextual; omega)) rfl ?_
              refine AOpsO.one tok [68] (by intro C; conv => lhs; simp) (by first | with_reducible exact True.intro | (first | exact hcs | exact hcl | exact hor | simp; done) | omega | simp | (simp; omega) | (simp +contextual; omega)) rfl ?_
              refine AOpsO.one tok [4] (by intro C; conv => lhs; simp) (by first | with_reducible exact True.intro | (first | exact hcs | exact hcl | exact hor | simp; done) | omega | simp | (simp; omega) | (simp +contextual; omega)) rfl ?_
              refine AOpsO.nil ?_
              exact AW.ret ⟨.inr rfl, _, _, by (conv => lhs; simp), trivial, by simp⟩
            · intro h49
              try simp at h49
              have hR : cmpF (f + 1) a b = 0 := by simp only [cmpF]; rw [if_neg hkd, if_neg h21, if_neg h28, if_neg h35, if_neg h42, if_neg h49]
              refine AW.skip ?_
              refine AW.seqRegionO [] ?_
              refine AOpsO.one tok [4] (by intro C; conv => lhs; simp) (by first | with_reducible exact True.intro | omega | simp | (simp; omega) | (simp +contextual; omega)) rfl ?_
              refine AOpsO.nil ?_
              exact AW.ret ⟨.inr rfl, _, _, by (conv => lhs; simp), trivial, by simp [hR]⟩
theorem cmpF_ev : ∀ (f : Nat) (a b : Val), mayT a = true → mayT b = true → Val.sz a ≤ f → AFn Tryd.prog G 10 [a.enc, b.enc] (.int .i64 (cmpF (f + 1) a b))
  | 0, a, b, ha, hb, h => cmp_step 0 a b ha hb fun x hx => by have := Val.sz_kid hx; omega
  | f + 1, a, b, ha, hb, h => cmp_step (f + 1) a b ha hb fun x hx y hy => cmpF_ev f x y (may_kid ha hx) (may_kid hb hy) (by have := Val.sz_kid hx; omega)
/-- The order of two values. -/
def cmpT (a b : Val) : Int := cmpF (Val.sz a + 1) a b
theorem cmpT_ev (a b : Val) (ha : mayT a = true) (hb : mayT b = true) : AFn Tryd.prog G 10 [a.enc, b.enc] (.int .i64 (cmpT a b)) := cmpF_ev _ a b ha hb (Nat.le_refl _)
end Go.Proofs.YtgoepemmcibdaaaDoor
namespace Go.Proofs.YtgoepemmcibdaaaDoor
open Sy Go
set_option linter.unusedSimpArgs false
set_option linter.unusedVariables false
mutual
/-- A value with all its nodes changed, from below. -/
def mapV (ch : Val → Val) : Val → Val
  | .mk k m n t ks vs c => ch (.mk k m n t ks (mapVL ch vs) c)
def mapVL (ch : Val → Val) : List Val → List Val
  | [] => []
  | v :: vs => mapV ch v :: mapVL ch vs
end
theorem mapVL_map (ch : Val → Val) : ∀ l, mapVL ch l = l.map (mapV ch)
  | [] => by simp [mapVL]
  | v :: vs => by simp [mapVL, mapVL_map ch vs]
theorem mapV_eq (ch : Val → Val) (v : Val) : mapV ch v = ch (.mk v.kind v.mask v.num v.text v.keys (v.kids.map (mapV ch)) v.code) := by
  cases v; simp only [mapV, mapVL_map, Val.kind_mk, Val.mask_mk, Val.num_mk, Val.text_mk, Val.keys_mk, Val.kids_mk, Val.code_mk]
theorem may_small {v : Val} (h : mayT v = true) : v.keys.length ≤ 200 ∧ v.kids.length ≤ 200 := by
  by_cases h7 : v.kind = 7
  · have := may_obj h h7; omega
  · rw [mayT_eq] at h
    simp only [Bool.and_eq_true, boundsT, partsT, namedT, decide_eq_true_eq] at h
    obtain ⟨⟨h1, ⟨⟨_, h2⟩, _⟩⟩, _⟩ := h
    rw [if_neg h7] at h2
    simp at h2
    rw [h2]; simp; omega
def bare1 (u : Val) : Val := .mk u.kind 0 u.num u.text u.keys u.kids u.code
def bareV (v : Val) : Val := mapV bare1 v
end Go.Proofs.YtgoepemmcibdaaaDoor
/-
  OUR OWN LAYER, 22: functions that hand back a row of their own, out of their walk; a row held against nil.
-/
namespace Go.Proofs.YtgoepemmcibdaaaDoor.Sy
open Go
section
variable {P : Program} {T : Tab} {G : Glob} {Q : Exit → St → Prop} {st st' : St}
theorem Rel.plain {M : FMap} {w : World} {args : List PD} {vs : Array Value} (μ : Mu) (hmem : ∀ b o v, M b o = some v → w.cell? ⟨b, o, none⟩ = some v) (hsz : vs.size = args.length) (hrd : ∀ (i : Nat) u d, vs[i]? = some u → args[i]? = some d → Rd M u d) :
    Rel ⟨w.heap.size, w, M, μ, lentBy μ []⟩ M μ ⟨args.map .p, [], [], 0⟩ vs w := by
  refine ⟨hmem, fun _ _ _ h => h, fun _ _ _ => rfl, ⟨by simpa using hsz, fun i u x hu hx => ?_⟩, (fun _ h => by cases h), (fun _ _ h => by cases h), List.nodup_nil, (fun _ _ _ h => by simp [keyIn] at h), (fun _ _ h => by simp [keyIn] at h), Nat.le_refl _, Kept.refl _ _⟩
  rw [List.getElem?_map] at hx
  obtain ⟨d, hd, rfl⟩ := Option.map_eq_some_iff.1 hx
  exact .p (hrd i u d hu hd)
theorem AR.of_AX {f : FuncId} {args : List PD} {k e sz : Nat} {es : List PD} (h : AX P G f (args.map .p) [] (.ms k) [] [(k, .row e sz es)]) : AR P G f args e sz es := by
  refine ⟨h.1, fun M w vs hg hmem hsz hrd => (h.2 M (fun _ => default) w vs hg (Rel.plain _ hmem hsz hrd)).mono ?_⟩
  rintro e' w' ⟨v, M', μ', rfl, r'⟩
  have hno : ∀ b, ¬ lentBy (fun _ => (default : Loc)) [] b := fun b ⟨i, hi, _⟩ => by simp [keyIn] at hi
  have hk : keyIn k [(k, Box.row e sz es)] = true := by simp [keyIn]
  have hv := r'.slots.2 0 v (.ms k) (by simp) (by simp)
  cases hv with
  | ms hval hone =>
  have hbx := r'.box k (.row e sz es) (List.mem_singleton.2 rfl)
  refine ⟨v, M', rfl, r'.mem, r'.ext, fun b o hb => r'.old b o fun hm => hm.elim (fun h => by simp at h; omega) (hno b), ⟨r'.below.os, r'.below.tape, r'.below.output, r'.below.size, fun j hj => r'.below.block j fun hm => hm.elim (fun h => by simp at h; omega) (hno j)⟩,
    μ' k, hval.symm, hone, ?_, fun b hb => ?_⟩
  · cases hbx with
    | row h0 hv h1 h2 h3 h4 h5 h6 h7 => exact .row h0 hv h1 h2 h3 h4 h5 h6 h7
    | rowN h0 hv => exact .rowN h0 hv
  · obtain ⟨h1, h2, h3⟩ := r'.own k b hk hb
    exact ⟨h1.elim (fun h => h) fun h => (hno b h).elim, h2, h3⟩
theorem eq_slice_nil (k : Nat) {t e : TypeId} (hd : P.underlying t = some (.slice e)) (a : Option Addr) (n c : Nat) (w : World) : (Op.equalIn (k + 1) t (.slice a n c) (.slice none 0 0)).run P w = .ok a.isNone w := by
  cases a <;> simp [Op.equalIn, run_underlying hd]
/-- What a slice held against nil tells: where it has elements it is not nil. -/
theorem AOpsO.nilEq {ops : Array Oper} {o : Oper} {rest : List Oper} {orc : List PD} (hT : TOK P T) (ks : List Nat) {t ty e sz : Nat} {x : Operand} {p : Prop} {es : List PD} (ho : o.op = .binOp .eql t x (.const (.slice none 0 0)) ty) (ht : tkOf T t = some (.sl e))
    (ha : st.arg G x = (p, .p (.sl sz es))) (hp : p) (hgd : o.guard = none) (k : ∀ b : Bool, (es ≠ [] → b = false) → AOpsO P G ops Q rest ((st.put o.dst (.p (.bool b))).keep ks) orc) : AOpsO P G ops Q (o :: rest) st orc := by
  intro c M μ tmps w hg r
  have h1 := (arg_sound hg r ha hp).p_inv
  have hd := hT.sl ht
  generalize hu : Act.eval ⟨tmps, []⟩ x = u at h1
  cases h1 with
  | @sl a n cc _ _ b o' hn hnc hcm hab h5 h6 h7 =>
  have he : (Op.equal t (.slice a n cc) (.slice none 0 0)).run P w = .ok a.isNone w := by
    exact eq_slice_nil 9999 hd a n cc w
  have e1 : (execOp (Act.eval ⟨tmps, []⟩) o).run P w = .ok (.value (.bool a.isNone)) w := by
    have hg : (eqGuard .eql t x (.const (.slice none 0 0)) (.slice a n cc) (.slice none 0 0)).run P w = .ok () w := by simp only [eqGuard]; rfl
    have hb2 : (binOp .eql t (.slice a n cc) (.slice none 0 0)).run P w = .ok (.bool a.isNone) w := by
      show (do pure (.bool (← Op.equal t (.slice a n cc) (.slice none 0 0))) : Sem Value).run P w = _
      simp only [Sem.run_bind, he, Result.andThen]; rfl
    simp [execOp, ho, hu, hg, hb2, show Act.eval ⟨tmps, []⟩ (.const (.slice none 0 0)) = .slice none 0 0 from rfl]
  have hb : es ≠ [] → a.isNone = false := fun he => by
    have : n ≠ 0 := by rw [hn]; exact fun h => he (List.eq_nil_of_length_eq_zero h)
    rw [hab this]; rfl
  refine wpList_plain hgd fun K hK => wp_of_ends (next := fun v w' => v = .bool a.isNone ∧ w' = w) (by rw [e1]; exact ⟨rfl, rfl⟩) ?_
  rintro u w' ⟨rfl, rfl⟩
  apply hK
  rw [Act.put_tmps]
  exact AOps.keep ks (k _ hb) c M μ _ w' hg (r.put (.p (.bool _)) o.dst)
theorem AOpsO.same {ops : Array Oper} {l : List Oper} {orc : List PD} (h : st = st') (k : AOpsO P G ops Q l st' orc) : AOpsO P G ops Q l st orc := h ▸ k
end
end Go.Proofs.YtgoepemmcibdaaaDoor.Sy
namespace Go.Proofs.YtgoepemmcibdaaaDoor
open Sy Go
set_option maxRecDepth 100000
set_option maxHeartbeats 4000000
set_option linter.unusedSimpArgs false
set_option linter.unusedVariables false
variable {G : Glob}

theorem cloneK_ax (ks : List (List UInt8)) (hn : ks.length ≤ 1000000) : AX Tryd.prog G 54 [.p (.sl 1 (ks.map PD.str))] [] (.ms 905) [] [(905, .row 9 1 (ks.map PD.str))] := by
  refine AX.introU tok 900 Tryd.func54 (by kernel_rfl) rfl rfl ?_
  simp only [Tryd.f54, enumA, List.map_cons, List.map_nil]
  refine AW.seqRegionO [] ?_
  refine AOpsO.one tok [0] (by intro C; conv => lhs; simp) (by first | with_reducible exact True.intro | omega | simp | (simp; omega) | (simp +contextual; omega)) rfl ?_
  refine AOpsO.nil ?_
  refine AW.seq ?_
  refine AW.seqRegionO [] ?_
  refine AOpsO.one tok [0, 3] (by intro C; conv => lhs; simp) (by first | with_reducible exact True.intro | omega | simp | (simp; omega) | (simp +contextual; omega)) rfl ?_
  refine AOpsO.nilEq tok [0, 4] rfl rfl (by conv => lhs; simp) trivial rfl ?_
  intro bn1 hbn1
  refine AOpsO.same (by conv => lhs; simp) ?_
  refine AOpsO.nil ?_
  refine AW.cond (c := .tmp 4) (by conv => lhs; simp) trivial ?_ ?_
  · intro h4
    try simp at h4
    have hks : ks = [] := by
      by_cases h : ks = []
      · exact h
      · rw [hbn1 (by simpa using h)] at h4; cases h4
    subst hks
    refine AW.seqRegionO [] ?_
    refine AOpsO.one tok [2] (by intro C; conv => lhs; simp) (by first | with_reducible exact True.intro | omega | simp | (simp; omega) | (simp +contextual; omega)) rfl ?_
    refine AOpsO.nil ?_
    refine AW.beginE 2 905 9 1 (by simp) (by simp) (by conv => lhs; simp) ?_
    exact AW.ret ⟨.inr rfl, _, _, by (conv => lhs; simp), trivial, by simp, by simp, by simp, by simp⟩
  · intro h4
    try simp at h4
    refine AW.skip ?_
    refine AW.seqRegionO [] ?_
    refine AOpsO.one tok [0, 5] (by intro C; conv => lhs; simp) (by first | with_reducible exact True.intro | omega | simp | (simp; omega) | (simp +contextual; omega)) rfl ?_
    refine AOpsO.one tok [5, 6] (by intro C; conv => lhs; simp) (by first | with_reducible exact True.intro | omega | simp | (simp; omega) | (simp +contextual; omega)) rfl ?_
    refine AOpsO.one tok [7] (by intro C; conv => lhs; simp) (by first | with_reducible exact True.intro | omega | simp | (simp; omega) | (simp +contextual; omega)) rfl ?_
    refine AOpsO.one tok [2] (by intro C; conv => lhs; simp) (by first | with_reducible exact True.intro | omega | simp | (simp; omega) | (simp +contextual; omega)) rfl ?_
    refine AOpsO.nil ?_
    exact AW.ret ⟨.inr rfl, _, _, by (conv => lhs; simp), trivial, by simp, by simp, by simp, by simp⟩
theorem cloneK_ar (ks : List (List UInt8)) (hn : ks.length ≤ 1000000) : AR Tryd.prog G 54 [.sl 1 (ks.map PD.str)] 9 1 (ks.map PD.str) := AR.of_AX (k := 905) (by simpa using cloneK_ax ks hn)
theorem cloneV_ax (vs : List Val) (hn : vs.length ≤ 1000000) : AX Tryd.prog G 55 [.p (.sl 9 (vs.map Val.enc))] [] (.ms 905) [] [(905, .row 33 9 (vs.map Val.enc))] := by
  refine AX.introU tok 900 Tryd.func55 (by kernel_rfl) rfl rfl ?_
  simp only [Tryd.f55, enumA, List.map_cons, List.map_nil]
  refine AW.seqRegionO [] ?_
  refine AOpsO.one tok [0] (by intro C; conv => lhs; simp) (by first | with_reducible exact True.intro | omega | simp | (simp; omega) | (simp +contextual; omega)) rfl ?_
  refine AOpsO.nil ?_
  refine AW.seq ?_
  refine AW.seqRegionO [] ?_
  refine AOpsO.one tok [0, 3] (by intro C; conv => lhs; simp) (by first | with_reducible exact True.intro | omega | simp | (simp; omega) | (simp +contextual; omega)) rfl ?_
  refine AOpsO.nilEq tok [0, 4] rfl rfl (by conv => lhs; simp) trivial rfl ?_
  intro bn1 hbn1
  refine AOpsO.same (by conv => lhs; simp) ?_
  refine AOpsO.nil ?_
  refine AW.cond (c := .tmp 4) (by conv => lhs; simp) trivial ?_ ?_
  · intro h4
    try simp at h4
    have hks : vs = [] := by
      by_cases h : vs = []
      · exact h
      · rw [hbn1 (by simpa using h)] at h4; cases h4
    subst hks
    refine AW.seqRegionO [] ?_
    refine AOpsO.one tok [2] (by intro C; conv => lhs; simp) (by first | with_reducible exact True.intro | omega | simp | (simp; omega) | (simp +contextual; omega)) rfl ?_
    refine AOpsO.nil ?_
    refine AW.beginE 2 905 33 9 (by simp) (by simp) (by conv => lhs; simp) ?_
    exact AW.ret ⟨.inr rfl, _, _, by (conv => lhs; simp), trivial, by simp, by simp, by simp, by simp⟩
  · intro h4
    try simp at h4
    refine AW.skip ?_
    refine AW.seqRegionO [] ?_
    refine AOpsO.one tok [0, 5] (by intro C; conv => lhs; simp) (by first | with_reducible exact True.intro | omega | simp | (simp; omega) | (simp +contextual; omega)) rfl ?_
    refine AOpsO.one tok [5, 6] (by intro C; conv => lhs; simp) (by first | with_reducible exact True.intro | omega | simp | (simp; omega) | (simp +contextual; omega)) rfl ?_
    refine AOpsO.one tok [7] (by intro C; conv => lhs; simp) (by first | with_reducible exact True.intro | omega | simp | (simp; omega) | (simp +contextual; omega)) rfl ?_
    refine AOpsO.one tok [2] (by intro C; conv => lhs; simp) (by first | with_reducible exact True.intro | omega | simp | (simp; omega) | (simp +contextual; omega)) rfl ?_
    refine AOpsO.nil ?_
    exact AW.ret ⟨.inr rfl, _, _, by (conv => lhs; simp), trivial, by simp, by simp, by simp, by simp⟩
theorem cloneV_ar (vs : List Val) (hn : vs.length ≤ 1000000) : AR Tryd.prog G 55 [.sl 9 (vs.map Val.enc)] 33 9 (vs.map Val.enc) := AR.of_AX (k := 905) (by simpa using cloneV_ax vs hn)
@[simp] theorem bare1_kind (u : Val) : (bare1 u).kind = u.kind := rfl
@[simp] theorem bare1_mask (u : Val) : (bare1 u).mask = 0 := rfl
@[simp] theorem bare1_num (u : Val) : (bare1 u).num = u.num := rfl
@[simp] theorem bare1_text (u : Val) : (bare1 u).text = u.text := rfl
@[simp] theorem bare1_keys (u : Val) : (bare1 u).keys = u.keys := rfl
@[simp] theorem bare1_kids (u : Val) : (bare1 u).kids = u.kids := rfl
@[simp] theorem bare1_code (u : Val) : (bare1 u).code = u.code := rfl
theorem bare1_ax (u : Val) : AX Tryd.prog G 35 [.ptr 2 0] [(2, .vars 33 u.cells)] (.tuple []) [2] [(2, .vars 33 (bare1 u).cells)] := by
  refine AX.introU tok 900 Tryd.func35 (by kernel_rfl) rfl rfl ?_
  simp only [Tryd.f35, enumA, List.map_cons, List.map_nil]
  refine AW.regionO [] ?_
  refine AOpsO.one tok [2] (by intro C; conv => lhs; simp) (by first | with_reducible exact True.intro | omega | simp | (simp; omega) | (simp +contextual; omega)) rfl ?_
  refine AOpsO.one tok [3] (by intro C; conv => lhs; simp) (by first | with_reducible exact True.intro | omega | simp | (simp; omega) | (simp +contextual; omega)) rfl ?_
  refine AOpsO.one tok [4] (by intro C; conv => lhs; simp) (by first | with_reducible exact True.intro | omega | simp | (simp; omega) | (simp +contextual; omega)) rfl ?_
  refine AOpsO.one tok [] (by intro C; conv => lhs; simp) (by first | with_reducible exact True.intro | omega | simp | (simp; omega) | (simp +contextual; omega)) rfl ?_
  refine AOpsO.nil ?_
  exact ⟨.inl rfl, _, _, by (conv => lhs; simp), trivial, by simp, by simp, by simp, by simp⟩
/-- The kids once 'k' of them are mapped. -/
def kidsAt (ch : Val → Val) (v : Val) (k : Nat) : List PD := (v.kids.take k).map (fun u => (mapV ch u).enc) ++ (v.kids.drop k).map Val.enc
theorem kidsAt_len (ch : Val → Val) (v : Val) (k : Nat) : (kidsAt ch v k).length = v.kids.length := by
  simp only [kidsAt, List.length_append, List.length_map, List.length_take, List.length_drop]; omega
@[simp] theorem kidsAt_zero (ch : Val → Val) (v : Val) : kidsAt ch v 0 = v.kids.map Val.enc := by simp only [kidsAt, List.take_zero, List.map_nil, List.nil_append, List.drop_zero]
theorem kidsAt_get {ch : Val → Val} {v x : Val} {k : Nat} (hx : v.kids[k]? = some x) : (kidsAt ch v k)[k]? = some x.enc := by
  have hk := (List.getElem?_eq_some_iff.1 hx).1
  have h0 : ((v.kids.take k).map (fun u => (mapV ch u).enc)).length = k := by simp only [List.length_map, List.length_take]; omega
  rw [kidsAt, List.getElem?_append_right (by omega), h0, Nat.sub_self, List.getElem?_map, List.getElem?_drop, Nat.add_zero, hx]; rfl
theorem kidsAt_set {ch : Val → Val} {v x : Val} {k : Nat} (hx : v.kids[k]? = some x) : (kidsAt ch v k).set k (mapV ch x).enc = kidsAt ch v (k + 1) := by
  have hk := (List.getElem?_eq_some_iff.1 hx).1
  have hxk := (List.getElem?_eq_some_iff.1 hx).2
  have h0 : ((v.kids.take k).map (fun u => (mapV ch u).enc)).length = k := by simp only [List.length_map, List.length_take]; omega
  rw [kidsAt, List.set_append_right _ _ (by omega), h0, Nat.sub_self, List.drop_eq_getElem_cons hk, kidsAt, List.take_succ_eq_append_getElem hk, hxk]
  simp only [List.map_cons, List.set_cons_zero, List.map_append, List.map_nil, List.append_assoc, List.cons_append, List.nil_append]
theorem mapped_step (g : FuncId) (ch : Val → Val) (v : Val) (hg : ∀ u : Val, AX Tryd.prog G g [.ptr 2 0] [(2, .vars 33 u.cells)] (.tuple []) [2] [(2, .vars 33 (ch u).cells)]) (hv : mayT v = true) (ih : ∀ k ∈ v.kids, AFn Tryd.prog G 34 [k.enc, .fn g] (mapV ch k).enc) : AFn Tryd.prog G 34 [v.enc, .fn g] ((mapV ch v).enc) := by
  refine AFn.introU tok Tryd.func34 (by kernel_rfl) rfl rfl ?_
  simp only [Tryd.f34, enumA, List.map_cons, List.map_nil]
  have hsm := may_small hv
  have hck := cloneK_ar (G := G) v.keys (by omega)
  have hcv := cloneV_ar (G := G) v.kids (by omega)
  refine AW.seqRegionO [] ?_
  refine AOpsO.one tok [1, 2] (by intro C; conv => lhs; simp) (by first | with_reducible exact True.intro | omega | simp | (simp; omega) | (simp +contextual; omega)) rfl ?_
  refine AOpsO.one tok [1, 2, 4] (by intro C; conv => lhs; simp) (by first | with_reducible exact True.intro | omega | simp | (simp; omega) | (simp +contextual; omega)) rfl ?_
  refine AOpsO.nil ?_
  refine AW.seqRunDrawK tok mixed [1, 2, 4] 8 [[2], [7], [8], [2], [10], [11], [2], [13, 9]] [.nilf, .sl 1 (v.keys.map PD.str), .clo 9 [], .nilf, .sl 9 (v.kids.map Val.enc), .clo 33 []] [] (by kernel_rfl) (by intro C; conv => lhs; simp) (by first | exact hck | exact hcv | ((repeat' (first | with_reducible apply And.intro | intro _)) <;> first | exact (hck) | exact (hcv) | assumption | omega | contradiction | simp_all)) (by simp [Sm.sum, Sm.foot, Sm.tch, Sm.refs]; kernel_rfl) (by intro C; conv => lhs; simp) (by first | with_reducible exact True.intro | omega | simp | (simp; omega) | (simp +contextual; omega)) ?_
  refine AW.seq ?_
  refine AW.seqRegionO [] ?_
  refine AOpsO.one tok [1, 2, 4, 15] (by intro C; conv => lhs; simp) (by first | with_reducible exact True.intro | omega | simp | (simp; omega) | (simp +contextual; omega)) rfl ?_
  refine AOpsO.one tok [1, 2, 4, 16] (by intro C; conv => lhs; simp) (by first | with_reducible exact True.intro | omega | simp | (simp; omega) | (simp +contextual; omega)) rfl ?_
  refine AOpsO.one tok [1, 2, 4, 16, 17] (by intro C; conv => lhs; simp) (by first | with_reducible exact True.intro | omega | simp | (simp; omega) | (simp +contextual; omega)) rfl ?_
  refine AOpsO.one tok [1, 2, 4, 16, 17, 18] (by intro C; conv => lhs; simp) (by first | with_reducible exact True.intro | omega | simp | (simp; omega) | (simp +contextual; omega)) rfl ?_
  refine AOpsO.nil ?_
  refine AW.block ?_
  refine AW.loop (α := Nat) (fun k => k ≤ v.kids.length) (fun k => ⟨upds 34 [(1, .p (.fn g)), (2, .ptr 2 0), (4, .ptr 4 0), (16, .ms 12), (17, .p (.int .i64 v.kids.length)), (18, .p (.int .i64 k))], [], [(2, .vars 33 [.p (.int .i64 v.kind), .p (.int .u64 v.mask), .p (.bool v.num.neg), .p (.str v.num.digits), .p (.int .i64 v.num.scale), .p (.str v.text), .ms 9, .ms 12, .p (.int .i64 v.code)]), (4, .vars 33 [.p (.int .i64 0), .p (.int .u64 0), .p (.bool false), .p (.str []), .p (.int .i64 0), .p (.str []), .nilsl, .nilsl, .p (.int .i64 0)]), (9, .row 9 1 (v.keys.map PD.str)), (12, .row 33 9 (kidsAt ch v k))], 0⟩) (fun k => v.kids.length - k) (0) (by simp) ⟨upds_le (by simp), rfl, by simp, by simp⟩ ?_
  rintro k hk
  refine AW.seqRegionO [] ?_
  refine AOpsO.one tok [1, 2, 4, 16, 17, 18, 19] (by intro C; conv => lhs; simp) (by first | with_reducible exact True.intro | omega | simp | (simp; omega) | (simp +contextual; omega)) rfl ?_
  refine AOpsO.nil ?_
  refine AW.seq ?_
  refine AW.cond (c := .tmp 19) (by conv => lhs; simp) trivial ?_ ?_
  · intro h19
    try simp at h19
    obtain ⟨x, hx⟩ : ∃ x, v.kids[k]? = some x := ⟨v.kids[k], by simp [h19]⟩
    have hx' := kidsAt_get (ch := ch) hx
    have hkl := kidsAt_len ch v k
    have hix := ih x (List.mem_of_getElem? hx)
    have hset := kidsAt_set (ch := ch) hx
    simp only [Val.enc_def] at hx' hix hset
    refine AW.skip ?_
    refine AW.seq ?_
    refine AW.block ?_
    refine AW.seqRegionO [x.enc] ?_
    refine AOpsO.one tok [1, 2, 4, 16, 17, 18, 20] (by intro C; conv => lhs; simp) (by first | with_reducible exact True.intro | (simpa using hx'; done) | omega | simp | (simp; omega) | (simp +contextual; omega)) rfl ?_
    refine AOpsO.one tok [1, 2, 4, 16, 17, 18, 20, 21] (by intro C; conv => lhs; simp) (by first | with_reducible exact True.intro | (simpa using hx'; done) | omega | simp | (simp; omega) | (simp +contextual; omega)) rfl ?_
    refine AOpsO.one tok [1, 2, 4, 16, 17, 18, 20, 22] (by intro C; conv => lhs; simp) (by first | with_reducible exact True.intro | (simpa using hx'; done) | omega | simp | (simp; omega) | (simp +contextual; omega)) rfl ?_
    refine AOpsO.one tok [1, 2, 4, 6, 16, 17, 18, 20, 22] (by intro C; conv => lhs; simp) (by first | with_reducible exact True.intro | (simpa using hx'; done) | omega | simp | (simp; omega) | (simp +contextual; omega)) rfl ?_
    refine AOpsO.one tok [1, 2, 4, 5, 6, 16, 17, 18, 22] (by intro C; conv => lhs; simp) (by first | with_reducible exact True.intro | (simpa using hx'; done) | omega | simp | (simp; omega) | (simp +contextual; omega)) rfl ?_
    refine AOpsO.one tok [1, 2, 4, 5, 6, 16, 17, 18] (by intro C; conv => lhs; simp) (by first | with_reducible exact True.intro | (simpa using hx'; done) | omega | simp | (simp; omega) | (simp +contextual; omega)) rfl ?_
    refine AOpsO.nil ?_
    refine AW.runDrawK tok mixed [1, 2, 4, 16, 17, 18] 6 [[2], [23], [5], [6], [1], [26, 27]] [.nilp, (mapV ch x).enc] [x.enc, (mapV ch x).enc] (by kernel_rfl) (by intro C; conv => lhs; simp) (by first | exact hix | ((repeat' (first | with_reducible apply And.intro | intro _)) <;> first | exact (hix) | exact (hx') | assumption | omega | contradiction | simp_all)) (by simp [Sm.sum, Sm.foot, Sm.tch, Sm.refs]; kernel_rfl) (by intro C; conv => lhs; simp) (by exact ⟨by omega, hx'⟩) ?_
    refine AW.regionO [] ?_
    refine AOpsO.one tok [1, 2, 4, 16, 17, 30] (by intro C; conv => lhs; simp) (by first | with_reducible exact True.intro | omega | simp | (simp; omega) | (simp +contextual; omega)) rfl ?_
    refine AOpsO.one tok [1, 2, 4, 16, 17, 18] (by intro C; conv => lhs; simp) (by first | with_reducible exact True.intro | omega | simp | (simp; omega) | (simp +contextual; omega)) rfl ?_
    refine AOpsO.nil ?_
    exact ⟨k + 1, (by omega), (by omega), upds_le (by simp [hset]), rfl, by simp [hset], by simp [hset]⟩
  · intro h19
    try simp at h19
    obtain rfl : k = v.kids.length := by omega
    have hfull : kidsAt ch v v.kids.length = (v.kids.map (mapV ch)).map Val.enc := by simp only [kidsAt, List.take_length, List.drop_length, List.map_nil, List.append_nil, List.map_map]; rfl
    rw [hfull]
    refine AW.exit ?_
    simp
    refine AW.seqRegionO [] ?_
    refine AOpsO.one tok [2, 4, 31] (by intro C; conv => lhs; simp) (by first | with_reducible exact True.intro | omega | simp | (simp; omega) | (simp +contextual; omega)) rfl ?_
    refine AOpsO.freeze 9 (by conv => lhs; simp) ?_
    refine AOpsO.freeze 12 (by conv => lhs; simp) ?_
    refine AOpsO.stepK [2, 4] (y_cx rfl (hg (.mk v.kind v.mask v.num v.text v.keys (v.kids.map (mapV ch)) v.code)) (by simp)) (by conv => lhs; simp) rfl ?_
    refine AOpsO.nil ?_
    refine AW.seqRegionO [] ?_
    refine AOpsO.one tok [4, 33] (by intro C; conv => lhs; simp) (by first | with_reducible exact True.intro | omega | simp | (simp; omega) | (simp +contextual; omega)) rfl ?_
    refine AOpsO.one tok [4] (by intro C; conv => lhs; simp) (by first | with_reducible exact True.intro | omega | simp | (simp; omega) | (simp +contextual; omega)) rfl ?_
    refine AOpsO.nil ?_
    exact AW.ret ⟨.inr rfl, _, _, by (conv => lhs; simp), trivial, by simp [mapV_eq ch v]⟩
theorem mapped_ev (g : FuncId) (ch : Val → Val) (hg : ∀ u : Val, AX Tryd.prog G g [.ptr 2 0] [(2, .vars 33 u.cells)] (.tuple []) [2] [(2, .vars 33 (ch u).cells)]) (v : Val) (hv : mayT v = true) : AFn Tryd.prog G 34 [v.enc, .fn g] (mapV ch v).enc :=
  Val.induct (p := fun v => mayT v = true → AFn Tryd.prog G 34 [v.enc, .fn g] (mapV ch v).enc) (fun v ih hv => mapped_step g ch v hg hv fun k hk => ih k hk (may_kid hv hk)) v hv
theorem bare_ev (v : Val) (hv : mayT v = true) : AFn Tryd.prog G 12 [v.enc] ((bareV v).enc) := by
  refine AFn.introU tok Tryd.func12 (by kernel_rfl) rfl rfl ?_
  simp only [Tryd.f12, enumA, List.map_cons, List.map_nil]
  have hm := mapped_ev (G := G) 35 bare1 bare1_ax v hv
  rw [show mapV bare1 v = bareV v from rfl] at hm
  simp only [Val.enc_def] at hm
  refine AW.seqRegionO [] ?_
  refine AOpsO.one tok [1] (by intro C; conv => lhs; simp) (by first | with_reducible exact True.intro | omega | simp | (simp; omega) | (simp +contextual; omega)) rfl ?_
  refine AOpsO.one tok [1, 2] (by intro C; conv => lhs; simp) (by first | with_reducible exact True.intro | omega | simp | (simp; omega) | (simp +contextual; omega)) rfl ?_
  refine AOpsO.nil ?_
  refine AW.seqRegionO [.nilp, (bareV v).enc] ?_
  refine AOpsO.one tok [2, 3] (by intro C; conv => lhs; simp) (by first | with_reducible exact True.intro | (exact hm; done) | omega | simp | (simp; omega) | (simp +contextual; omega)) rfl ?_
  refine AOpsO.one tok [2, 4] (by intro C; conv => lhs; simp) (by first | with_reducible exact True.intro | (exact hm; done) | omega | simp | (simp; omega) | (simp +contextual; omega)) rfl ?_
  refine AOpsO.one tok [2] (by intro C; conv => lhs; simp) (by first | with_reducible exact True.intro | (exact hm; done) | omega | simp | (simp; omega) | (simp +contextual; omega)) rfl ?_
  refine AOpsO.nil ?_
  exact AW.ret ⟨.inr rfl, _, _, by (conv => lhs; simp), trivial, by simp⟩
end Go.Proofs.YtgoepemmcibdaaaDoor
namespace Go.Proofs.YtgoepemmcibdaaaDoor
open Sy Go
set_option maxRecDepth 100000
set_option maxHeartbeats 4000000
set_option linter.unusedSimpArgs false
set_option linter.unusedVariables false
variable {G : Glob}

/-- Rows that are the same, place by place. -/
def eqL {α : Type} (p : α → α → Bool) : List α → List α → Bool
  | [], [] => true
  | x :: l, y :: m => p x y && eqL p l m
  | _, _ => false
theorem eqL_len {α : Type} {p : α → α → Bool} : ∀ {l m : List α}, eqL p l m = true → l.length = m.length
  | [], [], _ => rfl
  | x :: l, y :: m, h => by simp only [eqL, Bool.and_eq_true] at h; simp [eqL_len h.2]
  | [], _ :: _, h => by simp [eqL] at h
  | _ :: _, [], h => by simp [eqL] at h
theorem eqL_drop {α : Type} {p : α → α → Bool} {l m : List α} {k : Nat} {x y : α} (hx : l[k]? = some x) (hy : m[k]? = some y) : eqL p (l.drop k) (m.drop k) = (p x y && eqL p (l.drop (k + 1)) (m.drop (k + 1))) := by
  obtain ⟨h1, rfl⟩ := List.getElem?_eq_some_iff.1 hx
  obtain ⟨h2, rfl⟩ := List.getElem?_eq_some_iff.1 hy
  rw [List.drop_eq_getElem_cons h1, List.drop_eq_getElem_cons h2]; rfl
theorem eqL_end {α : Type} {p : α → α → Bool} {l m : List α} {k : Nat} (h1 : l.length ≤ k) (h2 : l.length = m.length) : eqL p (l.drop k) (m.drop k) = true := by
  rw [List.drop_eq_nil_of_le h1, List.drop_eq_nil_of_le (by omega)]; rfl
theorem eqL_iff {α : Type} {p : α → α → Bool} (hp : ∀ x y, p x y = true ↔ x = y) : ∀ {l m : List α}, eqL p l m = true ↔ l = m
  | [], [] => by simp [eqL]
  | x :: l, y :: m => by simp [eqL, hp, eqL_iff hp]
  | [], _ :: _ => by simp [eqL]
  | _ :: _, [] => by simp [eqL]
def eqS (a b : List UInt8) : Bool := decide (a = b)
theorem eqK_ev (l m : List (List UInt8)) : AFn Tryd.prog G 32 [.sl 1 (l.map PD.str), .sl 1 (m.map PD.str)] (.bool (eqL eqS l m)) := by
  refine AFn.introU tok Tryd.func32 (by kernel_rfl) rfl rfl ?_
  simp only [Tryd.f32, enumA, List.map_cons, List.map_nil]
  refine AW.seqRegionO [] ?_
  refine AOpsO.one tok [0, 1] (by intro C; conv => lhs; simp) (by first | with_reducible exact True.intro | omega | simp | (simp; omega) | (simp +contextual; omega)) rfl ?_
  refine AOpsO.nil ?_
  refine AW.seq ?_
  refine AW.seqRegionO [] ?_
  refine AOpsO.one tok [0, 1, 6] (by intro C; conv => lhs; simp) (by first | with_reducible exact True.intro | omega | simp | (simp; omega) | (simp +contextual; omega)) rfl ?_
  refine AOpsO.one tok [0, 1, 7] (by intro C; conv => lhs; simp) (by first | with_reducible exact True.intro | omega | simp | (simp; omega) | (simp +contextual; omega)) rfl ?_
  refine AOpsO.one tok [0, 1, 7, 8] (by intro C; conv => lhs; simp) (by first | with_reducible exact True.intro | omega | simp | (simp; omega) | (simp +contextual; omega)) rfl ?_
  refine AOpsO.one tok [0, 1, 7, 9] (by intro C; conv => lhs; simp) (by first | with_reducible exact True.intro | omega | simp | (simp; omega) | (simp +contextual; omega)) rfl ?_
  refine AOpsO.one tok [0, 1, 10] (by intro C; conv => lhs; simp) (by first | with_reducible exact True.intro | omega | simp | (simp; omega) | (simp +contextual; omega)) rfl ?_
  refine AOpsO.nil ?_
  refine AW.cond (c := .tmp 10) (by conv => lhs; simp) trivial ?_ ?_
  · intro h10
    try simp at h10
    have hR : eqL eqS l m = false := by
      rw [← Bool.not_eq_true]; intro h; have := eqL_len h; omega
    refine AW.seqRegionO [] ?_
    refine AOpsO.one tok [4] (by intro C; conv => lhs; simp) (by first | with_reducible exact True.intro | omega | simp | (simp; omega) | (simp +contextual; omega)) rfl ?_
    refine AOpsO.nil ?_
    exact AW.ret ⟨.inr rfl, _, _, by (conv => lhs; simp), trivial, by simp [hR]⟩
  · intro h10
    try simp at h10
    refine AW.skip ?_
    refine AW.seq ?_
    refine AW.seqRegionO [] ?_
    refine AOpsO.one tok [0, 1, 11] (by intro C; conv => lhs; simp) (by first | with_reducible exact True.intro | omega | simp | (simp; omega) | (simp +contextual; omega)) rfl ?_
    refine AOpsO.one tok [0, 1, 12] (by intro C; conv => lhs; simp) (by first | with_reducible exact True.intro | omega | simp | (simp; omega) | (simp +contextual; omega)) rfl ?_
    refine AOpsO.one tok [0, 1, 12, 13] (by intro C; conv => lhs; simp) (by first | with_reducible exact True.intro | omega | simp | (simp; omega) | (simp +contextual; omega)) rfl ?_
    refine AOpsO.nil ?_
    refine AW.block ?_
    refine AW.intFactU (i := 12) rfl (by decide) ?_; intro hlen; simp at hlen
    refine AW.loop (α := Nat) (fun k => k ≤ l.length ∧ eqL eqS l m = eqL eqS (l.drop k) (m.drop k)) (fun k => ⟨upds 26 [(0, .p (.sl 1 (l.map PD.str))), (1, .p (.sl 1 (m.map PD.str))), (12, .p (.int .i64 l.length)), (13, .p (.int .i64 k))], [], [], 0⟩) (fun k => l.length - k) (0) ⟨by omega, rfl⟩ ⟨upds_le (by simp), rfl, by simp, by simp⟩ ?_
    rintro k ⟨hk, hall⟩
    refine AW.seqRegionO [] ?_
    refine AOpsO.one tok [0, 1, 12, 13, 14] (by intro C; conv => lhs; simp) (by first | with_reducible exact True.intro | omega | simp | (simp; omega) | (simp +contextual; omega)) rfl ?_
    refine AOpsO.nil ?_
    refine AW.seq ?_
    refine AW.cond (c := .tmp 14) (by conv => lhs; simp) trivial ?_ ?_
    · intro h14
      try simp at h14
      obtain ⟨x, hx⟩ : ∃ x, l[k]? = some x := ⟨l[k], by simp [h14]⟩
      obtain ⟨y, hy⟩ : ∃ y, m[k]? = some y := ⟨m[k]'(by omega), by simp [show k < m.length by omega]⟩
      have hst := eqL_drop (p := eqS) hx hy
      refine AW.skip ?_
      refine AW.seq ?_
      refine AW.block ?_
      refine AW.seqRegionO [] ?_
      refine AOpsO.one tok [0, 1, 12, 13, 15] (by intro C; conv => lhs; simp) (by first | with_reducible exact True.intro | omega | simp | (simp; omega) | (simp +contextual; omega)) rfl ?_
      refine AOpsO.one tok [0, 1, 5, 12, 13] (by intro C; conv => lhs; simp) (by first | with_reducible exact True.intro | omega | simp | (simp; omega) | (simp +contextual; omega)) rfl ?_
      refine AOpsO.nil ?_
      refine AW.seqRunDrawK tok mixed [0, 1, 12, 13, 24] 9 [[0], [5], [16, 17], [18], [1], [5], [20, 21], [22], [19, 23]] [.str x, .str y] [] (by kernel_rfl) (by intro C; conv => lhs; simp) (by simp [hx, hy]) (by simp [Sm.sum, Sm.foot, Sm.tch, Sm.refs]; kernel_rfl) (by intro C; conv => lhs; simp) (by first | with_reducible exact True.intro | omega | simp | (simp; omega) | (simp +contextual; omega)) ?_
      refine AW.cond (c := .tmp 24) (by conv => lhs; simp) trivial ?_ ?_
      · intro h24
        try simp at h24
        have hR : eqL eqS l m = false := by rw [hall, hst]; simp [eqS, h24]
        refine AW.seqRegionO [] ?_
        refine AOpsO.one tok [4] (by intro C; conv => lhs; simp) (by first | with_reducible exact True.intro | omega | simp | (simp; omega) | (simp +contextual; omega)) rfl ?_
        refine AOpsO.nil ?_
        exact AW.ret ⟨.inr rfl, _, _, by (conv => lhs; simp), trivial, by simp [hR]⟩
      · intro h24
        try simp at h24
        have hnx : eqL eqS l m = eqL eqS (l.drop (k + 1)) (m.drop (k + 1)) := by rw [hall, hst]; simp [eqS, h24]
        refine AW.skip ?_
        refine AW.regionO [] ?_
        refine AOpsO.one tok [0, 1, 12, 25] (by intro C; conv => lhs; simp) (by first | with_reducible exact True.intro | omega | simp | (simp; omega) | (simp +contextual; omega)) rfl ?_
        refine AOpsO.one tok [0, 1, 12, 13] (by intro C; conv => lhs; simp) (by first | with_reducible exact True.intro | omega | simp | (simp; omega) | (simp +contextual; omega)) rfl ?_
        refine AOpsO.nil ?_
        exact ⟨k + 1, ⟨by omega, hnx⟩, by omega, upds_le (by simp), rfl, by simp, by simp⟩
    · intro h14
      try simp at h14
      have hR : eqL eqS l m = true := by rw [hall]; exact eqL_end (by omega) (by omega)
      refine AW.exit ?_
      simp
      refine AW.seqRegionO [] ?_
      refine AOpsO.one tok [4] (by intro C; conv => lhs; simp) (by first | with_reducible exact True.intro | omega | simp | (simp; omega) | (simp +contextual; omega)) rfl ?_
      refine AOpsO.nil ?_
      exact AW.ret ⟨.inr rfl, _, _, by (conv => lhs; simp), trivial, by simp [hR]⟩
theorem eqV_ev (l m : List Val) (g : FuncId) (p : Val → Val → Bool) (hg : ∀ x ∈ l, ∀ y ∈ m, AFn Tryd.prog G g [x.enc, y.enc] (.bool (p x y))) : AFn Tryd.prog G 33 [.sl 9 (l.map Val.enc), .sl 9 (m.map Val.enc), .fn g] (.bool (eqL p l m)) := by
  refine AFn.introU tok Tryd.func33 (by kernel_rfl) rfl rfl ?_
  simp only [Tryd.f33, enumA, List.map_cons, List.map_nil]
  refine AW.seqRegionO [] ?_
  refine AOpsO.one tok [0, 1, 2] (by intro C; conv => lhs; simp) (by first | with_reducible exact True.intro | omega | simp | (simp; omega) | (simp +contextual; omega)) rfl ?_
  refine AOpsO.nil ?_
  refine AW.seq ?_
  refine AW.seqRegionO [] ?_
  refine AOpsO.one tok [0, 1, 2, 10] (by intro C; conv => lhs; simp) (by first | with_reducible exact True.intro | omega | simp | (simp; omega) | (simp +contextual; omega)) rfl ?_
  refine AOpsO.one tok [0, 1, 2, 11] (by intro C; conv => lhs; simp) (by first | with_reducible exact True.intro | omega | simp | (simp; omega) | (simp +contextual; omega)) rfl ?_
  refine AOpsO.one tok [0, 1, 2, 11, 12] (by intro C; conv => lhs; simp) (by first | with_reducible exact True.intro | omega | simp | (simp; omega) | (simp +contextual; omega)) rfl ?_
  refine AOpsO.one tok [0, 1, 2, 11, 13] (by intro C; conv => lhs; simp) (by first | with_reducible exact True.intro | omega | simp | (simp; omega) | (simp +contextual; omega)) rfl ?_
  refine AOpsO.one tok [0, 1, 2, 14] (by intro C; conv => lhs; simp) (by first | with_reducible exact True.intro | omega | simp | (simp; omega) | (simp +contextual; omega)) rfl ?_
  refine AOpsO.nil ?_
  refine AW.cond (c := .tmp 14) (by conv => lhs; simp) trivial ?_ ?_
  · intro h14
    try simp at h14
    have hR : eqL p l m = false := by
      rw [← Bool.not_eq_true]; intro h; have := eqL_len h; omega
    refine AW.seqRegionO [] ?_
    refine AOpsO.one tok [6] (by intro C; conv => lhs; simp) (by first | with_reducible exact True.intro | omega | simp | (simp; omega) | (simp +contextual; omega)) rfl ?_
    refine AOpsO.nil ?_
    exact AW.ret ⟨.inr rfl, _, _, by (conv => lhs; simp), trivial, by simp [hR]⟩
  · intro h14
    try simp at h14
    refine AW.skip ?_
    refine AW.seq ?_
    refine AW.seqRegionO [] ?_
    refine AOpsO.one tok [1, 2, 15] (by intro C; conv => lhs; simp) (by first | with_reducible exact True.intro | omega | simp | (simp; omega) | (simp +contextual; omega)) rfl ?_
    refine AOpsO.one tok [1, 2, 15, 16] (by intro C; conv => lhs; simp) (by first | with_reducible exact True.intro | omega | simp | (simp; omega) | (simp +contextual; omega)) rfl ?_
    refine AOpsO.one tok [1, 2, 15, 16, 17] (by intro C; conv => lhs; simp) (by first | with_reducible exact True.intro | omega | simp | (simp; omega) | (simp +contextual; omega)) rfl ?_
    refine AOpsO.nil ?_
    refine AW.block ?_
    refine AW.intFactU (i := 16) rfl (by decide) ?_; intro hlen; simp at hlen
    refine AW.loop (α := Nat) (fun k => k ≤ l.length ∧ eqL p l m = eqL p (l.drop k) (m.drop k)) (fun k => ⟨upds 32 [(1, .p (.sl 9 (m.map Val.enc))), (2, .p (.fn g)), (15, .p (.sl 9 (l.map Val.enc))), (16, .p (.int .i64 l.length)), (17, .p (.int .i64 k))], [], [], 0⟩) (fun k => l.length - k) (0) ⟨by omega, rfl⟩ ⟨upds_le (by simp), rfl, by simp, by simp⟩ ?_
    rintro k ⟨hk, hall⟩
    refine AW.seqRegionO [] ?_
    refine AOpsO.one tok [1, 2, 15, 16, 17, 18] (by intro C; conv => lhs; simp) (by first | with_reducible exact True.intro | omega | simp | (simp; omega) | (simp +contextual; omega)) rfl ?_
    refine AOpsO.nil ?_
    refine AW.seq ?_
    refine AW.cond (c := .tmp 18) (by conv => lhs; simp) trivial ?_ ?_
    · intro h18
      try simp at h18
      obtain ⟨x, hx⟩ : ∃ x, l[k]? = some x := ⟨l[k], by simp [h18]⟩
      obtain ⟨y, hy⟩ : ∃ y, m[k]? = some y := ⟨m[k]'(by omega), by simp [show k < m.length by omega]⟩
      have hst := eqL_drop (p := p) hx hy
      have hgv := hg x (List.mem_of_getElem? hx) y (List.mem_of_getElem? hy)
      refine AW.skip ?_
      refine AW.seq ?_
      refine AW.block ?_
      refine AW.seqRegionO [x.enc] ?_
      refine AOpsO.one tok [1, 2, 15, 16, 17, 19] (by intro C; conv => lhs; simp) (by first | with_reducible exact True.intro | (simp [hx]; done) | omega | simp | (simp; omega) | (simp +contextual; omega)) rfl ?_
      refine AOpsO.one tok [1, 2, 15, 16, 17, 19, 20] (by intro C; conv => lhs; simp) (by first | with_reducible exact True.intro | (simp [hx]; done) | omega | simp | (simp; omega) | (simp +contextual; omega)) rfl ?_
      refine AOpsO.one tok [1, 2, 15, 16, 17, 19, 21] (by intro C; conv => lhs; simp) (by first | with_reducible exact True.intro | (simp [hx]; done) | omega | simp | (simp; omega) | (simp +contextual; omega)) rfl ?_
      refine AOpsO.one tok [1, 2, 8, 15, 16, 17, 19, 21] (by intro C; conv => lhs; simp) (by first | with_reducible exact True.intro | (simp [hx]; done) | omega | simp | (simp; omega) | (simp +contextual; omega)) rfl ?_
      refine AOpsO.one tok [1, 2, 7, 8, 15, 16, 17, 21] (by intro C; conv => lhs; simp) (by first | with_reducible exact True.intro | (simp [hx]; done) | omega | simp | (simp; omega) | (simp +contextual; omega)) rfl ?_
      refine AOpsO.one tok [1, 2, 7, 8, 15, 16, 17] (by intro C; conv => lhs; simp) (by first | with_reducible exact True.intro | (simp [hx]; done) | omega | simp | (simp; omega) | (simp +contextual; omega)) rfl ?_
      refine AOpsO.nil ?_
      refine AW.seqRegionO [y.enc] ?_
      refine AOpsO.one tok [1, 2, 7, 8, 15, 16, 17, 22] (by intro C; conv => lhs; simp) (by first | with_reducible exact True.intro | (simp [hy]; done) | omega | simp | (simp; omega) | (simp +contextual; omega)) rfl ?_
      refine AOpsO.one tok [1, 2, 8, 15, 16, 17, 22, 23] (by intro C; conv => lhs; simp) (by first | with_reducible exact True.intro | (simp [hy]; done) | omega | simp | (simp; omega) | (simp +contextual; omega)) rfl ?_
      refine AOpsO.one tok [1, 2, 8, 15, 16, 17, 24] (by intro C; conv => lhs; simp) (by first | with_reducible exact True.intro | (simp [hy]; done) | omega | simp | (simp; omega) | (simp +contextual; omega)) rfl ?_
      refine AOpsO.one tok [1, 2, 8, 15, 16, 17, 25] (by intro C; conv => lhs; simp) (by first | with_reducible exact True.intro | (simp [hy]; done) | omega | simp | (simp; omega) | (simp +contextual; omega)) rfl ?_
      refine AOpsO.one tok [1, 2, 8, 9, 15, 16, 17, 25] (by intro C; conv => lhs; simp) (by first | with_reducible exact True.intro | (simp [hy]; done) | omega | simp | (simp; omega) | (simp +contextual; omega)) rfl ?_
      refine AOpsO.one tok [1, 2, 8, 9, 15, 16, 17] (by intro C; conv => lhs; simp) (by first | with_reducible exact True.intro | (simp [hy]; done) | omega | simp | (simp; omega) | (simp +contextual; omega)) rfl ?_
      refine AOpsO.nil ?_
      refine AW.seqRegionO [.tup [x.enc, y.enc], .bool (p x y)] ?_
      refine AOpsO.one tok [1, 2, 8, 9, 15, 16, 17, 26] (by intro C; conv => lhs; simp) (by first | with_reducible exact True.intro | ((simp at hgv ⊢; exact hgv); done) | omega | simp | (simp; omega) | (simp +contextual; omega)) rfl ?_
      refine AOpsO.one tok [1, 2, 9, 15, 16, 17, 26, 27] (by intro C; conv => lhs; simp) (by first | with_reducible exact True.intro | ((simp at hgv ⊢; exact hgv); done) | omega | simp | (simp; omega) | (simp +contextual; omega)) rfl ?_
      refine AOpsO.one tok [1, 2, 15, 16, 17, 26, 27, 28] (by intro C; conv => lhs; simp) (by first | with_reducible exact True.intro | ((simp at hgv ⊢; exact hgv); done) | omega | simp | (simp; omega) | (simp +contextual; omega)) rfl ?_
      refine AOpsO.one tok [1, 2, 15, 16, 17, 29] (by intro C; conv => lhs; simp) (by first | with_reducible exact True.intro | ((simp at hgv ⊢; exact hgv); done) | omega | simp | (simp; omega) | (simp +contextual; omega)) rfl ?_
      refine AOpsO.one tok [1, 2, 15, 16, 17, 30] (by intro C; conv => lhs; simp) (by first | with_reducible exact True.intro | ((simp at hgv ⊢; exact hgv); done) | omega | simp | (simp; omega) | (simp +contextual; omega)) rfl ?_
      refine AOpsO.nil ?_
      refine AW.cond (c := .tmp 30) (by conv => lhs; simp) trivial ?_ ?_
      · intro h30
        try simp at h30
        have hR : eqL p l m = false := by rw [hall, hst]; simp [h30]
        refine AW.seqRegionO [] ?_
        refine AOpsO.one tok [6] (by intro C; conv => lhs; simp) (by first | with_reducible exact True.intro | omega | simp | (simp; omega) | (simp +contextual; omega)) rfl ?_
        refine AOpsO.nil ?_
        exact AW.ret ⟨.inr rfl, _, _, by (conv => lhs; simp), trivial, by simp [hR]⟩
      · intro h30
        try simp at h30
        have hnx : eqL p l m = eqL p (l.drop (k + 1)) (m.drop (k + 1)) := by rw [hall, hst]; simp [h30]
        refine AW.skip ?_
        refine AW.regionO [] ?_
        refine AOpsO.one tok [1, 2, 15, 16, 31] (by intro C; conv => lhs; simp) (by first | with_reducible exact True.intro | omega | simp | (simp; omega) | (simp +contextual; omega)) rfl ?_
        refine AOpsO.one tok [1, 2, 15, 16, 17] (by intro C; conv => lhs; simp) (by first | with_reducible exact True.intro | omega | simp | (simp; omega) | (simp +contextual; omega)) rfl ?_
        refine AOpsO.nil ?_
        exact ⟨k + 1, ⟨by omega, hnx⟩, by omega, upds_le (by simp), rfl, by simp, by simp⟩
    · intro h18
      try simp at h18
      have hR : eqL p l m = true := by rw [hall]; exact eqL_end (by omega) (by omega)
      refine AW.exit ?_
      simp
      refine AW.seqRegionO [] ?_
      refine AOpsO.one tok [6] (by intro C; conv => lhs; simp) (by first | with_reducible exact True.intro | omega | simp | (simp; omega) | (simp +contextual; omega)) rfl ?_
      refine AOpsO.nil ?_
      exact AW.ret ⟨.inr rfl, _, _, by (conv => lhs; simp), trivial, by simp [hR]⟩
/-- Are two values the same? -/
noncomputable def sameT (a b : Val) : Bool := @decide (a = b) (Classical.propDecidable _)
theorem sameT_iff (a b : Val) : sameT a b = true ↔ a = b := by unfold sameT; exact @decide_eq_true_iff _ (Classical.propDecidable _)
theorem sameT_eq (a b : Val) : sameT a b = (decide (a.kind = b.kind) && decide (a.mask = b.mask) && decide (a.num.neg = b.num.neg ∧ a.num.digits = b.num.digits ∧ a.num.scale = b.num.scale) && decide (a.text = b.text) && decide (a.code = b.code) && eqL eqS a.keys b.keys && eqL sameT a.kids b.kids) := by
  rw [Bool.eq_iff_iff, sameT_iff]
  simp only [Bool.and_eq_true, decide_eq_true_eq, eqL_iff sameT_iff, eqL_iff (p := eqS) (fun x y => by simp [eqS])]
  constructor
  · rintro rfl; simp
  · rintro ⟨⟨⟨⟨⟨⟨h1, h2⟩, h3⟩, h4⟩, h5⟩, h6⟩, h7⟩
    exact Val.ext h1 h2 (Dc.ext' h3.1 h3.2.1 h3.2.2) h4 h6 h7 h5
theorem same_step (a b : Val) (ih : ∀ x ∈ a.kids, ∀ y ∈ b.kids, AFn Tryd.prog G 11 [x.enc, y.enc] (.bool (sameT x y))) : AFn Tryd.prog G 11 [a.enc, b.enc] (.bool (sameT a b)) := by
  refine AFn.introU tok Tryd.func11 (by kernel_rfl) rfl rfl ?_
  simp only [Tryd.f11, enumA, List.map_cons, List.map_nil]
  have hk := eqK_ev (G := G) a.keys b.keys
  have hv := eqV_ev (G := G) a.kids b.kids 11 sameT ih
  rw [sameT_eq]
  refine AW.seqRegionO [] ?_
  refine AOpsO.one tok [1, 2] (by intro C; conv => lhs; simp) (by first | with_reducible exact True.intro | omega | simp | (simp; omega) | (simp +contextual; omega)) rfl ?_
  refine AOpsO.one tok [2, 3] (by intro C; conv => lhs; simp) (by first | with_reducible exact True.intro | omega | simp | (simp; omega) | (simp +contextual; omega)) rfl ?_
  refine AOpsO.one tok [2, 3] (by intro C; conv => lhs; simp) (by first | with_reducible exact True.intro | omega | simp | (simp; omega) | (simp +contextual; omega)) rfl ?_
  refine AOpsO.nil ?_
  refine AW.seqRegionO [] ?_
  refine AOpsO.one tok [2, 3, 6] (by intro C; conv => lhs; simp) (by first | with_reducible exact True.intro | omega | simp | (simp; omega) | (simp +contextual; omega)) rfl ?_
  refine AOpsO.one tok [2, 3, 7] (by intro C; conv => lhs; simp) (by first | with_reducible exact True.intro | omega | simp | (simp; omega) | (simp +contextual; omega)) rfl ?_
  refine AOpsO.one tok [2, 3, 7, 8] (by intro C; conv => lhs; simp) (by first | with_reducible exact True.intro | omega | simp | (simp; omega) | (simp +contextual; omega)) rfl ?_
  refine AOpsO.one tok [2, 3, 7, 9] (by intro C; conv => lhs; simp) (by first | with_reducible exact True.intro | omega | simp | (simp; omega) | (simp +contextual; omega)) rfl ?_
  refine AOpsO.one tok [2, 3, 10] (by intro C; conv => lhs; simp) (by first | with_reducible exact True.intro | omega | simp | (simp; omega) | (simp +contextual; omega)) rfl ?_
  refine AOpsO.one tok [2, 3, 11] (by intro C; conv => lhs; simp) (by first | with_reducible exact True.intro | omega | simp | (simp; omega) | (simp +contextual; omega)) rfl ?_
  refine AOpsO.oneIf tok [2, 3, 11, 12] 11 (by intro C; conv => lhs; simp) (by first | with_reducible exact True.intro | omega | simp | (simp; omega) | (simp +contextual; omega)) rfl rfl ?_
  refine AOpsO.oneIf tok [2, 3, 11, 13] 11 (by intro C; conv => lhs; simp) (by first | with_reducible exact True.intro | omega | simp | (simp; omega) | (simp +contextual; omega)) rfl rfl ?_
  refine AOpsO.oneIf tok [2, 3, 11, 13, 14] 11 (by intro C; conv => lhs; simp) (by first | with_reducible exact True.intro | omega | simp | (simp; omega) | (simp +contextual; omega)) rfl rfl ?_
  refine AOpsO.oneIf tok [2, 3, 11, 13, 15] 11 (by intro C; conv => lhs; simp) (by first | with_reducible exact True.intro | omega | simp | (simp; omega) | (simp +contextual; omega)) rfl rfl ?_
  refine AOpsO.oneIf tok [2, 3, 11, 16] 11 (by intro C; conv => lhs; simp) (by first | with_reducible exact True.intro | omega | simp | (simp; omega) | (simp +contextual; omega)) rfl rfl ?_
  refine AOpsO.one tok [2, 3, 17] (by intro C; conv => lhs; simp) (by first | with_reducible exact True.intro | omega | simp | (simp; omega) | (simp +contextual; omega)) rfl ?_
  refine AOpsO.one tok [2, 3, 18] (by intro C; conv => lhs; simp) (by first | with_reducible exact True.intro | omega | simp | (simp; omega) | (simp +contextual; omega)) rfl ?_
  refine AOpsO.oneIf tok [2, 3, 18, 19] 18 (by intro C; conv => lhs; simp) (by first | with_reducible exact True.intro | omega | simp | (simp; omega) | (simp +contextual; omega)) rfl rfl ?_
  refine AOpsO.oneIf tok [2, 3, 18, 20] 18 (by intro C; conv => lhs; simp) (by first | with_reducible exact True.intro | omega | simp | (simp; omega) | (simp +contextual; omega)) rfl rfl ?_
  refine AOpsO.oneIf tok [2, 3, 18, 20, 21] 18 (by intro C; conv => lhs; simp) (by first | with_reducible exact True.intro | omega | simp | (simp; omega) | (simp +contextual; omega)) rfl rfl ?_
  refine AOpsO.oneIf tok [2, 3, 18, 20, 22] 18 (by intro C; conv => lhs; simp) (by first | with_reducible exact True.intro | omega | simp | (simp; omega) | (simp +contextual; omega)) rfl rfl ?_
  refine AOpsO.oneIf tok [2, 3, 18, 23] 18 (by intro C; conv => lhs; simp) (by first | with_reducible exact True.intro | omega | simp | (simp; omega) | (simp +contextual; omega)) rfl rfl ?_
  refine AOpsO.one tok [2, 3, 24] (by intro C; conv => lhs; simp) (by first | with_reducible exact True.intro | omega | simp | (simp; omega) | (simp +contextual; omega)) rfl ?_
  refine AOpsO.one tok [2, 3, 25] (by intro C; conv => lhs; simp) (by first | with_reducible exact True.intro | omega | simp | (simp; omega) | (simp +contextual; omega)) rfl ?_
  refine AOpsO.oneIf tok [2, 3, 25, 26] 25 (by intro C; conv => lhs; simp) (by first | with_reducible exact True.intro | omega | simp | (simp; omega) | (simp +contextual; omega)) rfl rfl ?_
  refine AOpsO.oneIf tok [2, 3, 25, 27] 25 (by intro C; conv => lhs; simp) (by first | with_reducible exact True.intro | omega | simp | (simp; omega) | (simp +contextual; omega)) rfl rfl ?_
  refine AOpsO.oneIf tok [2, 3, 25, 27, 28] 25 (by intro C; conv => lhs; simp) (by first | with_reducible exact True.intro | omega | simp | (simp; omega) | (simp +contextual; omega)) rfl rfl ?_
  refine AOpsO.oneIf tok [2, 3, 25, 27, 29] 25 (by intro C; conv => lhs; simp) (by first | with_reducible exact True.intro | omega | simp | (simp; omega) | (simp +contextual; omega)) rfl rfl ?_
  refine AOpsO.oneIf tok [2, 3, 25, 30] 25 (by intro C; conv => lhs; simp) (by first | with_reducible exact True.intro | omega | simp | (simp; omega) | (simp +contextual; omega)) rfl rfl ?_
  refine AOpsO.one tok [2, 3, 31] (by intro C; conv => lhs; simp) (by first | with_reducible exact True.intro | omega | simp | (simp; omega) | (simp +contextual; omega)) rfl ?_
  refine AOpsO.one tok [2, 3, 32] (by intro C; conv => lhs; simp) (by first | with_reducible exact True.intro | omega | simp | (simp; omega) | (simp +contextual; omega)) rfl ?_
  refine AOpsO.oneIf tok [2, 3, 32, 33] 32 (by intro C; conv => lhs; simp) (by first | with_reducible exact True.intro | omega | simp | (simp; omega) | (simp +contextual; omega)) rfl rfl ?_
  refine AOpsO.oneIf tok [2, 3, 32, 34] 32 (by intro C; conv => lhs; simp) (by first | with_reducible exact True.intro | omega | simp | (simp; omega) | (simp +contextual; omega)) rfl rfl ?_
  refine AOpsO.oneIf tok [2, 3, 32, 34, 35] 32 (by intro C; conv => lhs; simp) (by first | with_reducible exact True.intro | omega | simp | (simp; omega) | (simp +contextual; omega)) rfl rfl ?_
  refine AOpsO.oneIf tok [2, 3, 32, 34, 36] 32 (by intro C; conv => lhs; simp) (by first | with_reducible exact True.intro | omega | simp | (simp; omega) | (simp +contextual; omega)) rfl rfl ?_
  refine AOpsO.oneIf tok [2, 3, 32, 37] 32 (by intro C; conv => lhs; simp) (by first | with_reducible exact True.intro | omega | simp | (simp; omega) | (simp +contextual; omega)) rfl rfl ?_
  refine AOpsO.one tok [2, 3, 38] (by intro C; conv => lhs; simp) (by first | with_reducible exact True.intro | omega | simp | (simp; omega) | (simp +contextual; omega)) rfl ?_
  refine AOpsO.one tok [2, 3, 5] (by intro C; conv => lhs; simp) (by first | with_reducible exact True.intro | omega | simp | (simp; omega) | (simp +contextual; omega)) rfl ?_
  refine AOpsO.nil ?_
  refine AW.seqRegionO [.nilp, .bool (eqL eqS a.keys b.keys), .nilp, .bool (eqL sameT a.kids b.kids)] ?_
  refine AOpsO.one tok [2, 3, 39] (by intro C; conv => lhs; simp) (by first | with_reducible exact True.intro | (((repeat' (first | with_reducible apply And.intro | intro _)) <;> first | exact (hk) | exact (hv) | assumption | omega | contradiction | simp_all); done) | omega | simp | (simp; omega) | (simp +contextual; omega)) rfl ?_
  refine AOpsO.one tok [2, 3, 40] (by intro C; conv => lhs; simp) (by first | with_reducible exact True.intro | (((repeat' (first | with_reducible apply And.intro | intro _)) <;> first | exact (hk) | exact (hv) | assumption | omega | contradiction | simp_all); done) | omega | simp | (simp; omega) | (simp +contextual; omega)) rfl ?_
  refine AOpsO.oneIf tok [2, 3, 40, 41] 40 (by intro C; conv => lhs; simp) (by first | with_reducible exact True.intro | (((repeat' (first | with_reducible apply And.intro | intro _)) <;> first | exact (hk) | exact (hv) | assumption | omega | contradiction | simp_all); done) | omega | simp | (simp; omega) | (simp +contextual; omega)) rfl rfl ?_
  refine AOpsO.oneIf tok [2, 3, 40, 42] 40 (by intro C; conv => lhs; simp) (by first | with_reducible exact True.intro | (((repeat' (first | with_reducible apply And.intro | intro _)) <;> first | exact (hk) | exact (hv) | assumption | omega | contradiction | simp_all); done) | omega | simp | (simp; omega) | (simp +contextual; omega)) rfl rfl ?_
  refine AOpsO.oneIf tok [2, 3, 40, 42, 43] 40 (by intro C; conv => lhs; simp) (by first | with_reducible exact True.intro | (((repeat' (first | with_reducible apply And.intro | intro _)) <;> first | exact (hk) | exact (hv) | assumption | omega | contradiction | simp_all); done) | omega | simp | (simp; omega) | (simp +contextual; omega)) rfl rfl ?_
  refine AOpsO.oneIf tok [2, 3, 40, 42, 44] 40 (by intro C; conv => lhs; simp) (by first | with_reducible exact True.intro | (((repeat' (first | with_reducible apply And.intro | intro _)) <;> first | exact (hk) | exact (hv) | assumption | omega | contradiction | simp_all); done) | omega | simp | (simp; omega) | (simp +contextual; omega)) rfl rfl ?_
  refine AOpsO.oneIf tok [2, 3, 40, 45] 40 (by intro C; conv => lhs; simp) (by first | with_reducible exact True.intro | (((repeat' (first | with_reducible apply And.intro | intro _)) <;> first | exact (hk) | exact (hv) | assumption | omega | contradiction | simp_all); done) | omega | simp | (simp; omega) | (simp +contextual; omega)) rfl rfl ?_
  refine AOpsO.one tok [2, 3, 46] (by intro C; conv => lhs; simp) (by first | with_reducible exact True.intro | (((repeat' (first | with_reducible apply And.intro | intro _)) <;> first | exact (hk) | exact (hv) | assumption | omega | contradiction | simp_all); done) | omega | simp | (simp; omega) | (simp +contextual; omega)) rfl ?_
  refine AOpsO.one tok [2, 3, 47] (by intro C; conv => lhs; simp) (by first | with_reducible exact True.intro | (((repeat' (first | with_reducible apply And.intro | intro _)) <;> first | exact (hk) | exact (hv) | assumption | omega | contradiction | simp_all); done) | omega | simp | (simp; omega) | (simp +contextual; omega)) rfl ?_
  refine AOpsO.oneIf tok [3, 47, 48] 47 (by intro C; conv => lhs; simp) (by first | with_reducible exact True.intro | (((repeat' (first | with_reducible apply And.intro | intro _)) <;> first | exact (hk) | exact (hv) | assumption | omega | contradiction | simp_all); done) | omega | simp | (simp; omega) | (simp +contextual; omega)) rfl rfl ?_
  refine AOpsO.oneIf tok [3, 47, 49] 47 (by intro C; conv => lhs; simp) (by first | with_reducible exact True.intro | (((repeat' (first | with_reducible apply And.intro | intro _)) <;> first | exact (hk) | exact (hv) | assumption | omega | contradiction | simp_all); done) | omega | simp | (simp; omega) | (simp +contextual; omega)) rfl rfl ?_
  refine AOpsO.oneIf tok [47, 49, 50] 47 (by intro C; conv => lhs; simp) (by first | with_reducible exact True.intro | (((repeat' (first | with_reducible apply And.intro | intro _)) <;> first | exact (hk) | exact (hv) | assumption | omega | contradiction | simp_all); done) | omega | simp | (simp; omega) | (simp +contextual; omega)) rfl rfl ?_
  refine AOpsO.oneIf tok [47, 49, 51] 47 (by intro C; conv => lhs; simp) (by first | with_reducible exact True.intro | (((repeat' (first | with_reducible apply And.intro | intro _)) <;> first | exact (hk) | exact (hv) | assumption | omega | contradiction | simp_all); done) | omega | simp | (simp; omega) | (simp +contextual; omega)) rfl rfl ?_
  refine AOpsO.oneIf tok [47, 52] 47 (by intro C; conv => lhs; simp) (by first | with_reducible exact True.intro | (((repeat' (first | with_reducible apply And.intro | intro _)) <;> first | exact (hk) | exact (hv) | assumption | omega | contradiction | simp_all); done) | omega | simp | (simp; omega) | (simp +contextual; omega)) rfl rfl ?_
  refine AOpsO.one tok [53] (by intro C; conv => lhs; simp) (by first | with_reducible exact True.intro | (((repeat' (first | with_reducible apply And.intro | intro _)) <;> first | exact (hk) | exact (hv) | assumption | omega | contradiction | simp_all); done) | omega | simp | (simp; omega) | (simp +contextual; omega)) rfl ?_
  refine AOpsO.one tok [4] (by intro C; conv => lhs; simp) (by first | with_reducible exact True.intro | (((repeat' (first | with_reducible apply And.intro | intro _)) <;> first | exact (hk) | exact (hv) | assumption | omega | contradiction | simp_all); done) | omega | simp | (simp; omega) | (simp +contextual; omega)) rfl ?_
  refine AOpsO.nil ?_
  exact AW.ret ⟨.inr rfl, _, _, by (conv => lhs; simp), trivial, by simp [Bool.and_assoc]⟩
theorem sameT_ev (a b : Val) : AFn Tryd.prog G 11 [a.enc, b.enc] (.bool (sameT a b)) :=
  Val.induct (p := fun a => ∀ b, AFn Tryd.prog G 11 [a.enc, b.enc] (.bool (sameT a b))) (fun a ih b => same_step a b fun x hx y _ => ih x hx y) a b
end Go.Proofs.YtgoepemmcibdaaaDoor
namespace Go.Proofs.YtgoepemmcibdaaaDoor
open Sy Go
set_option maxRecDepth 100000
set_option maxHeartbeats 4000000
set_option linter.unusedSimpArgs false
set_option linter.unusedVariables false
variable {G : Glob}

structure Item where
  kind : Int
  many : Int
  mask : Int
  num : List UInt8
  text : List UInt8
  keys : List (List UInt8)
@[simp] def Item.enc (x : Item) : PD := .agg [.int .i64 x.kind, .int .i64 x.many, .int .u64 x.mask, .str x.num, .str x.text, .sl 1 (x.keys.map PD.str)]
def low3 (a : Int) : Nat := (a % 2 ^ 64).toNat &&& 7
theorem low3_lt (a : Int) : low3 a < 8 := Nat.and_lt_two_pow _ (n := 3) (by decide)
theorem low3_wrap (a : Int) : IntKind.i64.wrap (((a % 2 ^ IntKind.i64.bits).toNat &&& 7 % 2 ^ IntKind.i64.bits : Nat) : Int) = (low3 a : Int) := by
  have h := low3_lt a
  have e : ((a % 2 ^ IntKind.i64.bits).toNat &&& 7 % 2 ^ IntKind.i64.bits : Nat) = low3 a := rfl
  rw [e]
  simp [IntKind.wrap, IntKind.bits, IntKind.signed]; omega
def numM (s : List UInt8) : Dc := if (ParseM (shortM s)).2 = 0 then (ParseM (shortM s)).1 else ⟨false, [55], 0⟩
def kidsN (alone : List Val) (x : Item) : Nat := min (low3 x.many) alone.length
def itemKids (alone : List Val) (x : Item) : List Val := if low3 x.kind = 5 ∨ low3 x.kind = 6 then alone.drop (alone.length - kidsN alone x) else []
def itemRest (alone : List Val) (x : Item) : List Val := if low3 x.kind = 5 ∨ low3 x.kind = 6 then alone.take (alone.length - kidsN alone x) else alone
def itemV (alone : List Val) (x : Item) : Val :=
  .mk (low3 x.kind + 1) x.mask (if low3 x.kind = 3 then numM x.num else dc0) (if low3 x.kind = 4 then wordM x.text else [])
    (if low3 x.kind = 6 then namedM x.keys (itemKids alone x).length else []) (itemKids alone x) (if low3 x.kind = 7 then 40 else 0)
def itemM (alone : List Val) (x : Item) : List Val := itemRest alone x ++ [itemV alone x]
def aloneM (l : List Item) : List Val := (l.take 80).foldl itemM []
def builtM (l : List Item) : Val := (aloneM l).getLastD nullV
def aloneK (l : List Item) (k : Nat) : List Val := (l.take k).foldl itemM []
theorem aloneK_succ {l : List Item} {k : Nat} {x : Item} (h : l[k]? = some x) : aloneK l (k + 1) = itemM (aloneK l k) x := by
  unfold aloneK; rw [List.take_add_one, h]; simp
theorem itemM_len (a : List Val) (x : Item) : (itemM a x).length ≤ a.length + 1 := by
  unfold itemM itemRest; split <;> simp <;> omega
theorem aloneK_len (l : List Item) : ∀ k, (aloneK l k).length ≤ k
  | 0 => by simp [aloneK]
  | k + 1 => by
    cases h : l[k]? with
    | none =>
      have h1 : aloneK l (k + 1) = aloneK l k := by unfold aloneK; rw [List.take_add_one, h]; simp
      have := aloneK_len l k
      rw [h1]; omega
    | some x =>
      rw [aloneK_succ h]
      have := itemM_len (aloneK l k) x
      have := aloneK_len l k
      omega
theorem Built_ev (l : List Item) (hl : ∀ x ∈ l, x.keys.length ≤ 140737488351232) : AFn Tryd.prog G 6 [.sl 6 (l.map Item.enc)] ((builtM l).enc) := by
  refine AFn.introU tok Tryd.func6 (by kernel_rfl) rfl rfl ?_
  simp only [Tryd.f6, enumA, List.map_cons, List.map_nil]
  refine AW.seqRegionO [] ?_
  refine AOpsO.one tok [0, 2] (by intro C; conv => lhs; simp) (by first | with_reducible exact True.intro | omega | simp | (simp; omega) | (simp +contextual; omega)) rfl ?_
  refine AOpsO.nil ?_
  refine AW.seqRegionO [] ?_
  refine AOpsO.one tok [0, 2, 11] (by intro C; conv => lhs; simp) (by first | with_reducible exact True.intro | omega | simp | (simp; omega) | (simp +contextual; omega)) rfl ?_
  refine AOpsO.one tok [0, 2, 3] (by intro C; conv => lhs; simp) (by first | with_reducible exact True.intro | omega | simp | (simp; omega) | (simp +contextual; omega)) rfl ?_
  refine AOpsO.nil ?_
  refine AW.seq ?_
  refine AW.seqRegionO [] ?_
  refine AOpsO.one tok [0, 2, 3, 4] (by intro C; conv => lhs; simp) (by first | with_reducible exact True.intro | omega | simp | (simp; omega) | (simp +contextual; omega)) rfl ?_
  refine AOpsO.nil ?_
  refine AW.block ?_
  refine AW.loop (α := Nat) (fun k => k ≤ l.length ∧ k ≤ 80) (fun k => ⟨upds 121 [(0, .p (.sl 6 (l.map Item.enc))), (2, .ptr 2 0), (3, .ms 11), (4, .p (.int .i64 k))], [], [(11, .row 33 9 ((aloneK l k).map Val.enc)), (2, .vars 33 [.p (.int .i64 0), .p (.int .u64 0), .p (.bool false), .p (.str []), .p (.int .i64 0), .p (.str []), .nilsl, .nilsl, .p (.int .i64 0)])], 0⟩) (fun k => l.length - k) (0) ⟨by omega, by omega⟩ ⟨upds_le (by simp), rfl, by simp [aloneK], by simp⟩ ?_
  rintro k ⟨hk, hk8⟩
  have hal := aloneK_len l k
  generalize haa : aloneK l k = alone at *
  refine AW.seq ?_
  refine AW.seqRegionO [] ?_
  refine AOpsO.one tok [0, 2, 3, 4, 12] (by intro C; conv => lhs; simp) (by first | with_reducible exact True.intro | omega | simp | (simp; omega) | (simp +contextual; omega)) rfl ?_
  refine AOpsO.one tok [0, 2, 3, 4, 12, 13] (by intro C; conv => lhs; simp) (by first | with_reducible exact True.intro | omega | simp | (simp; omega) | (simp +contextual; omega)) rfl ?_
  refine AOpsO.one tok [0, 2, 3, 4, 12, 14] (by intro C; conv => lhs; simp) (by first | with_reducible exact True.intro | omega | simp | (simp; omega) | (simp +contextual; omega)) rfl ?_
  refine AOpsO.one tok [0, 2, 3, 4, 15] (by intro C; conv => lhs; simp) (by first | with_reducible exact True.intro | omega | simp | (simp; omega) | (simp +contextual; omega)) rfl ?_
  refine AOpsO.one tok [0, 2, 3, 4, 16] (by intro C; conv => lhs; simp) (by first | with_reducible exact True.intro | omega | simp | (simp; omega) | (simp +contextual; omega)) rfl ?_
  refine AOpsO.oneIf tok [0, 2, 3, 4, 16, 17] 16 (by intro C; conv => lhs; simp) (by first | with_reducible exact True.intro | omega | simp | (simp; omega) | (simp +contextual; omega)) rfl rfl ?_
  refine AOpsO.oneIf tok [0, 2, 3, 4, 16, 18] 16 (by intro C; conv => lhs; simp) (by first | with_reducible exact True.intro | omega | simp | (simp; omega) | (simp +contextual; omega)) rfl rfl ?_
  refine AOpsO.one tok [0, 2, 3, 4, 19] (by intro C; conv => lhs; simp) (by first | with_reducible exact True.intro | omega | simp | (simp; omega) | (simp +contextual; omega)) rfl ?_
  refine AOpsO.nil ?_
  refine AW.cond (c := .tmp 19) (by conv => lhs; simp) trivial ?_ ?_
  · intro h19
    try simp at h19
    obtain ⟨x, hx⟩ : ∃ x, l[k]? = some x := ⟨l[k], by simp [h19.1]⟩
    have hsh := short_ev (G := G) x.num
    have hpa := Parse_ev (G := G) (shortM x.num) (by have := shortM_len x.num; omega)
    have hwo := word_ev (G := G) x.text
    have h3k := low3_lt x.kind
    have hxl := hl x (List.mem_of_getElem? hx)
    refine AW.skip ?_
    refine AW.seq ?_
    refine AW.block ?_
    refine AW.seqRegionO [x.enc] ?_
    refine AOpsO.one tok [0, 2, 3, 4, 22] (by intro C; conv => lhs; simp [low3_wrap]) (by first | with_reducible exact True.intro | (simp [hx]; done) | omega | simp | (simp; omega) | (simp +contextual; omega)) rfl ?_
    refine AOpsO.one tok [0, 2, 3, 4, 22, 23] (by intro C; conv => lhs; simp [low3_wrap]) (by first | with_reducible exact True.intro | (simp [hx]; done) | omega | simp | (simp; omega) | (simp +contextual; omega)) rfl ?_
    refine AOpsO.one tok [0, 2, 3, 4, 24] (by intro C; conv => lhs; simp [low3_wrap]) (by first | with_reducible exact True.intro | (simp [hx]; done) | omega | simp | (simp; omega) | (simp +contextual; omega)) rfl ?_
    refine AOpsO.one tok [0, 2, 3, 4, 25] (by intro C; conv => lhs; simp [low3_wrap]) (by first | with_reducible exact True.intro | (simp [hx]; done) | omega | simp | (simp; omega) | (simp +contextual; omega)) rfl ?_
    refine AOpsO.one tok [0, 2, 3, 4, 26] (by intro C; conv => lhs; simp [low3_wrap]) (by first | with_reducible exact True.intro | (simp [hx]; done) | omega | simp | (simp; omega) | (simp +contextual; omega)) rfl ?_
    refine AOpsO.one tok [0, 2, 3, 4, 27] (by intro C; conv => lhs; simp [low3_wrap]) (by first | with_reducible exact True.intro | (simp [hx]; done) | omega | simp | (simp; omega) | (simp +contextual; omega)) rfl ?_
    refine AOpsO.one tok [0, 2, 3, 4, 5] (by intro C; conv => lhs; simp [low3_wrap]) (by first | with_reducible exact True.intro | (simp [hx]; done) | omega | simp | (simp; omega) | (simp +contextual; omega)) rfl ?_
    refine AOpsO.nil ?_
    refine AW.seqRegionO [x.enc] ?_
    refine AOpsO.one tok [0, 2, 3, 4, 28] (by intro C; conv => lhs; simp) (by first | with_reducible exact True.intro | (simp [hx]; done) | omega | simp | (simp; omega) | (simp +contextual; omega)) rfl ?_
    refine AOpsO.one tok [0, 2, 3, 4, 29] (by intro C; conv => lhs; simp) (by first | with_reducible exact True.intro | (simp [hx]; done) | omega | simp | (simp; omega) | (simp +contextual; omega)) rfl ?_
    refine AOpsO.one tok [0, 2, 3, 4, 29, 30] (by intro C; conv => lhs; simp) (by first | with_reducible exact True.intro | (simp [hx]; done) | omega | simp | (simp; omega) | (simp +contextual; omega)) rfl ?_
    refine AOpsO.one tok [0, 2, 3, 4, 29, 30, 31] (by intro C; conv => lhs; simp) (by first | with_reducible exact True.intro | (simp [hx]; done) | omega | simp | (simp; omega) | (simp +contextual; omega)) rfl ?_
    refine AOpsO.one tok [0, 2, 3, 4, 29, 32] (by intro C; conv => lhs; simp) (by first | with_reducible exact True.intro | (simp [hx]; done) | omega | simp | (simp; omega) | (simp +contextual; omega)) rfl ?_
    refine AOpsO.one tok [0, 2, 3, 4, 29, 33] (by intro C; conv => lhs; simp) (by first | with_reducible exact True.intro | (simp [hx]; done) | omega | simp | (simp; omega) | (simp +contextual; omega)) rfl ?_
    refine AOpsO.one tok [0, 2, 3, 4, 29, 34] (by intro C; conv => lhs; simp) (by first | with_reducible exact True.intro | (simp [hx]; done) | omega | simp | (simp; omega) | (simp +contextual; omega)) rfl ?_
    refine AOpsO.one tok [0, 2, 3, 4, 35] (by intro C; conv => lhs; simp) (by first | with_reducible exact True.intro | (simp [hx]; done) | omega | simp | (simp; omega) | (simp +contextual; omega)) rfl ?_
    refine AOpsO.one tok [0, 2, 3, 4, 6, 35] (by intro C; conv => lhs; simp) (by first | with_reducible exact True.intro | (simp [hx]; done) | omega | simp | (simp; omega) | (simp +contextual; omega)) rfl ?_
    refine AOpsO.one tok [0, 2, 3, 4, 6] (by intro C; conv => lhs; simp) (by first | with_reducible exact True.intro | (simp [hx]; done) | omega | simp | (simp; omega) | (simp +contextual; omega)) rfl ?_
    refine AOpsO.nil ?_
    refine AW.join (α := Unit) (fun _ => True) (fun a => ⟨upds 121 [(0, .p (.sl 6 (l.map Item.enc))), (2, .ptr 2 0), (3, .ms 11), (4, .p (.int .i64 k)), (6, .ptr 6 0)], [], [(11, .row 33 9 ((itemRest alone x).map Val.enc)), (2, .vars 33 [.p (.int .i64 0), .p (.int .u64 0), .p (.bool false), .p (.str []), .p (.int .i64 0), .p (.str []), .nilsl, .nilsl, .p (.int .i64 0)]), (6, .vars 33 [.p (.int .i64 (low3 x.kind + 1)), .p (.int .u64 x.mask), .p (.bool (itemV alone x).num.neg), .p (.str (itemV alone x).num.digits), .p (.int .i64 (itemV alone x).num.scale), .p (.str (itemV alone x).text), .p (.sl 1 []), .p (.sl 9 ((itemKids alone x).map Val.enc)), .p (.int .i64 (itemV alone x).code)])], 0⟩) ?_ ?_
    ·
      refine AW.seqRegionO [] ?_
      refine AOpsO.fill 6 [none, none, none, none, none, none, some 1, some 9] (by conv => lhs; simp) ?_
      refine AOpsO.one tok [0, 2, 3, 4, 6, 36] (by intro C; conv => lhs; simp) (by first | with_reducible exact True.intro | omega | simp | (simp; omega) | (simp +contextual; omega)) rfl ?_
      refine AOpsO.one tok [0, 2, 3, 4, 6, 37] (by intro C; conv => lhs; simp) (by first | with_reducible exact True.intro | omega | simp | (simp; omega) | (simp +contextual; omega)) rfl ?_
      refine AOpsO.nil ?_
      refine AW.block ?_
      refine AW.seqRegionO [] ?_
      refine AOpsO.one tok [0, 2, 3, 4, 6, 37, 39] (by intro C; conv => lhs; simp) (by first | with_reducible exact True.intro | omega | simp | (simp; omega) | (simp +contextual; omega)) rfl ?_
      refine AOpsO.one tok [0, 2, 3, 4, 6, 37, 38] (by intro C; conv => lhs; simp) (by first | with_reducible exact True.intro | omega | simp | (simp; omega) | (simp +contextual; omega)) rfl ?_
      refine AOpsO.nil ?_
      refine AW.cond (c := .tmp 38) (by conv => lhs; simp) trivial ?_ ?_
      · intro h38
        try simp at h38
        have hq : low3 x.kind = 3 := by omega
        refine AW.seqRegionO [x.enc, .nilp, .str (shortM x.num), .nilp, .tup [(ParseM (shortM x.num)).1.enc, .int .i64 (ParseM (shortM x.num)).2]] ?_
        refine AOpsO.one tok [0, 2, 3, 4, 6, 41] (by intro C; conv => lhs; simp) (by first | with_reducible exact True.intro | (first | exact hsh | exact hpa | simp [hx]; done) | omega | simp | (simp; omega) | (simp +contextual; omega)) rfl ?_
        refine AOpsO.one tok [0, 2, 3, 4, 6, 41, 42] (by intro C; conv => lhs; simp) (by first | with_reducible exact True.intro | (first | exact hsh | exact hpa | simp [hx]; done) | omega | simp | (simp; omega) | (simp +contextual; omega)) rfl ?_
        refine AOpsO.one tok [0, 2, 3, 4, 6, 43] (by intro C; conv => lhs; simp) (by first | with_reducible exact True.intro | (first | exact hsh | exact hpa | simp [hx]; done) | omega | simp | (simp; omega) | (simp +contextual; omega)) rfl ?_
        refine AOpsO.one tok [0, 2, 3, 4, 6, 44] (by intro C; conv => lhs; simp) (by first | with_reducible exact True.intro | (first | exact hsh | exact hpa | simp [hx]; done) | omega | simp | (simp; omega) | (simp +contextual; omega)) rfl ?_
        refine AOpsO.one tok [0, 2, 3, 4, 6, 45] (by intro C; conv => lhs; simp) (by first | with_reducible exact True.intro | (first | exact hsh | exact hpa | simp [hx]; done) | omega | simp | (simp; omega) | (simp +contextual; omega)) rfl ?_
        refine AOpsO.one tok [0, 2, 3, 4, 6, 46] (by intro C; conv => lhs; simp) (by first | with_reducible exact True.intro | (first | exact hsh | exact hpa | simp [hx]; done) | omega | simp | (simp; omega) | (simp +contextual; omega)) rfl ?_
        refine AOpsO.one tok [0, 2, 3, 4, 6, 47] (by intro C; conv => lhs; simp) (by first | with_reducible exact True.intro | (first | exact hsh | exact hpa | simp [hx]; done) | omega | simp | (simp; omega) | (simp +contextual; omega)) rfl ?_
        refine AOpsO.one tok [0, 2, 3, 4, 6, 40] (by intro C; conv => lhs; simp) (by first | with_reducible exact True.intro | (first | exact hsh | exact hpa | simp [hx]; done) | omega | simp | (simp; omega) | (simp +contextual; omega)) rfl ?_
        refine AOpsO.one tok [0, 2, 3, 4, 6, 40, 48] (by intro C; conv => lhs; simp) (by first | with_reducible exact True.intro | (first | exact hsh | exact hpa | simp [hx]; done) | omega | simp | (simp; omega) | (simp +contextual; omega)) rfl ?_
        refine AOpsO.one tok [0, 2, 3, 4, 6, 48, 49] (by intro C; conv => lhs; simp) (by first | with_reducible exact True.intro | (first | exact hsh | exact hpa | simp [hx]; done) | omega | simp | (simp; omega) | (simp +contextual; omega)) rfl ?_
        refine AOpsO.one tok [0, 2, 3, 4, 6, 7, 48, 49] (by intro C; conv => lhs; simp) (by first | with_reducible exact True.intro | (first | exact hsh | exact hpa | simp [hx]; done) | omega | simp | (simp; omega) | (simp +contextual; omega)) rfl ?_
        refine AOpsO.one tok [0, 2, 3, 4, 6, 7, 49] (by intro C; conv => lhs; simp) (by first | with_reducible exact True.intro | (first | exact hsh | exact hpa | simp [hx]; done) | omega | simp | (simp; omega) | (simp +contextual; omega)) rfl ?_
        refine AOpsO.one tok [0, 2, 3, 4, 6, 7, 8] (by intro C; conv => lhs; simp) (by first | with_reducible exact True.intro | (first | exact hsh | exact hpa | simp [hx]; done) | omega | simp | (simp; omega) | (simp +contextual; omega)) rfl ?_
        refine AOpsO.nil ?_
        refine AW.seq ?_
        refine AW.seqRegionO [] ?_
        refine AOpsO.one tok [0, 2, 3, 4, 6, 7, 50] (by intro C; conv => lhs; simp) (by first | with_reducible exact True.intro | omega | simp | (simp; omega) | (simp +contextual; omega)) rfl ?_
        refine AOpsO.one tok [0, 2, 3, 4, 6, 7, 51] (by intro C; conv => lhs; simp) (by first | with_reducible exact True.intro | omega | simp | (simp; omega) | (simp +contextual; omega)) rfl ?_
        refine AOpsO.nil ?_
        refine AW.cond (c := .tmp 51) (by conv => lhs; simp) trivial ?_ ?_
        · intro h51
          try simp at h51
          refine AW.regionO [] ?_
          refine AOpsO.one tok [0, 2, 3, 4, 6, 7, 52] (by intro C; conv => lhs; simp) (by first | with_reducible exact True.intro | omega | simp | (simp; omega) | (simp +contextual; omega)) rfl ?_
          refine AOpsO.one tok [0, 2, 3, 4, 6, 7] (by intro C; conv => lhs; simp) (by first | with_reducible exact True.intro | omega | simp | (simp; omega) | (simp +contextual; omega)) rfl ?_
          refine AOpsO.nil ?_
          refine AW.regionO [] ?_
          refine AOpsO.one tok [0, 2, 3, 4, 6, 53] (by intro C; conv => lhs; simp) (by first | with_reducible exact True.intro | omega | simp | (simp; omega) | (simp +contextual; omega)) rfl ?_
          refine AOpsO.one tok [0, 2, 3, 4, 6, 53, 54] (by intro C; conv => lhs; simp) (by first | with_reducible exact True.intro | omega | simp | (simp; omega) | (simp +contextual; omega)) rfl ?_
          refine AOpsO.one tok [0, 2, 3, 4, 6] (by intro C; conv => lhs; simp) (by first | with_reducible exact True.intro | omega | simp | (simp; omega) | (simp +contextual; omega)) rfl ?_
          refine AOpsO.nil ?_
          exact ⟨(), trivial, upds_le (by simp [itemRest, itemV, itemKids, numM, dc0, Val.num, Val.text, Val.code, Val.keys, Val.kids, hq, h51]), rfl, by simp [itemRest, itemV, itemKids, numM, dc0, Val.num, Val.text, Val.code, Val.keys, Val.kids, hq, h51], by simp [itemRest, itemV, itemKids, numM, dc0, Val.num, Val.text, Val.code, Val.keys, Val.kids, hq, h51]⟩
        · intro h51
          try simp at h51
          refine AW.skip ?_
          refine AW.regionO [] ?_
          refine AOpsO.one tok [0, 2, 3, 4, 6, 53] (by intro C; conv => lhs; simp) (by first | with_reducible exact True.intro | omega | simp | (simp; omega) | (simp +contextual; omega)) rfl ?_
          refine AOpsO.one tok [0, 2, 3, 4, 6, 53, 54] (by intro C; conv => lhs; simp) (by first | with_reducible exact True.intro | omega | simp | (simp; omega) | (simp +contextual; omega)) rfl ?_
          refine AOpsO.one tok [0, 2, 3, 4, 6] (by intro C; conv => lhs; simp) (by first | with_reducible exact True.intro | omega | simp | (simp; omega) | (simp +contextual; omega)) rfl ?_
          refine AOpsO.nil ?_
          exact ⟨(), trivial, upds_le (by simp [itemRest, itemV, itemKids, numM, dc0, Val.num, Val.text, Val.code, Val.keys, Val.kids, hq, h51]), rfl, by simp [itemRest, itemV, itemKids, numM, dc0, Val.num, Val.text, Val.code, Val.keys, Val.kids, hq, h51], by simp [itemRest, itemV, itemKids, numM, dc0, Val.num, Val.text, Val.code, Val.keys, Val.kids, hq, h51]⟩
      · intro h38
        try simp at h38
        refine AW.seqRegionO [] ?_
        refine AOpsO.one tok [0, 2, 3, 4, 6, 37, 56] (by intro C; conv => lhs; simp) (by first | with_reducible exact True.intro | omega | simp | (simp; omega) | (simp +contextual; omega)) rfl ?_
        refine AOpsO.one tok [0, 2, 3, 4, 6, 37, 55] (by intro C; conv => lhs; simp) (by first | with_reducible exact True.intro | omega | simp | (simp; omega) | (simp +contextual; omega)) rfl ?_
        refine AOpsO.nil ?_
        refine AW.cond (c := .tmp 55) (by conv => lhs; simp) trivial ?_ ?_
        · intro h55
          try simp at h55
          have hq : low3 x.kind = 4 := by omega
          refine AW.regionO [x.enc, .nilp, .str (wordM x.text)] ?_
          refine AOpsO.one tok [0, 2, 3, 4, 6, 57] (by intro C; conv => lhs; simp) (by first | with_reducible exact True.intro | (first | exact hwo | simp [hx]; done) | omega | simp | (simp; omega) | (simp +contextual; omega)) rfl ?_
          refine AOpsO.one tok [0, 2, 3, 4, 6, 57, 58] (by intro C; conv => lhs; simp) (by first | with_reducible exact True.intro | (first | exact hwo | simp [hx]; done) | omega | simp | (simp; omega) | (simp +contextual; omega)) rfl ?_
          refine AOpsO.one tok [0, 2, 3, 4, 6, 59] (by intro C; conv => lhs; simp) (by first | with_reducible exact True.intro | (first | exact hwo | simp [hx]; done) | omega | simp | (simp; omega) | (simp +contextual; omega)) rfl ?_
          refine AOpsO.one tok [0, 2, 3, 4, 6, 60] (by intro C; conv => lhs; simp) (by first | with_reducible exact True.intro | (first | exact hwo | simp [hx]; done) | omega | simp | (simp; omega) | (simp +contextual; omega)) rfl ?_
          refine AOpsO.one tok [0, 2, 3, 4, 6, 61] (by intro C; conv => lhs; simp) (by first | with_reducible exact True.intro | (first | exact hwo | simp [hx]; done) | omega | simp | (simp; omega) | (simp +contextual; omega)) rfl ?_
          refine AOpsO.one tok [0, 2, 3, 4, 6, 62] (by intro C; conv => lhs; simp) (by first | with_reducible exact True.intro | (first | exact hwo | simp [hx]; done) | omega | simp | (simp; omega) | (simp +contextual; omega)) rfl ?_
          refine AOpsO.one tok [0, 2, 3, 4, 6, 62, 63] (by intro C; conv => lhs; simp) (by first | with_reducible exact True.intro | (first | exact hwo | simp [hx]; done) | omega | simp | (simp; omega) | (simp +contextual; omega)) rfl ?_
          refine AOpsO.one tok [0, 2, 3, 4, 6] (by intro C; conv => lhs; simp) (by first | with_reducible exact True.intro | (first | exact hwo | simp [hx]; done) | omega | simp | (simp; omega) | (simp +contextual; omega)) rfl ?_
          refine AOpsO.nil ?_
          exact ⟨(), trivial, upds_le (by simp [itemRest, itemV, itemKids, numM, dc0, Val.num, Val.text, Val.code, Val.keys, Val.kids, hq]), rfl, by simp [itemRest, itemV, itemKids, numM, dc0, Val.num, Val.text, Val.code, Val.keys, Val.kids, hq], by simp [itemRest, itemV, itemKids, numM, dc0, Val.num, Val.text, Val.code, Val.keys, Val.kids, hq]⟩
        · intro h55
          try simp at h55
          refine AW.seqRegionO [] ?_
          refine AOpsO.one tok [0, 2, 3, 4, 6, 37, 65] (by intro C; conv => lhs; simp) (by first | with_reducible exact True.intro | omega | simp | (simp; omega) | (simp +contextual; omega)) rfl ?_
          refine AOpsO.one tok [0, 2, 3, 4, 6, 37, 64] (by intro C; conv => lhs; simp) (by first | with_reducible exact True.intro | omega | simp | (simp; omega) | (simp +contextual; omega)) rfl ?_
          refine AOpsO.nil ?_
          refine AW.cond (c := .tmp 64) (by conv => lhs; simp) trivial ?_ ?_
          · intro h64
            try simp at h64
            have hq : low3 x.kind = 7 := by omega
            refine AW.regionO [] ?_
            refine AOpsO.one tok [0, 2, 3, 4, 6, 66] (by intro C; conv => lhs; simp) (by first | with_reducible exact True.intro | omega | simp | (simp; omega) | (simp +contextual; omega)) rfl ?_
            refine AOpsO.one tok [0, 2, 3, 4, 6] (by intro C; conv => lhs; simp) (by first | with_reducible exact True.intro | omega | simp | (simp; omega) | (simp +contextual; omega)) rfl ?_
            refine AOpsO.nil ?_
            exact ⟨(), trivial, upds_le (by simp [itemRest, itemV, itemKids, numM, dc0, Val.num, Val.text, Val.code, Val.keys, Val.kids, hq]), rfl, by simp [itemRest, itemV, itemKids, numM, dc0, Val.num, Val.text, Val.code, Val.keys, Val.kids, hq], by simp [itemRest, itemV, itemKids, numM, dc0, Val.num, Val.text, Val.code, Val.keys, Val.kids, hq]⟩
          · intro h64
            try simp at h64
            refine AW.join (α := Unit) (fun _ => True) (fun a => ⟨upds 121 [(0, .p (.sl 6 (l.map Item.enc))), (2, .ptr 2 0), (3, .ms 11), (4, .p (.int .i64 k)), (6, .ptr 6 0), (67, .p (.bool (decide (low3 x.kind = 5 ∨ low3 x.kind = 6))))], [], [(11, .row 33 9 (alone.map Val.enc)), (2, .vars 33 [.p (.int .i64 0), .p (.int .u64 0), .p (.bool false), .p (.str []), .p (.int .i64 0), .p (.str []), .nilsl, .nilsl, .p (.int .i64 0)]), (6, .vars 33 [.p (.int .i64 (low3 x.kind + 1)), .p (.int .u64 x.mask), .p (.bool false), .p (.str []), .p (.int .i64 0), .p (.str []), .p (.sl 1 []), .p (.sl 9 []), .p (.int .i64 0)])], 0⟩) ?_ ?_
            ·
              refine AW.seqRegionO [] ?_
              refine AOpsO.one tok [0, 2, 3, 4, 6, 37, 68] (by intro C; conv => lhs; simp) (by first | with_reducible exact True.intro | omega | simp | (simp; omega) | (simp +contextual; omega)) rfl ?_
              refine AOpsO.one tok [0, 2, 3, 4, 6, 37, 67] (by intro C; conv => lhs; simp) (by first | with_reducible exact True.intro | omega | simp | (simp; omega) | (simp +contextual; omega)) rfl ?_
              refine AOpsO.nil ?_
              refine AW.cond (c := .tmp 67) (by conv => lhs; simp) trivial ?_ ?_
              · intro h67
                try simp at h67
                refine AW.skip ?_
                exact ⟨(), trivial, upds_le (by simp [show (low3 x.kind = 5 ∨ low3 x.kind = 6) = True from eq_true (by omega), h67]), rfl, by simp [show (low3 x.kind = 5 ∨ low3 x.kind = 6) = True from eq_true (by omega), h67], by simp [show (low3 x.kind = 5 ∨ low3 x.kind = 6) = True from eq_true (by omega), h67]⟩
              · intro h67
                try simp at h67
                refine AW.regionO [] ?_
                refine AOpsO.one tok [0, 2, 3, 4, 6, 69] (by intro C; conv => lhs; simp) (by first | with_reducible exact True.intro | omega | simp | (simp; omega) | (simp +contextual; omega)) rfl ?_
                refine AOpsO.one tok [0, 2, 3, 4, 6, 67] (by intro C; conv => lhs; simp) (by first | with_reducible exact True.intro | omega | simp | (simp; omega) | (simp +contextual; omega)) rfl ?_
                refine AOpsO.nil ?_
                exact ⟨(), trivial, upds_le (by simp [show (low3 x.kind = 5 ∨ low3 x.kind = 6) = (low3 x.kind = 6) from propext (by omega), show ((low3 x.kind : Int) + 1 = 7) = (low3 x.kind = 6) from propext (by omega)]), rfl, by simp [show (low3 x.kind = 5 ∨ low3 x.kind = 6) = (low3 x.kind = 6) from propext (by omega), show ((low3 x.kind : Int) + 1 = 7) = (low3 x.kind = 6) from propext (by omega)], by simp [show (low3 x.kind = 5 ∨ low3 x.kind = 6) = (low3 x.kind = 6) from propext (by omega), show ((low3 x.kind : Int) + 1 = 7) = (low3 x.kind = 6) from propext (by omega)]⟩
            ·
              rintro a hI
              refine AW.cond (c := .tmp 67) (by conv => lhs; simp) trivial ?_ ?_
              · intro h67
                try simp at h67
                have hmany := low3_lt x.many
                have hkn : ((alone.length : Int) - if alone.length < low3 x.many then (alone.length : Int) else (low3 x.many : Int)).toNat = alone.length - kidsN alone x := by unfold kidsN; split <;> omega
                have hq3 : ¬ low3 x.kind = 3 := by omega
                have hq4 : ¬ low3 x.kind = 4 := by omega
                have hq7 : ¬ low3 x.kind = 7 := by omega
                refine AW.seqRegionO [x.enc] ?_
                refine AOpsO.one tok [0, 2, 3, 4, 6, 70] (by intro C; conv => lhs; simp [low3_wrap]) (by first | with_reducible exact True.intro | (simp [hx]; done) | omega | simp | (simp; omega) | (simp +contextual; omega)) rfl ?_
                refine AOpsO.one tok [0, 2, 3, 4, 6, 70, 71] (by intro C; conv => lhs; simp [low3_wrap]) (by first | with_reducible exact True.intro | (simp [hx]; done) | omega | simp | (simp; omega) | (simp +contextual; omega)) rfl ?_
                refine AOpsO.one tok [0, 2, 3, 4, 6, 72] (by intro C; conv => lhs; simp [low3_wrap]) (by first | with_reducible exact True.intro | (simp [hx]; done) | omega | simp | (simp; omega) | (simp +contextual; omega)) rfl ?_
                refine AOpsO.one tok [0, 2, 3, 4, 6, 73] (by intro C; conv => lhs; simp [low3_wrap]) (by first | with_reducible exact True.intro | (simp [hx]; done) | omega | simp | (simp; omega) | (simp +contextual; omega)) rfl ?_
                refine AOpsO.one tok [0, 2, 3, 4, 6, 74] (by intro C; conv => lhs; simp [low3_wrap]) (by first | with_reducible exact True.intro | (simp [hx]; done) | omega | simp | (simp; omega) | (simp +contextual; omega)) rfl ?_
                refine AOpsO.one tok [0, 2, 3, 4, 6, 75] (by intro C; conv => lhs; simp [low3_wrap]) (by first | with_reducible exact True.intro | (simp [hx]; done) | omega | simp | (simp; omega) | (simp +contextual; omega)) rfl ?_
                refine AOpsO.one tok [0, 2, 3, 4, 6, 75, 76] (by intro C; conv => lhs; simp [low3_wrap]) (by first | with_reducible exact True.intro | (simp [hx]; done) | omega | simp | (simp; omega) | (simp +contextual; omega)) rfl ?_
                refine AOpsO.one tok [0, 2, 3, 4, 6, 75, 77] (by intro C; conv => lhs; simp [low3_wrap]) (by first | with_reducible exact True.intro | (simp [hx]; done) | omega | simp | (simp; omega) | (simp +contextual; omega)) rfl ?_
                refine AOpsO.one tok [0, 2, 3, 4, 6, 78] (by intro C; conv => lhs; simp [low3_wrap]) (by first | with_reducible exact True.intro | (simp [hx]; done) | omega | simp | (simp; omega) | (simp +contextual; omega)) rfl ?_
                refine AOpsO.one tok [0, 2, 3, 4, 6, 9] (by intro C; conv => lhs; simp [low3_wrap]) (by first | with_reducible exact True.intro | (simp [hx]; done) | omega | simp | (simp; omega) | (simp +contextual; omega)) rfl ?_
                refine AOpsO.nil ?_
                refine AW.seqRegionO [] ?_
                refine AOpsO.one tok [0, 2, 3, 4, 6, 9, 79] (by intro C; conv => lhs; simp) (by first | with_reducible exact True.intro | omega | simp | (simp; omega) | (simp +contextual; omega)) rfl ?_
                refine AOpsO.one tok [0, 2, 3, 4, 6, 9, 80] (by intro C; conv => lhs; simp) (by first | with_reducible exact True.intro | omega | simp | (simp; omega) | (simp +contextual; omega)) rfl ?_
                refine AOpsO.one tok [0, 2, 3, 4, 6, 80, 81] (by intro C; conv => lhs; simp) (by first | with_reducible exact True.intro | omega | simp | (simp; omega) | (simp +contextual; omega)) rfl ?_
                refine AOpsO.one tok [0, 2, 3, 4, 6, 82] (by intro C; conv => lhs; simp) (by first | with_reducible exact True.intro | omega | simp | (simp; omega) | (simp +contextual; omega)) rfl ?_
                refine AOpsO.one tok [0, 2, 3, 4, 6, 10] (by intro C; conv => lhs; simp) (by first | with_reducible exact True.intro | omega | simp | (simp; omega) | (simp +contextual; omega)) rfl ?_
                refine AOpsO.nil ?_
                refine AW.seqRegionO [] ?_
                refine AOpsO.freeze 11 (by conv => lhs; simp) ?_
                refine AOpsO.one tok [0, 2, 3, 4, 6, 10, 83] (by intro C; conv => lhs; simp) (by first | with_reducible exact True.intro | omega | simp | (simp; omega) | (simp +contextual; omega)) rfl ?_
                refine AOpsO.one tok [0, 2, 3, 4, 6, 10, 83, 84] (by intro C; conv => lhs; simp) (by first | with_reducible exact True.intro | omega | simp | (simp; omega) | (simp +contextual; omega)) rfl ?_
                refine AOpsO.one tok [0, 2, 3, 4, 6, 10, 83, 84, 85] (by intro C; conv => lhs; simp) (by first | with_reducible exact True.intro | omega | simp | (simp; omega) | (simp +contextual; omega)) rfl ?_
                refine AOpsO.one tok [0, 2, 3, 4, 6, 10, 83, 86] (by intro C; conv => lhs; simp) (by first | with_reducible exact True.intro | omega | simp | (simp; omega) | (simp +contextual; omega)) rfl ?_
                refine AOpsO.one tok [0, 2, 3, 4, 6, 10, 87] (by intro C; conv => lhs; simp) (by first | with_reducible exact True.intro | omega | simp | (simp; omega) | (simp +contextual; omega)) rfl ?_
                refine AOpsO.one tok [0, 2, 3, 4, 6, 10, 87, 88] (by intro C; conv => lhs; simp) (by first | with_reducible exact True.intro | omega | simp | (simp; omega) | (simp +contextual; omega)) rfl ?_
                refine AOpsO.one tok [0, 2, 3, 4, 6, 10] (by intro C; conv => lhs; simp) (by first | with_reducible exact True.intro | omega | simp | (simp; omega) | (simp +contextual; omega)) rfl ?_
                refine AOpsO.nil ?_
                refine AW.regionO [] ?_
                refine AOpsO.one tok [0, 2, 3, 4, 6, 10, 89] (by intro C; conv => lhs; simp) (by first | with_reducible exact True.intro | omega | simp | (simp; omega) | (simp +contextual; omega)) rfl ?_
                refine AOpsO.one tok [0, 2, 4, 6, 10, 89, 90] (by intro C; conv => lhs; simp) (by first | with_reducible exact True.intro | omega | simp | (simp; omega) | (simp +contextual; omega)) rfl ?_
                refine AOpsO.one tok [0, 2, 4, 6, 89, 90, 91] (by intro C; conv => lhs; simp) (by first | with_reducible exact True.intro | omega | simp | (simp; omega) | (simp +contextual; omega)) rfl ?_
                refine AOpsO.one tok [0, 2, 4, 6, 89, 92] (by intro C; conv => lhs; simp) (by first | with_reducible exact True.intro | omega | simp | (simp; omega) | (simp +contextual; omega)) rfl ?_
                refine AOpsO.one tok [0, 2, 4, 6, 93] (by intro C; conv => lhs; simp) (by first | with_reducible exact True.intro | omega | simp | (simp; omega) | (simp +contextual; omega)) rfl ?_
                refine AOpsO.take 89 11 (by conv => lhs; simp) ?_
                refine AOpsO.freeze 83 (by conv => lhs; simp) ?_
                refine AOpsO.one tok [0, 2, 3, 4, 6] (by intro C; conv => lhs; simp) (by first | with_reducible exact True.intro | omega | simp | (simp; omega) | (simp +contextual; omega)) rfl ?_
                refine AOpsO.nil ?_
                exact ⟨(), trivial, upds_le (by simp [itemRest, itemV, itemKids, numM, dc0, Val.num, Val.text, Val.code, Val.keys, Val.kids, hq3, hq4, hq7, hkn, h67, show List.take alone.length (alone.map Val.enc) = alone.map Val.enc from List.take_of_length_le (by simp)]), rfl, by simp [itemRest, itemV, itemKids, numM, dc0, Val.num, Val.text, Val.code, Val.keys, Val.kids, hq3, hq4, hq7, hkn, h67, show List.take alone.length (alone.map Val.enc) = alone.map Val.enc from List.take_of_length_le (by simp)], by simp [itemRest, itemV, itemKids, numM, dc0, Val.num, Val.text, Val.code, Val.keys, Val.kids, hq3, hq4, hq7, hkn, h67, show List.take alone.length (alone.map Val.enc) = alone.map Val.enc from List.take_of_length_le (by simp)]⟩
              · intro h67
                try simp at h67
                have hq3 : ¬ low3 x.kind = 3 := by omega
                have hq4 : ¬ low3 x.kind = 4 := by omega
                have hq7 : ¬ low3 x.kind = 7 := by omega
                refine AW.skip ?_
                exact ⟨(), trivial, upds_le (by simp [itemRest, itemV, itemKids, numM, dc0, Val.num, Val.text, Val.code, Val.keys, Val.kids, hq3, hq4, hq7, h67]), rfl, by simp [itemRest, itemV, itemKids, numM, dc0, Val.num, Val.text, Val.code, Val.keys, Val.kids, hq3, hq4, hq7, h67], by simp [itemRest, itemV, itemKids, numM, dc0, Val.num, Val.text, Val.code, Val.keys, Val.kids, hq3, hq4, hq7, h67]⟩
    ·
      rintro a hI
      refine AW.join (α := Unit) (fun _ => True) (fun a => ⟨upds 121 [(0, .p (.sl 6 (l.map Item.enc))), (2, .ptr 2 0), (3, .ms 11), (4, .p (.int .i64 k)), (6, .ptr 6 0)], [], [(11, .row 33 9 ((itemRest alone x).map Val.enc)), (2, .vars 33 [.p (.int .i64 0), .p (.int .u64 0), .p (.bool false), .p (.str []), .p (.int .i64 0), .p (.str []), .nilsl, .nilsl, .p (.int .i64 0)]), (6, .vars 33 [.p (.int .i64 (itemV alone x).kind), .p (.int .u64 (itemV alone x).mask), .p (.bool (itemV alone x).num.neg), .p (.str (itemV alone x).num.digits), .p (.int .i64 (itemV alone x).num.scale), .p (.str (itemV alone x).text), .p (.sl 1 ((itemV alone x).keys.map PD.str)), .p (.sl 9 ((itemV alone x).kids.map Val.enc)), .p (.int .i64 (itemV alone x).code)])], 0⟩) ?_ ?_
      ·
        refine AW.seqRegionO [] ?_
        refine AOpsO.one tok [0, 2, 3, 4, 6, 94] (by intro C; conv => lhs; simp) (by first | with_reducible exact True.intro | omega | simp | (simp; omega) | (simp +contextual; omega)) rfl ?_
        refine AOpsO.one tok [0, 2, 3, 4, 6, 95] (by intro C; conv => lhs; simp) (by first | with_reducible exact True.intro | omega | simp | (simp; omega) | (simp +contextual; omega)) rfl ?_
        refine AOpsO.one tok [0, 2, 3, 4, 6, 96] (by intro C; conv => lhs; simp) (by first | with_reducible exact True.intro | omega | simp | (simp; omega) | (simp +contextual; omega)) rfl ?_
        refine AOpsO.nil ?_
        refine AW.cond (c := .tmp 96) (by conv => lhs; simp) trivial ?_ ?_
        · intro h96
          try simp at h96
          have hq : low3 x.kind = 6 := by omega
          have hkl : (itemKids alone x).length ≤ 100000 := by unfold itemKids; split <;> simp <;> omega
          have hna := named_ev (G := G) x.keys (itemKids alone x).length hxl hkl
          refine AW.runDrawK tok mixed [0, 2, 3, 4, 6] 9 [[0], [4], [97, 98], [99], [100], [6], [102], [103], [101, 104]] [x.enc, .nilp, .sl 1 ((namedM x.keys (itemKids alone x).length).map PD.str)] [] (by kernel_rfl) (by intro C; conv => lhs; simp) (by first | (simp [hx]; done) | (simp [hx]; exact hna)) (by simp [Sm.sum, Sm.foot, Sm.tch, Sm.refs]; kernel_rfl) (by intro C; conv => lhs; simp) (by first | with_reducible exact True.intro | omega | simp | (simp; omega) | (simp +contextual; omega)) ?_
          exact ⟨(), trivial, upds_le (by simp [itemV, Val.kind, Val.mask, Val.keys, Val.kids, hq]), rfl, by simp [itemV, Val.kind, Val.mask, Val.keys, Val.kids, hq], by simp [itemV, Val.kind, Val.mask, Val.keys, Val.kids, hq]⟩
        · intro h96
          try simp at h96
          have hq : ¬ low3 x.kind = 6 := by omega
          refine AW.skip ?_
          exact ⟨(), trivial, upds_le (by simp [itemV, Val.kind, Val.mask, Val.keys, Val.kids, hq]), rfl, by simp [itemV, Val.kind, Val.mask, Val.keys, Val.kids, hq], by simp [itemV, Val.kind, Val.mask, Val.keys, Val.kids, hq]⟩
      ·
        rintro a hI
        have hrl : (itemRest alone x).length ≤ alone.length := by unfold itemRest; split <;> simp <;> omega
        refine AW.regionO [(itemV alone x).enc] ?_
        refine AOpsO.one tok [0, 2, 4, 6, 107] (by intro C; conv => lhs; simp) (by first | with_reducible exact True.intro | (first | (simp; done) | (simp; omega) | omega; done) | omega | simp | (simp; omega) | (simp +contextual; omega)) rfl ?_
        refine AOpsO.one tok [0, 2, 4, 107, 108] (by intro C; conv => lhs; simp) (by first | with_reducible exact True.intro | (first | (simp; done) | (simp; omega) | omega; done) | omega | simp | (simp; omega) | (simp +contextual; omega)) rfl ?_
        refine AOpsO.one tok [0, 2, 4, 107, 109] (by intro C; conv => lhs; simp) (by first | with_reducible exact True.intro | (first | (simp; done) | (simp; omega) | omega; done) | omega | simp | (simp; omega) | (simp +contextual; omega)) rfl ?_
        refine AOpsO.one tok [0, 2, 4, 110] (by intro C; conv => lhs; simp) (by first | with_reducible exact True.intro | (first | (simp; done) | (simp; omega) | omega; done) | omega | simp | (simp; omega) | (simp +contextual; omega)) rfl ?_
        refine AOpsO.one tok [0, 2, 3, 4] (by intro C; conv => lhs; simp) (by first | with_reducible exact True.intro | (first | (simp; done) | (simp; omega) | omega; done) | omega | simp | (simp; omega) | (simp +contextual; omega)) rfl ?_
        refine AOpsO.nil ?_
        refine AW.regionO [] ?_
        refine AOpsO.one tok [0, 2, 3, 20] (by intro C; conv => lhs; simp) (by first | with_reducible exact True.intro | omega | simp | (simp; omega) | (simp +contextual; omega)) rfl ?_
        refine AOpsO.one tok [0, 2, 3, 21] (by intro C; conv => lhs; simp) (by first | with_reducible exact True.intro | omega | simp | (simp; omega) | (simp +contextual; omega)) rfl ?_
        refine AOpsO.one tok [0, 2, 3, 4] (by intro C; conv => lhs; simp) (by first | with_reducible exact True.intro | omega | simp | (simp; omega) | (simp +contextual; omega)) rfl ?_
        refine AOpsO.nil ?_
        exact ⟨k + 1, ⟨by omega, by omega⟩, by omega, upds_le (by simp [haa, aloneK_succ hx, itemM]), rfl, by simp [haa, aloneK_succ hx, itemM], by simp [haa, aloneK_succ hx, itemM]⟩
  · intro h19
    try simp at h19
    have hfin : aloneM l = alone := by
      rw [← haa]; unfold aloneM aloneK
      congr 1
      by_cases h : k = 80
      · rw [h]
      · have hkl : k = l.length := by omega
        rw [hkl, List.take_length, List.take_of_length_le (by omega)]
    refine AW.exit ?_
    simp
    refine AW.seq ?_
    refine AW.seqRegionO [] ?_
    refine AOpsO.one tok [2, 3, 111] (by intro C; conv => lhs; simp) (by first | with_reducible exact True.intro | omega | simp | (simp; omega) | (simp +contextual; omega)) rfl ?_
    refine AOpsO.one tok [2, 3, 112] (by intro C; conv => lhs; simp) (by first | with_reducible exact True.intro | omega | simp | (simp; omega) | (simp +contextual; omega)) rfl ?_
    refine AOpsO.one tok [2, 3, 113] (by intro C; conv => lhs; simp) (by first | with_reducible exact True.intro | omega | simp | (simp; omega) | (simp +contextual; omega)) rfl ?_
    refine AOpsO.nil ?_
    refine AW.cond (c := .tmp 113) (by conv => lhs; simp) trivial ?_ ?_
    · intro h113
      try simp at h113
      have hB : builtM l = nullV := by simp [builtM, hfin, h113]
      refine AW.seqRegionO [] ?_
      refine AOpsO.one tok [2, 114] (by intro C; conv => lhs; simp) (by first | with_reducible exact True.intro | omega | simp | (simp; omega) | (simp +contextual; omega)) rfl ?_
      refine AOpsO.one tok [2] (by intro C; conv => lhs; simp) (by first | with_reducible exact True.intro | omega | simp | (simp; omega) | (simp +contextual; omega)) rfl ?_
      refine AOpsO.nil ?_
      exact AW.ret ⟨.inr rfl, _, _, by (conv => lhs; simp), trivial, by simp [hB, nullV, dc0, Val.kind, Val.mask, Val.num, Val.text, Val.keys, Val.kids, Val.code]⟩
    · intro h113
      try simp at h113
      have hlast : alone[alone.length - 1]? = some (builtM l) := by
        rw [builtM, hfin, List.getLastD_eq_getLast?, List.getLast?_eq_getElem?]
        have : alone.length - 1 < alone.length := by
          have : alone ≠ [] := h113
          have := List.length_pos_iff.2 this; omega
        simp [this]
      have hpos : 0 < alone.length := List.length_pos_iff.2 h113
      refine AW.skip ?_
      refine AW.seqRegionO [(builtM l).enc] ?_
      refine AOpsO.one tok [2, 3, 115] (by intro C; conv => lhs; simp) (by first | with_reducible exact True.intro | (simp [hlast]; done) | omega | simp | (simp; omega) | (simp +contextual; omega)) rfl ?_
      refine AOpsO.one tok [2, 115, 116] (by intro C; conv => lhs; simp) (by first | with_reducible exact True.intro | (simp [hlast]; done) | omega | simp | (simp; omega) | (simp +contextual; omega)) rfl ?_
      refine AOpsO.one tok [2, 115, 117] (by intro C; conv => lhs; simp) (by first | with_reducible exact True.intro | (simp [hlast]; done) | omega | simp | (simp; omega) | (simp +contextual; omega)) rfl ?_
      refine AOpsO.one tok [2, 115, 118] (by intro C; conv => lhs; simp) (by first | with_reducible exact True.intro | (simp [hlast]; done) | omega | simp | (simp; omega) | (simp +contextual; omega)) rfl ?_
      refine AOpsO.one tok [2, 119] (by intro C; conv => lhs; simp) (by first | with_reducible exact True.intro | (simp [hlast]; done) | omega | simp | (simp; omega) | (simp +contextual; omega)) rfl ?_
      refine AOpsO.one tok [2, 120] (by intro C; conv => lhs; simp) (by first | with_reducible exact True.intro | (simp [hlast]; done) | omega | simp | (simp; omega) | (simp +contextual; omega)) rfl ?_
      refine AOpsO.one tok [2] (by intro C; conv => lhs; simp) (by first | with_reducible exact True.intro | (simp [hlast]; done) | omega | simp | (simp; omega) | (simp +contextual; omega)) rfl ?_
      refine AOpsO.nil ?_
      exact AW.ret ⟨.inr rfl, _, _, by (conv => lhs; simp), trivial, by simp⟩
end Go.Proofs.YtgoepemmcibdaaaDoor
/-
  A PLAIN LAW: what is built may be.
-/
namespace Go.Proofs.YtgoepemmcibdaaaDoor
open Sy Go
set_option linter.unusedSimpArgs false
set_option linter.unusedVariables false
set_option maxRecDepth 100000
theorem word_may (s : List UInt8) : wordT (wordM s) = true := by
  have hl := wordM_len s
  unfold wordT
  rw [valid_eq]
  have : validM (wordM s) = true := by
    unfold wordM
    split
    · assumption
    · decide +kernel
  rw [this]; simp; omega
theorem wordT_kays {n : Nat} (h : n ≤ 4096) (hv : validM (kays n) = true) : wordT (kays n) = true := by
  unfold wordT; rw [valid_eq, hv]; simp [kays]; omega
theorem kays_valid : ∀ n, n ≤ 9 → validM (kays n) = true := by decide +kernel
theorem namedS_may {l : List (List UInt8)} {i many : Nat} (hi : i ≤ l.length + many) (hm : many ≤ 8) : wordT (namedS l i) = true := by
  unfold namedS
  split
  · exact word_may _
  · exact wordT_kays (by omega) (kays_valid _ (by omega))
theorem namedGo_spec {l : List (List UInt8)} {many : Nat} (hm : many ≤ 8) : ∀ (f i : Nat) (out : List (List UInt8)), i + f = l.length + many + 1 → out.Nodup → (∀ s ∈ out, wordT s = true) → out.length ≤ many → (∀ t, 1 ≤ t → t + l.length ≤ i → kays t ∈ out) →
    (namedGo l many f i out).Nodup ∧ (∀ s ∈ namedGo l many f i out, wordT s = true) ∧ (namedGo l many f i out).length = many
  | 0, i, out, hf, _, _, h3, h4 => by
    have := kays_in (out := out) (n := many + 1) fun t h1 h2 => h4 t h1 (by omega)
    omega
  | f + 1, i, out, hf, h1, h2, h3, h4 => by
    simp only [namedGo]
    split
    · rename_i hlt
      have hw := namedS_may (l := l) (i := i) (many := many) (by omega) hm
      have hk : ∀ t, 1 ≤ t → t + l.length ≤ i + 1 → kays t ∈ addM out (namedS l i) := by
        intro t h5 h6
        by_cases h7 : t + l.length ≤ i
        · have := h4 t h5 h7
          unfold addM; split
          · exact this
          · simp [this]
        · have : kays t = namedS l i := by simp only [namedS]; rw [dif_neg (by omega)]; congr 1; omega
          rw [this]; unfold addM; split
          · assumption
          · simp
      unfold addM at hk ⊢
      split at hk
      · rename_i hin
        rw [if_pos hin]
        exact namedGo_spec hm f (i + 1) out (by omega) h1 h2 h3 hk
      · rename_i hin
        rw [if_neg hin]
        refine namedGo_spec hm f (i + 1) (out ++ [namedS l i]) (by omega) ?_ (fun s hs => ?_) (by simp; omega) hk
        · rw [List.nodup_append]
          exact ⟨h1, by simp, by intro a ha b hb; simp at hb; subst hb; rintro rfl; exact hin ha⟩
        · rcases List.mem_append.1 hs with h | h
          · exact h2 s h
          · simp at h; rw [h]; exact hw
    · exact ⟨h1, h2, by omega⟩
theorem namedM_may {l : List (List UInt8)} {many : Nat} (hm : many ≤ 8) : keysT (namedM l many) = true ∧ (namedM l many).length = many := by
  obtain ⟨h1, h2, h3⟩ := namedGo_spec (l := l) hm (l.length + many + 1) 0 [] (by omega) List.nodup_nil (by simp) (by simp) (by intro t h1 h2; omega)
  exact ⟨by unfold keysT; simp only [Bool.and_eq_true, List.all_eq_true, decide_eq_true_eq]; exact ⟨h2, h1⟩, h3⟩
theorem strip0_all {s : List UInt8} (h : s.all isDig = true) : (strip0 s).all isDig = true := by
  rw [List.all_eq_true] at h ⊢
  exact fun b hb => h b ((List.dropWhile_sublist _).subset hb)
theorem strip0_head {s : List UInt8} (h : strip0 s ≠ []) : byteAt (strip0 s) 0 ≠ 48 := by
  induction s with
  | nil => exact (h rfl).elim
  | cons b s ih =>
    by_cases hb : b = 48
    · have e : strip0 (b :: s) = strip0 s := by simp [strip0, hb]
      rw [e] at h ⊢; exact ih h
    · have e : strip0 (b :: s) = b :: s := by simp [strip0, hb]
      rw [e]
      intro h2
      simp [byteAt] at h2
      exact hb (UInt8.toNat_inj.1 (by show b.toNat = 48; omega))
theorem trail_spec : ∀ (k : Nat) (d : List UInt8), (∃ r, d = (trail d k).1 ++ r) ∧ ((trail d k).2 = 0 ∨ (trail d k).1.getLast? ≠ some 48)
  | 0, d => ⟨⟨[], by simp [trail]⟩, .inl rfl⟩
  | k + 1, d => by
    simp only [trail]
    split
    · obtain ⟨⟨r, hr⟩, h2⟩ := trail_spec k d.dropLast
      refine ⟨⟨r ++ d.drop (d.length - 1), ?_⟩, h2⟩
      have e : d.dropLast ++ d.drop (d.length - 1) = d := by rw [List.dropLast_eq_take, List.take_append_drop]
      rw [← List.append_assoc, ← hr, e]
    · rename_i h; exact ⟨⟨[], by simp⟩, .inr h⟩
theorem NormM_may {neg : Bool} {digits : List UInt8} {scale : Nat} (hd : digits.all isDig = true) (h : (NormM neg digits scale).2 = 0) : dcMay (NormM neg digits scale).1 = true := by
  unfold NormM at h ⊢
  simp only at h ⊢
  obtain ⟨⟨r, hr⟩, hl⟩ := trail_spec scale (strip0 digits)
  generalize trail (strip0 digits) scale = x at *
  split
  · decide +kernel
  · rename_i hne
    rw [if_neg hne] at h
    split
    · rename_i hb; rw [if_pos hb] at h; simp at h
    · rename_i hb
      have hpos : 0 < x.1.length := List.length_pos_iff.2 hne
      have hall : x.1.all isDig = true := by
        have := strip0_all hd
        rw [hr, List.all_append, Bool.and_eq_true] at this; exact this.1
      have hh : byteAt x.1 0 ≠ 48 := by
        have h1 := strip0_head (s := digits) (by rw [hr]; simp [hne])
        rw [hr] at h1
        obtain ⟨c, d, hx⟩ : ∃ c d, x.1 = c :: d := by
          cases hx : x.1 with
          | nil => exact (hne hx).elim
          | cons c d => exact ⟨c, d, rfl⟩
        rw [hx] at h1 ⊢
        simpa [byteAt] using h1
      rw [dcMay_yes (by simp only []; omega) hall]
      simp only
      rw [if_neg (by intro e; rw [e] at hh; exact hh rfl)]
      have hlast : x.2 = 0 ∨ byteAt x.1 (x.1.length - 1) ≠ 48 := hl.imp id fun h h2 => h ((byteAt_last hpos).1 h2)
      simp [hh]
      exact hlast
theorem zerosM_all (n : Nat) : (zerosM n).all isDig = true := List.all_eq_true.2 fun b hb => by rw [(List.mem_replicate.1 hb).2]; rfl
theorem lastM_may {neg : Bool} {digits : List UInt8} {sc : Int} (hd : digits.all isDig = true) (h : (lastM neg digits sc).2 = 0) : dcMay (lastM neg digits sc).1 = true := by
  unfold lastM at h ⊢
  split
  · rename_i hs; rw [if_pos hs] at h; exact NormM_may (by rw [List.all_append, hd, zerosM_all]; rfl) h
  · rename_i hs; rw [if_neg hs] at h; exact NormM_may hd h
theorem run_all (s : List UInt8) (k : Nat) : ((s.take (k + runM s k)).drop k).all isDig = true := by
  have e : (s.take (k + runM s k)).drop k = (s.drop k).takeWhile fun b => digitM b.toNat := by
    rw [List.drop_take, show k + runM s k - k = runM s k by omega]
    unfold runM
    have : ∀ (l : List UInt8) (p : UInt8 → Bool), l.take (l.takeWhile p).length = l.takeWhile p := by
      intro l p
      induction l with
      | nil => rfl
      | cons a l ih => rw [List.takeWhile_cons]; split
                       · simp [ih]
                       · rfl
    exact this _ _
  rw [e, List.all_eq_true]
  have : ∀ (l : List UInt8) (p : UInt8 → Bool) (b : UInt8), b ∈ l.takeWhile p → p b = true := by
    intro l p b
    induction l with
    | nil => intro h; simp at h
    | cons a l ih =>
      intro h
      rw [List.takeWhile_cons] at h
      split at h
      · rename_i ha
        rcases List.mem_cons.1 h with rfl | h
        · exact ha
        · exact ih h
      · simp at h
  exact fun b hb => this _ _ b hb
theorem restM_may {s : List UInt8} {neg : Bool} {digits : List UInt8} {scale : Nat} (hd : digits.all isDig = true) : ∀ o, (restM s neg digits scale o).2 = 0 → dcMay (restM s neg digits scale o).1 = true
  | none, h => by simp [restM, badDc] at h
  | some (k, up), h => by
    simp only [restM] at h ⊢
    split
    · rename_i hk; rw [if_pos hk] at h; exact lastM_may hd h
    · rename_i hk; rw [if_neg hk] at h; simp [badDc] at h
theorem ParseM_may {s : List UInt8} (h : (ParseM s).2 = 0) : dcMay (ParseM s).1 = true := by
  unfold ParseM at h ⊢
  split
  · rename_i hb; rw [if_pos hb] at h; simp [badDc] at h
  · rename_i hb
    rw [if_neg hb] at h
    have hd := run_all s (a0M s)
    revert h
    generalize (s.take (a0M s + runM s (a0M s))).drop (a0M s) = d0 at *
    generalize a0M s + runM s (a0M s) = k
    intro h
    unfold part2 at h ⊢
    split
    · rename_i hp
      rw [if_pos hp] at h
      split
      · rename_i hz; rw [if_pos hz] at h; simp [tailM, badDc] at h
      · rename_i hz
        rw [if_neg hz] at h
        exact restM_may (by rw [List.all_append, hd, run_all]; rfl) _ h
    · rename_i hp
      rw [if_neg hp] at h
      exact restM_may hd _ h
theorem numM_may (s : List UInt8) : dcMay (numM s) = true := by
  unfold numM
  split
  · rename_i h; exact ParseM_may h
  · decide +kernel
theorem itemKids_len (alone : List Val) (x : Item) : (itemKids alone x).length ≤ 8 := by
  have := low3_lt x.many
  unfold itemKids kidsN; split
  · simp; omega
  · simp
theorem itemKids_mem {alone : List Val} {x : Item} {k : Val} (h : k ∈ itemKids alone x) : k ∈ alone := by
  unfold itemKids at h; split at h
  · exact List.mem_of_mem_drop h
  · cases h
theorem mayT_intro {v : Val} (h1 : 1 ≤ v.kind ∧ v.kind ≤ 8 ∧ v.kids.length ≤ 200) (h2 : v.kind = 8 ↔ v.code ≠ 0) (h3 : v.kind = 4 → dcMay v.num = true) (h3' : v.kind ≠ 4 → v.num = dc0)
    (h4 : v.kind = 5 → wordT v.text = true) (h4' : v.kind ≠ 5 → v.text = []) (h5 : v.kind = 7 → v.keys.length = v.kids.length ∧ keysT v.keys = true) (h5' : v.kind ≠ 7 → v.keys = []) (h6 : v.kids = [] ∨ v.kind = 6 ∨ v.kind = 7)
    (h7 : ∀ k ∈ v.kids, mayT k = true) : mayT v = true := by
  rw [mayT_eq]
  simp only [Bool.and_eq_true, partsT]
  refine ⟨⟨by simp [boundsT]; omega, ⟨⟨⟨⟨?_, ?_⟩, ?_⟩, ?_⟩, ?_⟩⟩, List.all_eq_true.2 h7⟩
  · unfold codeT
    by_cases h : v.kind = 8
    · simp [h, h2.1 h]
    · have : v.code = 0 := by by_cases hc : v.code = 0; · exact hc
                              · exact (h (h2.2 hc)).elim
      simp [h, this]
  · unfold numT
    by_cases h : v.kind = 4
    · rw [if_pos h]; exact h3 h
    · rw [if_neg h, h3' h]; simp [dc0]
  · unfold textT
    by_cases h : v.kind = 5
    · rw [if_pos h]; exact h4 h
    · rw [if_neg h, h4' h]; simp
  · unfold namedT
    by_cases h : v.kind = 7
    · rw [if_pos h, (h5 h).1, (h5 h).2]; simp
    · rw [if_neg h, h5' h]; simp
  · unfold kidsT
    rcases h6 with h | h | h <;> simp [h]
theorem itemV_may {alone : List Val} (x : Item) (ha : ∀ v ∈ alone, mayT v = true) : mayT (itemV alone x) = true := by
  have hk := low3_lt x.kind
  have hn := namedM_may (l := x.keys) (itemKids_len alone x)
  have hl := itemKids_len alone x
  have hkid : ¬ (low3 x.kind = 5 ∨ low3 x.kind = 6) → itemKids alone x = [] := fun h => by unfold itemKids; rw [if_neg h]
  have hmem := fun k (hk : k ∈ itemKids alone x) => ha k (itemKids_mem hk)
  unfold itemV
  generalize itemKids alone x = kids at *
  refine mayT_intro ?_ ?_ ?_ ?_ ?_ ?_ ?_ ?_ ?_ ?_ <;> simp only [Val.kind_mk, Val.num_mk, Val.text_mk, Val.keys_mk, Val.kids_mk, Val.code_mk]
  · omega
  · by_cases h : low3 x.kind = 7
    · simp [h]
    · simp [h]; omega
  · intro h; rw [if_pos (by omega)]; exact numM_may _
  · intro h; rw [if_neg (by omega)]
  · intro h; rw [if_pos (by omega)]; exact word_may _
  · intro h; rw [if_neg (by omega)]
  · intro h; rw [if_pos (by omega)]; exact ⟨hn.2, hn.1⟩
  · intro h; rw [if_neg (by omega)]
  · by_cases h : low3 x.kind = 5 ∨ low3 x.kind = 6
    · right; omega
    · left; exact hkid h
  · exact hmem
theorem built_may (l : List Item) : mayT (builtM l) = true := by
  have key : ∀ (l : List Item) (alone : List Val), (∀ v ∈ alone, mayT v = true) → ∀ v ∈ l.foldl itemM alone, mayT v = true := by
    intro l
    induction l with
    | nil => exact fun alone h => h
    | cons x l ih =>
      intro alone h
      refine ih _ fun v hv => ?_
      unfold itemM at hv
      rcases List.mem_append.1 hv with hv | hv
      · unfold itemRest at hv; split at hv
        · exact h v (List.mem_of_mem_take hv)
        · exact h v hv
      · simp at hv; rw [hv]; exact itemV_may x h
  unfold builtM
  rw [List.getLastD_eq_getLast?]
  cases hx : (aloneM l).getLast? with
  | none => decide +kernel
  | some v => exact key _ [] (by simp) v (List.mem_of_getLast? hx)
end Go.Proofs.YtgoepemmcibdaaaDoor
/-
  A PLAIN LAW: the order of values: it turns, and it goes on.
-/
namespace Go.Proofs.YtgoepemmcibdaaaDoor
open Sy Go
set_option linter.unusedSimpArgs false
set_option linter.unusedVariables false
/-- An order on what is in 'S'. -/
structure Ord {α : Type} (p : α → α → Int) (S : α → Prop) : Prop where
  anti : ∀ x y, S x → S y → p x y = - p y x
  tr : ∀ x y z, S x → S y → S z → p x y ≤ 0 → p y z ≤ 0 → p x z ≤ 0
theorem Ord.refl {α : Type} {p : α → α → Int} {S : α → Prop} (h : Ord p S) {x : α} (hx : S x) : p x x = 0 := by have := h.anti x x hx hx; omega
theorem Ord.lt_le {α : Type} {p : α → α → Int} {S : α → Prop} (h : Ord p S) {x y z : α} (hx : S x) (hy : S y) (hz : S z) (h1 : p x y < 0) (h2 : p y z ≤ 0) : p x z < 0 := by
  have h3 := h.tr x y z hx hy hz (by omega) h2
  by_cases h4 : p x z = 0
  · have a1 := h.anti x z hx hz
    have a2 := h.anti x y hx hy
    have := h.tr y z x hy hz hx h2 (by omega)
    omega
  · omega
theorem Ord.le_lt {α : Type} {p : α → α → Int} {S : α → Prop} (h : Ord p S) {x y z : α} (hx : S x) (hy : S y) (hz : S z) (h1 : p x y ≤ 0) (h2 : p y z < 0) : p x z < 0 := by
  have h3 := h.tr x y z hx hy hz h1 (by omega)
  by_cases h4 : p x z = 0
  · have a1 := h.anti x z hx hz
    have a2 := h.anti y z hy hz
    have := h.tr z x y hz hx hy (by omega) h1
    omega
  · omega
theorem Ord.eq_eq {α : Type} {p : α → α → Int} {S : α → Prop} (h : Ord p S) {x y z : α} (hx : S x) (hy : S y) (hz : S z) (h1 : p x y = 0) (h2 : p y z = 0) : p x z = 0 := by
  have a1 := h.anti x y hx hy
  have a2 := h.anti y z hy hz
  have a3 := h.anti x z hx hz
  have := h.tr x y z hx hy hz (by omega) (by omega)
  have := h.tr z y x hz hy hx (by omega) (by omega)
  omega
/-- First by one order, then by another. -/
theorem Ord.then {α : Type} {p q : α → α → Int} {S : α → Prop} (hp : Ord p S) (hq : Ord q S) : Ord (fun x y => if p x y ≠ 0 then p x y else q x y) S := by
  refine ⟨fun x y hx hy => ?_, fun x y z hx hy hz h1 h2 => ?_⟩
  · have a1 := hp.anti x y hx hy
    have a2 := hq.anti x y hx hy
    by_cases h : p x y = 0
    · rw [if_neg (by omega), if_neg (by omega)]; exact a2
    · rw [if_pos h, if_pos (by omega)]; exact a1
  · by_cases e1 : p x y = 0
    · rw [if_neg (by omega)] at h1
      by_cases e2 : p y z = 0
      · rw [if_neg (by omega)] at h2
        rw [if_neg (by have := hp.eq_eq hx hy hz e1 e2; omega)]
        exact hq.tr x y z hx hy hz h1 h2
      · rw [if_pos e2] at h2
        have := hp.le_lt hx hy hz (by omega) (show p y z < 0 by omega)
        rw [if_pos (by omega)]; omega
    · rw [if_pos e1] at h1
      by_cases e2 : p y z = 0
      · have := hp.lt_le hx hy hz (show p x y < 0 by omega) (by omega)
        rw [if_pos (by omega)]; omega
      · rw [if_pos e2] at h2
        have := hp.lt_le hx hy hz (show p x y < 0 by omega) h2
        rw [if_pos (by omega)]; omega
theorem Ord.of_key {α : Type} {p : α → α → Int} {S : α → Prop} (k : α → Int) (h : ∀ x y, S x → S y → p x y = sgn (k x - k y)) : Ord p S := by
  refine ⟨fun x y hx hy => ?_, fun x y z hx hy hz h1 h2 => ?_⟩
  · rw [h x y hx hy, h y x hy hx]; unfold sgn; (repeat' split) <;> omega
  · rw [h x y hx hy] at h1; rw [h y z hy hz] at h2; rw [h x z hx hz]
    have e1 : k x ≤ k y := by unfold sgn at h1; split at h1; · omega
                              · split at h1 <;> omega
    have e2 : k y ≤ k z := by unfold sgn at h2; split at h2; · omega
                              · split at h2 <;> omega
    unfold sgn; split; · omega
    · split <;> omega
theorem cmpI_sgn (a b : Int) : cmpI a b = sgn (a - b) := by unfold cmpI sgn; (repeat' split) <;> omega
theorem Ord.map {α β : Type} {p : β → β → Int} {S : β → Prop} (h : Ord p S) (f : α → β) {S' : α → Prop} (hS : ∀ x, S' x → S (f x)) : Ord (fun x y => p (f x) (f y)) S' :=
  ⟨fun x y hx hy => h.anti _ _ (hS x hx) (hS y hy), fun x y z hx hy hz => h.tr _ _ _ (hS x hx) (hS y hy) (hS z hz)⟩
theorem Ord.list {α : Type} {p : α → α → Int} {S : α → Prop} (h : Ord p S) : Ord (cmpL p) (fun l => ∀ x ∈ l, S x) := by
  constructor
  · intro l
    induction l with
    | nil => intro m _ _; cases m <;> simp [cmpL]
    | cons x l ih =>
      intro m hl hm
      cases m with
      | nil => simp [cmpL]
      | cons y m =>
        simp only [cmpL]
        have a := h.anti x y (hl x (by simp)) (hm y (by simp))
        have := ih m (fun z hz => hl z (by simp [hz])) (fun z hz => hm z (by simp [hz]))
        by_cases e : p x y = 0
        · rw [if_neg (by omega), if_neg (by omega)]; exact this
        · rw [if_pos e, if_pos (by omega)]; exact a
  · intro l
    induction l with
    | nil => intro m n _ _ _ _ _; cases n <;> simp [cmpL]
    | cons x l ih =>
      intro m n hl hm hn h1 h2
      cases m with
      | nil => simp [cmpL] at h1
      | cons y m =>
        cases n with
        | nil => simp [cmpL] at h2
        | cons z n =>
          have sx := hl x (by simp); have sy := hm y (by simp); have sz := hn z (by simp)
          simp only [cmpL] at h1 h2 ⊢
          by_cases e1 : p x y = 0
          · rw [if_neg (by omega)] at h1
            by_cases e2 : p y z = 0
            · rw [if_neg (by omega)] at h2
              rw [if_neg (by have := h.eq_eq sx sy sz e1 e2; omega)]
              exact ih m n (fun w hw => hl w (by simp [hw])) (fun w hw => hm w (by simp [hw])) (fun w hw => hn w (by simp [hw])) h1 h2
            · rw [if_pos e2] at h2
              have := h.le_lt sx sy sz (by omega) (show p y z < 0 by omega)
              rw [if_pos (by omega)]; omega
          · rw [if_pos e1] at h1
            by_cases e2 : p y z = 0
            · have := h.lt_le sx sy sz (show p x y < 0 by omega) (by omega)
              rw [if_pos (by omega)]; omega
            · rw [if_pos e2] at h2
              have := h.lt_le sx sy sz (show p x y < 0 by omega) h2
              rw [if_pos (by omega)]; omega
/-- Texts by their bytes. -/
def bytesC (a b : List UInt8) : Int := cmpL (fun x y : UInt8 => cmpI x.toNat y.toNat) a b
theorem bytesC_ord : Ord bytesC (fun _ => True) :=
  let h := (Ord.of_key (p := fun x y : UInt8 => cmpI x.toNat y.toNat) (S := fun _ => True) (fun x => (x.toNat : Int)) fun x y _ _ => cmpI_sgn _ _).list
  ⟨fun x y _ _ => h.anti x y (fun _ _ => trivial) (fun _ _ => trivial), fun x y z _ _ _ => h.tr x y z (fun _ _ => trivial) (fun _ _ => trivial) (fun _ _ => trivial)⟩
theorem bytesC_cons (a b : UInt8) (al bs : List UInt8) : bytesC (a :: al) (b :: bs) = if cmpI a.toNat b.toNat ≠ 0 then cmpI a.toNat b.toNat else bytesC al bs := rfl
theorem cmpI_lt {a b : Int} (h : a < b) : cmpI a b = -1 := if_pos h
theorem cmpI_gt {a b : Int} (h : b < a) : cmpI a b = 1 := by unfold cmpI; rw [if_neg (by omega), if_pos h]
theorem cmpI_self (a : Int) : cmpI a a = 0 := by unfold cmpI; rw [if_neg (by omega), if_neg (by omega)]
theorem compareBytes_eq : ∀ a b : List UInt8, Lib.compareBytes a b = bytesC a b
  | [], [] => rfl
  | [], _ :: _ => rfl
  | _ :: _, [] => rfl
  | a :: al, b :: bs => by
    simp only [Lib.compareBytes, bytesC_cons, UInt8.lt_iff_toNat_lt]
    by_cases h1 : a.toNat < b.toNat
    · rw [if_pos h1, cmpI_lt (by omega)]; simp
    · by_cases h2 : b.toNat < a.toNat
      · rw [if_neg h1, if_pos h2, cmpI_gt (by omega)]; simp
      · rw [if_neg h1, if_neg h2, show a.toNat = b.toNat by omega, cmpI_self]; simpa using compareBytes_eq al bs
theorem cmpS_eq : ∀ a b : List UInt8, cmpS a b = bytesC a b
  | [], [] => rfl
  | [], b :: bs => by simp [cmpS, Op.bytesLess, bytesC, cmpL]
  | a :: al, [] => by simp [cmpS, Op.bytesLess, bytesC, cmpL]
  | a :: al, b :: bs => by
    have ih := cmpS_eq al bs
    rw [bytesC_cons, ← ih]
    by_cases h1 : a.toNat < b.toNat
    · rw [cmpI_lt (by omega)]; simp [cmpS, Op.bytesLess, UInt8.lt_iff_toNat_lt, h1]
    · by_cases h2 : b.toNat < a.toNat
      · have hne : a ≠ b := by rintro rfl; omega
        rw [cmpI_gt (by omega)]; simp [cmpS, Op.bytesLess, UInt8.lt_iff_toNat_lt, h1, hne]
      · have he : a = b := UInt8.toNat_inj.1 (by omega)
        subst he
        rw [cmpI_self]; simp [cmpS, Op.bytesLess]
theorem cmpS_ord : Ord cmpS (fun _ => True) := by
  rw [show cmpS = bytesC from funext fun a => funext fun b => cmpS_eq a b]; exact bytesC_ord
theorem compare_ord : Ord Lib.compareBytes (fun _ => True) := by
  rw [show Lib.compareBytes = bytesC from funext fun a => funext fun b => compareBytes_eq a b]; exact bytesC_ord
theorem cmpD_ord : Ord cmpD (fun d => dcMay d = true) := Ord.of_key qD fun x y hx hy => cmpD_spec hx hy
/-- The order of values of one kind. -/
def bodyF (f : Nat) (k : Int) (a b : Val) : Int :=
  if k = 4 then cmpD a.num b.num else if k = 5 then Lib.compareBytes a.text b.text else if k = 6 then cmpL (cmpF f) a.kids b.kids
  else if k = 8 then cmpI a.code b.code
  else if k = 7 then (if cmpL cmpS (sortK a.keys) (sortK b.keys) ≠ 0 then cmpL cmpS (sortK a.keys) (sortK b.keys) else cmpL (cmpF f) (kidsS a) (kidsS b)) else 0
theorem cmpF_succ (f : Nat) (a b : Val) : cmpF (f + 1) a b = if cmpI a.kind b.kind ≠ 0 then cmpI a.kind b.kind else bodyF f a.kind a b := by
  simp only [cmpF, bodyF]
  by_cases h : a.kind = b.kind
  · rw [if_neg (by simpa using h), h, cmpI_self]; simp
  · rw [if_pos h, if_pos (by unfold cmpI; split; · omega
                             · split <;> omega)]
theorem body_ord {f : Nat} (ih : Ord (cmpF f) (fun v => mayT v = true)) (k : Int) : Ord (bodyF f k) (fun v => mayT v = true ∧ v.kind = k) := by
  by_cases h4 : k = 4
  · have : bodyF f k = fun a b => cmpD a.num b.num := by funext a b; simp [bodyF, h4]
    rw [this]; exact cmpD_ord.map Val.num fun x hx => may_num hx.1 (by omega)
  by_cases h5 : k = 5
  · have : bodyF f k = fun a b => Lib.compareBytes a.text b.text := by funext a b; simp [bodyF, h5]
    rw [this]; exact compare_ord.map Val.text fun x hx => trivial
  by_cases h6 : k = 6
  · have : bodyF f k = fun a b => cmpL (cmpF f) a.kids b.kids := by funext a b; simp [bodyF, h6]
    rw [this]; exact ih.list.map Val.kids fun x hx y hy => may_kid hx.1 hy
  by_cases h8 : k = 8
  · have : bodyF f k = fun a b => cmpI a.code b.code := by funext a b; simp [bodyF, h8]
    rw [this]; exact Ord.of_key Val.code fun x y _ _ => cmpI_sgn _ _
  by_cases h7 : k = 7
  · have : bodyF f k = fun a b => if cmpL cmpS (sortK a.keys) (sortK b.keys) ≠ 0 then cmpL cmpS (sortK a.keys) (sortK b.keys) else cmpL (cmpF f) (kidsS a) (kidsS b) := by funext a b; simp [bodyF, h7]
    rw [this]
    refine Ord.then (p := fun a b : Val => cmpL cmpS (sortK a.keys) (sortK b.keys)) (q := fun a b => cmpL (cmpF f) (kidsS a) (kidsS b)) ?_ ?_
    · exact cmpS_ord.list.map (fun v : Val => sortK v.keys) fun x hx y hy => trivial
    · exact ih.list.map kidsS fun x hx y hy => may_kid hx.1 (kidsS_mem (by have := may_obj hx.1 (by omega); omega) hy)
  · have : bodyF f k = fun a b => 0 := by funext a b; simp [bodyF, h4, h5, h6, h7, h8]
    rw [this]; exact ⟨fun _ _ _ _ => by simp, fun _ _ _ _ _ _ _ _ => by simp⟩
theorem cmpI_zero {a b : Int} (h : cmpI a b = 0) : a = b := by unfold cmpI at h; split at h; · omega
                                                               · split at h <;> omega
theorem cmpF_ord : ∀ f, Ord (cmpF f) (fun v => mayT v = true)
  | 0 => ⟨fun _ _ _ _ => by simp [cmpF], fun _ _ _ _ _ _ _ _ => by simp [cmpF]⟩
  | f + 1 => by
    have ihb := body_ord (cmpF_ord f)
    have hk : Ord (fun a b : Val => cmpI a.kind b.kind) (fun v => mayT v = true) := Ord.of_key Val.kind fun x y _ _ => cmpI_sgn _ _
    refine ⟨fun x y hx hy => ?_, fun x y z hx hy hz h1 h2 => ?_⟩
    · rw [cmpF_succ, cmpF_succ]
      have a1 := hk.anti x y hx hy
      by_cases e : cmpI x.kind y.kind = 0
      · have he := cmpI_zero e
        rw [if_neg (by omega), if_neg (by omega), he]
        exact (ihb y.kind).anti x y ⟨hx, he⟩ ⟨hy, rfl⟩
      · rw [if_pos e, if_pos (by omega)]; exact a1
    · rw [cmpF_succ] at h1 h2 ⊢
      by_cases e1 : cmpI x.kind y.kind = 0
      · rw [if_neg (by omega)] at h1
        by_cases e2 : cmpI y.kind z.kind = 0
        · rw [if_neg (by omega)] at h2
          have := hk.eq_eq hx hy hz e1 e2
          rw [if_neg (by omega)]
          have k1 := cmpI_zero e1
          have k2 := cmpI_zero e2
          rw [← k1] at h2
          exact (ihb x.kind).tr x y z ⟨hx, rfl⟩ ⟨hy, k1.symm⟩ ⟨hz, by omega⟩ h1 h2
        · rw [if_pos e2] at h2
          have := hk.le_lt hx hy hz (by show cmpI x.kind y.kind ≤ 0; omega) (show cmpI y.kind z.kind < 0 by omega)
          rw [if_pos (by omega)]; omega
      · rw [if_pos e1] at h1
        have e3 : cmpI y.kind z.kind ≤ 0 := by
          by_cases e2 : cmpI y.kind z.kind = 0
          · omega
          · rw [if_pos e2] at h2; exact h2
        have := hk.lt_le hx hy hz (show cmpI x.kind y.kind < 0 by omega) e3
        rw [if_pos (by omega)]; omega
end Go.Proofs.YtgoepemmcibdaaaDoor
/-
  A PLAIN LAW: the order of values: how deep it looks does not matter, nor masks.
-/
namespace Go.Proofs.YtgoepemmcibdaaaDoor
open Sy Go
set_option linter.unusedSimpArgs false
set_option linter.unusedVariables false
theorem cmpL_congr {α : Type} {p q : α → α → Int} : ∀ {l m : List α}, (∀ x ∈ l, ∀ y ∈ m, p x y = q x y) → cmpL p l m = cmpL q l m
  | [], [], _ => rfl
  | [], _ :: _, _ => rfl
  | _ :: _, [], _ => rfl
  | x :: l, y :: m, h => by
    simp only [cmpL]
    rw [h x (by simp) y (by simp), cmpL_congr (fun a ha b hb => h a (by simp [ha]) b (by simp [hb]))]
theorem cmpL_map {α β : Type} {p : β → β → Int} (g : α → β) : ∀ {l m : List α}, cmpL p (l.map g) (m.map g) = cmpL (fun x y => p (g x) (g y)) l m
  | [], [] => rfl
  | [], _ :: _ => rfl
  | _ :: _, [] => rfl
  | x :: l, y :: m => by simp only [List.map_cons, cmpL, cmpL_map g]
theorem cmpF_fuel : ∀ (f g : Nat) (a b : Val), mayT a = true → mayT b = true → Val.sz a < f → Val.sz a < g → cmpF f a b = cmpF g a b
  | 0, _, a, _, _, _, h, _ => by omega
  | _ + 1, 0, a, _, _, _, _, h => by omega
  | f + 1, g + 1, a, b, ha, hb, hf, hg => by
    have key : ∀ l m : List Val, (∀ x ∈ l, x ∈ a.kids) → (∀ y ∈ m, y ∈ b.kids) → cmpL (cmpF f) l m = cmpL (cmpF g) l m := fun l m hl hm => cmpL_congr fun x hx y hy => by
      have := Val.sz_kid (hl x hx)
      exact cmpF_fuel f g x y (may_kid ha (hl x hx)) (may_kid hb (hm y hy)) (by omega) (by omega)
    rw [cmpF_succ, cmpF_succ]
    by_cases hk : cmpI a.kind b.kind = 0
    · rw [if_neg (by omega), if_neg (by omega)]
      have hkk := cmpI_zero hk
      unfold bodyF
      rw [key a.kids b.kids (fun _ h => h) (fun _ h => h)]
      by_cases h7 : a.kind = 7
      · rw [key (kidsS a) (kidsS b) (fun x hx => kidsS_mem (by have := may_obj ha h7; omega) hx) (fun y hy => kidsS_mem (by have := may_obj hb (by omega); omega) hy)]
      · by_cases h4 : a.kind = 4
        · simp [h4]
        by_cases h5 : a.kind = 5
        · simp [h5]
        by_cases h6 : a.kind = 6
        · simp [h6]
        by_cases h8 : a.kind = 8
        · simp [h8]
        simp [h4, h5, h6, h7, h8]
    · rw [if_pos hk, if_pos hk]
theorem cmpT_fuel {a b : Val} (ha : mayT a = true) (hb : mayT b = true) {n : Nat} (h : Val.sz a < n) : cmpT a b = cmpF n a b := cmpF_fuel _ _ a b ha hb (by omega) h
theorem cmpT_ord : Ord cmpT (fun v => mayT v = true) := by
  refine ⟨fun x y hx hy => ?_, fun x y z hx hy hz h1 h2 => ?_⟩
  · rw [cmpT_fuel (n := Val.sz x + Val.sz y + 1) hx hy (by omega), cmpT_fuel (n := Val.sz x + Val.sz y + 1) hy hx (by omega)]
    exact (cmpF_ord _).anti x y hx hy
  · rw [cmpT_fuel (n := Val.sz x + Val.sz y + 1) hx hy (by omega)] at h1
    rw [cmpT_fuel (n := Val.sz x + Val.sz y + 1) hy hz (by omega)] at h2
    rw [cmpT_fuel (n := Val.sz x + Val.sz y + 1) hx hz (by omega)]
    exact (cmpF_ord _).tr x y z hx hy hz h1 h2
/-! ### Masks -/
theorem bareV_eq (v : Val) : bareV v = .mk v.kind 0 v.num v.text v.keys (v.kids.map bareV) v.code := by
  unfold bareV; rw [mapV_eq]; rfl
theorem bare_null : bareV nullV = nullV := by rw [bareV_eq]; rfl
theorem kidOf_bare (v : Val) (s : List UInt8) : kidOf (bareV v) s = bareV (kidOf v s) := by
  unfold kidOf
  rw [bareV_eq v]
  simp only [Val.kids_mk, Val.keys_mk, List.getD_eq_getElem?_getD, List.getElem?_map]
  cases v.kids[v.keys.idxOf s]? with
  | none => simp [bare_null]
  | some x => rfl
theorem kidsS_bare (v : Val) : kidsS (bareV v) = (kidsS v).map bareV := by
  have : (bareV v).keys = v.keys := by rw [bareV_eq]; rfl
  unfold kidsS
  rw [this, List.map_map]
  exact List.map_congr_left fun s _ => kidOf_bare v s
theorem cmpF_bare : ∀ (f : Nat) (a b : Val), cmpF f (bareV a) (bareV b) = cmpF f a b
  | 0, _, _ => rfl
  | f + 1, a, b => by
    have hl : ∀ l m : List Val, cmpL (cmpF f) (l.map bareV) (m.map bareV) = cmpL (cmpF f) l m := fun l m => by
      rw [cmpL_map]; exact cmpL_congr fun x _ y _ => cmpF_bare f x y
    have e : ∀ v : Val, (bareV v).kind = v.kind ∧ (bareV v).num = v.num ∧ (bareV v).text = v.text ∧ (bareV v).keys = v.keys ∧ (bareV v).kids = v.kids.map bareV ∧ (bareV v).code = v.code := fun v => by
      rw [bareV_eq]; exact ⟨rfl, rfl, rfl, rfl, rfl, rfl⟩
    obtain ⟨a1, a2, a3, a4, a5, a6⟩ := e a
    obtain ⟨b1, b2, b3, b4, b5, b6⟩ := e b
    simp only [cmpF, a1, a2, a3, a4, a5, a6, b1, b2, b3, b4, b5, b6, kidsS_bare, hl]
theorem bare_bare (v : Val) : bareV (bareV v) = bareV v := by
  refine Val.induct (p := fun v => bareV (bareV v) = bareV v) (fun v ih => ?_) v
  rw [bareV_eq (bareV v), bareV_eq v]
  simp only [Val.kind_mk, Val.num_mk, Val.text_mk, Val.keys_mk, Val.kids_mk, Val.code_mk, List.map_map]
  congr 1
  exact List.map_congr_left fun k hk => ih k hk
theorem cmpF_bare1 (f : Nat) (a b : Val) : cmpF f (bareV a) b = cmpF f a b := by
  rw [← cmpF_bare f (bareV a) b, bare_bare, cmpF_bare]
theorem bare_sz (v : Val) : Val.sz (bareV v) = Val.sz v := by
  have hsz : ∀ l : List Val, Val.szL l = (l.map Val.sz).sum := by
    intro l; induction l with
    | nil => simp [Val.szL]
    | cons x l ih => simp [Val.szL, ih]
  refine Val.induct (p := fun v => Val.sz (bareV v) = Val.sz v) (fun v ih => ?_) v
  rw [bareV_eq]
  cases v with
  | mk k m n t ks vs c =>
    simp only [Val.sz, hsz, Val.kids_mk, List.map_map] at ih ⊢
    congr 2
    exact List.map_congr_left fun x hx => ih x hx
theorem bare_may (v : Val) : mayT (bareV v) = mayT v := by
  refine Val.induct (p := fun v => mayT (bareV v) = mayT v) (fun v ih => ?_) v
  have e : mayT (bareV v) = (boundsT v && partsT v && (v.kids.map bareV).all mayT) := by
    have h0 : boundsT (bareV v) = boundsT v := by rw [bareV_eq]; simp [boundsT]
    have h1 : codeT (bareV v) = codeT v := by rw [bareV_eq]; rfl
    have h2 : numT (bareV v) = numT v := by rw [bareV_eq]; rfl
    have h3 : textT (bareV v) = textT v := by rw [bareV_eq]; rfl
    have h4 : namedT (bareV v) = namedT v := by
      rw [bareV_eq]
      show (if v.kind = 7 then decide ((v.keys.length : Int) = ((v.kids.map bareV).length : Int)) && keysT v.keys else decide (v.keys = [])) = namedT v
      rw [List.length_map]; rfl
    have h5 : kidsT (bareV v) = kidsT v := by
      rw [bareV_eq]
      show (decide (v.kids.map bareV = []) || decide (v.kind = 6) || decide (v.kind = 7)) = kidsT v
      rw [kidsT, show decide (v.kids.map bareV = []) = decide (v.kids = []) by simp]
    have h6 : (bareV v).kids = v.kids.map bareV := by rw [bareV_eq]; rfl
    rw [mayT_eq, h0, h6, partsT, h1, h2, h3, h4, h5]; rfl
  rw [e, mayT_eq]
  congr 1
  rw [List.all_map]
  rw [Bool.eq_iff_iff, List.all_eq_true, List.all_eq_true]
  exact ⟨fun h k hk => by rw [← ih k hk]; exact h k hk, fun h k hk => by simp only [Function.comp]; rw [ih k hk]; exact h k hk⟩
end Go.Proofs.YtgoepemmcibdaaaDoor
namespace Go.Proofs.YtgoepemmcibdaaaDoor
open Sy Go
set_option maxRecDepth 100000
set_option maxHeartbeats 4000000
set_option linter.unusedSimpArgs false
set_option linter.unusedVariables false
variable {G : Glob}
theorem notMay {v : Val} (h : boundsT v = false ∨ partsT v = false ∨ ∃ k ∈ v.kids, mayT k = false) : mayT v = false := by
  rw [mayT_eq]
  rcases h with h | h | ⟨k, hk, h⟩
  · rw [h]; rfl
  · rw [h]; simp
  · rw [List.all_eq_false.2 ⟨k, hk, by simp [h]⟩]; simp

theorem refMayT_step (v : Val) (ih : ∀ k ∈ v.kids, AFn Tryd.prog G 9 [k.enc] (.bool (mayT k))) : AFn Tryd.prog G 9 [v.enc] (.bool (mayT v)) := by
  refine AFn.introU tok Tryd.func9 (by kernel_rfl) rfl rfl ?_
  simp only [Tryd.f9, enumA, List.map_cons, List.map_nil]
  have hd := refDcMay_ev (G := G) v.num
  have hw := refText_ev (G := G) v.text
  have hk := refKeys_ev (G := G) v.keys
  refine AW.seqRegionO [] ?_
  refine AOpsO.one tok [1] (by intro C; conv => lhs; simp) (by first | with_reducible exact True.intro | omega | simp | (simp; omega) | (simp +contextual; omega)) rfl ?_
  refine AOpsO.one tok [1] (by intro C; conv => lhs; simp) (by first | with_reducible exact True.intro | omega | simp | (simp; omega) | (simp +contextual; omega)) rfl ?_
  refine AOpsO.nil ?_
  refine AW.seq ?_
  refine AW.seqRegionO [] ?_
  refine AOpsO.one tok [1, 9] (by intro C; conv => lhs; simp) (by first | with_reducible exact True.intro | omega | simp | (simp; omega) | (simp +contextual; omega)) rfl ?_
  refine AOpsO.one tok [1, 10] (by intro C; conv => lhs; simp) (by first | with_reducible exact True.intro | omega | simp | (simp; omega) | (simp +contextual; omega)) rfl ?_
  refine AOpsO.one tok [1, 11] (by intro C; conv => lhs; simp) (by first | with_reducible exact True.intro | omega | simp | (simp; omega) | (simp +contextual; omega)) rfl ?_
  refine AOpsO.one tok [1, 12] (by intro C; conv => lhs; simp) (by first | with_reducible exact True.intro | omega | simp | (simp; omega) | (simp +contextual; omega)) rfl ?_
  refine AOpsO.oneIf tok [1, 12, 13] 12 (by intro C; conv => lhs; simp) (by first | with_reducible exact True.intro | omega | simp | (simp; omega) | (simp +contextual; omega)) rfl rfl ?_
  refine AOpsO.oneIf tok [1, 12, 14] 12 (by intro C; conv => lhs; simp) (by first | with_reducible exact True.intro | omega | simp | (simp; omega) | (simp +contextual; omega)) rfl rfl ?_
  refine AOpsO.oneIf tok [1, 12, 15] 12 (by intro C; conv => lhs; simp) (by first | with_reducible exact True.intro | omega | simp | (simp; omega) | (simp +contextual; omega)) rfl rfl ?_
  refine AOpsO.one tok [1, 16] (by intro C; conv => lhs; simp) (by first | with_reducible exact True.intro | omega | simp | (simp; omega) | (simp +contextual; omega)) rfl ?_
  refine AOpsO.one tok [1, 17] (by intro C; conv => lhs; simp) (by first | with_reducible exact True.intro | omega | simp | (simp; omega) | (simp +contextual; omega)) rfl ?_
  refine AOpsO.oneIf tok [1, 17, 18] 17 (by intro C; conv => lhs; simp) (by first | with_reducible exact True.intro | omega | simp | (simp; omega) | (simp +contextual; omega)) rfl rfl ?_
  refine AOpsO.oneIf tok [1, 17, 19] 17 (by intro C; conv => lhs; simp) (by first | with_reducible exact True.intro | omega | simp | (simp; omega) | (simp +contextual; omega)) rfl rfl ?_
  refine AOpsO.oneIf tok [1, 17, 20] 17 (by intro C; conv => lhs; simp) (by first | with_reducible exact True.intro | omega | simp | (simp; omega) | (simp +contextual; omega)) rfl rfl ?_
  refine AOpsO.oneIf tok [1, 17, 21] 17 (by intro C; conv => lhs; simp) (by first | with_reducible exact True.intro | omega | simp | (simp; omega) | (simp +contextual; omega)) rfl rfl ?_
  refine AOpsO.one tok [1, 22] (by intro C; conv => lhs; simp) (by first | with_reducible exact True.intro | omega | simp | (simp; omega) | (simp +contextual; omega)) rfl ?_
  refine AOpsO.nil ?_
  refine AW.cond (c := .tmp 22) (by conv => lhs; simp) trivial ?_ ?_
  · intro h22
    try simp at h22
    have hno : mayT v = false := notMay (.inl (by simp [boundsT]; omega))
    refine AW.seqRegionO [] ?_
    refine AOpsO.one tok [2] (by intro C; conv => lhs; simp) (by first | with_reducible exact True.intro | omega | simp | (simp; omega) | (simp +contextual; omega)) rfl ?_
    refine AOpsO.nil ?_
    exact AW.ret ⟨.inr rfl, _, _, by (conv => lhs; simp), trivial, by simp [hno]⟩
  · intro h22
    try simp at h22
    have hb : boundsT v = true := by simp [boundsT]; omega
    refine AW.skip ?_
    refine AW.seqRegionO [] ?_
    refine AOpsO.one tok [1, 23] (by intro C; conv => lhs; simp) (by first | with_reducible exact True.intro | omega | simp | (simp; omega) | (simp +contextual; omega)) rfl ?_
    refine AOpsO.one tok [1, 24] (by intro C; conv => lhs; simp) (by first | with_reducible exact True.intro | omega | simp | (simp; omega) | (simp +contextual; omega)) rfl ?_
    refine AOpsO.one tok [1, 24, 25] (by intro C; conv => lhs; simp) (by first | with_reducible exact True.intro | omega | simp | (simp; omega) | (simp +contextual; omega)) rfl ?_
    refine AOpsO.one tok [1, 26] (by intro C; conv => lhs; simp) (by first | with_reducible exact True.intro | omega | simp | (simp; omega) | (simp +contextual; omega)) rfl ?_
    refine AOpsO.one tok [1, 3] (by intro C; conv => lhs; simp) (by first | with_reducible exact True.intro | omega | simp | (simp; omega) | (simp +contextual; omega)) rfl ?_
    refine AOpsO.nil ?_
    refine AW.join (α := Unit) (fun _ => True) (fun a => ⟨upds 113 [(1, .ptr 1 0), (3, .p (.bool (numT v)))], [], [(1, .vars 33 v.cells)], 0⟩) ?_ ?_
    ·
      refine AW.seqRegionO [] ?_
      refine AOpsO.one tok [1, 3, 27] (by intro C; conv => lhs; simp) (by first | with_reducible exact True.intro | omega | simp | (simp; omega) | (simp +contextual; omega)) rfl ?_
      refine AOpsO.one tok [1, 3, 28] (by intro C; conv => lhs; simp) (by first | with_reducible exact True.intro | omega | simp | (simp; omega) | (simp +contextual; omega)) rfl ?_
      refine AOpsO.one tok [1, 3, 29] (by intro C; conv => lhs; simp) (by first | with_reducible exact True.intro | omega | simp | (simp; omega) | (simp +contextual; omega)) rfl ?_
      refine AOpsO.nil ?_
      refine AW.cond (c := .tmp 29) (by conv => lhs; simp) trivial ?_ ?_
      · intro h29
        try simp at h29
        refine AW.regionO [.nilp, .bool (dcMay v.num)] ?_
        refine AOpsO.one tok [1, 30] (by intro C; conv => lhs; simp) (by first | with_reducible exact True.intro | (((repeat' (first | with_reducible apply And.intro | intro _)) <;> first | exact (hd) | assumption | omega | contradiction | simp_all); done) | omega | simp | (simp; omega) | (simp +contextual; omega)) rfl ?_
        refine AOpsO.one tok [1, 31] (by intro C; conv => lhs; simp) (by first | with_reducible exact True.intro | (((repeat' (first | with_reducible apply And.intro | intro _)) <;> first | exact (hd) | assumption | omega | contradiction | simp_all); done) | omega | simp | (simp; omega) | (simp +contextual; omega)) rfl ?_
        refine AOpsO.one tok [1, 32] (by intro C; conv => lhs; simp) (by first | with_reducible exact True.intro | (((repeat' (first | with_reducible apply And.intro | intro _)) <;> first | exact (hd) | assumption | omega | contradiction | simp_all); done) | omega | simp | (simp; omega) | (simp +contextual; omega)) rfl ?_
        refine AOpsO.one tok [1, 3] (by intro C; conv => lhs; simp) (by first | with_reducible exact True.intro | (((repeat' (first | with_reducible apply And.intro | intro _)) <;> first | exact (hd) | assumption | omega | contradiction | simp_all); done) | omega | simp | (simp; omega) | (simp +contextual; omega)) rfl ?_
        refine AOpsO.nil ?_
        exact ⟨(), trivial, upds_le (by simp [numT, h29]), rfl, by simp [numT, h29], by simp [numT, h29]⟩
      · intro h29
        try simp at h29
        refine AW.skip ?_
        exact ⟨(), trivial, upds_le (by simp [numT, h29]), rfl, by simp [numT, h29], by simp [numT, h29]⟩
    ·
      rintro a hI
      refine AW.seqRegionO [] ?_
      refine AOpsO.one tok [1, 3, 33] (by intro C; conv => lhs; simp) (by first | with_reducible exact True.intro | omega | simp | (simp; omega) | (simp +contextual; omega)) rfl ?_
      refine AOpsO.one tok [1, 3, 34] (by intro C; conv => lhs; simp) (by first | with_reducible exact True.intro | omega | simp | (simp; omega) | (simp +contextual; omega)) rfl ?_
      refine AOpsO.one tok [1, 3, 35] (by intro C; conv => lhs; simp) (by first | with_reducible exact True.intro | omega | simp | (simp; omega) | (simp +contextual; omega)) rfl ?_
      refine AOpsO.one tok [1, 3, 4] (by intro C; conv => lhs; simp) (by first | with_reducible exact True.intro | omega | simp | (simp; omega) | (simp +contextual; omega)) rfl ?_
      refine AOpsO.nil ?_
      refine AW.join (α := Unit) (fun _ => True) (fun a => ⟨upds 113 [(1, .ptr 1 0), (3, .p (.bool (numT v))), (4, .p (.bool (textT v)))], [], [(1, .vars 33 v.cells)], 0⟩) ?_ ?_
      ·
        refine AW.seqRegionO [] ?_
        refine AOpsO.one tok [1, 3, 4, 36] (by intro C; conv => lhs; simp) (by first | with_reducible exact True.intro | omega | simp | (simp; omega) | (simp +contextual; omega)) rfl ?_
        refine AOpsO.one tok [1, 3, 4, 37] (by intro C; conv => lhs; simp) (by first | with_reducible exact True.intro | omega | simp | (simp; omega) | (simp +contextual; omega)) rfl ?_
        refine AOpsO.one tok [1, 3, 4, 38] (by intro C; conv => lhs; simp) (by first | with_reducible exact True.intro | omega | simp | (simp; omega) | (simp +contextual; omega)) rfl ?_
        refine AOpsO.nil ?_
        refine AW.cond (c := .tmp 38) (by conv => lhs; simp) trivial ?_ ?_
        · intro h38
          try simp at h38
          refine AW.regionO [.nilp, .bool (wordT v.text)] ?_
          refine AOpsO.one tok [1, 3, 39] (by intro C; conv => lhs; simp) (by first | with_reducible exact True.intro | (((repeat' (first | with_reducible apply And.intro | intro _)) <;> first | exact (hw) | assumption | omega | contradiction | simp_all); done) | omega | simp | (simp; omega) | (simp +contextual; omega)) rfl ?_
          refine AOpsO.one tok [1, 3, 40] (by intro C; conv => lhs; simp) (by first | with_reducible exact True.intro | (((repeat' (first | with_reducible apply And.intro | intro _)) <;> first | exact (hw) | assumption | omega | contradiction | simp_all); done) | omega | simp | (simp; omega) | (simp +contextual; omega)) rfl ?_
          refine AOpsO.one tok [1, 3, 41] (by intro C; conv => lhs; simp) (by first | with_reducible exact True.intro | (((repeat' (first | with_reducible apply And.intro | intro _)) <;> first | exact (hw) | assumption | omega | contradiction | simp_all); done) | omega | simp | (simp; omega) | (simp +contextual; omega)) rfl ?_
          refine AOpsO.one tok [1, 3, 4] (by intro C; conv => lhs; simp) (by first | with_reducible exact True.intro | (((repeat' (first | with_reducible apply And.intro | intro _)) <;> first | exact (hw) | assumption | omega | contradiction | simp_all); done) | omega | simp | (simp; omega) | (simp +contextual; omega)) rfl ?_
          refine AOpsO.nil ?_
          exact ⟨(), trivial, upds_le (by simp [textT, h38]), rfl, by simp [textT, h38], by simp [textT, h38]⟩
        · intro h38
          try simp at h38
          refine AW.skip ?_
          exact ⟨(), trivial, upds_le (by simp [textT, h38]), rfl, by simp [textT, h38], by simp [textT, h38]⟩
      ·
        rintro a hI
        refine AW.seqRegionO [] ?_
        refine AOpsO.one tok [1, 3, 4, 42] (by intro C; conv => lhs; simp) (by first | with_reducible exact True.intro | omega | simp | (simp; omega) | (simp +contextual; omega)) rfl ?_
        refine AOpsO.one tok [1, 3, 4, 43] (by intro C; conv => lhs; simp) (by first | with_reducible exact True.intro | omega | simp | (simp; omega) | (simp +contextual; omega)) rfl ?_
        refine AOpsO.one tok [1, 3, 4, 44] (by intro C; conv => lhs; simp) (by first | with_reducible exact True.intro | omega | simp | (simp; omega) | (simp +contextual; omega)) rfl ?_
        refine AOpsO.one tok [1, 3, 4, 45] (by intro C; conv => lhs; simp) (by first | with_reducible exact True.intro | omega | simp | (simp; omega) | (simp +contextual; omega)) rfl ?_
        refine AOpsO.one tok [1, 3, 4, 5] (by intro C; conv => lhs; simp) (by first | with_reducible exact True.intro | omega | simp | (simp; omega) | (simp +contextual; omega)) rfl ?_
        refine AOpsO.nil ?_
        refine AW.join (α := Unit) (fun _ => True) (fun a => ⟨upds 113 [(1, .ptr 1 0), (3, .p (.bool (numT v))), (4, .p (.bool (textT v))), (5, .p (.bool (namedT v)))], [], [(1, .vars 33 v.cells)], 0⟩) ?_ ?_
        ·
          refine AW.seqRegionO [] ?_
          refine AOpsO.one tok [1, 3, 4, 5, 46] (by intro C; conv => lhs; simp) (by first | with_reducible exact True.intro | omega | simp | (simp; omega) | (simp +contextual; omega)) rfl ?_
          refine AOpsO.one tok [1, 3, 4, 5, 47] (by intro C; conv => lhs; simp) (by first | with_reducible exact True.intro | omega | simp | (simp; omega) | (simp +contextual; omega)) rfl ?_
          refine AOpsO.one tok [1, 3, 4, 5, 48] (by intro C; conv => lhs; simp) (by first | with_reducible exact True.intro | omega | simp | (simp; omega) | (simp +contextual; omega)) rfl ?_
          refine AOpsO.nil ?_
          refine AW.cond (c := .tmp 48) (by conv => lhs; simp) trivial ?_ ?_
          · intro h48
            try simp at h48
            refine AW.regionO [.nilp, .bool (keysT v.keys)] ?_
            refine AOpsO.one tok [1, 3, 4, 49] (by intro C; conv => lhs; simp) (by first | with_reducible exact True.intro | (((repeat' (first | with_reducible apply And.intro | intro _)) <;> first | exact (hk) | assumption | omega | contradiction | simp_all); done) | omega | simp | (simp; omega) | (simp +contextual; omega)) rfl ?_
            refine AOpsO.one tok [1, 3, 4, 50] (by intro C; conv => lhs; simp) (by first | with_reducible exact True.intro | (((repeat' (first | with_reducible apply And.intro | intro _)) <;> first | exact (hk) | assumption | omega | contradiction | simp_all); done) | omega | simp | (simp; omega) | (simp +contextual; omega)) rfl ?_
            refine AOpsO.one tok [1, 3, 4, 51] (by intro C; conv => lhs; simp) (by first | with_reducible exact True.intro | (((repeat' (first | with_reducible apply And.intro | intro _)) <;> first | exact (hk) | assumption | omega | contradiction | simp_all); done) | omega | simp | (simp; omega) | (simp +contextual; omega)) rfl ?_
            refine AOpsO.one tok [1, 3, 4, 51, 52] (by intro C; conv => lhs; simp) (by first | with_reducible exact True.intro | (((repeat' (first | with_reducible apply And.intro | intro _)) <;> first | exact (hk) | assumption | omega | contradiction | simp_all); done) | omega | simp | (simp; omega) | (simp +contextual; omega)) rfl ?_
            refine AOpsO.one tok [1, 3, 4, 51, 53] (by intro C; conv => lhs; simp) (by first | with_reducible exact True.intro | (((repeat' (first | with_reducible apply And.intro | intro _)) <;> first | exact (hk) | assumption | omega | contradiction | simp_all); done) | omega | simp | (simp; omega) | (simp +contextual; omega)) rfl ?_
            refine AOpsO.one tok [1, 3, 4, 51, 54] (by intro C; conv => lhs; simp) (by first | with_reducible exact True.intro | (((repeat' (first | with_reducible apply And.intro | intro _)) <;> first | exact (hk) | assumption | omega | contradiction | simp_all); done) | omega | simp | (simp; omega) | (simp +contextual; omega)) rfl ?_
            refine AOpsO.one tok [1, 3, 4, 55] (by intro C; conv => lhs; simp) (by first | with_reducible exact True.intro | (((repeat' (first | with_reducible apply And.intro | intro _)) <;> first | exact (hk) | assumption | omega | contradiction | simp_all); done) | omega | simp | (simp; omega) | (simp +contextual; omega)) rfl ?_
            refine AOpsO.one tok [1, 3, 4, 56] (by intro C; conv => lhs; simp) (by first | with_reducible exact True.intro | (((repeat' (first | with_reducible apply And.intro | intro _)) <;> first | exact (hk) | assumption | omega | contradiction | simp_all); done) | omega | simp | (simp; omega) | (simp +contextual; omega)) rfl ?_
            refine AOpsO.oneIf tok [1, 3, 4, 56, 57] 56 (by intro C; conv => lhs; simp) (by first | with_reducible exact True.intro | (((repeat' (first | with_reducible apply And.intro | intro _)) <;> first | exact (hk) | assumption | omega | contradiction | simp_all); done) | omega | simp | (simp; omega) | (simp +contextual; omega)) rfl rfl ?_
            refine AOpsO.oneIf tok [1, 3, 4, 56, 58] 56 (by intro C; conv => lhs; simp) (by first | with_reducible exact True.intro | (((repeat' (first | with_reducible apply And.intro | intro _)) <;> first | exact (hk) | assumption | omega | contradiction | simp_all); done) | omega | simp | (simp; omega) | (simp +contextual; omega)) rfl rfl ?_
            refine AOpsO.oneIf tok [1, 3, 4, 56, 59] 56 (by intro C; conv => lhs; simp) (by first | with_reducible exact True.intro | (((repeat' (first | with_reducible apply And.intro | intro _)) <;> first | exact (hk) | assumption | omega | contradiction | simp_all); done) | omega | simp | (simp; omega) | (simp +contextual; omega)) rfl rfl ?_
            refine AOpsO.one tok [1, 3, 4, 60] (by intro C; conv => lhs; simp) (by first | with_reducible exact True.intro | (((repeat' (first | with_reducible apply And.intro | intro _)) <;> first | exact (hk) | assumption | omega | contradiction | simp_all); done) | omega | simp | (simp; omega) | (simp +contextual; omega)) rfl ?_
            refine AOpsO.one tok [1, 3, 4, 5] (by intro C; conv => lhs; simp) (by first | with_reducible exact True.intro | (((repeat' (first | with_reducible apply And.intro | intro _)) <;> first | exact (hk) | assumption | omega | contradiction | simp_all); done) | omega | simp | (simp; omega) | (simp +contextual; omega)) rfl ?_
            refine AOpsO.nil ?_
            exact ⟨(), trivial, upds_le (by simp [namedT, h48]), rfl, by simp [namedT, h48], by simp [namedT, h48]⟩
          · intro h48
            try simp at h48
            refine AW.skip ?_
            exact ⟨(), trivial, upds_le (by simp [namedT, h48, len0]), rfl, by simp [namedT, h48, len0], by simp [namedT, h48, len0]⟩
        ·
          rintro a hI
          refine AW.seqRegionO [] ?_
          refine AOpsO.one tok [1, 3, 4, 5, 61] (by intro C; conv => lhs; simp) (by first | with_reducible exact True.intro | omega | simp | (simp; omega) | (simp +contextual; omega)) rfl ?_
          refine AOpsO.one tok [1, 3, 4, 5, 62] (by intro C; conv => lhs; simp) (by first | with_reducible exact True.intro | omega | simp | (simp; omega) | (simp +contextual; omega)) rfl ?_
          refine AOpsO.one tok [1, 3, 4, 5, 63] (by intro C; conv => lhs; simp) (by first | with_reducible exact True.intro | omega | simp | (simp; omega) | (simp +contextual; omega)) rfl ?_
          refine AOpsO.one tok [1, 3, 4, 5, 64] (by intro C; conv => lhs; simp) (by first | with_reducible exact True.intro | omega | simp | (simp; omega) | (simp +contextual; omega)) rfl ?_
          refine AOpsO.one tok [1, 3, 4, 5, 65] (by intro C; conv => lhs; simp) (by first | with_reducible exact True.intro | omega | simp | (simp; omega) | (simp +contextual; omega)) rfl ?_
          refine AOpsO.oneIf tok [1, 3, 4, 5, 65, 66] 65 (by intro C; conv => lhs; simp) (by first | with_reducible exact True.intro | omega | simp | (simp; omega) | (simp +contextual; omega)) rfl rfl ?_
          refine AOpsO.oneIf tok [1, 3, 4, 5, 65, 67] 65 (by intro C; conv => lhs; simp) (by first | with_reducible exact True.intro | omega | simp | (simp; omega) | (simp +contextual; omega)) rfl rfl ?_
          refine AOpsO.oneIf tok [1, 3, 4, 5, 65, 68] 65 (by intro C; conv => lhs; simp) (by first | with_reducible exact True.intro | omega | simp | (simp; omega) | (simp +contextual; omega)) rfl rfl ?_
          refine AOpsO.one tok [1, 3, 4, 5, 69] (by intro C; conv => lhs; simp) (by first | with_reducible exact True.intro | omega | simp | (simp; omega) | (simp +contextual; omega)) rfl ?_
          refine AOpsO.one tok [1, 3, 4, 5, 70] (by intro C; conv => lhs; simp) (by first | with_reducible exact True.intro | omega | simp | (simp; omega) | (simp +contextual; omega)) rfl ?_
          refine AOpsO.oneIf tok [1, 3, 4, 5, 70, 71] 70 (by intro C; conv => lhs; simp) (by first | with_reducible exact True.intro | omega | simp | (simp; omega) | (simp +contextual; omega)) rfl rfl ?_
          refine AOpsO.oneIf tok [1, 3, 4, 5, 70, 72] 70 (by intro C; conv => lhs; simp) (by first | with_reducible exact True.intro | omega | simp | (simp; omega) | (simp +contextual; omega)) rfl rfl ?_
          refine AOpsO.oneIf tok [1, 3, 4, 5, 70, 73] 70 (by intro C; conv => lhs; simp) (by first | with_reducible exact True.intro | omega | simp | (simp; omega) | (simp +contextual; omega)) rfl rfl ?_
          refine AOpsO.one tok [1, 3, 4, 5, 74] (by intro C; conv => lhs; simp) (by first | with_reducible exact True.intro | omega | simp | (simp; omega) | (simp +contextual; omega)) rfl ?_
          refine AOpsO.one tok [1, 3, 4, 5, 6] (by intro C; conv => lhs; simp) (by first | with_reducible exact True.intro | omega | simp | (simp; omega) | (simp +contextual; omega)) rfl ?_
          refine AOpsO.nil ?_
          refine AW.seq ?_
          refine AW.seqRegionO [] ?_
          refine AOpsO.one tok [1, 4, 5, 6, 75] (by intro C; conv => lhs; simp) (by first | with_reducible exact True.intro | (grind; done) | omega | simp | (simp; omega) | (simp +contextual; omega)) rfl ?_
          refine AOpsO.one tok [1, 4, 5, 6, 76] (by intro C; conv => lhs; simp) (by first | with_reducible exact True.intro | (grind; done) | omega | simp | (simp; omega) | (simp +contextual; omega)) rfl ?_
          refine AOpsO.one tok [1, 4, 5, 6, 77] (by intro C; conv => lhs; simp) (by first | with_reducible exact True.intro | (grind; done) | omega | simp | (simp; omega) | (simp +contextual; omega)) rfl ?_
          refine AOpsO.oneIf tok [1, 5, 6, 77, 78] 77 (by intro C; conv => lhs; simp) (by first | with_reducible exact True.intro | (grind; done) | omega | simp | (simp; omega) | (simp +contextual; omega)) rfl rfl ?_
          refine AOpsO.oneIf tok [1, 5, 6, 77, 79] 77 (by intro C; conv => lhs; simp) (by first | with_reducible exact True.intro | (grind; done) | omega | simp | (simp; omega) | (simp +contextual; omega)) rfl rfl ?_
          refine AOpsO.one tok [1, 5, 6, 80] (by intro C; conv => lhs; simp) (by first | with_reducible exact True.intro | (grind; done) | omega | simp | (simp; omega) | (simp +contextual; omega)) rfl ?_
          refine AOpsO.one tok [1, 5, 6, 81] (by intro C; conv => lhs; simp) (by first | with_reducible exact True.intro | (grind; done) | omega | simp | (simp; omega) | (simp +contextual; omega)) rfl ?_
          refine AOpsO.oneIf tok [1, 6, 81, 82] 81 (by intro C; conv => lhs; simp) (by first | with_reducible exact True.intro | (grind; done) | omega | simp | (simp; omega) | (simp +contextual; omega)) rfl rfl ?_
          refine AOpsO.oneIf tok [1, 6, 81, 83] 81 (by intro C; conv => lhs; simp) (by first | with_reducible exact True.intro | (grind; done) | omega | simp | (simp; omega) | (simp +contextual; omega)) rfl rfl ?_
          refine AOpsO.one tok [1, 6, 84] (by intro C; conv => lhs; simp) (by first | with_reducible exact True.intro | (grind; done) | omega | simp | (simp; omega) | (simp +contextual; omega)) rfl ?_
          refine AOpsO.one tok [1, 6, 85] (by intro C; conv => lhs; simp) (by first | with_reducible exact True.intro | (grind; done) | omega | simp | (simp; omega) | (simp +contextual; omega)) rfl ?_
          refine AOpsO.oneIf tok [1, 85, 86] 85 (by intro C; conv => lhs; simp) (by first | with_reducible exact True.intro | (grind; done) | omega | simp | (simp; omega) | (simp +contextual; omega)) rfl rfl ?_
          refine AOpsO.oneIf tok [1, 85, 87] 85 (by intro C; conv => lhs; simp) (by first | with_reducible exact True.intro | (grind; done) | omega | simp | (simp; omega) | (simp +contextual; omega)) rfl rfl ?_
          refine AOpsO.one tok [1, 88] (by intro C; conv => lhs; simp) (by first | with_reducible exact True.intro | (grind; done) | omega | simp | (simp; omega) | (simp +contextual; omega)) rfl ?_
          refine AOpsO.one tok [1, 89] (by intro C; conv => lhs; simp) (by first | with_reducible exact True.intro | (grind; done) | omega | simp | (simp; omega) | (simp +contextual; omega)) rfl ?_
          refine AOpsO.oneIf tok [1, 89, 90] 89 (by intro C; conv => lhs; simp) (by first | with_reducible exact True.intro | (grind; done) | omega | simp | (simp; omega) | (simp +contextual; omega)) rfl rfl ?_
          refine AOpsO.oneIf tok [1, 89, 91] 89 (by intro C; conv => lhs; simp) (by first | with_reducible exact True.intro | (grind; done) | omega | simp | (simp; omega) | (simp +contextual; omega)) rfl rfl ?_
          refine AOpsO.oneIf tok [1, 89, 92] 89 (by intro C; conv => lhs; simp) (by first | with_reducible exact True.intro | (grind; done) | omega | simp | (simp; omega) | (simp +contextual; omega)) rfl rfl ?_
          refine AOpsO.oneIf tok [1, 89, 92, 93] 89 (by intro C; conv => lhs; simp) (by first | with_reducible exact True.intro | (grind; done) | omega | simp | (simp; omega) | (simp +contextual; omega)) rfl rfl ?_
          refine AOpsO.oneIf tok [1, 89, 92, 94] 89 (by intro C; conv => lhs; simp) (by first | with_reducible exact True.intro | (grind; done) | omega | simp | (simp; omega) | (simp +contextual; omega)) rfl rfl ?_
          refine AOpsO.oneIf tok [1, 89, 92, 95] 89 (by intro C; conv => lhs; simp) (by first | with_reducible exact True.intro | (grind; done) | omega | simp | (simp; omega) | (simp +contextual; omega)) rfl rfl ?_
          refine AOpsO.oneIf tok [1, 89, 96] 89 (by intro C; conv => lhs; simp) (by first | with_reducible exact True.intro | (grind; done) | omega | simp | (simp; omega) | (simp +contextual; omega)) rfl rfl ?_
          refine AOpsO.one tok [1, 97] (by intro C; conv => lhs; simp) (by first | with_reducible exact True.intro | (grind; done) | omega | simp | (simp; omega) | (simp +contextual; omega)) rfl ?_
          refine AOpsO.nil ?_
          refine AW.cond (c := .tmp 97) (by conv => lhs; simp) trivial ?_ ?_
          · intro h97
            try simp at h97
            have hno : mayT v = false := notMay (.inr (.inl (by
              rw [← Bool.not_eq_true]; intro hp
              simp only [partsT, Bool.and_eq_true] at hp
              obtain ⟨⟨⟨⟨p1, p2⟩, p3⟩, p4⟩, p5⟩ := hp
              simp [codeT, kidsT, ← List.length_eq_zero_iff] at p1 p5
              simp [p2, p3, p4, p1, ← List.length_eq_zero_iff] at h97
              grind)))
            refine AW.seqRegionO [] ?_
            refine AOpsO.one tok [2] (by intro C; conv => lhs; simp) (by first | with_reducible exact True.intro | omega | simp | (simp; omega) | (simp +contextual; omega)) rfl ?_
            refine AOpsO.nil ?_
            exact AW.ret ⟨.inr rfl, _, _, by (conv => lhs; simp), trivial, by simp [hno]⟩
          · intro h97
            try simp at h97
            have hp : partsT v = true := by
              simp only [partsT, Bool.and_eq_true, codeT, kidsT]
              grind
            refine AW.skip ?_
            refine AW.seq ?_
            refine AW.seqRegionO [] ?_
            refine AOpsO.one tok [1, 7] (by intro C; conv => lhs; simp) (by first | with_reducible exact True.intro | omega | simp | (simp; omega) | (simp +contextual; omega)) rfl ?_
            refine AOpsO.nil ?_
            refine AW.block ?_
            refine AW.loop (α := Nat) (fun k => k ≤ v.kids.length ∧ (v.kids.take k).all mayT = true) (fun k => ⟨upds 113 [(1, .ptr 1 0), (7, .p (.int .i64 k))], [], [(1, .vars 33 v.cells)], 0⟩) (fun k => v.kids.length - k) (0) ⟨by omega, rfl⟩ ⟨upds_le (by simp), rfl, by simp, by simp⟩ ?_
            rintro k ⟨hk, hall⟩
            refine AW.seq ?_
            refine AW.seqRegionO [] ?_
            refine AOpsO.one tok [1, 7, 98] (by intro C; conv => lhs; simp) (by first | with_reducible exact True.intro | omega | simp | (simp; omega) | (simp +contextual; omega)) rfl ?_
            refine AOpsO.one tok [1, 7, 98, 99] (by intro C; conv => lhs; simp) (by first | with_reducible exact True.intro | omega | simp | (simp; omega) | (simp +contextual; omega)) rfl ?_
            refine AOpsO.one tok [1, 7, 98, 100] (by intro C; conv => lhs; simp) (by first | with_reducible exact True.intro | omega | simp | (simp; omega) | (simp +contextual; omega)) rfl ?_
            refine AOpsO.one tok [1, 7, 98, 101] (by intro C; conv => lhs; simp) (by first | with_reducible exact True.intro | omega | simp | (simp; omega) | (simp +contextual; omega)) rfl ?_
            refine AOpsO.one tok [1, 7, 102] (by intro C; conv => lhs; simp) (by first | with_reducible exact True.intro | omega | simp | (simp; omega) | (simp +contextual; omega)) rfl ?_
            refine AOpsO.nil ?_
            refine AW.cond (c := .tmp 102) (by conv => lhs; simp) trivial ?_ ?_
            · intro h102
              try simp at h102
              obtain ⟨x, hx⟩ : ∃ x, v.kids[k]? = some x := ⟨v.kids[k], by simp [h102]⟩
              have hix := ih x (List.mem_of_getElem? hx)
              refine AW.skip ?_
              refine AW.seq ?_
              refine AW.block ?_
              refine AW.seqRegionO [x.enc, .tup [x.enc], .bool (mayT x)] ?_
              refine AOpsO.one tok [1, 7, 105] (by intro C; conv => lhs; simp) (by first | with_reducible exact True.intro | (first | (simp [hx]; done) | (simp at hix ⊢; exact hix); done) | omega | simp | (simp; omega) | (simp +contextual; omega)) rfl ?_
              refine AOpsO.one tok [1, 7, 106] (by intro C; conv => lhs; simp) (by first | with_reducible exact True.intro | (first | (simp [hx]; done) | (simp at hix ⊢; exact hix); done) | omega | simp | (simp; omega) | (simp +contextual; omega)) rfl ?_
              refine AOpsO.one tok [1, 7, 106, 107] (by intro C; conv => lhs; simp) (by first | with_reducible exact True.intro | (first | (simp [hx]; done) | (simp at hix ⊢; exact hix); done) | omega | simp | (simp; omega) | (simp +contextual; omega)) rfl ?_
              refine AOpsO.one tok [1, 7, 108] (by intro C; conv => lhs; simp) (by first | with_reducible exact True.intro | (first | (simp [hx]; done) | (simp at hix ⊢; exact hix); done) | omega | simp | (simp; omega) | (simp +contextual; omega)) rfl ?_
              refine AOpsO.one tok [1, 7, 109] (by intro C; conv => lhs; simp) (by first | with_reducible exact True.intro | (first | (simp [hx]; done) | (simp at hix ⊢; exact hix); done) | omega | simp | (simp; omega) | (simp +contextual; omega)) rfl ?_
              refine AOpsO.one tok [1, 7, 110] (by intro C; conv => lhs; simp) (by first | with_reducible exact True.intro | (first | (simp [hx]; done) | (simp at hix ⊢; exact hix); done) | omega | simp | (simp; omega) | (simp +contextual; omega)) rfl ?_
              refine AOpsO.one tok [1, 7, 8] (by intro C; conv => lhs; simp) (by first | with_reducible exact True.intro | (first | (simp [hx]; done) | (simp at hix ⊢; exact hix); done) | omega | simp | (simp; omega) | (simp +contextual; omega)) rfl ?_
              refine AOpsO.nil ?_
              refine AW.seqRegionO [] ?_
              refine AOpsO.one tok [1, 7, 111] (by intro C; conv => lhs; simp) (by first | with_reducible exact True.intro | omega | simp | (simp; omega) | (simp +contextual; omega)) rfl ?_
              refine AOpsO.one tok [1, 7, 112] (by intro C; conv => lhs; simp) (by first | with_reducible exact True.intro | omega | simp | (simp; omega) | (simp +contextual; omega)) rfl ?_
              refine AOpsO.nil ?_
              refine AW.cond (c := .tmp 112) (by conv => lhs; simp) trivial ?_ ?_
              · intro h112
                try simp at h112
                have hno : mayT v = false := notMay (.inr (.inr ⟨x, List.mem_of_getElem? hx, h112⟩))
                refine AW.seqRegionO [] ?_
                refine AOpsO.one tok [2] (by intro C; conv => lhs; simp) (by first | with_reducible exact True.intro | omega | simp | (simp; omega) | (simp +contextual; omega)) rfl ?_
                refine AOpsO.nil ?_
                exact AW.ret ⟨.inr rfl, _, _, by (conv => lhs; simp), trivial, by simp [hno]⟩
              · intro h112
                try simp at h112
                refine AW.skip ?_
                refine AW.regionO [] ?_
                refine AOpsO.one tok [1, 103] (by intro C; conv => lhs; simp) (by first | with_reducible exact True.intro | omega | simp | (simp; omega) | (simp +contextual; omega)) rfl ?_
                refine AOpsO.one tok [1, 104] (by intro C; conv => lhs; simp) (by first | with_reducible exact True.intro | omega | simp | (simp; omega) | (simp +contextual; omega)) rfl ?_
                refine AOpsO.one tok [1, 7] (by intro C; conv => lhs; simp) (by first | with_reducible exact True.intro | omega | simp | (simp; omega) | (simp +contextual; omega)) rfl ?_
                refine AOpsO.nil ?_
                exact ⟨k + 1, ⟨by omega, by rw [List.take_add_one, hx, List.all_append, hall]; simp [h112]⟩, by omega, upds_le (by simp), rfl, by simp, by simp⟩
            · intro h102
              try simp at h102
              rw [List.take_of_length_le (by omega)] at hall
              have hyes : mayT v = true := by rw [mayT_eq, hb, hp, hall]; rfl
              refine AW.exit ?_
              simp
              refine AW.seqRegionO [] ?_
              refine AOpsO.one tok [2] (by intro C; conv => lhs; simp) (by first | with_reducible exact True.intro | omega | simp | (simp; omega) | (simp +contextual; omega)) rfl ?_
              refine AOpsO.nil ?_
              exact AW.ret ⟨.inr rfl, _, _, by (conv => lhs; simp), trivial, by simp [hyes]⟩
theorem refMayT_ev (v : Val) : AFn Tryd.prog G 9 [v.enc] (.bool (mayT v)) := Val.induct (fun v ih => refMayT_step v ih) v
end Go.Proofs.YtgoepemmcibdaaaDoor
