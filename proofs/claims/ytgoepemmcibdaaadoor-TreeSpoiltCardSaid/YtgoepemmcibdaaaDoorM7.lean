import Derived.Test.YtgoepemmcibdaaaDoorM6
namespace Go.Proofs.YtgoepemmcibdaaaDoor
open Sy Go
set_option maxRecDepth 100000
set_option maxHeartbeats 4000000
set_option linter.unusedSimpArgs false
set_option linter.unusedVariables false
variable {G : Glob}

/-- An object's kids, in the order of its keys. -/
def kidOf (v : Val) (s : List UInt8) : Val := v.kids.getD (v.keys.idxOf s) nullV
def kidsS (v : Val) : List Val := (sortK v.keys).map (kidOf v)
theorem kidOf_get {v : Val} (hl : v.keys.length ≤ v.kids.length) {s : List UInt8} (h : s ∈ v.keys) : v.kids[v.keys.idxOf s]? = some (kidOf v s) := by
  have := List.idxOf_lt_length_of_mem h
  simp [kidOf, List.getD_eq_getElem?_getD, show v.keys.idxOf s < v.kids.length by omega]
theorem sortK_mem {ks : List (List UInt8)} {s : List UInt8} : s ∈ sortK ks ↔ s ∈ ks := (List.mergeSort_perm ks _).mem_iff
theorem values_ax (ks : List (List UInt8)) : AX Tryd.prog G 51 [.p (.sl 1 (ks.map PD.str))] [] (.func (.func 66) [] [.ptr 901 0]) [] [(901, .vars 25 [.p (.sl 1 (ks.map PD.str))])] := by
  refine AX.introU tok 900 Tryd.func51 (by kernel_rfl) rfl rfl ?_
  simp only [Tryd.f51, enumA, List.map_cons, List.map_nil]
  refine AW.seqRegionO [] ?_
  refine AOpsO.one tok [1] (by intro C; conv => lhs; simp) (by first | with_reducible exact True.intro | omega | simp | (simp; omega) | (simp +contextual; omega)) rfl ?_
  refine AOpsO.one tok [1] (by intro C; conv => lhs; simp) (by first | with_reducible exact True.intro | omega | simp | (simp; omega) | (simp +contextual; omega)) rfl ?_
  refine AOpsO.nil ?_
  refine AW.seqRegionO [] ?_
  refine AOpsO.one tok [3] (by intro C; conv => lhs; simp) (by first | with_reducible exact True.intro | omega | simp | (simp; omega) | (simp +contextual; omega)) rfl ?_
  refine AOpsO.one tok [2] (by intro C; conv => lhs; simp) (by first | with_reducible exact True.intro | omega | simp | (simp; omega) | (simp +contextual; omega)) rfl ?_
  refine AOpsO.nil ?_
  exact AW.ret ⟨.inr rfl, _, _, by (conv => lhs; simp), trivial, by simp, by simp, by simp, by simp⟩
theorem sortedV_ev (v : Val) (hl : v.keys.length ≤ v.kids.length) (hn : v.keys.length ≤ 1000000) : AFn Tryd.prog G 29 [v.enc] (.tup [.sl 1 ((sortK v.keys).map PD.str), .sl 9 ((kidsS v).map Val.enc)]) := by
  refine AFn.introU tok Tryd.func29 (by kernel_rfl) rfl rfl ?_
  simp only [Tryd.f29, enumA, List.map_cons, List.map_nil]
  have hsl := sortK_len v.keys
  have hix := idxK_ev (G := G) v.keys
  refine AW.seqRegionO [] ?_
  refine AOpsO.one tok [1] (by intro C; conv => lhs; simp) (by first | with_reducible exact True.intro | omega | simp | (simp; omega) | (simp +contextual; omega)) rfl ?_
  refine AOpsO.one tok [1] (by intro C; conv => lhs; simp) (by first | with_reducible exact True.intro | omega | simp | (simp; omega) | (simp +contextual; omega)) rfl ?_
  refine AOpsO.one tok [1] (by intro C; conv => lhs; simp) (by first | with_reducible exact True.intro | omega | simp | (simp; omega) | (simp +contextual; omega)) rfl ?_
  refine AOpsO.nil ?_
  refine AW.seqRegionO [] ?_
  refine AOpsO.one tok [1, 8] (by intro C; conv => lhs; simp) (by first | with_reducible exact True.intro | omega | simp | (simp; omega) | (simp +contextual; omega)) rfl ?_
  refine AOpsO.one tok [1, 9] (by intro C; conv => lhs; simp) (by first | with_reducible exact True.intro | omega | simp | (simp; omega) | (simp +contextual; omega)) rfl ?_
  refine AOpsO.stepK [1, 10] (y_cx rfl (values_ax v.keys) (by simp)) (by conv => lhs; simp) rfl ?_
  refine AOpsO.stepK [1, 11] (y_cx rfl (sorted_ax 901 v.keys (by omega)) (by simp)) (by conv => lhs; simp) rfl ?_
  refine AOpsO.one tok [1, 4] (by intro C; conv => lhs; simp) (by first | with_reducible exact True.intro | omega | simp | (simp; omega) | (simp +contextual; omega)) rfl ?_
  refine AOpsO.nil ?_
  refine AW.seqRegionO [] ?_
  refine AOpsO.one tok [1, 4, 5] (by intro C; conv => lhs; simp) (by first | with_reducible exact True.intro | omega | simp | (simp; omega) | (simp +contextual; omega)) rfl ?_
  refine AOpsO.nil ?_
  refine AW.seq ?_
  refine AW.seqRegionO [] ?_
  refine AOpsO.one tok [1, 4, 5, 12] (by intro C; conv => lhs; simp) (by first | with_reducible exact True.intro | omega | simp | (simp; omega) | (simp +contextual; omega)) rfl ?_
  refine AOpsO.one tok [1, 4, 5, 12, 13] (by intro C; conv => lhs; simp) (by first | with_reducible exact True.intro | omega | simp | (simp; omega) | (simp +contextual; omega)) rfl ?_
  refine AOpsO.one tok [1, 4, 5, 12, 13, 14] (by intro C; conv => lhs; simp) (by first | with_reducible exact True.intro | omega | simp | (simp; omega) | (simp +contextual; omega)) rfl ?_
  refine AOpsO.nil ?_
  refine AW.block ?_
  refine AW.beginE 5 5 33 9 (by simp) (by simp) (by conv => lhs; simp) ?_
  refine AW.loop (α := Nat) (fun k => k ≤ v.keys.length) (fun k => ⟨upds 32 [(1, .ptr 1 0), (4, .p (.sl 1 ((sortK v.keys).map PD.str))), (5, .ms 5), (12, .p (.sl 1 ((sortK v.keys).map PD.str))), (13, .p (.int .i64 v.keys.length)), (14, .p (.int .i64 k))], [], [(1, .vars 33 v.cells), (5, .row 33 9 (((kidsS v).take k).map Val.enc))], 0⟩) (fun k => v.keys.length - k) (0) (by omega) ⟨upds_le (by simp [hsl]), rfl, by simp, by simp⟩ ?_
  rintro k hk
  refine AW.seqRegionO [] ?_
  refine AOpsO.one tok [1, 4, 5, 12, 13, 14, 15] (by intro C; conv => lhs; simp) (by first | with_reducible exact True.intro | omega | simp | (simp; omega) | (simp +contextual; omega)) rfl ?_
  refine AOpsO.nil ?_
  refine AW.seq ?_
  refine AW.cond (c := .tmp 15) (by conv => lhs; simp) trivial ?_ ?_
  · intro h15
    try simp at h15
    obtain ⟨s, hs⟩ : ∃ s, (sortK v.keys)[k]? = some s := ⟨(sortK v.keys)[k]'(by omega), by simp [show k < (sortK v.keys).length by omega]⟩
    have hm : s ∈ v.keys := sortK_mem.1 (List.mem_of_getElem? hs)
    have hkid := kidOf_get hl hm
    have hi := hix s
    unfold idxK at hi
    rw [if_pos hm] at hi
    refine AW.skip ?_
    refine AW.seq ?_
    refine AW.block ?_
    have hks : (kidsS v)[k]? = some (kidOf v s) := by simp [kidsS, hs]
    generalize hkv : kidsS v = kv at *
    have hkl : (kv.take k).length ≤ k := List.length_take_le _ _
    refine AW.seqRegionO [.str s] ?_
    refine AOpsO.one tok [1, 4, 5, 12, 13, 14, 16] (by intro C; conv => lhs; simp) (by first | with_reducible exact True.intro | (simp [hs]; done) | omega | simp | (simp; omega) | (simp +contextual; omega)) rfl ?_
    refine AOpsO.one tok [1, 4, 5, 12, 13, 14, 17] (by intro C; conv => lhs; simp) (by first | with_reducible exact True.intro | (simp [hs]; done) | omega | simp | (simp; omega) | (simp +contextual; omega)) rfl ?_
    refine AOpsO.one tok [1, 4, 5, 7, 12, 13, 14] (by intro C; conv => lhs; simp) (by first | with_reducible exact True.intro | (simp [hs]; done) | omega | simp | (simp; omega) | (simp +contextual; omega)) rfl ?_
    refine AOpsO.nil ?_
    refine AW.runDrawK tok mixed [1, 4, 5, 12, 13, 14] 11 [[5], [1], [19], [1], [21], [7], [22, 23], [20, 24], [25], [26], [18, 27]] [.nilp, .int .i64 (v.keys.idxOf s), (kidOf v s).enc, (kidOf v s).enc] [] (by kernel_rfl) (by intro C; conv => lhs; simp) (by (simp [hkid]; exact ⟨hi, by omega⟩)) (by simp [Sm.sum, Sm.foot, Sm.tch, Sm.refs]; kernel_rfl) (by intro C; conv => lhs; simp) (by first | with_reducible exact True.intro | omega | simp | (simp; omega) | (simp +contextual; omega)) ?_
    refine AW.renE 28 5 (by simp) (by conv => lhs; simp) ?_
    refine AW.regionO [] ?_
    refine AOpsO.one tok [1, 4, 5, 12, 13, 29] (by intro C; conv => lhs; simp) (by first | with_reducible exact True.intro | omega | simp | (simp; omega) | (simp +contextual; omega)) rfl ?_
    refine AOpsO.one tok [1, 4, 5, 12, 13, 14] (by intro C; conv => lhs; simp) (by first | with_reducible exact True.intro | omega | simp | (simp; omega) | (simp +contextual; omega)) rfl ?_
    refine AOpsO.nil ?_
    exact ⟨k + 1, by omega, by omega, upds_le (by simp [List.take_add_one, hks]), rfl, by simp [List.take_add_one, hks], by simp [List.take_add_one, hks]⟩
  · intro h15
    try simp at h15
    have hkl : (kidsS v).length = v.keys.length := by simp [kidsS, hsl]
    refine AW.exit ?_
    simp
    refine AW.freezeE 5 (by conv => lhs; simp) ?_
    refine AW.seqRegionO [] ?_
    refine AOpsO.one tok [5, 30] (by intro C; conv => lhs; simp) (by first | with_reducible exact True.intro | omega | simp | (simp; omega) | (simp +contextual; omega)) rfl ?_
    refine AOpsO.one tok [30, 31] (by intro C; conv => lhs; simp) (by first | with_reducible exact True.intro | omega | simp | (simp; omega) | (simp +contextual; omega)) rfl ?_
    refine AOpsO.one tok [2, 31] (by intro C; conv => lhs; simp) (by first | with_reducible exact True.intro | omega | simp | (simp; omega) | (simp +contextual; omega)) rfl ?_
    refine AOpsO.one tok [2, 3] (by intro C; conv => lhs; simp) (by first | with_reducible exact True.intro | omega | simp | (simp; omega) | (simp +contextual; omega)) rfl ?_
    refine AOpsO.nil ?_
    exact AW.ret ⟨.inr rfl, _, _, by (conv => lhs; simp), trivial, by simp; rw [List.take_of_length_le (by simp; omega)]⟩
/-- The order of values. -/
def cmpF : Nat → Val → Val → Int
  | 0, _, _ => 0
  | f + 1, a, b => if a.kind ≠ b.kind then cmpI a.kind b.kind else if a.kind = 4 then cmpD a.num b.num else if a.kind = 5 then Lib.compareBytes a.text b.text else if a.kind = 6 then cmpL (cmpF f) a.kids b.kids
    else if a.kind = 8 then cmpI a.code b.code
    else if a.kind = 7 then (if cmpL cmpS (sortK a.keys) (sortK b.keys) ≠ 0 then cmpL cmpS (sortK a.keys) (sortK b.keys) else cmpL (cmpF f) (kidsS a) (kidsS b)) else 0
theorem may_kid {v k : Val} (h : mayT v = true) (hk : k ∈ v.kids) : mayT k = true := by
  rw [mayT_eq] at h; simp only [Bool.and_eq_true, List.all_eq_true] at h; exact h.2 k hk
theorem may_obj {v : Val} (h : mayT v = true) (h7 : v.kind = 7) : v.keys.length = v.kids.length ∧ v.keys.length ≤ 200 ∧ v.keys.Nodup := by
  rw [mayT_eq] at h
  simp only [Bool.and_eq_true, boundsT, partsT, namedT, decide_eq_true_eq] at h
  obtain ⟨⟨h1, ⟨⟨_, h2⟩, _⟩⟩, _⟩ := h
  rw [if_pos h7] at h2
  simp [keysT] at h2
  exact ⟨by omega, by omega, h2.2.2⟩
theorem may_num {v : Val} (h : mayT v = true) (h4 : v.kind = 4) : dcMay v.num = true := by
  rw [mayT_eq] at h
  simp only [Bool.and_eq_true, partsT, numT] at h
  obtain ⟨⟨h1, ⟨⟨⟨⟨_, h2⟩, _⟩, _⟩, _⟩⟩, _⟩ := h
  rw [if_pos h4] at h2; exact h2
theorem kidsS_mem {v x : Val} (hl : v.keys.length ≤ v.kids.length) (h : x ∈ kidsS v) : x ∈ v.kids := by
  obtain ⟨s, hs, rfl⟩ := List.mem_map.1 h
  exact List.mem_of_getElem? (kidOf_get hl (sortK_mem.1 hs))
theorem cmp_step (f : Nat) (a b : Val) (ha : mayT a = true) (hb : mayT b = true) (ih : ∀ x ∈ a.kids, ∀ y ∈ b.kids, AFn Tryd.prog G 10 [x.enc, y.enc] (.int .i64 (cmpF f x y))) : AFn Tryd.prog G 10 [a.enc, b.enc] (.int .i64 (cmpF (f + 1) a b)) := by
  refine AFn.introU tok Tryd.func10 (by kernel_rfl) rfl rfl ?_
  simp only [Tryd.f10, enumA, List.map_cons, List.map_nil]
  have hki := cmpI_ev (G := G) a.kind b.kind
  have hce := cmpE_ev (G := G) a.code b.code
  have hst := Compare_ev (G := G) a.text b.text
  refine AW.seqRegionO [] ?_
  refine AOpsO.one tok [1, 2] (by intro C; conv => lhs; simp) (by first | with_reducible exact True.intro | omega | simp | (simp; omega) | (simp +contextual; omega)) rfl ?_
  refine AOpsO.one tok [2, 3] (by intro C; conv => lhs; simp) (by first | with_reducible exact True.intro | omega | simp | (simp; omega) | (simp +contextual; omega)) rfl ?_
  refine AOpsO.one tok [2, 3] (by intro C; conv => lhs; simp) (by first | with_reducible exact True.intro | omega | simp | (simp; omega) | (simp +contextual; omega)) rfl ?_
  refine AOpsO.nil ?_
  refine AW.seq ?_
  refine AW.seqRegionO [] ?_
  refine AOpsO.one tok [2, 3, 9] (by intro C; conv => lhs; simp) (by first | with_reducible exact True.intro | omega | simp | (simp; omega) | (simp +contextual; omega)) rfl ?_
  refine AOpsO.one tok [2, 3, 10] (by intro C; conv => lhs; simp) (by first | with_reducible exact True.intro | omega | simp | (simp; omega) | (simp +contextual; omega)) rfl ?_
  refine AOpsO.one tok [2, 3, 10, 11] (by intro C; conv => lhs; simp) (by first | with_reducible exact True.intro | omega | simp | (simp; omega) | (simp +contextual; omega)) rfl ?_
  refine AOpsO.one tok [2, 3, 10, 12] (by intro C; conv => lhs; simp) (by first | with_reducible exact True.intro | omega | simp | (simp; omega) | (simp +contextual; omega)) rfl ?_
  refine AOpsO.one tok [2, 3, 13] (by intro C; conv => lhs; simp) (by first | with_reducible exact True.intro | omega | simp | (simp; omega) | (simp +contextual; omega)) rfl ?_
  refine AOpsO.nil ?_
  refine AW.cond (c := .tmp 13) (by conv => lhs; simp) trivial ?_ ?_
  · intro h13
    try simp at h13
    have hR : cmpF (f + 1) a b = cmpI a.kind b.kind := by simp only [cmpF]; rw [if_pos h13]
    refine AW.seqRegionO [.nilp, .int .i64 (cmpI a.kind b.kind)] ?_
    refine AOpsO.one tok [3, 14] (by intro C; conv => lhs; simp) (by first | with_reducible exact True.intro | (exact hki; done) | omega | simp | (simp; omega) | (simp +contextual; omega)) rfl ?_
    refine AOpsO.one tok [3, 15] (by intro C; conv => lhs; simp) (by first | with_reducible exact True.intro | (exact hki; done) | omega | simp | (simp; omega) | (simp +contextual; omega)) rfl ?_
    refine AOpsO.one tok [15, 16] (by intro C; conv => lhs; simp) (by first | with_reducible exact True.intro | (exact hki; done) | omega | simp | (simp; omega) | (simp +contextual; omega)) rfl ?_
    refine AOpsO.one tok [15, 17] (by intro C; conv => lhs; simp) (by first | with_reducible exact True.intro | (exact hki; done) | omega | simp | (simp; omega) | (simp +contextual; omega)) rfl ?_
    refine AOpsO.one tok [18] (by intro C; conv => lhs; simp) (by first | with_reducible exact True.intro | (exact hki; done) | omega | simp | (simp; omega) | (simp +contextual; omega)) rfl ?_
    refine AOpsO.one tok [4] (by intro C; conv => lhs; simp) (by first | with_reducible exact True.intro | (exact hki; done) | omega | simp | (simp; omega) | (simp +contextual; omega)) rfl ?_
    refine AOpsO.nil ?_
    exact AW.ret ⟨.inr rfl, _, _, by (conv => lhs; simp), trivial, by simp [hR]⟩
  · intro h13
    try simp at h13
    have hkd : ¬ a.kind ≠ b.kind := by simpa using h13
    refine AW.skip ?_
    refine AW.seq ?_
    refine AW.seqRegionO [] ?_
    refine AOpsO.one tok [2, 3, 19] (by intro C; conv => lhs; simp) (by first | with_reducible exact True.intro | omega | simp | (simp; omega) | (simp +contextual; omega)) rfl ?_
    refine AOpsO.one tok [2, 3, 20] (by intro C; conv => lhs; simp) (by first | with_reducible exact True.intro | omega | simp | (simp; omega) | (simp +contextual; omega)) rfl ?_
    refine AOpsO.nil ?_
    refine AW.block ?_
    refine AW.seqRegionO [] ?_
    refine AOpsO.one tok [2, 3, 20, 22] (by intro C; conv => lhs; simp) (by first | with_reducible exact True.intro | omega | simp | (simp; omega) | (simp +contextual; omega)) rfl ?_
    refine AOpsO.one tok [2, 3, 20, 21] (by intro C; conv => lhs; simp) (by first | with_reducible exact True.intro | omega | simp | (simp; omega) | (simp +contextual; omega)) rfl ?_
    refine AOpsO.nil ?_
    refine AW.cond (c := .tmp 21) (by conv => lhs; simp) trivial ?_ ?_
    · intro h21
      try simp at h21
      have hR : cmpF (f + 1) a b = cmpD a.num b.num := by simp only [cmpF]; rw [if_neg hkd, if_pos h21]
      have hnum := cmpD_ev (G := G) a.num b.num (dcMay_ok (may_num ha h21)).1 (dcMay_ok (may_num hb (by omega))).1
      refine AW.seqRegionO [.nilp, .int .i64 (cmpD a.num b.num)] ?_
      refine AOpsO.one tok [3, 23] (by intro C; conv => lhs; simp) (by first | with_reducible exact True.intro | ((simp at hnum ⊢; exact hnum); done) | omega | simp | (simp; omega) | (simp +contextual; omega)) rfl ?_
      refine AOpsO.one tok [3, 24] (by intro C; conv => lhs; simp) (by first | with_reducible exact True.intro | ((simp at hnum ⊢; exact hnum); done) | omega | simp | (simp; omega) | (simp +contextual; omega)) rfl ?_
      refine AOpsO.one tok [24, 25] (by intro C; conv => lhs; simp) (by first | with_reducible exact True.intro | ((simp at hnum ⊢; exact hnum); done) | omega | simp | (simp; omega) | (simp +contextual; omega)) rfl ?_
      refine AOpsO.one tok [24, 26] (by intro C; conv => lhs; simp) (by first | with_reducible exact True.intro | ((simp at hnum ⊢; exact hnum); done) | omega | simp | (simp; omega) | (simp +contextual; omega)) rfl ?_
      refine AOpsO.one tok [27] (by intro C; conv => lhs; simp) (by first | with_reducible exact True.intro | ((simp at hnum ⊢; exact hnum); done) | omega | simp | (simp; omega) | (simp +contextual; omega)) rfl ?_
      refine AOpsO.one tok [4] (by intro C; conv => lhs; simp) (by first | with_reducible exact True.intro | ((simp at hnum ⊢; exact hnum); done) | omega | simp | (simp; omega) | (simp +contextual; omega)) rfl ?_
      refine AOpsO.nil ?_
      exact AW.ret ⟨.inr rfl, _, _, by (conv => lhs; simp), trivial, by simp [hR]⟩
    · intro h21
      try simp at h21
      refine AW.seqRegionO [] ?_
      refine AOpsO.one tok [2, 3, 20, 29] (by intro C; conv => lhs; simp) (by first | with_reducible exact True.intro | omega | simp | (simp; omega) | (simp +contextual; omega)) rfl ?_
      refine AOpsO.one tok [2, 3, 20, 28] (by intro C; conv => lhs; simp) (by first | with_reducible exact True.intro | omega | simp | (simp; omega) | (simp +contextual; omega)) rfl ?_
      refine AOpsO.nil ?_
      refine AW.cond (c := .tmp 28) (by conv => lhs; simp) trivial ?_ ?_
      · intro h28
        try simp at h28
        have hR : cmpF (f + 1) a b = Lib.compareBytes a.text b.text := by simp only [cmpF]; rw [if_neg hkd, if_neg h21, if_pos h28]
        refine AW.seqRegionO [.nilp, .int .i64 (Lib.compareBytes a.text b.text)] ?_
        refine AOpsO.one tok [3, 30] (by intro C; conv => lhs; simp) (by first | with_reducible exact True.intro | (exact hst; done) | omega | simp | (simp; omega) | (simp +contextual; omega)) rfl ?_
        refine AOpsO.one tok [3, 31] (by intro C; conv => lhs; simp) (by first | with_reducible exact True.intro | (exact hst; done) | omega | simp | (simp; omega) | (simp +contextual; omega)) rfl ?_
        refine AOpsO.one tok [31, 32] (by intro C; conv => lhs; simp) (by first | with_reducible exact True.intro | (exact hst; done) | omega | simp | (simp; omega) | (simp +contextual; omega)) rfl ?_
        refine AOpsO.one tok [31, 33] (by intro C; conv => lhs; simp) (by first | with_reducible exact True.intro | (exact hst; done) | omega | simp | (simp; omega) | (simp +contextual; omega)) rfl ?_
        refine AOpsO.one tok [34] (by intro C; conv => lhs; simp) (by first | with_reducible exact True.intro | (exact hst; done) | omega | simp | (simp; omega) | (simp +contextual; omega)) rfl ?_
        refine AOpsO.one tok [4] (by intro C; conv => lhs; simp) (by first | with_reducible exact True.intro | (exact hst; done) | omega | simp | (simp; omega) | (simp +contextual; omega)) rfl ?_
        refine AOpsO.nil ?_
        exact AW.ret ⟨.inr rfl, _, _, by (conv => lhs; simp), trivial, by simp [hR]⟩
      · intro h28
        try simp at h28
        refine AW.seqRegionO [] ?_
        refine AOpsO.one tok [2, 3, 20, 36] (by intro C; conv => lhs; simp) (by first | with_reducible exact True.intro | omega | simp | (simp; omega) | (simp +contextual; omega)) rfl ?_
        refine AOpsO.one tok [2, 3, 20, 35] (by intro C; conv => lhs; simp) (by first | with_reducible exact True.intro | omega | simp | (simp; omega) | (simp +contextual; omega)) rfl ?_
        refine AOpsO.nil ?_
        refine AW.cond (c := .tmp 35) (by conv => lhs; simp) trivial ?_ ?_
        · intro h35
          try simp at h35
          have hR : cmpF (f + 1) a b = cmpL (cmpF f) a.kids b.kids := by simp only [cmpF]; rw [if_neg hkd, if_neg h21, if_neg h28, if_pos h35]
          have hcl := cmpVL_ev (G := G) a.kids b.kids 10 (cmpF f) ih
          refine AW.seqRegionO [.nilp, .int .i64 (cmpL (cmpF f) a.kids b.kids)] ?_
          refine AOpsO.one tok [3, 37] (by intro C; conv => lhs; simp) (by first | with_reducible exact True.intro | (exact hcl; done) | omega | simp | (simp; omega) | (simp +contextual; omega)) rfl ?_
          refine AOpsO.one tok [3, 38] (by intro C; conv => lhs; simp) (by first | with_reducible exact True.intro | (exact hcl; done) | omega | simp | (simp; omega) | (simp +contextual; omega)) rfl ?_
          refine AOpsO.one tok [38, 39] (by intro C; conv => lhs; simp) (by first | with_reducible exact True.intro | (exact hcl; done) | omega | simp | (simp; omega) | (simp +contextual; omega)) rfl ?_
          refine AOpsO.one tok [38, 40] (by intro C; conv => lhs; simp) (by first | with_reducible exact True.intro | (exact hcl; done) | omega | simp | (simp; omega) | (simp +contextual; omega)) rfl ?_
          refine AOpsO.one tok [41] (by intro C; conv => lhs; simp) (by first | with_reducible exact True.intro | (exact hcl; done) | omega | simp | (simp; omega) | (simp +contextual; omega)) rfl ?_
          refine AOpsO.one tok [4] (by intro C; conv => lhs; simp) (by first | with_reducible exact True.intro | (exact hcl; done) | omega | simp | (simp; omega) | (simp +contextual; omega)) rfl ?_
          refine AOpsO.nil ?_
          exact AW.ret ⟨.inr rfl, _, _, by (conv => lhs; simp), trivial, by simp [hR]⟩
        · intro h35
          try simp at h35
          refine AW.seqRegionO [] ?_
          refine AOpsO.one tok [2, 3, 20, 43] (by intro C; conv => lhs; simp) (by first | with_reducible exact True.intro | omega | simp | (simp; omega) | (simp +contextual; omega)) rfl ?_
          refine AOpsO.one tok [2, 3, 20, 42] (by intro C; conv => lhs; simp) (by first | with_reducible exact True.intro | omega | simp | (simp; omega) | (simp +contextual; omega)) rfl ?_
          refine AOpsO.nil ?_
          refine AW.cond (c := .tmp 42) (by conv => lhs; simp) trivial ?_ ?_
          · intro h42
            try simp at h42
            have hR : cmpF (f + 1) a b = cmpI a.code b.code := by simp only [cmpF]; rw [if_neg hkd, if_neg h21, if_neg h28, if_neg h35, if_pos h42]
            refine AW.seqRegionO [.nilp, .int .i64 (cmpI a.code b.code)] ?_
            refine AOpsO.one tok [3, 44] (by intro C; conv => lhs; simp) (by first | with_reducible exact True.intro | (exact hce; done) | omega | simp | (simp; omega) | (simp +contextual; omega)) rfl ?_
            refine AOpsO.one tok [3, 45] (by intro C; conv => lhs; simp) (by first | with_reducible exact True.intro | (exact hce; done) | omega | simp | (simp; omega) | (simp +contextual; omega)) rfl ?_
            refine AOpsO.one tok [45, 46] (by intro C; conv => lhs; simp) (by first | with_reducible exact True.intro | (exact hce; done) | omega | simp | (simp; omega) | (simp +contextual; omega)) rfl ?_
            refine AOpsO.one tok [45, 47] (by intro C; conv => lhs; simp) (by first | with_reducible exact True.intro | (exact hce; done) | omega | simp | (simp; omega) | (simp +contextual; omega)) rfl ?_
            refine AOpsO.one tok [48] (by intro C; conv => lhs; simp) (by first | with_reducible exact True.intro | (exact hce; done) | omega | simp | (simp; omega) | (simp +contextual; omega)) rfl ?_
            refine AOpsO.one tok [4] (by intro C; conv => lhs; simp) (by first | with_reducible exact True.intro | (exact hce; done) | omega | simp | (simp; omega) | (simp +contextual; omega)) rfl ?_
            refine AOpsO.nil ?_
            exact AW.ret ⟨.inr rfl, _, _, by (conv => lhs; simp), trivial, by simp [hR]⟩
          · intro h42
            try simp at h42
            refine AW.seqRegionO [] ?_
            refine AOpsO.one tok [2, 3, 50] (by intro C; conv => lhs; simp) (by first | with_reducible exact True.intro | omega | simp | (simp; omega) | (simp +contextual; omega)) rfl ?_
            refine AOpsO.one tok [2, 3, 49] (by intro C; conv => lhs; simp) (by first | with_reducible exact True.intro | omega | simp | (simp; omega) | (simp +contextual; omega)) rfl ?_
            refine AOpsO.nil ?_
            refine AW.cond (c := .tmp 49) (by conv => lhs; simp) trivial ?_ ?_
            · intro h49
              try simp at h49
              have hR : cmpF (f + 1) a b = (if cmpL cmpS (sortK a.keys) (sortK b.keys) ≠ 0 then cmpL cmpS (sortK a.keys) (sortK b.keys) else cmpL (cmpF f) (kidsS a) (kidsS b)) := by simp only [cmpF]; rw [if_neg hkd, if_neg h21, if_neg h28, if_neg h35, if_neg h42, if_pos h49]
              have hoa := may_obj ha h49
              have hob := may_obj hb (by omega)
              have hsa := sortedV_ev (G := G) a (by omega) (by omega)
              have hsb := sortedV_ev (G := G) b (by omega) (by omega)
              have hcs := cmpSL_ev (G := G) (sortK a.keys) (sortK b.keys)
              have hcl := cmpVL_ev (G := G) (kidsS a) (kidsS b) 10 (cmpF f) fun x hx y hy => ih x (kidsS_mem (by omega) hx) y (kidsS_mem (by omega) hy)
              have hor := or2_ev (G := G) (cmpL cmpS (sortK a.keys) (sortK b.keys)) (cmpL (cmpF f) (kidsS a) (kidsS b))
              rw [← hR] at hor
              refine AW.seqRegionO [.nilp, .tup [.sl 1 ((sortK a.keys).map PD.str), .sl 9 ((kidsS a).map Val.enc)]] ?_
              refine AOpsO.one tok [3, 52] (by intro C; conv => lhs; simp) (by first | with_reducible exact True.intro | ((simp at hsa ⊢; exact hsa); done) | omega | simp | (simp; omega) | (simp +contextual; omega)) rfl ?_
              refine AOpsO.one tok [3, 53] (by intro C; conv => lhs; simp) (by first | with_reducible exact True.intro | ((simp at hsa ⊢; exact hsa); done) | omega | simp | (simp; omega) | (simp +contextual; omega)) rfl ?_
              refine AOpsO.one tok [3, 51] (by intro C; conv => lhs; simp) (by first | with_reducible exact True.intro | ((simp at hsa ⊢; exact hsa); done) | omega | simp | (simp; omega) | (simp +contextual; omega)) rfl ?_
              refine AOpsO.one tok [3, 51, 54] (by intro C; conv => lhs; simp) (by first | with_reducible exact True.intro | ((simp at hsa ⊢; exact hsa); done) | omega | simp | (simp; omega) | (simp +contextual; omega)) rfl ?_
              refine AOpsO.one tok [3, 54, 55] (by intro C; conv => lhs; simp) (by first | with_reducible exact True.intro | ((simp at hsa ⊢; exact hsa); done) | omega | simp | (simp; omega) | (simp +contextual; omega)) rfl ?_
              refine AOpsO.one tok [3, 5, 55] (by intro C; conv => lhs; simp) (by first | with_reducible exact True.intro | ((simp at hsa ⊢; exact hsa); done) | omega | simp | (simp; omega) | (simp +contextual; omega)) rfl ?_
              refine AOpsO.one tok [3, 5, 6] (by intro C; conv => lhs; simp) (by first | with_reducible exact True.intro | ((simp at hsa ⊢; exact hsa); done) | omega | simp | (simp; omega) | (simp +contextual; omega)) rfl ?_
              refine AOpsO.nil ?_
              refine AW.seqRegionO [.nilp, .tup [.sl 1 ((sortK b.keys).map PD.str), .sl 9 ((kidsS b).map Val.enc)]] ?_
              refine AOpsO.one tok [5, 6, 57] (by intro C; conv => lhs; simp) (by first | with_reducible exact True.intro | ((simp at hsb ⊢; exact hsb); done) | omega | simp | (simp; omega) | (simp +contextual; omega)) rfl ?_
              refine AOpsO.one tok [5, 6, 58] (by intro C; conv => lhs; simp) (by first | with_reducible exact True.intro | ((simp at hsb ⊢; exact hsb); done) | omega | simp | (simp; omega) | (simp +contextual; omega)) rfl ?_
              refine AOpsO.one tok [5, 6, 56] (by intro C; conv => lhs; simp) (by first | with_reducible exact True.intro | ((simp at hsb ⊢; exact hsb); done) | omega | simp | (simp; omega) | (simp +contextual; omega)) rfl ?_
              refine AOpsO.one tok [5, 6, 56, 59] (by intro C; conv => lhs; simp) (by first | with_reducible exact True.intro | ((simp at hsb ⊢; exact hsb); done) | omega | simp | (simp; omega) | (simp +contextual; omega)) rfl ?_
              refine AOpsO.one tok [5, 6, 59, 60] (by intro C; conv => lhs; simp) (by first | with_reducible exact True.intro | ((simp at hsb ⊢; exact hsb); done) | omega | simp | (simp; omega) | (simp +contextual; omega)) rfl ?_
              refine AOpsO.one tok [5, 6, 7, 60] (by intro C; conv => lhs; simp) (by first | with_reducible exact True.intro | ((simp at hsb ⊢; exact hsb); done) | omega | simp | (simp; omega) | (simp +contextual; omega)) rfl ?_
              refine AOpsO.one tok [5, 6, 7, 8] (by intro C; conv => lhs; simp) (by first | with_reducible exact True.intro | ((simp at hsb ⊢; exact hsb); done) | omega | simp | (simp; omega) | (simp +contextual; omega)) rfl ?_
              refine AOpsO.nil ?_
              refine AW.seqRegionO [.nilp, .int .i64 (cmpL cmpS (sortK a.keys) (sortK b.keys)), .nilp, .int .i64 (cmpL (cmpF f) (kidsS a) (kidsS b)), .int .i64 (cmpL cmpS (sortK a.keys) (sortK b.keys)), .int .i64 (cmpL (cmpF f) (kidsS a) (kidsS b)), .nilp, .int .i64 (cmpF (f + 1) a b)] ?_
              refine AOpsO.one tok [6, 7, 8, 61] (by intro C; conv => lhs; simp) (by first | with_reducible exact True.intro | (first | exact hcs | exact hcl | exact hor | simp; done) | omega | simp | (simp; omega) | (simp +contextual; omega)) rfl ?_
              refine AOpsO.one tok [6, 8, 61, 62] (by intro C; conv => lhs; simp) (by first | with_reducible exact True.intro | (first | exact hcs | exact hcl | exact hor | simp; done) | omega | simp | (simp; omega) | (simp +contextual; omega)) rfl ?_
              refine AOpsO.one tok [6, 8, 63] (by intro C; conv => lhs; simp) (by first | with_reducible exact True.intro | (first | exact hcs | exact hcl | exact hor | simp; done) | omega | simp | (simp; omega) | (simp +contextual; omega)) rfl ?_
              refine AOpsO.one tok [8, 63, 64] (by intro C; conv => lhs; simp) (by first | with_reducible exact True.intro | (first | exact hcs | exact hcl | exact hor | simp; done) | omega | simp | (simp; omega) | (simp +contextual; omega)) rfl ?_
              refine AOpsO.one tok [63, 64, 65] (by intro C; conv => lhs; simp) (by first | with_reducible exact True.intro | (first | exact hcs | exact hcl | exact hor | simp; done) | omega | simp | (simp; omega) | (simp +contextual; omega)) rfl ?_
              refine AOpsO.one tok [63, 66] (by intro C; conv => lhs; simp) (by first | with_reducible exact True.intro | (first | exact hcs | exact hcl | exact hor | simp; done) | omega | simp | (simp; omega) | (simp +contextual; omega)) rfl ?_
              refine AOpsO.one tok [67] (by intro C; conv => lhs; simp) (by first | with_reducible exact True.intro | (first | exact hcs | exact hcl | exact hor | simp; done) | omega | simp | (simp; omega) | (simp +contextual; omega)) rfl ?_
              refine AOpsO.one tok [68] (by intro C; conv => lhs; simp) (by first | with_reducible exact True.intro | (first | exact hcs | exact hcl | exact hor | simp; done) | omega | simp | (simp; omega) | (simp +contextual; omega)) rfl ?_
              refine AOpsO.one tok [4] (by intro C; conv => lhs; simp) (by first | with_reducible exact True.intro | (first | exact hcs | exact hcl | exact hor | simp; done) | omega | simp | (simp; omega) | (simp +contextual; omega)) rfl ?_
              refine AOpsO.nil ?_
              exact AW.ret ⟨.inr rfl, _, _, by (conv => lhs; simp), trivial, by simp⟩
            · intro h49
              try simp at h49
              have hR : cmpF (f + 1) a b = 0 := by simp only [cmpF]; rw [if_neg hkd, if_neg h21, if_neg h28, if_neg h35, if_neg h42, if_neg h49]
              refine AW.skip ?_
              refine AW.seqRegionO [] ?_
              refine AOpsO.one tok [4] (by intro C; conv => lhs; simp) (by first | with_reducible exact True.intro | omega | simp | (simp; omega) | (simp +contextual; omega)) rfl ?_
              refine AOpsO.nil ?_
              exact AW.ret ⟨.inr rfl, _, _, by (conv => lhs; simp), trivial, by simp [hR]⟩
theorem cmpF_ev : ∀ (f : Nat) (a b : Val), mayT a = true → mayT b = true → Val.sz a ≤ f → AFn Tryd.prog G 10 [a.enc, b.enc] (.int .i64 (cmpF (f + 1) a b))
  | 0, a, b, ha, hb, h => cmp_step 0 a b ha hb fun x hx => by have := Val.sz_kid hx; omega
  | f + 1, a, b, ha, hb, h => cmp_step (f + 1) a b ha hb fun x hx y hy => cmpF_ev f x y (may_kid ha hx) (may_kid hb hy) (by have := Val.sz_kid hx; omega)
/-- The order of two values. -/
def cmpT (a b : Val) : Int := cmpF (Val.sz a + 1) a b
theorem cmpT_ev (a b : Val) (ha : mayT a = true) (hb : mayT b = true) : AFn Tryd.prog G 10 [a.enc, b.enc] (.int .i64 (cmpT a b)) := cmpF_ev _ a b ha hb (Nat.le_refl _)
end Go.Proofs.YtgoepemmcibdaaaDoor
namespace Go.Proofs.YtgoepemmcibdaaaDoor
open Sy Go
set_option maxRecDepth 100000
set_option maxHeartbeats 4000000
set_option linter.unusedSimpArgs false
set_option linter.unusedVariables false
variable {G : Glob}
theorem notMay {v : Val} (h : boundsT v = false ∨ partsT v = false ∨ ∃ k ∈ v.kids, mayT k = false) : mayT v = false := by
  rw [mayT_eq]
  rcases h with h | h | ⟨k, hk, h⟩
  · rw [h]; rfl
  · rw [h]; simp
  · rw [List.all_eq_false.2 ⟨k, hk, by simp [h]⟩]; simp

theorem refMayT_step (v : Val) (ih : ∀ k ∈ v.kids, AFn Tryd.prog G 9 [k.enc] (.bool (mayT k))) : AFn Tryd.prog G 9 [v.enc] (.bool (mayT v)) := by
  refine AFn.introU tok Tryd.func9 (by kernel_rfl) rfl rfl ?_
  simp only [Tryd.f9, enumA, List.map_cons, List.map_nil]
  have hd := refDcMay_ev (G := G) v.num
  have hw := refText_ev (G := G) v.text
  have hk := refKeys_ev (G := G) v.keys
  refine AW.seqRegionO [] ?_
  refine AOpsO.one tok [1] (by intro C; conv => lhs; simp) (by first | with_reducible exact True.intro | omega | simp | (simp; omega) | (simp +contextual; omega)) rfl ?_
  refine AOpsO.one tok [1] (by intro C; conv => lhs; simp) (by first | with_reducible exact True.intro | omega | simp | (simp; omega) | (simp +contextual; omega)) rfl ?_
  refine AOpsO.nil ?_
  refine AW.seq ?_
  refine AW.seqRegionO [] ?_
  refine AOpsO.one tok [1, 9] (by intro C; conv => lhs; simp) (by first | with_reducible exact True.intro | omega | simp | (simp; omega) | (simp +contextual; omega)) rfl ?_
  refine AOpsO.one tok [1, 10] (by intro C; conv => lhs; simp) (by first | with_reducible exact True.intro | omega | simp | (simp; omega) | (simp +contextual; omega)) rfl ?_
  refine AOpsO.one tok [1, 11] (by intro C; conv => lhs; simp) (by first | with_reducible exact True.intro | omega | simp | (simp; omega) | (simp +contextual; omega)) rfl ?_
  refine AOpsO.one tok [1, 12] (by intro C; conv => lhs; simp) (by first | with_reducible exact True.intro | omega | simp | (simp; omega) | (simp +contextual; omega)) rfl ?_
  refine AOpsO.oneIf tok [1, 12, 13] 12 (by intro C; conv => lhs; simp) (by first | with_reducible exact True.intro | omega | simp | (simp; omega) | (simp +contextual; omega)) rfl rfl ?_
  refine AOpsO.oneIf tok [1, 12, 14] 12 (by intro C; conv => lhs; simp) (by first | with_reducible exact True.intro | omega | simp | (simp; omega) | (simp +contextual; omega)) rfl rfl ?_
  refine AOpsO.oneIf tok [1, 12, 15] 12 (by intro C; conv => lhs; simp) (by first | with_reducible exact True.intro | omega | simp | (simp; omega) | (simp +contextual; omega)) rfl rfl ?_
  refine AOpsO.one tok [1, 16] (by intro C; conv => lhs; simp) (by first | with_reducible exact True.intro | omega | simp | (simp; omega) | (simp +contextual; omega)) rfl ?_
  refine AOpsO.one tok [1, 17] (by intro C; conv => lhs; simp) (by first | with_reducible exact True.intro | omega | simp | (simp; omega) | (simp +contextual; omega)) rfl ?_
  refine AOpsO.oneIf tok [1, 17, 18] 17 (by intro C; conv => lhs; simp) (by first | with_reducible exact True.intro | omega | simp | (simp; omega) | (simp +contextual; omega)) rfl rfl ?_
  refine AOpsO.oneIf tok [1, 17, 19] 17 (by intro C; conv => lhs; simp) (by first | with_reducible exact True.intro | omega | simp | (simp; omega) | (simp +contextual; omega)) rfl rfl ?_
  refine AOpsO.oneIf tok [1, 17, 20] 17 (by intro C; conv => lhs; simp) (by first | with_reducible exact True.intro | omega | simp | (simp; omega) | (simp +contextual; omega)) rfl rfl ?_
  refine AOpsO.oneIf tok [1, 17, 21] 17 (by intro C; conv => lhs; simp) (by first | with_reducible exact True.intro | omega | simp | (simp; omega) | (simp +contextual; omega)) rfl rfl ?_
  refine AOpsO.one tok [1, 22] (by intro C; conv => lhs; simp) (by first | with_reducible exact True.intro | omega | simp | (simp; omega) | (simp +contextual; omega)) rfl ?_
  refine AOpsO.nil ?_
  refine AW.cond (c := .tmp 22) (by conv => lhs; simp) trivial ?_ ?_
  · intro h22
    try simp at h22
    have hno : mayT v = false := notMay (.inl (by simp [boundsT]; omega))
    refine AW.seqRegionO [] ?_
    refine AOpsO.one tok [2] (by intro C; conv => lhs; simp) (by first | with_reducible exact True.intro | omega | simp | (simp; omega) | (simp +contextual; omega)) rfl ?_
    refine AOpsO.nil ?_
    exact AW.ret ⟨.inr rfl, _, _, by (conv => lhs; simp), trivial, by simp [hno]⟩
  · intro h22
    try simp at h22
    have hb : boundsT v = true := by simp [boundsT]; omega
    refine AW.skip ?_
    refine AW.seqRegionO [] ?_
    refine AOpsO.one tok [1, 23] (by intro C; conv => lhs; simp) (by first | with_reducible exact True.intro | omega | simp | (simp; omega) | (simp +contextual; omega)) rfl ?_
    refine AOpsO.one tok [1, 24] (by intro C; conv => lhs; simp) (by first | with_reducible exact True.intro | omega | simp | (simp; omega) | (simp +contextual; omega)) rfl ?_
    refine AOpsO.one tok [1, 24, 25] (by intro C; conv => lhs; simp) (by first | with_reducible exact True.intro | omega | simp | (simp; omega) | (simp +contextual; omega)) rfl ?_
    refine AOpsO.one tok [1, 26] (by intro C; conv => lhs; simp) (by first | with_reducible exact True.intro | omega | simp | (simp; omega) | (simp +contextual; omega)) rfl ?_
    refine AOpsO.one tok [1, 3] (by intro C; conv => lhs; simp) (by first | with_reducible exact True.intro | omega | simp | (simp; omega) | (simp +contextual; omega)) rfl ?_
    refine AOpsO.nil ?_
    refine AW.join (α := Unit) (fun _ => True) (fun a => ⟨upds 113 [(1, .ptr 1 0), (3, .p (.bool (numT v)))], [], [(1, .vars 33 v.cells)], 0⟩) ?_ ?_
    ·
      refine AW.seqRegionO [] ?_
      refine AOpsO.one tok [1, 3, 27] (by intro C; conv => lhs; simp) (by first | with_reducible exact True.intro | omega | simp | (simp; omega) | (simp +contextual; omega)) rfl ?_
      refine AOpsO.one tok [1, 3, 28] (by intro C; conv => lhs; simp) (by first | with_reducible exact True.intro | omega | simp | (simp; omega) | (simp +contextual; omega)) rfl ?_
      refine AOpsO.one tok [1, 3, 29] (by intro C; conv => lhs; simp) (by first | with_reducible exact True.intro | omega | simp | (simp; omega) | (simp +contextual; omega)) rfl ?_
      refine AOpsO.nil ?_
      refine AW.cond (c := .tmp 29) (by conv => lhs; simp) trivial ?_ ?_
      · intro h29
        try simp at h29
        refine AW.regionO [.nilp, .bool (dcMay v.num)] ?_
        refine AOpsO.one tok [1, 30] (by intro C; conv => lhs; simp) (by first | with_reducible exact True.intro | (((repeat' (first | with_reducible apply And.intro | intro _)) <;> first | exact (hd) | assumption | omega | contradiction | simp_all); done) | omega | simp | (simp; omega) | (simp +contextual; omega)) rfl ?_
        refine AOpsO.one tok [1, 31] (by intro C; conv => lhs; simp) (by first | with_reducible exact True.intro | (((repeat' (first | with_reducible apply And.intro | intro _)) <;> first | exact (hd) | assumption | omega | contradiction | simp_all); done) | omega | simp | (simp; omega) | (simp +contextual; omega)) rfl ?_
        refine AOpsO.one tok [1, 32] (by intro C; conv => lhs; simp) (by first | with_reducible exact True.intro | (((repeat' (first | with_reducible apply And.intro | intro _)) <;> first | exact (hd) | assumption | omega | contradiction | simp_all); done) | omega | simp | (simp; omega) | (simp +contextual; omega)) rfl ?_
        refine AOpsO.one tok [1, 3] (by intro C; conv => lhs; simp) (by first | with_reducible exact True.intro | (((repeat' (first | with_reducible apply And.intro | intro _)) <;> first | exact (hd) | assumption | omega | contradiction | simp_all); done) | omega | simp | (simp; omega) | (simp +contextual; omega)) rfl ?_
        refine AOpsO.nil ?_
        exact ⟨(), trivial, upds_le (by simp [numT, h29]), rfl, by simp [numT, h29], by simp [numT, h29]⟩
      · intro h29
        try simp at h29
        refine AW.skip ?_
        exact ⟨(), trivial, upds_le (by simp [numT, h29]), rfl, by simp [numT, h29], by simp [numT, h29]⟩
    ·
      rintro a hI
      refine AW.seqRegionO [] ?_
      refine AOpsO.one tok [1, 3, 33] (by intro C; conv => lhs; simp) (by first | with_reducible exact True.intro | omega | simp | (simp; omega) | (simp +contextual; omega)) rfl ?_
      refine AOpsO.one tok [1, 3, 34] (by intro C; conv => lhs; simp) (by first | with_reducible exact True.intro | omega | simp | (simp; omega) | (simp +contextual; omega)) rfl ?_
      refine AOpsO.one tok [1, 3, 35] (by intro C; conv => lhs; simp) (by first | with_reducible exact True.intro | omega | simp | (simp; omega) | (simp +contextual; omega)) rfl ?_
      refine AOpsO.one tok [1, 3, 4] (by intro C; conv => lhs; simp) (by first | with_reducible exact True.intro | omega | simp | (simp; omega) | (simp +contextual; omega)) rfl ?_
      refine AOpsO.nil ?_
      refine AW.join (α := Unit) (fun _ => True) (fun a => ⟨upds 113 [(1, .ptr 1 0), (3, .p (.bool (numT v))), (4, .p (.bool (textT v)))], [], [(1, .vars 33 v.cells)], 0⟩) ?_ ?_
      ·
        refine AW.seqRegionO [] ?_
        refine AOpsO.one tok [1, 3, 4, 36] (by intro C; conv => lhs; simp) (by first | with_reducible exact True.intro | omega | simp | (simp; omega) | (simp +contextual; omega)) rfl ?_
        refine AOpsO.one tok [1, 3, 4, 37] (by intro C; conv => lhs; simp) (by first | with_reducible exact True.intro | omega | simp | (simp; omega) | (simp +contextual; omega)) rfl ?_
        refine AOpsO.one tok [1, 3, 4, 38] (by intro C; conv => lhs; simp) (by first | with_reducible exact True.intro | omega | simp | (simp; omega) | (simp +contextual; omega)) rfl ?_
        refine AOpsO.nil ?_
        refine AW.cond (c := .tmp 38) (by conv => lhs; simp) trivial ?_ ?_
        · intro h38
          try simp at h38
          refine AW.regionO [.nilp, .bool (wordT v.text)] ?_
          refine AOpsO.one tok [1, 3, 39] (by intro C; conv => lhs; simp) (by first | with_reducible exact True.intro | (((repeat' (first | with_reducible apply And.intro | intro _)) <;> first | exact (hw) | assumption | omega | contradiction | simp_all); done) | omega | simp | (simp; omega) | (simp +contextual; omega)) rfl ?_
          refine AOpsO.one tok [1, 3, 40] (by intro C; conv => lhs; simp) (by first | with_reducible exact True.intro | (((repeat' (first | with_reducible apply And.intro | intro _)) <;> first | exact (hw) | assumption | omega | contradiction | simp_all); done) | omega | simp | (simp; omega) | (simp +contextual; omega)) rfl ?_
          refine AOpsO.one tok [1, 3, 41] (by intro C; conv => lhs; simp) (by first | with_reducible exact True.intro | (((repeat' (first | with_reducible apply And.intro | intro _)) <;> first | exact (hw) | assumption | omega | contradiction | simp_all); done) | omega | simp | (simp; omega) | (simp +contextual; omega)) rfl ?_
          refine AOpsO.one tok [1, 3, 4] (by intro C; conv => lhs; simp) (by first | with_reducible exact True.intro | (((repeat' (first | with_reducible apply And.intro | intro _)) <;> first | exact (hw) | assumption | omega | contradiction | simp_all); done) | omega | simp | (simp; omega) | (simp +contextual; omega)) rfl ?_
          refine AOpsO.nil ?_
          exact ⟨(), trivial, upds_le (by simp [textT, h38]), rfl, by simp [textT, h38], by simp [textT, h38]⟩
        · intro h38
          try simp at h38
          refine AW.skip ?_
          exact ⟨(), trivial, upds_le (by simp [textT, h38]), rfl, by simp [textT, h38], by simp [textT, h38]⟩
      ·
        rintro a hI
        refine AW.seqRegionO [] ?_
        refine AOpsO.one tok [1, 3, 4, 42] (by intro C; conv => lhs; simp) (by first | with_reducible exact True.intro | omega | simp | (simp; omega) | (simp +contextual; omega)) rfl ?_
        refine AOpsO.one tok [1, 3, 4, 43] (by intro C; conv => lhs; simp) (by first | with_reducible exact True.intro | omega | simp | (simp; omega) | (simp +contextual; omega)) rfl ?_
        refine AOpsO.one tok [1, 3, 4, 44] (by intro C; conv => lhs; simp) (by first | with_reducible exact True.intro | omega | simp | (simp; omega) | (simp +contextual; omega)) rfl ?_
        refine AOpsO.one tok [1, 3, 4, 45] (by intro C; conv => lhs; simp) (by first | with_reducible exact True.intro | omega | simp | (simp; omega) | (simp +contextual; omega)) rfl ?_
        refine AOpsO.one tok [1, 3, 4, 5] (by intro C; conv => lhs; simp) (by first | with_reducible exact True.intro | omega | simp | (simp; omega) | (simp +contextual; omega)) rfl ?_
        refine AOpsO.nil ?_
        refine AW.join (α := Unit) (fun _ => True) (fun a => ⟨upds 113 [(1, .ptr 1 0), (3, .p (.bool (numT v))), (4, .p (.bool (textT v))), (5, .p (.bool (namedT v)))], [], [(1, .vars 33 v.cells)], 0⟩) ?_ ?_
        ·
          refine AW.seqRegionO [] ?_
          refine AOpsO.one tok [1, 3, 4, 5, 46] (by intro C; conv => lhs; simp) (by first | with_reducible exact True.intro | omega | simp | (simp; omega) | (simp +contextual; omega)) rfl ?_
          refine AOpsO.one tok [1, 3, 4, 5, 47] (by intro C; conv => lhs; simp) (by first | with_reducible exact True.intro | omega | simp | (simp; omega) | (simp +contextual; omega)) rfl ?_
          refine AOpsO.one tok [1, 3, 4, 5, 48] (by intro C; conv => lhs; simp) (by first | with_reducible exact True.intro | omega | simp | (simp; omega) | (simp +contextual; omega)) rfl ?_
          refine AOpsO.nil ?_
          refine AW.cond (c := .tmp 48) (by conv => lhs; simp) trivial ?_ ?_
          · intro h48
            try simp at h48
            refine AW.regionO [.nilp, .bool (keysT v.keys)] ?_
            refine AOpsO.one tok [1, 3, 4, 49] (by intro C; conv => lhs; simp) (by first | with_reducible exact True.intro | (((repeat' (first | with_reducible apply And.intro | intro _)) <;> first | exact (hk) | assumption | omega | contradiction | simp_all); done) | omega | simp | (simp; omega) | (simp +contextual; omega)) rfl ?_
            refine AOpsO.one tok [1, 3, 4, 50] (by intro C; conv => lhs; simp) (by first | with_reducible exact True.intro | (((repeat' (first | with_reducible apply And.intro | intro _)) <;> first | exact (hk) | assumption | omega | contradiction | simp_all); done) | omega | simp | (simp; omega) | (simp +contextual; omega)) rfl ?_
            refine AOpsO.one tok [1, 3, 4, 51] (by intro C; conv => lhs; simp) (by first | with_reducible exact True.intro | (((repeat' (first | with_reducible apply And.intro | intro _)) <;> first | exact (hk) | assumption | omega | contradiction | simp_all); done) | omega | simp | (simp; omega) | (simp +contextual; omega)) rfl ?_
            refine AOpsO.one tok [1, 3, 4, 51, 52] (by intro C; conv => lhs; simp) (by first | with_reducible exact True.intro | (((repeat' (first | with_reducible apply And.intro | intro _)) <;> first | exact (hk) | assumption | omega | contradiction | simp_all); done) | omega | simp | (simp; omega) | (simp +contextual; omega)) rfl ?_
            refine AOpsO.one tok [1, 3, 4, 51, 53] (by intro C; conv => lhs; simp) (by first | with_reducible exact True.intro | (((repeat' (first | with_reducible apply And.intro | intro _)) <;> first | exact (hk) | assumption | omega | contradiction | simp_all); done) | omega | simp | (simp; omega) | (simp +contextual; omega)) rfl ?_
            refine AOpsO.one tok [1, 3, 4, 51, 54] (by intro C; conv => lhs; simp) (by first | with_reducible exact True.intro | (((repeat' (first | with_reducible apply And.intro | intro _)) <;> first | exact (hk) | assumption | omega | contradiction | simp_all); done) | omega | simp | (simp; omega) | (simp +contextual; omega)) rfl ?_
            refine AOpsO.one tok [1, 3, 4, 55] (by intro C; conv => lhs; simp) (by first | with_reducible exact True.intro | (((repeat' (first | with_reducible apply And.intro | intro _)) <;> first | exact (hk) | assumption | omega | contradiction | simp_all); done) | omega | simp | (simp; omega) | (simp +contextual; omega)) rfl ?_
            refine AOpsO.one tok [1, 3, 4, 56] (by intro C; conv => lhs; simp) (by first | with_reducible exact True.intro | (((repeat' (first | with_reducible apply And.intro | intro _)) <;> first | exact (hk) | assumption | omega | contradiction | simp_all); done) | omega | simp | (simp; omega) | (simp +contextual; omega)) rfl ?_
            refine AOpsO.oneIf tok [1, 3, 4, 56, 57] 56 (by intro C; conv => lhs; simp) (by first | with_reducible exact True.intro | (((repeat' (first | with_reducible apply And.intro | intro _)) <;> first | exact (hk) | assumption | omega | contradiction | simp_all); done) | omega | simp | (simp; omega) | (simp +contextual; omega)) rfl rfl ?_
            refine AOpsO.oneIf tok [1, 3, 4, 56, 58] 56 (by intro C; conv => lhs; simp) (by first | with_reducible exact True.intro | (((repeat' (first | with_reducible apply And.intro | intro _)) <;> first | exact (hk) | assumption | omega | contradiction | simp_all); done) | omega | simp | (simp; omega) | (simp +contextual; omega)) rfl rfl ?_
            refine AOpsO.oneIf tok [1, 3, 4, 56, 59] 56 (by intro C; conv => lhs; simp) (by first | with_reducible exact True.intro | (((repeat' (first | with_reducible apply And.intro | intro _)) <;> first | exact (hk) | assumption | omega | contradiction | simp_all); done) | omega | simp | (simp; omega) | (simp +contextual; omega)) rfl rfl ?_
            refine AOpsO.one tok [1, 3, 4, 60] (by intro C; conv => lhs; simp) (by first | with_reducible exact True.intro | (((repeat' (first | with_reducible apply And.intro | intro _)) <;> first | exact (hk) | assumption | omega | contradiction | simp_all); done) | omega | simp | (simp; omega) | (simp +contextual; omega)) rfl ?_
            refine AOpsO.one tok [1, 3, 4, 5] (by intro C; conv => lhs; simp) (by first | with_reducible exact True.intro | (((repeat' (first | with_reducible apply And.intro | intro _)) <;> first | exact (hk) | assumption | omega | contradiction | simp_all); done) | omega | simp | (simp; omega) | (simp +contextual; omega)) rfl ?_
            refine AOpsO.nil ?_
            exact ⟨(), trivial, upds_le (by simp [namedT, h48]), rfl, by simp [namedT, h48], by simp [namedT, h48]⟩
          · intro h48
            try simp at h48
            refine AW.skip ?_
            exact ⟨(), trivial, upds_le (by simp [namedT, h48, len0]), rfl, by simp [namedT, h48, len0], by simp [namedT, h48, len0]⟩
        ·
          rintro a hI
          refine AW.seqRegionO [] ?_
          refine AOpsO.one tok [1, 3, 4, 5, 61] (by intro C; conv => lhs; simp) (by first | with_reducible exact True.intro | omega | simp | (simp; omega) | (simp +contextual; omega)) rfl ?_
          refine AOpsO.one tok [1, 3, 4, 5, 62] (by intro C; conv => lhs; simp) (by first | with_reducible exact True.intro | omega | simp | (simp; omega) | (simp +contextual; omega)) rfl ?_
          refine AOpsO.one tok [1, 3, 4, 5, 63] (by intro C; conv => lhs; simp) (by first | with_reducible exact True.intro | omega | simp | (simp; omega) | (simp +contextual; omega)) rfl ?_
          refine AOpsO.one tok [1, 3, 4, 5, 64] (by intro C; conv => lhs; simp) (by first | with_reducible exact True.intro | omega | simp | (simp; omega) | (simp +contextual; omega)) rfl ?_
          refine AOpsO.one tok [1, 3, 4, 5, 65] (by intro C; conv => lhs; simp) (by first | with_reducible exact True.intro | omega | simp | (simp; omega) | (simp +contextual; omega)) rfl ?_
          refine AOpsO.oneIf tok [1, 3, 4, 5, 65, 66] 65 (by intro C; conv => lhs; simp) (by first | with_reducible exact True.intro | omega | simp | (simp; omega) | (simp +contextual; omega)) rfl rfl ?_
          refine AOpsO.oneIf tok [1, 3, 4, 5, 65, 67] 65 (by intro C; conv => lhs; simp) (by first | with_reducible exact True.intro | omega | simp | (simp; omega) | (simp +contextual; omega)) rfl rfl ?_
          refine AOpsO.oneIf tok [1, 3, 4, 5, 65, 68] 65 (by intro C; conv => lhs; simp) (by first | with_reducible exact True.intro | omega | simp | (simp; omega) | (simp +contextual; omega)) rfl rfl ?_
          refine AOpsO.one tok [1, 3, 4, 5, 69] (by intro C; conv => lhs; simp) (by first | with_reducible exact True.intro | omega | simp | (simp; omega) | (simp +contextual; omega)) rfl ?_
          refine AOpsO.one tok [1, 3, 4, 5, 70] (by intro C; conv => lhs; simp) (by first | with_reducible exact True.intro | omega | simp | (simp; omega) | (simp +contextual; omega)) rfl ?_
          refine AOpsO.oneIf tok [1, 3, 4, 5, 70, 71] 70 (by intro C; conv => lhs; simp) (by first | with_reducible exact True.intro | omega | simp | (simp; omega) | (simp +contextual; omega)) rfl rfl ?_
          refine AOpsO.oneIf tok [1, 3, 4, 5, 70, 72] 70 (by intro C; conv => lhs; simp) (by first | with_reducible exact True.intro | omega | simp | (simp; omega) | (simp +contextual; omega)) rfl rfl ?_
          refine AOpsO.oneIf tok [1, 3, 4, 5, 70, 73] 70 (by intro C; conv => lhs; simp) (by first | with_reducible exact True.intro | omega | simp | (simp; omega) | (simp +contextual; omega)) rfl rfl ?_
          refine AOpsO.one tok [1, 3, 4, 5, 74] (by intro C; conv => lhs; simp) (by first | with_reducible exact True.intro | omega | simp | (simp; omega) | (simp +contextual; omega)) rfl ?_
          refine AOpsO.one tok [1, 3, 4, 5, 6] (by intro C; conv => lhs; simp) (by first | with_reducible exact True.intro | omega | simp | (simp; omega) | (simp +contextual; omega)) rfl ?_
          refine AOpsO.nil ?_
          refine AW.seq ?_
          refine AW.seqRegionO [] ?_
          refine AOpsO.one tok [1, 4, 5, 6, 75] (by intro C; conv => lhs; simp) (by first | with_reducible exact True.intro | (grind; done) | omega | simp | (simp; omega) | (simp +contextual; omega)) rfl ?_
          refine AOpsO.one tok [1, 4, 5, 6, 76] (by intro C; conv => lhs; simp) (by first | with_reducible exact True.intro | (grind; done) | omega | simp | (simp; omega) | (simp +contextual; omega)) rfl ?_
          refine AOpsO.one tok [1, 4, 5, 6, 77] (by intro C; conv => lhs; simp) (by first | with_reducible exact True.intro | (grind; done) | omega | simp | (simp; omega) | (simp +contextual; omega)) rfl ?_
          refine AOpsO.oneIf tok [1, 5, 6, 77, 78] 77 (by intro C; conv => lhs; simp) (by first | with_reducible exact True.intro | (grind; done) | omega | simp | (simp; omega) | (simp +contextual; omega)) rfl rfl ?_
          refine AOpsO.oneIf tok [1, 5, 6, 77, 79] 77 (by intro C; conv => lhs; simp) (by first | with_reducible exact True.intro | (grind; done) | omega | simp | (simp; omega) | (simp +contextual; omega)) rfl rfl ?_
          refine AOpsO.one tok [1, 5, 6, 80] (by intro C; conv => lhs; simp) (by first | with_reducible exact True.intro | (grind; done) | omega | simp | (simp; omega) | (simp +contextual; omega)) rfl ?_
          refine AOpsO.one tok [1, 5, 6, 81] (by intro C; conv => lhs; simp) (by first | with_reducible exact True.intro | (grind; done) | omega | simp | (simp; omega) | (simp +contextual; omega)) rfl ?_
          refine AOpsO.oneIf tok [1, 6, 81, 82] 81 (by intro C; conv => lhs; simp) (by first | with_reducible exact True.intro | (grind; done) | omega | simp | (simp; omega) | (simp +contextual; omega)) rfl rfl ?_
          refine AOpsO.oneIf tok [1, 6, 81, 83] 81 (by intro C; conv => lhs; simp) (by first | with_reducible exact True.intro | (grind; done) | omega | simp | (simp; omega) | (simp +contextual; omega)) rfl rfl ?_
          refine AOpsO.one tok [1, 6, 84] (by intro C; conv => lhs; simp) (by first | with_reducible exact True.intro | (grind; done) | omega | simp | (simp; omega) | (simp +contextual; omega)) rfl ?_
          refine AOpsO.one tok [1, 6, 85] (by intro C; conv => lhs; simp) (by first | with_reducible exact True.intro | (grind; done) | omega | simp | (simp; omega) | (simp +contextual; omega)) rfl ?_
          refine AOpsO.oneIf tok [1, 85, 86] 85 (by intro C; conv => lhs; simp) (by first | with_reducible exact True.intro | (grind; done) | omega | simp | (simp; omega) | (simp +contextual; omega)) rfl rfl ?_
          refine AOpsO.oneIf tok [1, 85, 87] 85 (by intro C; conv => lhs; simp) (by first | with_reducible exact True.intro | (grind; done) | omega | simp | (simp; omega) | (simp +contextual; omega)) rfl rfl ?_
          refine AOpsO.one tok [1, 88] (by intro C; conv => lhs; simp) (by first | with_reducible exact True.intro | (grind; done) | omega | simp | (simp; omega) | (simp +contextual; omega)) rfl ?_
          refine AOpsO.one tok [1, 89] (by intro C; conv => lhs; simp) (by first | with_reducible exact True.intro | (grind; done) | omega | simp | (simp; omega) | (simp +contextual; omega)) rfl ?_
          refine AOpsO.oneIf tok [1, 89, 90] 89 (by intro C; conv => lhs; simp) (by first | with_reducible exact True.intro | (grind; done) | omega | simp | (simp; omega) | (simp +contextual; omega)) rfl rfl ?_
          refine AOpsO.oneIf tok [1, 89, 91] 89 (by intro C; conv => lhs; simp) (by first | with_reducible exact True.intro | (grind; done) | omega | simp | (simp; omega) | (simp +contextual; omega)) rfl rfl ?_
          refine AOpsO.oneIf tok [1, 89, 92] 89 (by intro C; conv => lhs; simp) (by first | with_reducible exact True.intro | (grind; done) | omega | simp | (simp; omega) | (simp +contextual; omega)) rfl rfl ?_
          refine AOpsO.oneIf tok [1, 89, 92, 93] 89 (by intro C; conv => lhs; simp) (by first | with_reducible exact True.intro | (grind; done) | omega | simp | (simp; omega) | (simp +contextual; omega)) rfl rfl ?_
          refine AOpsO.oneIf tok [1, 89, 92, 94] 89 (by intro C; conv => lhs; simp) (by first | with_reducible exact True.intro | (grind; done) | omega | simp | (simp; omega) | (simp +contextual; omega)) rfl rfl ?_
          refine AOpsO.oneIf tok [1, 89, 92, 95] 89 (by intro C; conv => lhs; simp) (by first | with_reducible exact True.intro | (grind; done) | omega | simp | (simp; omega) | (simp +contextual; omega)) rfl rfl ?_
          refine AOpsO.oneIf tok [1, 89, 96] 89 (by intro C; conv => lhs; simp) (by first | with_reducible exact True.intro | (grind; done) | omega | simp | (simp; omega) | (simp +contextual; omega)) rfl rfl ?_
          refine AOpsO.one tok [1, 97] (by intro C; conv => lhs; simp) (by first | with_reducible exact True.intro | (grind; done) | omega | simp | (simp; omega) | (simp +contextual; omega)) rfl ?_
          refine AOpsO.nil ?_
          refine AW.cond (c := .tmp 97) (by conv => lhs; simp) trivial ?_ ?_
          · intro h97
            try simp at h97
            have hno : mayT v = false := notMay (.inr (.inl (by
              rw [← Bool.not_eq_true]; intro hp
              simp only [partsT, Bool.and_eq_true] at hp
              obtain ⟨⟨⟨⟨p1, p2⟩, p3⟩, p4⟩, p5⟩ := hp
              simp [codeT, kidsT, ← List.length_eq_zero_iff] at p1 p5
              simp [p2, p3, p4, p1, ← List.length_eq_zero_iff] at h97
              grind)))
            refine AW.seqRegionO [] ?_
            refine AOpsO.one tok [2] (by intro C; conv => lhs; simp) (by first | with_reducible exact True.intro | omega | simp | (simp; omega) | (simp +contextual; omega)) rfl ?_
            refine AOpsO.nil ?_
            exact AW.ret ⟨.inr rfl, _, _, by (conv => lhs; simp), trivial, by simp [hno]⟩
          · intro h97
            try simp at h97
            have hp : partsT v = true := by
              simp only [partsT, Bool.and_eq_true, codeT, kidsT]
              grind
            refine AW.skip ?_
            refine AW.seq ?_
            refine AW.seqRegionO [] ?_
            refine AOpsO.one tok [1, 7] (by intro C; conv => lhs; simp) (by first | with_reducible exact True.intro | omega | simp | (simp; omega) | (simp +contextual; omega)) rfl ?_
            refine AOpsO.nil ?_
            refine AW.block ?_
            refine AW.loop (α := Nat) (fun k => k ≤ v.kids.length ∧ (v.kids.take k).all mayT = true) (fun k => ⟨upds 113 [(1, .ptr 1 0), (7, .p (.int .i64 k))], [], [(1, .vars 33 v.cells)], 0⟩) (fun k => v.kids.length - k) (0) ⟨by omega, rfl⟩ ⟨upds_le (by simp), rfl, by simp, by simp⟩ ?_
            rintro k ⟨hk, hall⟩
            refine AW.seq ?_
            refine AW.seqRegionO [] ?_
            refine AOpsO.one tok [1, 7, 98] (by intro C; conv => lhs; simp) (by first | with_reducible exact True.intro | omega | simp | (simp; omega) | (simp +contextual; omega)) rfl ?_
            refine AOpsO.one tok [1, 7, 98, 99] (by intro C; conv => lhs; simp) (by first | with_reducible exact True.intro | omega | simp | (simp; omega) | (simp +contextual; omega)) rfl ?_
            refine AOpsO.one tok [1, 7, 98, 100] (by intro C; conv => lhs; simp) (by first | with_reducible exact True.intro | omega | simp | (simp; omega) | (simp +contextual; omega)) rfl ?_
            refine AOpsO.one tok [1, 7, 98, 101] (by intro C; conv => lhs; simp) (by first | with_reducible exact True.intro | omega | simp | (simp; omega) | (simp +contextual; omega)) rfl ?_
            refine AOpsO.one tok [1, 7, 102] (by intro C; conv => lhs; simp) (by first | with_reducible exact True.intro | omega | simp | (simp; omega) | (simp +contextual; omega)) rfl ?_
            refine AOpsO.nil ?_
            refine AW.cond (c := .tmp 102) (by conv => lhs; simp) trivial ?_ ?_
            · intro h102
              try simp at h102
              obtain ⟨x, hx⟩ : ∃ x, v.kids[k]? = some x := ⟨v.kids[k], by simp [h102]⟩
              have hix := ih x (List.mem_of_getElem? hx)
              refine AW.skip ?_
              refine AW.seq ?_
              refine AW.block ?_
              refine AW.seqRegionO [x.enc, .tup [x.enc], .bool (mayT x)] ?_
              refine AOpsO.one tok [1, 7, 105] (by intro C; conv => lhs; simp) (by first | with_reducible exact True.intro | (first | (simp [hx]; done) | (simp at hix ⊢; exact hix); done) | omega | simp | (simp; omega) | (simp +contextual; omega)) rfl ?_
              refine AOpsO.one tok [1, 7, 106] (by intro C; conv => lhs; simp) (by first | with_reducible exact True.intro | (first | (simp [hx]; done) | (simp at hix ⊢; exact hix); done) | omega | simp | (simp; omega) | (simp +contextual; omega)) rfl ?_
              refine AOpsO.one tok [1, 7, 106, 107] (by intro C; conv => lhs; simp) (by first | with_reducible exact True.intro | (first | (simp [hx]; done) | (simp at hix ⊢; exact hix); done) | omega | simp | (simp; omega) | (simp +contextual; omega)) rfl ?_
              refine AOpsO.one tok [1, 7, 108] (by intro C; conv => lhs; simp) (by first | with_reducible exact True.intro | (first | (simp [hx]; done) | (simp at hix ⊢; exact hix); done) | omega | simp | (simp; omega) | (simp +contextual; omega)) rfl ?_
              refine AOpsO.one tok [1, 7, 109] (by intro C; conv => lhs; simp) (by first | with_reducible exact True.intro | (first | (simp [hx]; done) | (simp at hix ⊢; exact hix); done) | omega | simp | (simp; omega) | (simp +contextual; omega)) rfl ?_
              refine AOpsO.one tok [1, 7, 110] (by intro C; conv => lhs; simp) (by first | with_reducible exact True.intro | (first | (simp [hx]; done) | (simp at hix ⊢; exact hix); done) | omega | simp | (simp; omega) | (simp +contextual; omega)) rfl ?_
              refine AOpsO.one tok [1, 7, 8] (by intro C; conv => lhs; simp) (by first | with_reducible exact True.intro | (first | (simp [hx]; done) | (simp at hix ⊢; exact hix); done) | omega | simp | (simp; omega) | (simp +contextual; omega)) rfl ?_
              refine AOpsO.nil ?_
              refine AW.seqRegionO [] ?_
              refine AOpsO.one tok [1, 7, 111] (by intro C; conv => lhs; simp) (by first | with_reducible exact True.intro | omega | simp | (simp; omega) | (simp +contextual; omega)) rfl ?_
              refine AOpsO.one tok [1, 7, 112] (by intro C; conv => lhs; simp) (by first | with_reducible exact True.intro | omega | simp | (simp; omega) | (simp +contextual; omega)) rfl ?_
              refine AOpsO.nil ?_
              refine AW.cond (c := .tmp 112) (by conv => lhs; simp) trivial ?_ ?_
              · intro h112
                try simp at h112
                have hno : mayT v = false := notMay (.inr (.inr ⟨x, List.mem_of_getElem? hx, h112⟩))
                refine AW.seqRegionO [] ?_
                refine AOpsO.one tok [2] (by intro C; conv => lhs; simp) (by first | with_reducible exact True.intro | omega | simp | (simp; omega) | (simp +contextual; omega)) rfl ?_
                refine AOpsO.nil ?_
                exact AW.ret ⟨.inr rfl, _, _, by (conv => lhs; simp), trivial, by simp [hno]⟩
              · intro h112
                try simp at h112
                refine AW.skip ?_
                refine AW.regionO [] ?_
                refine AOpsO.one tok [1, 103] (by intro C; conv => lhs; simp) (by first | with_reducible exact True.intro | omega | simp | (simp; omega) | (simp +contextual; omega)) rfl ?_
                refine AOpsO.one tok [1, 104] (by intro C; conv => lhs; simp) (by first | with_reducible exact True.intro | omega | simp | (simp; omega) | (simp +contextual; omega)) rfl ?_
                refine AOpsO.one tok [1, 7] (by intro C; conv => lhs; simp) (by first | with_reducible exact True.intro | omega | simp | (simp; omega) | (simp +contextual; omega)) rfl ?_
                refine AOpsO.nil ?_
                exact ⟨k + 1, ⟨by omega, by rw [List.take_add_one, hx, List.all_append, hall]; simp [h112]⟩, by omega, upds_le (by simp), rfl, by simp, by simp⟩
            · intro h102
              try simp at h102
              rw [List.take_of_length_le (by omega)] at hall
              have hyes : mayT v = true := by rw [mayT_eq, hb, hp, hall]; rfl
              refine AW.exit ?_
              simp
              refine AW.seqRegionO [] ?_
              refine AOpsO.one tok [2] (by intro C; conv => lhs; simp) (by first | with_reducible exact True.intro | omega | simp | (simp; omega) | (simp +contextual; omega)) rfl ?_
              refine AOpsO.nil ?_
              exact AW.ret ⟨.inr rfl, _, _, by (conv => lhs; simp), trivial, by simp [hyes]⟩
theorem refMayT_ev (v : Val) : AFn Tryd.prog G 9 [v.enc] (.bool (mayT v)) := Val.induct (fun v ih => refMayT_step v ih) v
end Go.Proofs.YtgoepemmcibdaaaDoor
namespace Go.Proofs.YtgoepemmcibdaaaDoor
open Sy Go
set_option maxRecDepth 100000
set_option maxHeartbeats 4000000
set_option linter.unusedSimpArgs false
set_option linter.unusedVariables false
variable {G : Glob}

structure Item where
  kind : Int
  many : Int
  mask : Int
  num : List UInt8
  text : List UInt8
  keys : List (List UInt8)
@[simp] def Item.enc (x : Item) : PD := .agg [.int .i64 x.kind, .int .i64 x.many, .int .u64 x.mask, .str x.num, .str x.text, .sl 1 (x.keys.map PD.str)]
def low3 (a : Int) : Nat := (a % 2 ^ 64).toNat &&& 7
theorem low3_lt (a : Int) : low3 a < 8 := Nat.and_lt_two_pow _ (n := 3) (by decide)
theorem low3_wrap (a : Int) : IntKind.i64.wrap (((a % 2 ^ IntKind.i64.bits).toNat &&& 7 % 2 ^ IntKind.i64.bits : Nat) : Int) = (low3 a : Int) := by
  have h := low3_lt a
  have e : ((a % 2 ^ IntKind.i64.bits).toNat &&& 7 % 2 ^ IntKind.i64.bits : Nat) = low3 a := rfl
  rw [e]
  simp [IntKind.wrap, IntKind.bits, IntKind.signed]; omega
def numM (s : List UInt8) : Dc := if (ParseM (shortM s)).2 = 0 then (ParseM (shortM s)).1 else ⟨false, [55], 0⟩
def kidsN (alone : List Val) (x : Item) : Nat := min (low3 x.many) alone.length
def itemKids (alone : List Val) (x : Item) : List Val := if low3 x.kind = 5 ∨ low3 x.kind = 6 then alone.drop (alone.length - kidsN alone x) else []
def itemRest (alone : List Val) (x : Item) : List Val := if low3 x.kind = 5 ∨ low3 x.kind = 6 then alone.take (alone.length - kidsN alone x) else alone
def itemV (alone : List Val) (x : Item) : Val :=
  .mk (low3 x.kind + 1) x.mask (if low3 x.kind = 3 then numM x.num else dc0) (if low3 x.kind = 4 then wordM x.text else [])
    (if low3 x.kind = 6 then namedM x.keys (itemKids alone x).length else []) (itemKids alone x) (if low3 x.kind = 7 then 40 else 0)
def itemM (alone : List Val) (x : Item) : List Val := itemRest alone x ++ [itemV alone x]
def aloneM (l : List Item) : List Val := (l.take 80).foldl itemM []
def builtM (l : List Item) : Val := (aloneM l).getLastD nullV
def aloneK (l : List Item) (k : Nat) : List Val := (l.take k).foldl itemM []
theorem aloneK_succ {l : List Item} {k : Nat} {x : Item} (h : l[k]? = some x) : aloneK l (k + 1) = itemM (aloneK l k) x := by
  unfold aloneK; rw [List.take_add_one, h]; simp
theorem itemM_len (a : List Val) (x : Item) : (itemM a x).length ≤ a.length + 1 := by
  unfold itemM itemRest; split <;> simp <;> omega
theorem aloneK_len (l : List Item) : ∀ k, (aloneK l k).length ≤ k
  | 0 => by simp [aloneK]
  | k + 1 => by
    cases h : l[k]? with
    | none =>
      have h1 : aloneK l (k + 1) = aloneK l k := by unfold aloneK; rw [List.take_add_one, h]; simp
      have := aloneK_len l k
      rw [h1]; omega
    | some x =>
      rw [aloneK_succ h]
      have := itemM_len (aloneK l k) x
      have := aloneK_len l k
      omega
theorem Built_ev (l : List Item) (hl : ∀ x ∈ l, x.keys.length ≤ 140737488351232) : AFn Tryd.prog G 6 [.sl 6 (l.map Item.enc)] ((builtM l).enc) := by
  refine AFn.introU tok Tryd.func6 (by kernel_rfl) rfl rfl ?_
  simp only [Tryd.f6, enumA, List.map_cons, List.map_nil]
  refine AW.seqRegionO [] ?_
  refine AOpsO.one tok [0, 2] (by intro C; conv => lhs; simp) (by first | with_reducible exact True.intro | omega | simp | (simp; omega) | (simp +contextual; omega)) rfl ?_
  refine AOpsO.nil ?_
  refine AW.seqRegionO [] ?_
  refine AOpsO.one tok [0, 2, 11] (by intro C; conv => lhs; simp) (by first | with_reducible exact True.intro | omega | simp | (simp; omega) | (simp +contextual; omega)) rfl ?_
  refine AOpsO.one tok [0, 2, 3] (by intro C; conv => lhs; simp) (by first | with_reducible exact True.intro | omega | simp | (simp; omega) | (simp +contextual; omega)) rfl ?_
  refine AOpsO.nil ?_
  refine AW.seq ?_
  refine AW.seqRegionO [] ?_
  refine AOpsO.one tok [0, 2, 3, 4] (by intro C; conv => lhs; simp) (by first | with_reducible exact True.intro | omega | simp | (simp; omega) | (simp +contextual; omega)) rfl ?_
  refine AOpsO.nil ?_
  refine AW.block ?_
  refine AW.loop (α := Nat) (fun k => k ≤ l.length ∧ k ≤ 80) (fun k => ⟨upds 121 [(0, .p (.sl 6 (l.map Item.enc))), (2, .ptr 2 0), (3, .ms 11), (4, .p (.int .i64 k))], [], [(11, .row 33 9 ((aloneK l k).map Val.enc)), (2, .vars 33 [.p (.int .i64 0), .p (.int .u64 0), .p (.bool false), .p (.str []), .p (.int .i64 0), .p (.str []), .nilsl, .nilsl, .p (.int .i64 0)])], 0⟩) (fun k => l.length - k) (0) ⟨by omega, by omega⟩ ⟨upds_le (by simp), rfl, by simp [aloneK], by simp⟩ ?_
  rintro k ⟨hk, hk8⟩
  have hal := aloneK_len l k
  generalize haa : aloneK l k = alone at *
  refine AW.seq ?_
  refine AW.seqRegionO [] ?_
  refine AOpsO.one tok [0, 2, 3, 4, 12] (by intro C; conv => lhs; simp) (by first | with_reducible exact True.intro | omega | simp | (simp; omega) | (simp +contextual; omega)) rfl ?_
  refine AOpsO.one tok [0, 2, 3, 4, 12, 13] (by intro C; conv => lhs; simp) (by first | with_reducible exact True.intro | omega | simp | (simp; omega) | (simp +contextual; omega)) rfl ?_
  refine AOpsO.one tok [0, 2, 3, 4, 12, 14] (by intro C; conv => lhs; simp) (by first | with_reducible exact True.intro | omega | simp | (simp; omega) | (simp +contextual; omega)) rfl ?_
  refine AOpsO.one tok [0, 2, 3, 4, 15] (by intro C; conv => lhs; simp) (by first | with_reducible exact True.intro | omega | simp | (simp; omega) | (simp +contextual; omega)) rfl ?_
  refine AOpsO.one tok [0, 2, 3, 4, 16] (by intro C; conv => lhs; simp) (by first | with_reducible exact True.intro | omega | simp | (simp; omega) | (simp +contextual; omega)) rfl ?_
  refine AOpsO.oneIf tok [0, 2, 3, 4, 16, 17] 16 (by intro C; conv => lhs; simp) (by first | with_reducible exact True.intro | omega | simp | (simp; omega) | (simp +contextual; omega)) rfl rfl ?_
  refine AOpsO.oneIf tok [0, 2, 3, 4, 16, 18] 16 (by intro C; conv => lhs; simp) (by first | with_reducible exact True.intro | omega | simp | (simp; omega) | (simp +contextual; omega)) rfl rfl ?_
  refine AOpsO.one tok [0, 2, 3, 4, 19] (by intro C; conv => lhs; simp) (by first | with_reducible exact True.intro | omega | simp | (simp; omega) | (simp +contextual; omega)) rfl ?_
  refine AOpsO.nil ?_
  refine AW.cond (c := .tmp 19) (by conv => lhs; simp) trivial ?_ ?_
  · intro h19
    try simp at h19
    obtain ⟨x, hx⟩ : ∃ x, l[k]? = some x := ⟨l[k], by simp [h19.1]⟩
    have hsh := short_ev (G := G) x.num
    have hpa := Parse_ev (G := G) (shortM x.num) (by have := shortM_len x.num; omega)
    have hwo := word_ev (G := G) x.text
    have h3k := low3_lt x.kind
    have hxl := hl x (List.mem_of_getElem? hx)
    refine AW.skip ?_
    refine AW.seq ?_
    refine AW.block ?_
    refine AW.seqRegionO [x.enc] ?_
    refine AOpsO.one tok [0, 2, 3, 4, 22] (by intro C; conv => lhs; simp [low3_wrap]) (by first | with_reducible exact True.intro | (simp [hx]; done) | omega | simp | (simp; omega) | (simp +contextual; omega)) rfl ?_
    refine AOpsO.one tok [0, 2, 3, 4, 22, 23] (by intro C; conv => lhs; simp [low3_wrap]) (by first | with_reducible exact True.intro | (simp [hx]; done) | omega | simp | (simp; omega) | (simp +contextual; omega)) rfl ?_
    refine AOpsO.one tok [0, 2, 3, 4, 24] (by intro C; conv => lhs; simp [low3_wrap]) (by first | with_reducible exact True.intro | (simp [hx]; done) | omega | simp | (simp; omega) | (simp +contextual; omega)) rfl ?_
    refine AOpsO.one tok [0, 2, 3, 4, 25] (by intro C; conv => lhs; simp [low3_wrap]) (by first | with_reducible exact True.intro | (simp [hx]; done) | omega | simp | (simp; omega) | (simp +contextual; omega)) rfl ?_
    refine AOpsO.one tok [0, 2, 3, 4, 26] (by intro C; conv => lhs; simp [low3_wrap]) (by first | with_reducible exact True.intro | (simp [hx]; done) | omega | simp | (simp; omega) | (simp +contextual; omega)) rfl ?_
    refine AOpsO.one tok [0, 2, 3, 4, 27] (by intro C; conv => lhs; simp [low3_wrap]) (by first | with_reducible exact True.intro | (simp [hx]; done) | omega | simp | (simp; omega) | (simp +contextual; omega)) rfl ?_
    refine AOpsO.one tok [0, 2, 3, 4, 5] (by intro C; conv => lhs; simp [low3_wrap]) (by first | with_reducible exact True.intro | (simp [hx]; done) | omega | simp | (simp; omega) | (simp +contextual; omega)) rfl ?_
    refine AOpsO.nil ?_
    refine AW.seqRegionO [x.enc] ?_
    refine AOpsO.one tok [0, 2, 3, 4, 28] (by intro C; conv => lhs; simp) (by first | with_reducible exact True.intro | (simp [hx]; done) | omega | simp | (simp; omega) | (simp +contextual; omega)) rfl ?_
    refine AOpsO.one tok [0, 2, 3, 4, 29] (by intro C; conv => lhs; simp) (by first | with_reducible exact True.intro | (simp [hx]; done) | omega | simp | (simp; omega) | (simp +contextual; omega)) rfl ?_
    refine AOpsO.one tok [0, 2, 3, 4, 29, 30] (by intro C; conv => lhs; simp) (by first | with_reducible exact True.intro | (simp [hx]; done) | omega | simp | (simp; omega) | (simp +contextual; omega)) rfl ?_
    refine AOpsO.one tok [0, 2, 3, 4, 29, 30, 31] (by intro C; conv => lhs; simp) (by first | with_reducible exact True.intro | (simp [hx]; done) | omega | simp | (simp; omega) | (simp +contextual; omega)) rfl ?_
    refine AOpsO.one tok [0, 2, 3, 4, 29, 32] (by intro C; conv => lhs; simp) (by first | with_reducible exact True.intro | (simp [hx]; done) | omega | simp | (simp; omega) | (simp +contextual; omega)) rfl ?_
    refine AOpsO.one tok [0, 2, 3, 4, 29, 33] (by intro C; conv => lhs; simp) (by first | with_reducible exact True.intro | (simp [hx]; done) | omega | simp | (simp; omega) | (simp +contextual; omega)) rfl ?_
    refine AOpsO.one tok [0, 2, 3, 4, 29, 34] (by intro C; conv => lhs; simp) (by first | with_reducible exact True.intro | (simp [hx]; done) | omega | simp | (simp; omega) | (simp +contextual; omega)) rfl ?_
    refine AOpsO.one tok [0, 2, 3, 4, 35] (by intro C; conv => lhs; simp) (by first | with_reducible exact True.intro | (simp [hx]; done) | omega | simp | (simp; omega) | (simp +contextual; omega)) rfl ?_
    refine AOpsO.one tok [0, 2, 3, 4, 6, 35] (by intro C; conv => lhs; simp) (by first | with_reducible exact True.intro | (simp [hx]; done) | omega | simp | (simp; omega) | (simp +contextual; omega)) rfl ?_
    refine AOpsO.one tok [0, 2, 3, 4, 6] (by intro C; conv => lhs; simp) (by first | with_reducible exact True.intro | (simp [hx]; done) | omega | simp | (simp; omega) | (simp +contextual; omega)) rfl ?_
    refine AOpsO.nil ?_
    refine AW.join (α := Unit) (fun _ => True) (fun a => ⟨upds 121 [(0, .p (.sl 6 (l.map Item.enc))), (2, .ptr 2 0), (3, .ms 11), (4, .p (.int .i64 k)), (6, .ptr 6 0)], [], [(11, .row 33 9 ((itemRest alone x).map Val.enc)), (2, .vars 33 [.p (.int .i64 0), .p (.int .u64 0), .p (.bool false), .p (.str []), .p (.int .i64 0), .p (.str []), .nilsl, .nilsl, .p (.int .i64 0)]), (6, .vars 33 [.p (.int .i64 (low3 x.kind + 1)), .p (.int .u64 x.mask), .p (.bool (itemV alone x).num.neg), .p (.str (itemV alone x).num.digits), .p (.int .i64 (itemV alone x).num.scale), .p (.str (itemV alone x).text), .p (.sl 1 []), .p (.sl 9 ((itemKids alone x).map Val.enc)), .p (.int .i64 (itemV alone x).code)])], 0⟩) ?_ ?_
    ·
      refine AW.seqRegionO [] ?_
      refine AOpsO.fill 6 [none, none, none, none, none, none, some 1, some 9] (by conv => lhs; simp) ?_
      refine AOpsO.one tok [0, 2, 3, 4, 6, 36] (by intro C; conv => lhs; simp) (by first | with_reducible exact True.intro | omega | simp | (simp; omega) | (simp +contextual; omega)) rfl ?_
      refine AOpsO.one tok [0, 2, 3, 4, 6, 37] (by intro C; conv => lhs; simp) (by first | with_reducible exact True.intro | omega | simp | (simp; omega) | (simp +contextual; omega)) rfl ?_
      refine AOpsO.nil ?_
      refine AW.block ?_
      refine AW.seqRegionO [] ?_
      refine AOpsO.one tok [0, 2, 3, 4, 6, 37, 39] (by intro C; conv => lhs; simp) (by first | with_reducible exact True.intro | omega | simp | (simp; omega) | (simp +contextual; omega)) rfl ?_
      refine AOpsO.one tok [0, 2, 3, 4, 6, 37, 38] (by intro C; conv => lhs; simp) (by first | with_reducible exact True.intro | omega | simp | (simp; omega) | (simp +contextual; omega)) rfl ?_
      refine AOpsO.nil ?_
      refine AW.cond (c := .tmp 38) (by conv => lhs; simp) trivial ?_ ?_
      · intro h38
        try simp at h38
        have hq : low3 x.kind = 3 := by omega
        refine AW.seqRegionO [x.enc, .nilp, .str (shortM x.num), .nilp, .tup [(ParseM (shortM x.num)).1.enc, .int .i64 (ParseM (shortM x.num)).2]] ?_
        refine AOpsO.one tok [0, 2, 3, 4, 6, 41] (by intro C; conv => lhs; simp) (by first | with_reducible exact True.intro | (first | simp [hx] | exact hsh | exact hpa; done) | omega | simp | (simp; omega) | (simp +contextual; omega)) rfl ?_
        refine AOpsO.one tok [0, 2, 3, 4, 6, 41, 42] (by intro C; conv => lhs; simp) (by first | with_reducible exact True.intro | (first | simp [hx] | exact hsh | exact hpa; done) | omega | simp | (simp; omega) | (simp +contextual; omega)) rfl ?_
        refine AOpsO.one tok [0, 2, 3, 4, 6, 43] (by intro C; conv => lhs; simp) (by first | with_reducible exact True.intro | (first | simp [hx] | exact hsh | exact hpa; done) | omega | simp | (simp; omega) | (simp +contextual; omega)) rfl ?_
        refine AOpsO.one tok [0, 2, 3, 4, 6, 44] (by intro C; conv => lhs; simp) (by first | with_reducible exact True.intro | (first | simp [hx] | exact hsh | exact hpa; done) | omega | simp | (simp; omega) | (simp +contextual; omega)) rfl ?_
        refine AOpsO.one tok [0, 2, 3, 4, 6, 45] (by intro C; conv => lhs; simp) (by first | with_reducible exact True.intro | (first | simp [hx] | exact hsh | exact hpa; done) | omega | simp | (simp; omega) | (simp +contextual; omega)) rfl ?_
        refine AOpsO.one tok [0, 2, 3, 4, 6, 46] (by intro C; conv => lhs; simp) (by first | with_reducible exact True.intro | (first | simp [hx] | exact hsh | exact hpa; done) | omega | simp | (simp; omega) | (simp +contextual; omega)) rfl ?_
        refine AOpsO.one tok [0, 2, 3, 4, 6, 47] (by intro C; conv => lhs; simp) (by first | with_reducible exact True.intro | (first | simp [hx] | exact hsh | exact hpa; done) | omega | simp | (simp; omega) | (simp +contextual; omega)) rfl ?_
        refine AOpsO.one tok [0, 2, 3, 4, 6, 40] (by intro C; conv => lhs; simp) (by first | with_reducible exact True.intro | (first | simp [hx] | exact hsh | exact hpa; done) | omega | simp | (simp; omega) | (simp +contextual; omega)) rfl ?_
        refine AOpsO.one tok [0, 2, 3, 4, 6, 40, 48] (by intro C; conv => lhs; simp) (by first | with_reducible exact True.intro | (first | simp [hx] | exact hsh | exact hpa; done) | omega | simp | (simp; omega) | (simp +contextual; omega)) rfl ?_
        refine AOpsO.one tok [0, 2, 3, 4, 6, 48, 49] (by intro C; conv => lhs; simp) (by first | with_reducible exact True.intro | (first | simp [hx] | exact hsh | exact hpa; done) | omega | simp | (simp; omega) | (simp +contextual; omega)) rfl ?_
        refine AOpsO.one tok [0, 2, 3, 4, 6, 7, 48, 49] (by intro C; conv => lhs; simp) (by first | with_reducible exact True.intro | (first | simp [hx] | exact hsh | exact hpa; done) | omega | simp | (simp; omega) | (simp +contextual; omega)) rfl ?_
        refine AOpsO.one tok [0, 2, 3, 4, 6, 7, 49] (by intro C; conv => lhs; simp) (by first | with_reducible exact True.intro | (first | simp [hx] | exact hsh | exact hpa; done) | omega | simp | (simp; omega) | (simp +contextual; omega)) rfl ?_
        refine AOpsO.one tok [0, 2, 3, 4, 6, 7, 8] (by intro C; conv => lhs; simp) (by first | with_reducible exact True.intro | (first | simp [hx] | exact hsh | exact hpa; done) | omega | simp | (simp; omega) | (simp +contextual; omega)) rfl ?_
        refine AOpsO.nil ?_
        refine AW.seq ?_
        refine AW.seqRegionO [] ?_
        refine AOpsO.one tok [0, 2, 3, 4, 6, 7, 50] (by intro C; conv => lhs; simp) (by first | with_reducible exact True.intro | omega | simp | (simp; omega) | (simp +contextual; omega)) rfl ?_
        refine AOpsO.one tok [0, 2, 3, 4, 6, 7, 51] (by intro C; conv => lhs; simp) (by first | with_reducible exact True.intro | omega | simp | (simp; omega) | (simp +contextual; omega)) rfl ?_
        refine AOpsO.nil ?_
        refine AW.cond (c := .tmp 51) (by conv => lhs; simp) trivial ?_ ?_
        · intro h51
          try simp at h51
          refine AW.regionO [] ?_
          refine AOpsO.one tok [0, 2, 3, 4, 6, 7, 52] (by intro C; conv => lhs; simp) (by first | with_reducible exact True.intro | omega | simp | (simp; omega) | (simp +contextual; omega)) rfl ?_
          refine AOpsO.one tok [0, 2, 3, 4, 6, 7] (by intro C; conv => lhs; simp) (by first | with_reducible exact True.intro | omega | simp | (simp; omega) | (simp +contextual; omega)) rfl ?_
          refine AOpsO.nil ?_
          refine AW.regionO [] ?_
          refine AOpsO.one tok [0, 2, 3, 4, 6, 53] (by intro C; conv => lhs; simp) (by first | with_reducible exact True.intro | omega | simp | (simp; omega) | (simp +contextual; omega)) rfl ?_
          refine AOpsO.one tok [0, 2, 3, 4, 6, 53, 54] (by intro C; conv => lhs; simp) (by first | with_reducible exact True.intro | omega | simp | (simp; omega) | (simp +contextual; omega)) rfl ?_
          refine AOpsO.one tok [0, 2, 3, 4, 6] (by intro C; conv => lhs; simp) (by first | with_reducible exact True.intro | omega | simp | (simp; omega) | (simp +contextual; omega)) rfl ?_
          refine AOpsO.nil ?_
          exact ⟨(), trivial, upds_le (by simp [itemRest, itemV, itemKids, numM, dc0, Val.num, Val.text, Val.code, Val.keys, Val.kids, hq, h51]), rfl, by simp [itemRest, itemV, itemKids, numM, dc0, Val.num, Val.text, Val.code, Val.keys, Val.kids, hq, h51], by simp [itemRest, itemV, itemKids, numM, dc0, Val.num, Val.text, Val.code, Val.keys, Val.kids, hq, h51]⟩
        · intro h51
          try simp at h51
          refine AW.skip ?_
          refine AW.regionO [] ?_
          refine AOpsO.one tok [0, 2, 3, 4, 6, 53] (by intro C; conv => lhs; simp) (by first | with_reducible exact True.intro | omega | simp | (simp; omega) | (simp +contextual; omega)) rfl ?_
          refine AOpsO.one tok [0, 2, 3, 4, 6, 53, 54] (by intro C; conv => lhs; simp) (by first | with_reducible exact True.intro | omega | simp | (simp; omega) | (simp +contextual; omega)) rfl ?_
          refine AOpsO.one tok [0, 2, 3, 4, 6] (by intro C; conv => lhs; simp) (by first | with_reducible exact True.intro | omega | simp | (simp; omega) | (simp +contextual; omega)) rfl ?_
          refine AOpsO.nil ?_
          exact ⟨(), trivial, upds_le (by simp [itemRest, itemV, itemKids, numM, dc0, Val.num, Val.text, Val.code, Val.keys, Val.kids, hq, h51]), rfl, by simp [itemRest, itemV, itemKids, numM, dc0, Val.num, Val.text, Val.code, Val.keys, Val.kids, hq, h51], by simp [itemRest, itemV, itemKids, numM, dc0, Val.num, Val.text, Val.code, Val.keys, Val.kids, hq, h51]⟩
      · intro h38
        try simp at h38
        refine AW.seqRegionO [] ?_
        refine AOpsO.one tok [0, 2, 3, 4, 6, 37, 56] (by intro C; conv => lhs; simp) (by first | with_reducible exact True.intro | omega | simp | (simp; omega) | (simp +contextual; omega)) rfl ?_
        refine AOpsO.one tok [0, 2, 3, 4, 6, 37, 55] (by intro C; conv => lhs; simp) (by first | with_reducible exact True.intro | omega | simp | (simp; omega) | (simp +contextual; omega)) rfl ?_
        refine AOpsO.nil ?_
        refine AW.cond (c := .tmp 55) (by conv => lhs; simp) trivial ?_ ?_
        · intro h55
          try simp at h55
          have hq : low3 x.kind = 4 := by omega
          refine AW.regionO [x.enc, .nilp, .str (wordM x.text)] ?_
          refine AOpsO.one tok [0, 2, 3, 4, 6, 57] (by intro C; conv => lhs; simp) (by first | with_reducible exact True.intro | (first | simp [hx] | exact hwo; done) | omega | simp | (simp; omega) | (simp +contextual; omega)) rfl ?_
          refine AOpsO.one tok [0, 2, 3, 4, 6, 57, 58] (by intro C; conv => lhs; simp) (by first | with_reducible exact True.intro | (first | simp [hx] | exact hwo; done) | omega | simp | (simp; omega) | (simp +contextual; omega)) rfl ?_
          refine AOpsO.one tok [0, 2, 3, 4, 6, 59] (by intro C; conv => lhs; simp) (by first | with_reducible exact True.intro | (first | simp [hx] | exact hwo; done) | omega | simp | (simp; omega) | (simp +contextual; omega)) rfl ?_
          refine AOpsO.one tok [0, 2, 3, 4, 6, 60] (by intro C; conv => lhs; simp) (by first | with_reducible exact True.intro | (first | simp [hx] | exact hwo; done) | omega | simp | (simp; omega) | (simp +contextual; omega)) rfl ?_
          refine AOpsO.one tok [0, 2, 3, 4, 6, 61] (by intro C; conv => lhs; simp) (by first | with_reducible exact True.intro | (first | simp [hx] | exact hwo; done) | omega | simp | (simp; omega) | (simp +contextual; omega)) rfl ?_
          refine AOpsO.one tok [0, 2, 3, 4, 6, 62] (by intro C; conv => lhs; simp) (by first | with_reducible exact True.intro | (first | simp [hx] | exact hwo; done) | omega | simp | (simp; omega) | (simp +contextual; omega)) rfl ?_
          refine AOpsO.one tok [0, 2, 3, 4, 6, 62, 63] (by intro C; conv => lhs; simp) (by first | with_reducible exact True.intro | (first | simp [hx] | exact hwo; done) | omega | simp | (simp; omega) | (simp +contextual; omega)) rfl ?_
          refine AOpsO.one tok [0, 2, 3, 4, 6] (by intro C; conv => lhs; simp) (by first | with_reducible exact True.intro | (first | simp [hx] | exact hwo; done) | omega | simp | (simp; omega) | (simp +contextual; omega)) rfl ?_
          refine AOpsO.nil ?_
          exact ⟨(), trivial, upds_le (by simp [itemRest, itemV, itemKids, numM, dc0, Val.num, Val.text, Val.code, Val.keys, Val.kids, hq]), rfl, by simp [itemRest, itemV, itemKids, numM, dc0, Val.num, Val.text, Val.code, Val.keys, Val.kids, hq], by simp [itemRest, itemV, itemKids, numM, dc0, Val.num, Val.text, Val.code, Val.keys, Val.kids, hq]⟩
        · intro h55
          try simp at h55
          refine AW.seqRegionO [] ?_
          refine AOpsO.one tok [0, 2, 3, 4, 6, 37, 65] (by intro C; conv => lhs; simp) (by first | with_reducible exact True.intro | omega | simp | (simp; omega) | (simp +contextual; omega)) rfl ?_
          refine AOpsO.one tok [0, 2, 3, 4, 6, 37, 64] (by intro C; conv => lhs; simp) (by first | with_reducible exact True.intro | omega | simp | (simp; omega) | (simp +contextual; omega)) rfl ?_
          refine AOpsO.nil ?_
          refine AW.cond (c := .tmp 64) (by conv => lhs; simp) trivial ?_ ?_
          · intro h64
            try simp at h64
            have hq : low3 x.kind = 7 := by omega
            refine AW.regionO [] ?_
            refine AOpsO.one tok [0, 2, 3, 4, 6, 66] (by intro C; conv => lhs; simp) (by first | with_reducible exact True.intro | omega | simp | (simp; omega) | (simp +contextual; omega)) rfl ?_
            refine AOpsO.one tok [0, 2, 3, 4, 6] (by intro C; conv => lhs; simp) (by first | with_reducible exact True.intro | omega | simp | (simp; omega) | (simp +contextual; omega)) rfl ?_
            refine AOpsO.nil ?_
            exact ⟨(), trivial, upds_le (by simp [itemRest, itemV, itemKids, numM, dc0, Val.num, Val.text, Val.code, Val.keys, Val.kids, hq]), rfl, by simp [itemRest, itemV, itemKids, numM, dc0, Val.num, Val.text, Val.code, Val.keys, Val.kids, hq], by simp [itemRest, itemV, itemKids, numM, dc0, Val.num, Val.text, Val.code, Val.keys, Val.kids, hq]⟩
          · intro h64
            try simp at h64
            refine AW.join (α := Unit) (fun _ => True) (fun a => ⟨upds 121 [(0, .p (.sl 6 (l.map Item.enc))), (2, .ptr 2 0), (3, .ms 11), (4, .p (.int .i64 k)), (6, .ptr 6 0), (67, .p (.bool (decide (low3 x.kind = 5 ∨ low3 x.kind = 6))))], [], [(11, .row 33 9 (alone.map Val.enc)), (2, .vars 33 [.p (.int .i64 0), .p (.int .u64 0), .p (.bool false), .p (.str []), .p (.int .i64 0), .p (.str []), .nilsl, .nilsl, .p (.int .i64 0)]), (6, .vars 33 [.p (.int .i64 (low3 x.kind + 1)), .p (.int .u64 x.mask), .p (.bool false), .p (.str []), .p (.int .i64 0), .p (.str []), .p (.sl 1 []), .p (.sl 9 []), .p (.int .i64 0)])], 0⟩) ?_ ?_
            ·
              refine AW.seqRegionO [] ?_
              refine AOpsO.one tok [0, 2, 3, 4, 6, 37, 68] (by intro C; conv => lhs; simp) (by first | with_reducible exact True.intro | omega | simp | (simp; omega) | (simp +contextual; omega)) rfl ?_
              refine AOpsO.one tok [0, 2, 3, 4, 6, 37, 67] (by intro C; conv => lhs; simp) (by first | with_reducible exact True.intro | omega | simp | (simp; omega) | (simp +contextual; omega)) rfl ?_
              refine AOpsO.nil ?_
              refine AW.cond (c := .tmp 67) (by conv => lhs; simp) trivial ?_ ?_
              · intro h67
                try simp at h67
                refine AW.skip ?_
                exact ⟨(), trivial, upds_le (by simp [show (low3 x.kind = 5 ∨ low3 x.kind = 6) = True from eq_true (by omega), h67]), rfl, by simp [show (low3 x.kind = 5 ∨ low3 x.kind = 6) = True from eq_true (by omega), h67], by simp [show (low3 x.kind = 5 ∨ low3 x.kind = 6) = True from eq_true (by omega), h67]⟩
              · intro h67
                try simp at h67
                refine AW.regionO [] ?_
                refine AOpsO.one tok [0, 2, 3, 4, 6, 69] (by intro C; conv => lhs; simp) (by first | with_reducible exact True.intro | omega | simp | (simp; omega) | (simp +contextual; omega)) rfl ?_
                refine AOpsO.one tok [0, 2, 3, 4, 6, 67] (by intro C; conv => lhs; simp) (by first | with_reducible exact True.intro | omega | simp | (simp; omega) | (simp +contextual; omega)) rfl ?_
                refine AOpsO.nil ?_
                exact ⟨(), trivial, upds_le (by simp [show (low3 x.kind = 5 ∨ low3 x.kind = 6) = (low3 x.kind = 6) from propext (by omega), show ((low3 x.kind : Int) + 1 = 7) = (low3 x.kind = 6) from propext (by omega)]), rfl, by simp [show (low3 x.kind = 5 ∨ low3 x.kind = 6) = (low3 x.kind = 6) from propext (by omega), show ((low3 x.kind : Int) + 1 = 7) = (low3 x.kind = 6) from propext (by omega)], by simp [show (low3 x.kind = 5 ∨ low3 x.kind = 6) = (low3 x.kind = 6) from propext (by omega), show ((low3 x.kind : Int) + 1 = 7) = (low3 x.kind = 6) from propext (by omega)]⟩
            ·
              rintro a hI
              refine AW.cond (c := .tmp 67) (by conv => lhs; simp) trivial ?_ ?_
              · intro h67
                try simp at h67
                have hmany := low3_lt x.many
                have hkn : ((alone.length : Int) - if alone.length < low3 x.many then (alone.length : Int) else (low3 x.many : Int)).toNat = alone.length - kidsN alone x := by unfold kidsN; split <;> omega
                have hq3 : ¬ low3 x.kind = 3 := by omega
                have hq4 : ¬ low3 x.kind = 4 := by omega
                have hq7 : ¬ low3 x.kind = 7 := by omega
                refine AW.seqRegionO [x.enc] ?_
                refine AOpsO.one tok [0, 2, 3, 4, 6, 70] (by intro C; conv => lhs; simp [low3_wrap]) (by first | with_reducible exact True.intro | (simp [hx]; done) | omega | simp | (simp; omega) | (simp +contextual; omega)) rfl ?_
                refine AOpsO.one tok [0, 2, 3, 4, 6, 70, 71] (by intro C; conv => lhs; simp [low3_wrap]) (by first | with_reducible exact True.intro | (simp [hx]; done) | omega | simp | (simp; omega) | (simp +contextual; omega)) rfl ?_
                refine AOpsO.one tok [0, 2, 3, 4, 6, 72] (by intro C; conv => lhs; simp [low3_wrap]) (by first | with_reducible exact True.intro | (simp [hx]; done) | omega | simp | (simp; omega) | (simp +contextual; omega)) rfl ?_
                refine AOpsO.one tok [0, 2, 3, 4, 6, 73] (by intro C; conv => lhs; simp [low3_wrap]) (by first | with_reducible exact True.intro | (simp [hx]; done) | omega | simp | (simp; omega) | (simp +contextual; omega)) rfl ?_
                refine AOpsO.one tok [0, 2, 3, 4, 6, 74] (by intro C; conv => lhs; simp [low3_wrap]) (by first | with_reducible exact True.intro | (simp [hx]; done) | omega | simp | (simp; omega) | (simp +contextual; omega)) rfl ?_
                refine AOpsO.one tok [0, 2, 3, 4, 6, 75] (by intro C; conv => lhs; simp [low3_wrap]) (by first | with_reducible exact True.intro | (simp [hx]; done) | omega | simp | (simp; omega) | (simp +contextual; omega)) rfl ?_
                refine AOpsO.one tok [0, 2, 3, 4, 6, 75, 76] (by intro C; conv => lhs; simp [low3_wrap]) (by first | with_reducible exact True.intro | (simp [hx]; done) | omega | simp | (simp; omega) | (simp +contextual; omega)) rfl ?_
                refine AOpsO.one tok [0, 2, 3, 4, 6, 75, 77] (by intro C; conv => lhs; simp [low3_wrap]) (by first | with_reducible exact True.intro | (simp [hx]; done) | omega | simp | (simp; omega) | (simp +contextual; omega)) rfl ?_
                refine AOpsO.one tok [0, 2, 3, 4, 6, 78] (by intro C; conv => lhs; simp [low3_wrap]) (by first | with_reducible exact True.intro | (simp [hx]; done) | omega | simp | (simp; omega) | (simp +contextual; omega)) rfl ?_
                refine AOpsO.one tok [0, 2, 3, 4, 6, 9] (by intro C; conv => lhs; simp [low3_wrap]) (by first | with_reducible exact True.intro | (simp [hx]; done) | omega | simp | (simp; omega) | (simp +contextual; omega)) rfl ?_
                refine AOpsO.nil ?_
                refine AW.seqRegionO [] ?_
                refine AOpsO.one tok [0, 2, 3, 4, 6, 9, 79] (by intro C; conv => lhs; simp) (by first | with_reducible exact True.intro | omega | simp | (simp; omega) | (simp +contextual; omega)) rfl ?_
                refine AOpsO.one tok [0, 2, 3, 4, 6, 9, 80] (by intro C; conv => lhs; simp) (by first | with_reducible exact True.intro | omega | simp | (simp; omega) | (simp +contextual; omega)) rfl ?_
                refine AOpsO.one tok [0, 2, 3, 4, 6, 80, 81] (by intro C; conv => lhs; simp) (by first | with_reducible exact True.intro | omega | simp | (simp; omega) | (simp +contextual; omega)) rfl ?_
                refine AOpsO.one tok [0, 2, 3, 4, 6, 82] (by intro C; conv => lhs; simp) (by first | with_reducible exact True.intro | omega | simp | (simp; omega) | (simp +contextual; omega)) rfl ?_
                refine AOpsO.one tok [0, 2, 3, 4, 6, 10] (by intro C; conv => lhs; simp) (by first | with_reducible exact True.intro | omega | simp | (simp; omega) | (simp +contextual; omega)) rfl ?_
                refine AOpsO.nil ?_
                refine AW.seqRegionO [] ?_
                refine AOpsO.freeze 11 (by conv => lhs; simp) ?_
                refine AOpsO.one tok [0, 2, 3, 4, 6, 10, 83] (by intro C; conv => lhs; simp) (by first | with_reducible exact True.intro | omega | simp | (simp; omega) | (simp +contextual; omega)) rfl ?_
                refine AOpsO.one tok [0, 2, 3, 4, 6, 10, 83, 84] (by intro C; conv => lhs; simp) (by first | with_reducible exact True.intro | omega | simp | (simp; omega) | (simp +contextual; omega)) rfl ?_
                refine AOpsO.one tok [0, 2, 3, 4, 6, 10, 83, 84, 85] (by intro C; conv => lhs; simp) (by first | with_reducible exact True.intro | omega | simp | (simp; omega) | (simp +contextual; omega)) rfl ?_
                refine AOpsO.one tok [0, 2, 3, 4, 6, 10, 83, 86] (by intro C; conv => lhs; simp) (by first | with_reducible exact True.intro | omega | simp | (simp; omega) | (simp +contextual; omega)) rfl ?_
                refine AOpsO.one tok [0, 2, 3, 4, 6, 10, 87] (by intro C; conv => lhs; simp) (by first | with_reducible exact True.intro | omega | simp | (simp; omega) | (simp +contextual; omega)) rfl ?_
                refine AOpsO.one tok [0, 2, 3, 4, 6, 10, 87, 88] (by intro C; conv => lhs; simp) (by first | with_reducible exact True.intro | omega | simp | (simp; omega) | (simp +contextual; omega)) rfl ?_
                refine AOpsO.one tok [0, 2, 3, 4, 6, 10] (by intro C; conv => lhs; simp) (by first | with_reducible exact True.intro | omega | simp | (simp; omega) | (simp +contextual; omega)) rfl ?_
                refine AOpsO.nil ?_
                refine AW.regionO [] ?_
                refine AOpsO.one tok [0, 2, 3, 4, 6, 10, 89] (by intro C; conv => lhs; simp) (by first | with_reducible exact True.intro | omega | simp | (simp; omega) | (simp +contextual; omega)) rfl ?_
                refine AOpsO.one tok [0, 2, 4, 6, 10, 89, 90] (by intro C; conv => lhs; simp) (by first | with_reducible exact True.intro | omega | simp | (simp; omega) | (simp +contextual; omega)) rfl ?_
                refine AOpsO.one tok [0, 2, 4, 6, 89, 90, 91] (by intro C; conv => lhs; simp) (by first | with_reducible exact True.intro | omega | simp | (simp; omega) | (simp +contextual; omega)) rfl ?_
                refine AOpsO.one tok [0, 2, 4, 6, 89, 92] (by intro C; conv => lhs; simp) (by first | with_reducible exact True.intro | omega | simp | (simp; omega) | (simp +contextual; omega)) rfl ?_
                refine AOpsO.one tok [0, 2, 4, 6, 93] (by intro C; conv => lhs; simp) (by first | with_reducible exact True.intro | omega | simp | (simp; omega) | (simp +contextual; omega)) rfl ?_
                refine AOpsO.take 89 11 (by conv => lhs; simp) ?_
                refine AOpsO.freeze 83 (by conv => lhs; simp) ?_
                refine AOpsO.one tok [0, 2, 3, 4, 6] (by intro C; conv => lhs; simp) (by first | with_reducible exact True.intro | omega | simp | (simp; omega) | (simp +contextual; omega)) rfl ?_
                refine AOpsO.nil ?_
                exact ⟨(), trivial, upds_le (by simp [itemRest, itemV, itemKids, numM, dc0, Val.num, Val.text, Val.code, Val.keys, Val.kids, hq3, hq4, hq7, hkn, h67, show List.take alone.length (alone.map Val.enc) = alone.map Val.enc from List.take_of_length_le (by simp)]), rfl, by simp [itemRest, itemV, itemKids, numM, dc0, Val.num, Val.text, Val.code, Val.keys, Val.kids, hq3, hq4, hq7, hkn, h67, show List.take alone.length (alone.map Val.enc) = alone.map Val.enc from List.take_of_length_le (by simp)], by simp [itemRest, itemV, itemKids, numM, dc0, Val.num, Val.text, Val.code, Val.keys, Val.kids, hq3, hq4, hq7, hkn, h67, show List.take alone.length (alone.map Val.enc) = alone.map Val.enc from List.take_of_length_le (by simp)]⟩
              · intro h67
                try simp at h67
                have hq3 : ¬ low3 x.kind = 3 := by omega
                have hq4 : ¬ low3 x.kind = 4 := by omega
                have hq7 : ¬ low3 x.kind = 7 := by omega
                refine AW.skip ?_
                exact ⟨(), trivial, upds_le (by simp [itemRest, itemV, itemKids, numM, dc0, Val.num, Val.text, Val.code, Val.keys, Val.kids, hq3, hq4, hq7, h67]), rfl, by simp [itemRest, itemV, itemKids, numM, dc0, Val.num, Val.text, Val.code, Val.keys, Val.kids, hq3, hq4, hq7, h67], by simp [itemRest, itemV, itemKids, numM, dc0, Val.num, Val.text, Val.code, Val.keys, Val.kids, hq3, hq4, hq7, h67]⟩
    ·
      rintro a hI
      refine AW.join (α := Unit) (fun _ => True) (fun a => ⟨upds 121 [(0, .p (.sl 6 (l.map Item.enc))), (2, .ptr 2 0), (3, .ms 11), (4, .p (.int .i64 k)), (6, .ptr 6 0)], [], [(11, .row 33 9 ((itemRest alone x).map Val.enc)), (2, .vars 33 [.p (.int .i64 0), .p (.int .u64 0), .p (.bool false), .p (.str []), .p (.int .i64 0), .p (.str []), .nilsl, .nilsl, .p (.int .i64 0)]), (6, .vars 33 [.p (.int .i64 (itemV alone x).kind), .p (.int .u64 (itemV alone x).mask), .p (.bool (itemV alone x).num.neg), .p (.str (itemV alone x).num.digits), .p (.int .i64 (itemV alone x).num.scale), .p (.str (itemV alone x).text), .p (.sl 1 ((itemV alone x).keys.map PD.str)), .p (.sl 9 ((itemV alone x).kids.map Val.enc)), .p (.int .i64 (itemV alone x).code)])], 0⟩) ?_ ?_
      ·
        refine AW.seqRegionO [] ?_
        refine AOpsO.one tok [0, 2, 3, 4, 6, 94] (by intro C; conv => lhs; simp) (by first | with_reducible exact True.intro | omega | simp | (simp; omega) | (simp +contextual; omega)) rfl ?_
        refine AOpsO.one tok [0, 2, 3, 4, 6, 95] (by intro C; conv => lhs; simp) (by first | with_reducible exact True.intro | omega | simp | (simp; omega) | (simp +contextual; omega)) rfl ?_
        refine AOpsO.one tok [0, 2, 3, 4, 6, 96] (by intro C; conv => lhs; simp) (by first | with_reducible exact True.intro | omega | simp | (simp; omega) | (simp +contextual; omega)) rfl ?_
        refine AOpsO.nil ?_
        refine AW.cond (c := .tmp 96) (by conv => lhs; simp) trivial ?_ ?_
        · intro h96
          try simp at h96
          have hq : low3 x.kind = 6 := by omega
          have hkl : (itemKids alone x).length ≤ 100000 := by unfold itemKids; split <;> simp <;> omega
          have hna := named_ev (G := G) x.keys (itemKids alone x).length hxl hkl
          refine AW.runDrawK tok mixed [0, 2, 3, 4, 6] 9 [[0], [4], [97, 98], [99], [100], [6], [102], [103], [101, 104]] [x.enc, .nilp, .sl 1 ((namedM x.keys (itemKids alone x).length).map PD.str)] [] (by kernel_rfl) (by intro C; conv => lhs; simp) (by first | (simp [hx]; done) | (simp [hx]; exact hna)) (by simp [Sm.sum, Sm.foot, Sm.tch, Sm.refs]; kernel_rfl) (by intro C; conv => lhs; simp) (by first | with_reducible exact True.intro | omega | simp | (simp; omega) | (simp +contextual; omega)) ?_
          exact ⟨(), trivial, upds_le (by simp [itemV, Val.kind, Val.mask, Val.keys, Val.kids, hq]), rfl, by simp [itemV, Val.kind, Val.mask, Val.keys, Val.kids, hq], by simp [itemV, Val.kind, Val.mask, Val.keys, Val.kids, hq]⟩
        · intro h96
          try simp at h96
          have hq : ¬ low3 x.kind = 6 := by omega
          refine AW.skip ?_
          exact ⟨(), trivial, upds_le (by simp [itemV, Val.kind, Val.mask, Val.keys, Val.kids, hq]), rfl, by simp [itemV, Val.kind, Val.mask, Val.keys, Val.kids, hq], by simp [itemV, Val.kind, Val.mask, Val.keys, Val.kids, hq]⟩
      ·
        rintro a hI
        have hrl : (itemRest alone x).length ≤ alone.length := by unfold itemRest; split <;> simp <;> omega
        refine AW.regionO [(itemV alone x).enc] ?_
        refine AOpsO.one tok [0, 2, 4, 6, 107] (by intro C; conv => lhs; simp) (by first | with_reducible exact True.intro | (first | (simp; done) | (simp; omega) | omega; done) | omega | simp | (simp; omega) | (simp +contextual; omega)) rfl ?_
        refine AOpsO.one tok [0, 2, 4, 107, 108] (by intro C; conv => lhs; simp) (by first | with_reducible exact True.intro | (first | (simp; done) | (simp; omega) | omega; done) | omega | simp | (simp; omega) | (simp +contextual; omega)) rfl ?_
        refine AOpsO.one tok [0, 2, 4, 107, 109] (by intro C; conv => lhs; simp) (by first | with_reducible exact True.intro | (first | (simp; done) | (simp; omega) | omega; done) | omega | simp | (simp; omega) | (simp +contextual; omega)) rfl ?_
        refine AOpsO.one tok [0, 2, 4, 110] (by intro C; conv => lhs; simp) (by first | with_reducible exact True.intro | (first | (simp; done) | (simp; omega) | omega; done) | omega | simp | (simp; omega) | (simp +contextual; omega)) rfl ?_
        refine AOpsO.one tok [0, 2, 3, 4] (by intro C; conv => lhs; simp) (by first | with_reducible exact True.intro | (first | (simp; done) | (simp; omega) | omega; done) | omega | simp | (simp; omega) | (simp +contextual; omega)) rfl ?_
        refine AOpsO.nil ?_
        refine AW.regionO [] ?_
        refine AOpsO.one tok [0, 2, 3, 20] (by intro C; conv => lhs; simp) (by first | with_reducible exact True.intro | omega | simp | (simp; omega) | (simp +contextual; omega)) rfl ?_
        refine AOpsO.one tok [0, 2, 3, 21] (by intro C; conv => lhs; simp) (by first | with_reducible exact True.intro | omega | simp | (simp; omega) | (simp +contextual; omega)) rfl ?_
        refine AOpsO.one tok [0, 2, 3, 4] (by intro C; conv => lhs; simp) (by first | with_reducible exact True.intro | omega | simp | (simp; omega) | (simp +contextual; omega)) rfl ?_
        refine AOpsO.nil ?_
        exact ⟨k + 1, ⟨by omega, by omega⟩, by omega, upds_le (by simp [haa, aloneK_succ hx, itemM]), rfl, by simp [haa, aloneK_succ hx, itemM], by simp [haa, aloneK_succ hx, itemM]⟩
  · intro h19
    try simp at h19
    have hfin : aloneM l = alone := by
      rw [← haa]; unfold aloneM aloneK
      congr 1
      by_cases h : k = 80
      · rw [h]
      · have hkl : k = l.length := by omega
        rw [hkl, List.take_length, List.take_of_length_le (by omega)]
    refine AW.exit ?_
    simp
    refine AW.seq ?_
    refine AW.seqRegionO [] ?_
    refine AOpsO.one tok [2, 3, 111] (by intro C; conv => lhs; simp) (by first | with_reducible exact True.intro | omega | simp | (simp; omega) | (simp +contextual; omega)) rfl ?_
    refine AOpsO.one tok [2, 3, 112] (by intro C; conv => lhs; simp) (by first | with_reducible exact True.intro | omega | simp | (simp; omega) | (simp +contextual; omega)) rfl ?_
    refine AOpsO.one tok [2, 3, 113] (by intro C; conv => lhs; simp) (by first | with_reducible exact True.intro | omega | simp | (simp; omega) | (simp +contextual; omega)) rfl ?_
    refine AOpsO.nil ?_
    refine AW.cond (c := .tmp 113) (by conv => lhs; simp) trivial ?_ ?_
    · intro h113
      try simp at h113
      have hB : builtM l = nullV := by simp [builtM, hfin, h113]
      refine AW.seqRegionO [] ?_
      refine AOpsO.one tok [2, 114] (by intro C; conv => lhs; simp) (by first | with_reducible exact True.intro | omega | simp | (simp; omega) | (simp +contextual; omega)) rfl ?_
      refine AOpsO.one tok [2] (by intro C; conv => lhs; simp) (by first | with_reducible exact True.intro | omega | simp | (simp; omega) | (simp +contextual; omega)) rfl ?_
      refine AOpsO.nil ?_
      exact AW.ret ⟨.inr rfl, _, _, by (conv => lhs; simp), trivial, by simp [hB, nullV, dc0, Val.kind, Val.mask, Val.num, Val.text, Val.keys, Val.kids, Val.code]⟩
    · intro h113
      try simp at h113
      have hlast : alone[alone.length - 1]? = some (builtM l) := by
        rw [builtM, hfin, List.getLastD_eq_getLast?, List.getLast?_eq_getElem?]
        have : alone.length - 1 < alone.length := by
          have : alone ≠ [] := h113
          have := List.length_pos_iff.2 this; omega
        simp [this]
      have hpos : 0 < alone.length := List.length_pos_iff.2 h113
      refine AW.skip ?_
      refine AW.seqRegionO [(builtM l).enc] ?_
      refine AOpsO.one tok [2, 3, 115] (by intro C; conv => lhs; simp) (by first | with_reducible exact True.intro | (simp [hlast]; done) | omega | simp | (simp; omega) | (simp +contextual; omega)) rfl ?_
      refine AOpsO.one tok [2, 115, 116] (by intro C; conv => lhs; simp) (by first | with_reducible exact True.intro | (simp [hlast]; done) | omega | simp | (simp; omega) | (simp +contextual; omega)) rfl ?_
      refine AOpsO.one tok [2, 115, 117] (by intro C; conv => lhs; simp) (by first | with_reducible exact True.intro | (simp [hlast]; done) | omega | simp | (simp; omega) | (simp +contextual; omega)) rfl ?_
      refine AOpsO.one tok [2, 115, 118] (by intro C; conv => lhs; simp) (by first | with_reducible exact True.intro | (simp [hlast]; done) | omega | simp | (simp; omega) | (simp +contextual; omega)) rfl ?_
      refine AOpsO.one tok [2, 119] (by intro C; conv => lhs; simp) (by first | with_reducible exact True.intro | (simp [hlast]; done) | omega | simp | (simp; omega) | (simp +contextual; omega)) rfl ?_
      refine AOpsO.one tok [2, 120] (by intro C; conv => lhs; simp) (by first | with_reducible exact True.intro | (simp [hlast]; done) | omega | simp | (simp; omega) | (simp +contextual; omega)) rfl ?_
      refine AOpsO.one tok [2] (by intro C; conv => lhs; simp) (by first | with_reducible exact True.intro | (simp [hlast]; done) | omega | simp | (simp; omega) | (simp +contextual; omega)) rfl ?_
      refine AOpsO.nil ?_
      exact AW.ret ⟨.inr rfl, _, _, by (conv => lhs; simp), trivial, by simp⟩
end Go.Proofs.YtgoepemmcibdaaaDoor
namespace Go.Proofs.YtgoepemmcibdaaaDoor
open Sy Go
set_option maxRecDepth 100000
set_option maxHeartbeats 4000000
set_option linter.unusedSimpArgs false
set_option linter.unusedVariables false
variable {G : Glob}

def oneV : Val := .mk 4 0 ⟨false, [49], 0⟩ [] [] [] 0
def twoV : Val := .mk 4 0 ⟨false, [50], 0⟩ [] [] [] 0
def falseV : Val := .mk 2 0 ⟨false, [], 0⟩ [] [] [] 0
def textV : Val := .mk 5 0 ⟨false, [], 0⟩ [49] [] [] 0
def listV (l : List Val) : Val := .mk 6 0 ⟨false, [], 0⟩ [] [] l 0
theorem may_null : mayT nullV = true := by decide +kernel
theorem may_false : mayT falseV = true := by decide +kernel
theorem may_one : mayT oneV = true := by decide +kernel
theorem may_two : mayT twoV = true := by decide +kernel
theorem valid_one : Lib.validD [49] = true := by rw [valid_eq]; decide +kernel
theorem may_text : mayT textV = true := by rw [mayT_eq]; simp [boundsT, partsT, codeT, numT, textT, namedT, kidsT, textV, Val.kind, Val.num, Val.text, Val.keys, Val.kids, Val.code, wordT, valid_one]
theorem may_l1 : mayT (listV [oneV]) = true := by decide +kernel
theorem may_l2 : mayT (listV [oneV, nullV]) = true := by decide +kernel
theorem cmp_1 : cmpT nullV falseV = -1 := by decide +kernel
theorem cmp_2 : cmpT twoV textV = -1 := by decide +kernel
theorem cmp_3 : cmpT (listV [oneV]) (listV [oneV, nullV]) = -1 := by decide +kernel
attribute [local simp] nullV dc0 oneV twoV falseV textV listV
theorem null4_ev  : AFn Tryd.prog G 7 [] (nullV.enc) := by
  refine AFn.introU tok Tryd.func7 (by kernel_rfl) rfl rfl ?_
  simp only [Tryd.f7, enumA, List.map_cons, List.map_nil]
  refine AW.seqRegionO [] ?_
  refine AOpsO.one tok [0] (by intro C; conv => lhs; simp) (by first | with_reducible exact True.intro | omega | simp | (simp; omega) | (simp +contextual; omega)) rfl ?_
  refine AOpsO.nil ?_
  refine AW.seqRegionO [] ?_
  refine AOpsO.one tok [0, 1] (by intro C; conv => lhs; simp) (by first | with_reducible exact True.intro | omega | simp | (simp; omega) | (simp +contextual; omega)) rfl ?_
  refine AOpsO.one tok [0] (by intro C; conv => lhs; simp) (by first | with_reducible exact True.intro | omega | simp | (simp; omega) | (simp +contextual; omega)) rfl ?_
  refine AOpsO.nil ?_
  exact AW.ret ⟨.inr rfl, _, _, by (conv => lhs; simp), trivial, by simp [nullV, dc0, Val.kind, Val.mask, Val.num, Val.text, Val.keys, Val.kids, Val.code]⟩
theorem one4_ev  : AFn Tryd.prog G 13 [] (oneV.enc) := by
  refine AFn.introU tok Tryd.func13 (by kernel_rfl) rfl rfl ?_
  simp only [Tryd.f13, enumA, List.map_cons, List.map_nil]
  refine AW.seqRegionO [] ?_
  refine AOpsO.one tok [0] (by intro C; conv => lhs; simp) (by first | with_reducible exact True.intro | omega | simp | (simp; omega) | (simp +contextual; omega)) rfl ?_
  refine AOpsO.nil ?_
  refine AW.seqRegionO [] ?_
  refine AOpsO.one tok [0, 1] (by intro C; conv => lhs; simp) (by first | with_reducible exact True.intro | omega | simp | (simp; omega) | (simp +contextual; omega)) rfl ?_
  refine AOpsO.one tok [0, 2] (by intro C; conv => lhs; simp) (by first | with_reducible exact True.intro | omega | simp | (simp; omega) | (simp +contextual; omega)) rfl ?_
  refine AOpsO.one tok [0] (by intro C; conv => lhs; simp) (by first | with_reducible exact True.intro | omega | simp | (simp; omega) | (simp +contextual; omega)) rfl ?_
  refine AOpsO.nil ?_
  exact AW.ret ⟨.inr rfl, _, _, by (conv => lhs; simp), trivial, by simp⟩
theorem shown4_ev (hG : U8 G) : AFn Tryd.prog G 5 [] (.bool true) := by
  refine AFn.introU tok Tryd.func5 (by kernel_rfl) rfl rfl ?_
  simp only [Tryd.f5, enumA, List.map_cons, List.map_nil]
  have hn := null4_ev (G := G)
  have ho := one4_ev (G := G)
  have h1 := cmpT_ev (G := G) nullV falseV may_null may_false
  have h2 := cmpT_ev (G := G) twoV textV may_two may_text
  have h3 := cmpT_ev (G := G) (listV [oneV]) (listV [oneV, nullV]) may_l1 may_l2
  have hm := mayT_ev hG nullV
  rw [may_null] at hm
  rw [cmp_1] at h1
  rw [cmp_2] at h2
  rw [cmp_3] at h3
  simp at hn ho h1 h2 h3 hm
  refine AW.seqRegionO [] ?_
  refine AOpsO.one tok [] (by intro C; conv => lhs; simp) (by first | with_reducible exact True.intro | omega | simp | (simp; omega) | (simp +contextual; omega)) rfl ?_
  refine AOpsO.nil ?_
  refine AW.seqRegionO [.nilp, nullV.enc, .nilp, .int .i64 (-1)] ?_
  refine AOpsO.one tok [4] (by intro C; conv => lhs; simp) (by first | with_reducible exact True.intro | (first | exact hn | exact h1; done) | omega | simp | (simp; omega) | (simp +contextual; omega)) rfl ?_
  refine AOpsO.one tok [4, 5] (by intro C; conv => lhs; simp) (by first | with_reducible exact True.intro | (first | exact hn | exact h1; done) | omega | simp | (simp; omega) | (simp +contextual; omega)) rfl ?_
  refine AOpsO.one tok [6] (by intro C; conv => lhs; simp) (by first | with_reducible exact True.intro | (first | exact hn | exact h1; done) | omega | simp | (simp; omega) | (simp +contextual; omega)) rfl ?_
  refine AOpsO.one tok [1] (by intro C; conv => lhs; simp) (by first | with_reducible exact True.intro | (first | exact hn | exact h1; done) | omega | simp | (simp; omega) | (simp +contextual; omega)) rfl ?_
  refine AOpsO.nil ?_
  refine AW.seqRegionO [.nilp, .int .i64 (-1)] ?_
  refine AOpsO.one tok [1, 7] (by intro C; conv => lhs; simp) (by first | with_reducible exact True.intro | (exact h2; done) | omega | simp | (simp; omega) | (simp +contextual; omega)) rfl ?_
  refine AOpsO.one tok [1, 8] (by intro C; conv => lhs; simp) (by first | with_reducible exact True.intro | (exact h2; done) | omega | simp | (simp; omega) | (simp +contextual; omega)) rfl ?_
  refine AOpsO.one tok [1, 8, 9] (by intro C; conv => lhs; simp) (by first | with_reducible exact True.intro | (exact h2; done) | omega | simp | (simp; omega) | (simp +contextual; omega)) rfl ?_
  refine AOpsO.one tok [1, 10] (by intro C; conv => lhs; simp) (by first | with_reducible exact True.intro | (exact h2; done) | omega | simp | (simp; omega) | (simp +contextual; omega)) rfl ?_
  refine AOpsO.one tok [1, 2] (by intro C; conv => lhs; simp) (by first | with_reducible exact True.intro | (exact h2; done) | omega | simp | (simp; omega) | (simp +contextual; omega)) rfl ?_
  refine AOpsO.nil ?_
  refine AW.seqRegionO [.nilp, oneV.enc, oneV.enc, .nilp, oneV.enc, .nilp, nullV.enc, oneV.enc, nullV.enc, .nilp, .int .i64 (-1)] ?_
  refine AOpsO.one tok [1, 2, 11] (by intro C; conv => lhs; simp) (by first | with_reducible exact True.intro | (first | exact ho | exact hn | exact h3; done) | omega | simp | (simp; omega) | (simp +contextual; omega)) rfl ?_
  refine AOpsO.one tok [1, 2, 12] (by intro C; conv => lhs; simp) (by first | with_reducible exact True.intro | (first | exact ho | exact hn | exact h3; done) | omega | simp | (simp; omega) | (simp +contextual; omega)) rfl ?_
  refine AOpsO.one tok [1, 2, 13] (by intro C; conv => lhs; simp) (by first | with_reducible exact True.intro | (first | exact ho | exact hn | exact h3; done) | omega | simp | (simp; omega) | (simp +contextual; omega)) rfl ?_
  refine AOpsO.one tok [1, 2, 13, 14] (by intro C; conv => lhs; simp) (by first | with_reducible exact True.intro | (first | exact ho | exact hn | exact h3; done) | omega | simp | (simp; omega) | (simp +contextual; omega)) rfl ?_
  refine AOpsO.one tok [1, 2, 13, 14, 15] (by intro C; conv => lhs; simp) (by first | with_reducible exact True.intro | (first | exact ho | exact hn | exact h3; done) | omega | simp | (simp; omega) | (simp +contextual; omega)) rfl ?_
  refine AOpsO.one tok [1, 2, 13, 16] (by intro C; conv => lhs; simp) (by first | with_reducible exact True.intro | (first | exact ho | exact hn | exact h3; done) | omega | simp | (simp; omega) | (simp +contextual; omega)) rfl ?_
  refine AOpsO.one tok [1, 2, 13, 17] (by intro C; conv => lhs; simp) (by first | with_reducible exact True.intro | (first | exact ho | exact hn | exact h3; done) | omega | simp | (simp; omega) | (simp +contextual; omega)) rfl ?_
  refine AOpsO.freeze 12 (by conv => lhs; simp) ?_
  refine AOpsO.freeze 16 (by conv => lhs; simp) ?_
  refine AOpsO.one tok [1, 2, 18] (by intro C; conv => lhs; simp) (by first | with_reducible exact True.intro | (first | exact ho | exact hn | exact h3; done) | omega | simp | (simp; omega) | (simp +contextual; omega)) rfl ?_
  refine AOpsO.one tok [1, 2, 3] (by intro C; conv => lhs; simp) (by first | with_reducible exact True.intro | (first | exact ho | exact hn | exact h3; done) | omega | simp | (simp; omega) | (simp +contextual; omega)) rfl ?_
  refine AOpsO.nil ?_
  refine AW.seqRegionO [.nilp, nullV.enc, .nilp, .bool true] ?_
  refine AOpsO.one tok [2, 3, 19] (by intro C; conv => lhs; simp) (by first | with_reducible exact True.intro | (((repeat' (first | with_reducible apply And.intro | intro _)) <;> first | exact (hn) | exact (hm) | assumption | omega | contradiction | simp_all); done) | omega | simp | (simp; omega) | (simp +contextual; omega)) rfl ?_
  refine AOpsO.one tok [2, 3, 20] (by intro C; conv => lhs; simp) (by first | with_reducible exact True.intro | (((repeat' (first | with_reducible apply And.intro | intro _)) <;> first | exact (hn) | exact (hm) | assumption | omega | contradiction | simp_all); done) | omega | simp | (simp; omega) | (simp +contextual; omega)) rfl ?_
  refine AOpsO.one tok [2, 3, 21] (by intro C; conv => lhs; simp) (by first | with_reducible exact True.intro | (((repeat' (first | with_reducible apply And.intro | intro _)) <;> first | exact (hn) | exact (hm) | assumption | omega | contradiction | simp_all); done) | omega | simp | (simp; omega) | (simp +contextual; omega)) rfl ?_
  refine AOpsO.oneIf tok [3, 21, 22] 21 (by intro C; conv => lhs; simp) (by first | with_reducible exact True.intro | (((repeat' (first | with_reducible apply And.intro | intro _)) <;> first | exact (hn) | exact (hm) | assumption | omega | contradiction | simp_all); done) | omega | simp | (simp; omega) | (simp +contextual; omega)) rfl rfl ?_
  refine AOpsO.oneIf tok [3, 21, 23] 21 (by intro C; conv => lhs; simp) (by first | with_reducible exact True.intro | (((repeat' (first | with_reducible apply And.intro | intro _)) <;> first | exact (hn) | exact (hm) | assumption | omega | contradiction | simp_all); done) | omega | simp | (simp; omega) | (simp +contextual; omega)) rfl rfl ?_
  refine AOpsO.one tok [3, 24] (by intro C; conv => lhs; simp) (by first | with_reducible exact True.intro | (((repeat' (first | with_reducible apply And.intro | intro _)) <;> first | exact (hn) | exact (hm) | assumption | omega | contradiction | simp_all); done) | omega | simp | (simp; omega) | (simp +contextual; omega)) rfl ?_
  refine AOpsO.one tok [3, 25] (by intro C; conv => lhs; simp) (by first | with_reducible exact True.intro | (((repeat' (first | with_reducible apply And.intro | intro _)) <;> first | exact (hn) | exact (hm) | assumption | omega | contradiction | simp_all); done) | omega | simp | (simp; omega) | (simp +contextual; omega)) rfl ?_
  refine AOpsO.oneIf tok [25, 26] 25 (by intro C; conv => lhs; simp) (by first | with_reducible exact True.intro | (((repeat' (first | with_reducible apply And.intro | intro _)) <;> first | exact (hn) | exact (hm) | assumption | omega | contradiction | simp_all); done) | omega | simp | (simp; omega) | (simp +contextual; omega)) rfl rfl ?_
  refine AOpsO.oneIf tok [25, 27] 25 (by intro C; conv => lhs; simp) (by first | with_reducible exact True.intro | (((repeat' (first | with_reducible apply And.intro | intro _)) <;> first | exact (hn) | exact (hm) | assumption | omega | contradiction | simp_all); done) | omega | simp | (simp; omega) | (simp +contextual; omega)) rfl rfl ?_
  refine AOpsO.one tok [28] (by intro C; conv => lhs; simp) (by first | with_reducible exact True.intro | (((repeat' (first | with_reducible apply And.intro | intro _)) <;> first | exact (hn) | exact (hm) | assumption | omega | contradiction | simp_all); done) | omega | simp | (simp; omega) | (simp +contextual; omega)) rfl ?_
  refine AOpsO.one tok [29] (by intro C; conv => lhs; simp) (by first | with_reducible exact True.intro | (((repeat' (first | with_reducible apply And.intro | intro _)) <;> first | exact (hn) | exact (hm) | assumption | omega | contradiction | simp_all); done) | omega | simp | (simp; omega) | (simp +contextual; omega)) rfl ?_
  refine AOpsO.oneIf tok [29, 30] 29 (by intro C; conv => lhs; simp) (by first | with_reducible exact True.intro | (((repeat' (first | with_reducible apply And.intro | intro _)) <;> first | exact (hn) | exact (hm) | assumption | omega | contradiction | simp_all); done) | omega | simp | (simp; omega) | (simp +contextual; omega)) rfl rfl ?_
  refine AOpsO.oneIf tok [29, 31] 29 (by intro C; conv => lhs; simp) (by first | with_reducible exact True.intro | (((repeat' (first | with_reducible apply And.intro | intro _)) <;> first | exact (hn) | exact (hm) | assumption | omega | contradiction | simp_all); done) | omega | simp | (simp; omega) | (simp +contextual; omega)) rfl rfl ?_
  refine AOpsO.one tok [32] (by intro C; conv => lhs; simp) (by first | with_reducible exact True.intro | (((repeat' (first | with_reducible apply And.intro | intro _)) <;> first | exact (hn) | exact (hm) | assumption | omega | contradiction | simp_all); done) | omega | simp | (simp; omega) | (simp +contextual; omega)) rfl ?_
  refine AOpsO.one tok [0] (by intro C; conv => lhs; simp) (by first | with_reducible exact True.intro | (((repeat' (first | with_reducible apply And.intro | intro _)) <;> first | exact (hn) | exact (hm) | assumption | omega | contradiction | simp_all); done) | omega | simp | (simp; omega) | (simp +contextual; omega)) rfl ?_
  refine AOpsO.nil ?_
  exact AW.ret ⟨.inr rfl, _, _, by (conv => lhs; simp), trivial, by simp⟩
/-- Parts of a value. -/
structure Spo where
  kind : Int
  code : Int
  num : Dc
  text : List UInt8
  keys : List (List UInt8)
@[simp] def Spo.enc (x : Spo) : PD := .agg [.int .i64 x.kind, .int .i64 x.code, .bool x.num.neg, .str x.num.digits, .int .i64 x.num.scale, .str x.text, .sl 1 (x.keys.map PD.str)]
def spoilV (v : Val) (x : Spo) : Val := .mk x.kind v.mask ⟨x.num.neg, x.num.digits.take 100, x.num.scale⟩ (x.text.take 4100) (x.keys.take 20) v.kids x.code
theorem TreeSpoilt_ev (hG : U8 G) (l : List Item) (x : Spo) (hl : ∀ x ∈ l, x.keys.length ≤ 140737488351232) : AFn Tryd.prog G 3 [.sl 6 (l.map Item.enc), x.enc] (.bool true) := by
  refine AFn.introU tok Tryd.func3 (by kernel_rfl) rfl rfl ?_
  simp only [Tryd.f3, enumA, List.map_cons, List.map_nil]
  have hsh := shown4_ev hG
  have hbu := Built_ev (G := G) l hl
  have hn := null4_ev (G := G)
  refine AW.seqRegionO [] ?_
  refine AOpsO.one tok [0, 3] (by intro C; conv => lhs; simp) (by first | with_reducible exact True.intro | omega | simp | (simp; omega) | (simp +contextual; omega)) rfl ?_
  refine AOpsO.one tok [0, 3] (by intro C; conv => lhs; simp) (by first | with_reducible exact True.intro | omega | simp | (simp; omega) | (simp +contextual; omega)) rfl ?_
  refine AOpsO.nil ?_
  refine AW.seqRegionO [.nilp, .bool true] ?_
  refine AOpsO.one tok [0, 3, 8] (by intro C; conv => lhs; simp) (by first | with_reducible exact True.intro | (exact hsh; done) | omega | simp | (simp; omega) | (simp +contextual; omega)) rfl ?_
  refine AOpsO.one tok [0, 3, 5] (by intro C; conv => lhs; simp) (by first | with_reducible exact True.intro | (exact hsh; done) | omega | simp | (simp; omega) | (simp +contextual; omega)) rfl ?_
  refine AOpsO.nil ?_
  refine AW.seqRegionO [.nilp, (builtM l).enc] ?_
  refine AOpsO.one tok [3, 5, 9] (by intro C; conv => lhs; simp) (by first | with_reducible exact True.intro | ((simp at hbu ⊢; exact hbu); done) | omega | simp | (simp; omega) | (simp +contextual; omega)) rfl ?_
  refine AOpsO.one tok [3, 5, 10] (by intro C; conv => lhs; simp) (by first | with_reducible exact True.intro | ((simp at hbu ⊢; exact hbu); done) | omega | simp | (simp; omega) | (simp +contextual; omega)) rfl ?_
  refine AOpsO.one tok [3, 5, 6, 10] (by intro C; conv => lhs; simp) (by first | with_reducible exact True.intro | ((simp at hbu ⊢; exact hbu); done) | omega | simp | (simp; omega) | (simp +contextual; omega)) rfl ?_
  refine AOpsO.one tok [3, 5, 6] (by intro C; conv => lhs; simp) (by first | with_reducible exact True.intro | ((simp at hbu ⊢; exact hbu); done) | omega | simp | (simp; omega) | (simp +contextual; omega)) rfl ?_
  refine AOpsO.nil ?_
  refine AW.seqRegionO [] ?_
  refine AOpsO.one tok [3, 5, 6, 11] (by intro C; conv => lhs; simp) (by first | with_reducible exact True.intro | omega | simp | (simp; omega) | (simp +contextual; omega)) rfl ?_
  refine AOpsO.one tok [3, 5, 6, 12] (by intro C; conv => lhs; simp) (by first | with_reducible exact True.intro | omega | simp | (simp; omega) | (simp +contextual; omega)) rfl ?_
  refine AOpsO.one tok [3, 5, 6, 12, 13] (by intro C; conv => lhs; simp) (by first | with_reducible exact True.intro | omega | simp | (simp; omega) | (simp +contextual; omega)) rfl ?_
  refine AOpsO.one tok [3, 5, 6] (by intro C; conv => lhs; simp) (by first | with_reducible exact True.intro | omega | simp | (simp; omega) | (simp +contextual; omega)) rfl ?_
  refine AOpsO.nil ?_
  refine AW.join (α := Unit) (fun _ => True) (fun a => ⟨upds 72 [(3, .ptr 3 0), (5, .p (.bool true)), (6, .ptr 6 0)], [], [(3, .vars 27 [.p (.int .i64 x.kind), .p (.int .i64 x.code), .p (.bool x.num.neg), .p (.str (x.num.digits.take 100)), .p (.int .i64 x.num.scale), .p (.str x.text), .p (.sl 1 (x.keys.map PD.str))]), (6, .vars 33 [.p (.int .i64 x.kind), .p (.int .u64 (builtM l).mask), .p (.bool (builtM l).num.neg), .p (.str (builtM l).num.digits), .p (.int .i64 (builtM l).num.scale), .p (.str (builtM l).text), .p (.sl 1 ((builtM l).keys.map PD.str)), .p (.sl 9 ((builtM l).kids.map Val.enc)), .p (.int .i64 (builtM l).code)])], 0⟩) ?_ ?_
  ·
    refine AW.seqRegionO [] ?_
    refine AOpsO.one tok [3, 5, 6, 14] (by intro C; conv => lhs; simp) (by first | with_reducible exact True.intro | omega | simp | (simp; omega) | (simp +contextual; omega)) rfl ?_
    refine AOpsO.one tok [3, 5, 6, 15] (by intro C; conv => lhs; simp) (by first | with_reducible exact True.intro | omega | simp | (simp; omega) | (simp +contextual; omega)) rfl ?_
    refine AOpsO.one tok [3, 5, 6, 16] (by intro C; conv => lhs; simp) (by first | with_reducible exact True.intro | omega | simp | (simp; omega) | (simp +contextual; omega)) rfl ?_
    refine AOpsO.one tok [3, 5, 6, 17] (by intro C; conv => lhs; simp) (by first | with_reducible exact True.intro | omega | simp | (simp; omega) | (simp +contextual; omega)) rfl ?_
    refine AOpsO.one tok [3, 5, 6, 18] (by intro C; conv => lhs; simp) (by first | with_reducible exact True.intro | omega | simp | (simp; omega) | (simp +contextual; omega)) rfl ?_
    refine AOpsO.nil ?_
    refine AW.cond (c := .tmp 18) (by conv => lhs; simp) trivial ?_ ?_
    · intro h18
      try simp at h18
      refine AW.regionO [] ?_
      refine AOpsO.one tok [3, 5, 6, 19] (by intro C; conv => lhs; simp) (by first | with_reducible exact True.intro | omega | simp | (simp; omega) | (simp +contextual; omega)) rfl ?_
      refine AOpsO.one tok [3, 5, 6, 20] (by intro C; conv => lhs; simp) (by first | with_reducible exact True.intro | omega | simp | (simp; omega) | (simp +contextual; omega)) rfl ?_
      refine AOpsO.one tok [3, 5, 6, 21] (by intro C; conv => lhs; simp) (by first | with_reducible exact True.intro | omega | simp | (simp; omega) | (simp +contextual; omega)) rfl ?_
      refine AOpsO.one tok [3, 5, 6, 22] (by intro C; conv => lhs; simp) (by first | with_reducible exact True.intro | omega | simp | (simp; omega) | (simp +contextual; omega)) rfl ?_
      refine AOpsO.one tok [3, 5, 6, 22, 23] (by intro C; conv => lhs; simp) (by first | with_reducible exact True.intro | omega | simp | (simp; omega) | (simp +contextual; omega)) rfl ?_
      refine AOpsO.one tok [3, 5, 6, 22, 24] (by intro C; conv => lhs; simp) (by first | with_reducible exact True.intro | omega | simp | (simp; omega) | (simp +contextual; omega)) rfl ?_
      refine AOpsO.one tok [3, 5, 6] (by intro C; conv => lhs; simp) (by first | with_reducible exact True.intro | omega | simp | (simp; omega) | (simp +contextual; omega)) rfl ?_
      refine AOpsO.nil ?_
      exact ⟨(), trivial, upds_le (by simp), rfl, by simp, by simp⟩
    · intro h18
      try simp at h18
      refine AW.skip ?_
      exact ⟨(), trivial, upds_le (by simp [show x.num.digits.take 100 = x.num.digits from List.take_of_length_le (by omega)]), rfl, by simp [show x.num.digits.take 100 = x.num.digits from List.take_of_length_le (by omega)], by simp [show x.num.digits.take 100 = x.num.digits from List.take_of_length_le (by omega)]⟩
  ·
    rintro a hI
    refine AW.seqRegionO [] ?_
    refine AOpsO.one tok [3, 5, 6, 25] (by intro C; conv => lhs; simp) (by first | with_reducible exact True.intro | omega | simp | (simp; omega) | (simp +contextual; omega)) rfl ?_
    refine AOpsO.one tok [3, 5, 6, 26] (by intro C; conv => lhs; simp) (by first | with_reducible exact True.intro | omega | simp | (simp; omega) | (simp +contextual; omega)) rfl ?_
    refine AOpsO.one tok [3, 5, 6, 26, 27] (by intro C; conv => lhs; simp) (by first | with_reducible exact True.intro | omega | simp | (simp; omega) | (simp +contextual; omega)) rfl ?_
    refine AOpsO.one tok [3, 5, 6] (by intro C; conv => lhs; simp) (by first | with_reducible exact True.intro | omega | simp | (simp; omega) | (simp +contextual; omega)) rfl ?_
    refine AOpsO.nil ?_
    refine AW.join (α := Unit) (fun _ => True) (fun a => ⟨upds 72 [(3, .ptr 3 0), (5, .p (.bool true)), (6, .ptr 6 0)], [], [(3, .vars 27 [.p (.int .i64 x.kind), .p (.int .i64 x.code), .p (.bool x.num.neg), .p (.str (x.num.digits.take 100)), .p (.int .i64 x.num.scale), .p (.str (x.text.take 4100)), .p (.sl 1 (x.keys.map PD.str))]), (6, .vars 33 [.p (.int .i64 x.kind), .p (.int .u64 (builtM l).mask), .p (.bool x.num.neg), .p (.str (x.num.digits.take 100)), .p (.int .i64 x.num.scale), .p (.str (builtM l).text), .p (.sl 1 ((builtM l).keys.map PD.str)), .p (.sl 9 ((builtM l).kids.map Val.enc)), .p (.int .i64 (builtM l).code)])], 0⟩) ?_ ?_
    ·
      refine AW.seqRegionO [] ?_
      refine AOpsO.one tok [3, 5, 6, 28] (by intro C; conv => lhs; simp) (by first | with_reducible exact True.intro | omega | simp | (simp; omega) | (simp +contextual; omega)) rfl ?_
      refine AOpsO.one tok [3, 5, 6, 29] (by intro C; conv => lhs; simp) (by first | with_reducible exact True.intro | omega | simp | (simp; omega) | (simp +contextual; omega)) rfl ?_
      refine AOpsO.one tok [3, 5, 6, 30] (by intro C; conv => lhs; simp) (by first | with_reducible exact True.intro | omega | simp | (simp; omega) | (simp +contextual; omega)) rfl ?_
      refine AOpsO.one tok [3, 5, 6, 31] (by intro C; conv => lhs; simp) (by first | with_reducible exact True.intro | omega | simp | (simp; omega) | (simp +contextual; omega)) rfl ?_
      refine AOpsO.nil ?_
      refine AW.cond (c := .tmp 31) (by conv => lhs; simp) trivial ?_ ?_
      · intro h31
        try simp at h31
        refine AW.regionO [] ?_
        refine AOpsO.one tok [3, 5, 6, 32] (by intro C; conv => lhs; simp) (by first | with_reducible exact True.intro | omega | simp | (simp; omega) | (simp +contextual; omega)) rfl ?_
        refine AOpsO.one tok [3, 5, 6, 33] (by intro C; conv => lhs; simp) (by first | with_reducible exact True.intro | omega | simp | (simp; omega) | (simp +contextual; omega)) rfl ?_
        refine AOpsO.one tok [3, 5, 6, 34] (by intro C; conv => lhs; simp) (by first | with_reducible exact True.intro | omega | simp | (simp; omega) | (simp +contextual; omega)) rfl ?_
        refine AOpsO.one tok [3, 5, 6, 34, 35] (by intro C; conv => lhs; simp) (by first | with_reducible exact True.intro | omega | simp | (simp; omega) | (simp +contextual; omega)) rfl ?_
        refine AOpsO.one tok [3, 5, 6] (by intro C; conv => lhs; simp) (by first | with_reducible exact True.intro | omega | simp | (simp; omega) | (simp +contextual; omega)) rfl ?_
        refine AOpsO.nil ?_
        exact ⟨(), trivial, upds_le (by simp), rfl, by simp, by simp⟩
      · intro h31
        try simp at h31
        refine AW.skip ?_
        exact ⟨(), trivial, upds_le (by simp [show x.text.take 4100 = x.text from List.take_of_length_le (by omega)]), rfl, by simp [show x.text.take 4100 = x.text from List.take_of_length_le (by omega)], by simp [show x.text.take 4100 = x.text from List.take_of_length_le (by omega)]⟩
    ·
      rintro a hI
      refine AW.seqRegionO [] ?_
      refine AOpsO.one tok [3, 5, 6, 36] (by intro C; conv => lhs; simp) (by first | with_reducible exact True.intro | omega | simp | (simp; omega) | (simp +contextual; omega)) rfl ?_
      refine AOpsO.one tok [3, 5, 6, 37] (by intro C; conv => lhs; simp) (by first | with_reducible exact True.intro | omega | simp | (simp; omega) | (simp +contextual; omega)) rfl ?_
      refine AOpsO.one tok [3, 5, 6, 37, 38] (by intro C; conv => lhs; simp) (by first | with_reducible exact True.intro | omega | simp | (simp; omega) | (simp +contextual; omega)) rfl ?_
      refine AOpsO.one tok [3, 5, 6] (by intro C; conv => lhs; simp) (by first | with_reducible exact True.intro | omega | simp | (simp; omega) | (simp +contextual; omega)) rfl ?_
      refine AOpsO.nil ?_
      refine AW.seqRegionO [] ?_
      refine AOpsO.one tok [3, 5, 6, 39] (by intro C; conv => lhs; simp) (by first | with_reducible exact True.intro | omega | simp | (simp; omega) | (simp +contextual; omega)) rfl ?_
      refine AOpsO.one tok [3, 5, 6, 40] (by intro C; conv => lhs; simp) (by first | with_reducible exact True.intro | omega | simp | (simp; omega) | (simp +contextual; omega)) rfl ?_
      refine AOpsO.one tok [3, 5, 6, 40, 41] (by intro C; conv => lhs; simp) (by first | with_reducible exact True.intro | omega | simp | (simp; omega) | (simp +contextual; omega)) rfl ?_
      refine AOpsO.one tok [3, 5, 6] (by intro C; conv => lhs; simp) (by first | with_reducible exact True.intro | omega | simp | (simp; omega) | (simp +contextual; omega)) rfl ?_
      refine AOpsO.nil ?_
      refine AW.join (α := Unit) (fun _ => True) (fun a => ⟨upds 72 [(3, .ptr 3 0), (5, .p (.bool true)), (6, .ptr 6 0)], [], [(3, .vars 27 [.p (.int .i64 x.kind), .p (.int .i64 x.code), .p (.bool x.num.neg), .p (.str (x.num.digits.take 100)), .p (.int .i64 x.num.scale), .p (.str (x.text.take 4100)), .p (.sl 1 ((x.keys.take 20).map PD.str))]), (6, .vars 33 [.p (.int .i64 x.kind), .p (.int .u64 (builtM l).mask), .p (.bool x.num.neg), .p (.str (x.num.digits.take 100)), .p (.int .i64 x.num.scale), .p (.str (x.text.take 4100)), .p (.sl 1 ((builtM l).keys.map PD.str)), .p (.sl 9 ((builtM l).kids.map Val.enc)), .p (.int .i64 x.code)])], 0⟩) ?_ ?_
      ·
        refine AW.seqRegionO [] ?_
        refine AOpsO.one tok [3, 5, 6, 42] (by intro C; conv => lhs; simp) (by first | with_reducible exact True.intro | omega | simp | (simp; omega) | (simp +contextual; omega)) rfl ?_
        refine AOpsO.one tok [3, 5, 6, 43] (by intro C; conv => lhs; simp) (by first | with_reducible exact True.intro | omega | simp | (simp; omega) | (simp +contextual; omega)) rfl ?_
        refine AOpsO.one tok [3, 5, 6, 44] (by intro C; conv => lhs; simp) (by first | with_reducible exact True.intro | omega | simp | (simp; omega) | (simp +contextual; omega)) rfl ?_
        refine AOpsO.one tok [3, 5, 6, 45] (by intro C; conv => lhs; simp) (by first | with_reducible exact True.intro | omega | simp | (simp; omega) | (simp +contextual; omega)) rfl ?_
        refine AOpsO.nil ?_
        refine AW.cond (c := .tmp 45) (by conv => lhs; simp) trivial ?_ ?_
        · intro h45
          try simp at h45
          refine AW.regionO [] ?_
          refine AOpsO.one tok [3, 5, 6, 46] (by intro C; conv => lhs; simp) (by first | with_reducible exact True.intro | omega | simp | (simp; omega) | (simp +contextual; omega)) rfl ?_
          refine AOpsO.one tok [3, 5, 6, 47] (by intro C; conv => lhs; simp) (by first | with_reducible exact True.intro | omega | simp | (simp; omega) | (simp +contextual; omega)) rfl ?_
          refine AOpsO.one tok [3, 5, 6, 48] (by intro C; conv => lhs; simp) (by first | with_reducible exact True.intro | omega | simp | (simp; omega) | (simp +contextual; omega)) rfl ?_
          refine AOpsO.one tok [3, 5, 6, 48, 49] (by intro C; conv => lhs; simp) (by first | with_reducible exact True.intro | omega | simp | (simp; omega) | (simp +contextual; omega)) rfl ?_
          refine AOpsO.one tok [3, 5, 6] (by intro C; conv => lhs; simp) (by first | with_reducible exact True.intro | omega | simp | (simp; omega) | (simp +contextual; omega)) rfl ?_
          refine AOpsO.nil ?_
          exact ⟨(), trivial, upds_le (by simp), rfl, by simp, by simp⟩
        · intro h45
          try simp at h45
          refine AW.skip ?_
          exact ⟨(), trivial, upds_le (by simp [show x.keys.take 20 = x.keys from List.take_of_length_le (by omega)]), rfl, by simp [show x.keys.take 20 = x.keys from List.take_of_length_le (by omega)], by simp [show x.keys.take 20 = x.keys from List.take_of_length_le (by omega)]⟩
      ·
        rintro a hI
        have hw : ∀ w, w = spoilV (builtM l) x → AFn Tryd.prog G 8 [w.enc] (.bool (mayT w)) ∧ AFn Tryd.prog G 9 [w.enc] (.bool (mayT w)) := fun w _ => ⟨mayT_ev hG w, refMayT_ev w⟩
        obtain ⟨hm1, hm2⟩ := hw _ rfl
        have hm3 := mayT_ev hG (listV [nullV, spoilV (builtM l) x])
        have hm4 := refMayT_ev (G := G) (listV [nullV, spoilV (builtM l) x])
        generalize mayT (listV [nullV, spoilV (builtM l) x]) = m2 at *
        generalize mayT (spoilV (builtM l) x) = m1 at *
        simp [spoilV] at hn hm1 hm2 hm3 hm4
        refine AW.seqRegionO [] ?_
        refine AOpsO.one tok [5, 6, 50] (by intro C; conv => lhs; simp) (by first | with_reducible exact True.intro | omega | simp | (simp; omega) | (simp +contextual; omega)) rfl ?_
        refine AOpsO.one tok [5, 6, 51] (by intro C; conv => lhs; simp) (by first | with_reducible exact True.intro | omega | simp | (simp; omega) | (simp +contextual; omega)) rfl ?_
        refine AOpsO.one tok [5, 6, 51, 52] (by intro C; conv => lhs; simp) (by first | with_reducible exact True.intro | omega | simp | (simp; omega) | (simp +contextual; omega)) rfl ?_
        refine AOpsO.one tok [5, 6] (by intro C; conv => lhs; simp) (by first | with_reducible exact True.intro | omega | simp | (simp; omega) | (simp +contextual; omega)) rfl ?_
        refine AOpsO.nil ?_
        refine AW.seqRunDrawK tok mixed [5, 6, 7] 5 [[], [6], [53, 54], [55], []] [.nilp, nullV.enc, nullV.enc, (spoilV (builtM l) x).enc] [] (by kernel_rfl) (by intro C; conv => lhs; simp) (by first | exact hn | (simp [spoilV]; done) | (simp [spoilV]; exact hn)) (by simp [Sm.sum, Sm.foot, Sm.tch, Sm.refs]; kernel_rfl) (by intro C; conv => lhs; simp) (by first | with_reducible exact True.intro | omega | simp | (simp; omega) | (simp +contextual; omega)) ?_
        refine AW.freezeE 55 (by conv => lhs; simp) ?_
        refine AW.seqRunDrawK tok mixed [4] 15 [[5], [57], [6, 58], [59, 58], [6, 58], [61, 58], [60, 62, 58], [58, 63], [64], [7, 65], [66, 65], [7, 65], [68, 65], [67, 69, 65], [65, 70]] [.nilp, .bool m1, .nilp, .bool m1, .nilp, .bool m2, .nilp, .bool m2] [] (by kernel_rfl) (by intro C; conv => lhs; simp) (by (simp [spoilV]; ((repeat' (first | with_reducible apply And.intro | intro _)) <;> first | exact (hm1) | exact (hm2) | exact (hm3) | exact (hm4) | assumption | omega | contradiction | simp_all))) (by simp [Sm.sum, Sm.foot, Sm.tch, Sm.refs]; kernel_rfl) (by intro C; conv => lhs; simp) (by first | with_reducible exact True.intro | omega | simp | (simp; omega) | (simp +contextual; omega)) ?_
        exact AW.ret ⟨.inr rfl, _, _, by (conv => lhs; simp), trivial, by simp⟩
end Go.Proofs.YtgoepemmcibdaaaDoor
namespace Go.Proofs.YtgoepemmcibdaaaDoor
open Sy Go
set_option maxRecDepth 100000
set_option linter.unusedSimpArgs false
/-- Texts that are handed in. -/
theorem in_texts {n : Nat} {cs : List PD} (h : ShC T (n + 2) 25 cs) : ∃ l : List (List UInt8), cs = [.sl 1 (l.map PD.str)] ∧ l.length ≤ 140737488351232 := by
  simp [ShC] at h
  obtain ⟨es, rfl, hl, h⟩ := h
  obtain ⟨l, rfl⟩ := list_of (f := PD.str) (es := es) (fun x hx => by
    obtain ⟨cs, rfl, s, rfl, _⟩ := h x hx
    exact ⟨s, by simp [packD]⟩)
  exact ⟨l, rfl, by simp at hl; omega⟩
/-- Items that are handed in. -/
theorem in_items {cs : List PD} (h : ShC T 4 22 cs) : ∃ l : List Item, cs = [.sl 6 (l.map Item.enc)] ∧ ∀ x ∈ l, x.keys.length ≤ 140737488351232 := by
  simp only [ShC] at h
  simp [ShF] at h
  obtain ⟨es, rfl, _, h⟩ := h
  obtain ⟨l, rfl, hl⟩ := list_of_p (f := Item.enc) (p := fun x => x.keys.length ≤ 140737488351232) (es := es) (fun x hx => by
    obtain ⟨cs, rfl, h⟩ := h x hx
    obtain ⟨_, _, rfl, ⟨k, rfl, _⟩, _, _, rfl, ⟨m, rfl, _⟩, _, _, rfl, ⟨mk, rfl, _⟩, _, _, rfl, ⟨nm, rfl, _⟩, _, _, rfl, ⟨tx, rfl, _⟩, es', rfl, hl', h'⟩ := h
    obtain ⟨ks, rfl⟩ := list_of (f := PD.str) (es := es') (fun x hx => by
      obtain ⟨cs, rfl, s, rfl, _⟩ := h' x hx
      exact ⟨s, by simp [packD]⟩)
    exact ⟨⟨k, m, mk, nm, tx, ks⟩, by simp [packD], by simp at hl'; simp only []; omega⟩)
  exact ⟨l, rfl, hl⟩
end Go.Proofs.YtgoepemmcibdaaaDoor
namespace Go.Proofs.YtgoepemmcibdaaaDoor
open Sy Go
set_option maxRecDepth 100000
set_option linter.unusedSimpArgs false
theorem in_spo {cs : List PD} (h : ShC T 4 27 cs) : ∃ x : Spo, packD (.st []) cs = x.enc := by
  simp [ShC, ShF] at h
  obtain ⟨_, _, rfl, ⟨k, rfl, _⟩, _, _, rfl, ⟨c, rfl, _⟩, _, _, rfl, ⟨w, _, rfl, hng, _, _, rfl, ⟨dg, rfl, _⟩, sc, rfl, _⟩, _, _, rfl, ⟨tx, rfl, _⟩, es', rfl, hl', h'⟩ := h
  obtain ⟨ng, rfl⟩ : ∃ ng, w = [PD.bool ng] := by
    rcases hng with h | h
    · exact ⟨_, h⟩
    · exact ⟨_, h⟩
  obtain ⟨ks, rfl⟩ := list_of (f := PD.str) (es := es') (fun x hx => by
    obtain ⟨cs, rfl, s, rfl, _⟩ := h' x hx
    exact ⟨s, by simp [packD]⟩)
  exact ⟨⟨k, c, ⟨ng, dg, sc⟩, tx, ks⟩, by simp [packD]⟩
end Go.Proofs.YtgoepemmcibdaaaDoor
