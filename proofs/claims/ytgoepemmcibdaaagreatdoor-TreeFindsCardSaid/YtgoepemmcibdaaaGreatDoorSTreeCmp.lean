import Derived.Test.YtgoepemmcibdaaaGreatDoorSCmp
import Derived.Test.YtgoepemmcibdaaaGreatDoorSDecLaw
import Derived.Test.YtgoepemmcibdaaaGreatDoorSTree2
namespace Go.Proofs.YtgoepemmcibdaaaGreatDoor
open Sy Go
set_option maxRecDepth 100000
set_option maxHeartbeats 4000000
set_option linter.unusedSimpArgs false
set_option linter.unusedVariables false
variable {G : Glob}

/-- An object's kids, in the order of its keys. -/
def kidOf (v : Val) (s : List UInt8) : Val := v.kids.getD (v.keys.idxOf s) nullV
def kidsS (v : Val) : List Val := (sortK v.keys).map (kidOf v)
theorem kidOf_get {v : Val} (hl : v.keys.length ≤ v.kids.length) {s : List UInt8} (h : s ∈ v.keys) : v.kids[v.keys.idxOf s]? = some (kidOf v s) := by
  have := List.idxOf_lt_length_of_mem h
  simp [kidOf, List.getD_eq_getElem?_getD, show v.keys.idxOf s < v.kids.length by omega]
theorem sortK_mem {ks : List (List UInt8)} {s : List UInt8} : s ∈ sortK ks ↔ s ∈ ks := (List.mergeSort_perm ks _).mem_iff
theorem values_ax (ks : List (List UInt8)) : AX Tryz.prog G 79 [.p (.sl 1 (ks.map PD.str))] [] (.func (.func 94) [] [.ptr 901 0]) [] [(901, .vars 27 [.p (.sl 1 (ks.map PD.str))])] := by
  refine AX.introU tok 900 Tryz.func79 (by kernel_rfl) rfl rfl ?_
  simp only [Tryz.f79, enumA, List.map_cons, List.map_nil]
  refine AW.seqRegionO [] ?_
  refine s1 tok [1] ?_
  refine s1 tok [1] ?_
  refine AOpsO.nil ?_
  refine AW.seqRegionO [] ?_
  refine s1 tok [3] ?_
  refine s1 tok [2] ?_
  refine AOpsO.nil ?_
  exact AW.ret ⟨.inr rfl, _, _, by (conv => lhs; simp), trivial, by simp, by simp, by simp, by simp⟩
theorem sortedV_ev (v : Val) (hl : v.keys.length ≤ v.kids.length) (hn : v.keys.length ≤ 1000000) : AFn Tryz.prog G 48 [v.enc] (.tup [.sl 1 ((sortK v.keys).map PD.str), .sl 9 ((kidsS v).map Val.enc)]) := by
  refine AFn.introU tok Tryz.func48 (by kernel_rfl) rfl rfl ?_
  simp only [Tryz.f48, enumA, List.map_cons, List.map_nil]
  have hsl := sortK_len v.keys
  have hix := idxK_ev (G := G) v.keys
  refine AW.seqRegionO [] ?_
  refine s1 tok [1] ?_
  refine s1 tok [1] ?_
  refine s1 tok [1] ?_
  refine AOpsO.nil ?_
  refine AW.seqRegionO [] ?_
  refine s1 tok [1, 8] ?_
  refine s1 tok [1, 9] ?_
  refine AOpsO.stepK [1, 10] (y_cx rfl (values_ax v.keys) (by simp)) (by conv => lhs; simp) rfl ?_
  refine AOpsO.stepK [1, 11] (y_cx rfl (sorted_ax 901 v.keys (by omega)) (by simp)) (by conv => lhs; simp) rfl ?_
  refine s1 tok [1, 4] ?_
  refine AOpsO.nil ?_
  refine AW.seqRegionO [] ?_
  refine s1 tok [1, 4, 5] ?_
  refine AOpsO.nil ?_
  refine AW.seq ?_
  refine AW.seqRegionO [] ?_
  refine s1 tok [1, 4, 5, 12] ?_
  refine s1 tok [1, 4, 5, 12, 13] ?_
  refine s1 tok [1, 4, 5, 12, 13, 14] ?_
  refine AOpsO.nil ?_
  refine AW.block ?_
  refine AW.beginE 5 5 31 9 (by simp) (by simp) (by conv => lhs; simp) ?_
  refine AW.loop (α := Nat) (fun k => k ≤ v.keys.length) (fun k => ⟨upds 32 [(1, .ptr 1 0), (4, .p (.sl 1 ((sortK v.keys).map PD.str))), (5, .ms 5), (12, .p (.sl 1 ((sortK v.keys).map PD.str))), (13, .p (.int .i64 v.keys.length)), (14, .p (.int .i64 k))], [], [(1, .vars 31 v.cells), (5, .row 31 9 (((kidsS v).take k).map Val.enc))], 0⟩) (fun k => v.keys.length - k) (0) (by omega) ⟨upds_le (by simp [hsl]), rfl, by simp, by simp⟩ ?_
  rintro k hk
  refine AW.seqRegionO [] ?_
  refine s1 tok [1, 4, 5, 12, 13, 14, 15] ?_
  refine AOpsO.nil ?_
  refine AW.seq ?_
  refine AW.cond (c := .tmp 15) (by conv => lhs; simp) trivial ?_ ?_
  · intro h15
    try simp at h15
    obtain ⟨s, hs⟩ : ∃ s, (sortK v.keys)[k]? = some s := ⟨(sortK v.keys)[k]'(by omega), by simp [show k < (sortK v.keys).length by omega]⟩
    have hm : s ∈ v.keys := sortK_mem.1 (List.mem_of_getElem? hs)
    have hkid := kidOf_get hl hm
    have hi := hix s
    unfold idxK at hi
    rw [if_pos hm] at hi
    refine AW.skip ?_
    refine AW.seq ?_
    refine AW.block ?_
    have hks : (kidsS v)[k]? = some (kidOf v s) := by simp [kidsS, hs]
    generalize hkv : kidsS v = kv at *
    have hkl : (kv.take k).length ≤ k := List.length_take_le _ _
    refine AW.seqRegionO [.str s] ?_
    refine s1 tok [1, 4, 5, 12, 13, 14, 16] ?_ (hv := by first | with_reducible exact True.intro | (simp [hs]; done) | omega | simp | (simp; omega) | (simp +contextual; omega))
    refine s1 tok [1, 4, 5, 12, 13, 14, 17] ?_ (hv := by first | with_reducible exact True.intro | (simp [hs]; done) | omega | simp | (simp; omega) | (simp +contextual; omega))
    refine s1 tok [1, 4, 5, 7, 12, 13, 14] ?_
    refine AOpsO.nil ?_
    refine AW.runDrawK tok mixed [1, 4, 5, 12, 13, 14] 11 [[5], [1], [19], [1], [21], [7], [22, 23], [20, 24], [25], [26], [18, 27]] [.nilp, .int .i64 (v.keys.idxOf s), (kidOf v s).enc, (kidOf v s).enc] [] (by kernel_rfl) (by intro C; conv => lhs; simp) (by (simp [hkid]; exact ⟨hi, by omega⟩)) (by simp [Sm.sum, Sm.foot, Sm.tch, Sm.refs]; kernel_rfl) (by intro C; conv => lhs; simp) (by first | with_reducible exact True.intro | omega | simp | (simp; omega) | (simp +contextual; omega)) ?_
    refine AW.renE 28 5 (by simp) (by conv => lhs; simp) ?_
    refine AW.regionO [] ?_
    refine s1 tok [1, 4, 5, 12, 13, 29] ?_
    refine s1 tok [1, 4, 5, 12, 13, 14] ?_
    refine AOpsO.nil ?_
    exact ⟨k + 1, by omega, by omega, upds_le (by simp [List.take_add_one, hks]), rfl, by simp [List.take_add_one, hks], by simp [List.take_add_one, hks]⟩
  · intro h15
    try simp at h15
    have hkl : (kidsS v).length = v.keys.length := by simp [kidsS, hsl]
    refine AW.exit ?_
    simp
    refine AW.freezeE 5 (by conv => lhs; simp) ?_
    refine AW.seqRegionO [] ?_
    refine s1 tok [5, 30] ?_
    refine s1 tok [30, 31] ?_
    refine s1 tok [2, 31] ?_
    refine s1 tok [2, 3] ?_
    refine AOpsO.nil ?_
    exact AW.ret ⟨.inr rfl, _, _, by (conv => lhs; simp), trivial, by simp; rw [List.take_of_length_le (by simp; omega)]⟩
/-- The order of values. -/
def cmpF : Nat → Val → Val → Int
  | 0, _, _ => 0
  | f + 1, a, b => if a.kind ≠ b.kind then cmpI a.kind b.kind else if a.kind = 4 then cmpD a.num b.num else if a.kind = 5 then Lib.compareBytes a.text b.text else if a.kind = 6 then cmpL (cmpF f) a.kids b.kids
    else if a.kind = 8 then cmpI a.code b.code
    else if a.kind = 7 then (if cmpL cmpS (sortK a.keys) (sortK b.keys) ≠ 0 then cmpL cmpS (sortK a.keys) (sortK b.keys) else cmpL (cmpF f) (kidsS a) (kidsS b)) else 0
theorem may_kid {v k : Val} (h : mayT v = true) (hk : k ∈ v.kids) : mayT k = true := by
  rw [mayT_eq] at h; simp only [Bool.and_eq_true, List.all_eq_true] at h; exact h.2 k hk
theorem may_obj {v : Val} (h : mayT v = true) (h7 : v.kind = 7) : v.keys.length = v.kids.length ∧ v.keys.length ≤ 200 ∧ v.keys.Nodup := by
  rw [mayT_eq] at h
  simp only [Bool.and_eq_true, boundsT, partsT, namedT, decide_eq_true_eq] at h
  obtain ⟨⟨h1, ⟨⟨_, h2⟩, _⟩⟩, _⟩ := h
  rw [if_pos h7] at h2
  simp [keysT] at h2
  exact ⟨by omega, by omega, h2.2.2⟩
theorem may_num {v : Val} (h : mayT v = true) (h4 : v.kind = 4) : dcMay v.num = true := by
  rw [mayT_eq] at h
  simp only [Bool.and_eq_true, partsT, numT] at h
  obtain ⟨⟨h1, ⟨⟨⟨⟨_, h2⟩, _⟩, _⟩, _⟩⟩, _⟩ := h
  rw [if_pos h4] at h2; exact h2
theorem kidsS_mem {v x : Val} (hl : v.keys.length ≤ v.kids.length) (h : x ∈ kidsS v) : x ∈ v.kids := by
  obtain ⟨s, hs, rfl⟩ := List.mem_map.1 h
  exact List.mem_of_getElem? (kidOf_get hl (sortK_mem.1 hs))
theorem cmp_step (f : Nat) (a b : Val) (ha : mayT a = true) (hb : mayT b = true) (ih : ∀ x ∈ a.kids, ∀ y ∈ b.kids, AFn Tryz.prog G 16 [x.enc, y.enc] (.int .i64 (cmpF f x y))) : AFn Tryz.prog G 16 [a.enc, b.enc] (.int .i64 (cmpF (f + 1) a b)) := by
  refine AFn.introU tok Tryz.func16 (by kernel_rfl) rfl rfl ?_
  simp only [Tryz.f16, enumA, List.map_cons, List.map_nil]
  have hki := cmpI_ev (G := G) a.kind b.kind
  have hce := cmpE_ev (G := G) a.code b.code
  have hst := Compare_ev (G := G) a.text b.text
  refine AW.seqRegionO [] ?_
  refine s1 tok [1, 2] ?_
  refine s1 tok [2, 3] ?_
  refine s1 tok [2, 3] ?_
  refine AOpsO.nil ?_
  refine AW.seq ?_
  refine AW.seqRegionO [] ?_
  refine s1 tok [2, 3, 9] ?_
  refine s1 tok [2, 3, 10] ?_
  refine s1 tok [2, 3, 10, 11] ?_
  refine s1 tok [2, 3, 10, 12] ?_
  refine s1 tok [2, 3, 13] ?_
  refine AOpsO.nil ?_
  refine AW.cond (c := .tmp 13) (by conv => lhs; simp) trivial ?_ ?_
  · intro h13
    try simp at h13
    have hR : cmpF (f + 1) a b = cmpI a.kind b.kind := by simp only [cmpF]; rw [if_pos h13]
    refine AW.seqRegionO [.nilp, .int .i64 (cmpI a.kind b.kind)] ?_
    refine s1 tok [3, 14] ?_
    refine s1 tok [3, 15] ?_ (hv := by first | with_reducible exact True.intro | (exact hki; done) | omega | simp | (simp; omega) | (simp +contextual; omega))
    refine s1 tok [15, 16] ?_
    refine s1 tok [15, 17] ?_ (hv := by first | with_reducible exact True.intro | (exact hki; done) | omega | simp | (simp; omega) | (simp +contextual; omega))
    refine s1 tok [18] ?_ (hv := by first | with_reducible exact True.intro | (exact hki; done) | omega | simp | (simp; omega) | (simp +contextual; omega))
    refine s1 tok [4] ?_
    refine AOpsO.nil ?_
    exact AW.ret ⟨.inr rfl, _, _, by (conv => lhs; simp), trivial, by simp [hR]⟩
  · intro h13
    try simp at h13
    have hkd : ¬ a.kind ≠ b.kind := by simpa using h13
    refine AW.skip ?_
    refine AW.seq ?_
    refine AW.seqRegionO [] ?_
    refine s1 tok [2, 3, 19] ?_
    refine s1 tok [2, 3, 20] ?_
    refine AOpsO.nil ?_
    refine AW.block ?_
    refine AW.seqRegionO [] ?_
    refine s1 tok [2, 3, 20, 22] ?_
    refine s1 tok [2, 3, 20, 21] ?_
    refine AOpsO.nil ?_
    refine AW.cond (c := .tmp 21) (by conv => lhs; simp) trivial ?_ ?_
    · intro h21
      try simp at h21
      have hR : cmpF (f + 1) a b = cmpD a.num b.num := by simp only [cmpF]; rw [if_neg hkd, if_pos h21]
      have hnum := cmpD_ev (G := G) a.num b.num (dcMay_ok (may_num ha h21)).1 (dcMay_ok (may_num hb (by omega))).1
      refine AW.seqRegionO [.nilp, .int .i64 (cmpD a.num b.num)] ?_
      refine s1 tok [3, 23] ?_
      refine s1 tok [3, 24] ?_ (hv := by first | with_reducible exact True.intro | ((simp at hnum ⊢; exact hnum); done) | omega | simp | (simp; omega) | (simp +contextual; omega))
      refine s1 tok [24, 25] ?_
      refine s1 tok [24, 26] ?_ (hv := by first | with_reducible exact True.intro | ((simp at hnum ⊢; exact hnum); done) | omega | simp | (simp; omega) | (simp +contextual; omega))
      refine s1 tok [27] ?_ (hv := by first | with_reducible exact True.intro | ((simp at hnum ⊢; exact hnum); done) | omega | simp | (simp; omega) | (simp +contextual; omega))
      refine s1 tok [4] ?_
      refine AOpsO.nil ?_
      exact AW.ret ⟨.inr rfl, _, _, by (conv => lhs; simp), trivial, by simp [hR]⟩
    · intro h21
      try simp at h21
      refine AW.seqRegionO [] ?_
      refine s1 tok [2, 3, 20, 29] ?_
      refine s1 tok [2, 3, 20, 28] ?_
      refine AOpsO.nil ?_
      refine AW.cond (c := .tmp 28) (by conv => lhs; simp) trivial ?_ ?_
      · intro h28
        try simp at h28
        have hR : cmpF (f + 1) a b = Lib.compareBytes a.text b.text := by simp only [cmpF]; rw [if_neg hkd, if_neg h21, if_pos h28]
        refine AW.seqRegionO [.nilp, .int .i64 (Lib.compareBytes a.text b.text)] ?_
        refine s1 tok [3, 30] ?_
        refine s1 tok [3, 31] ?_ (hv := by first | with_reducible exact True.intro | (exact hst; done) | omega | simp | (simp; omega) | (simp +contextual; omega))
        refine s1 tok [31, 32] ?_
        refine s1 tok [31, 33] ?_ (hv := by first | with_reducible exact True.intro | (exact hst; done) | omega | simp | (simp; omega) | (simp +contextual; omega))
        refine s1 tok [34] ?_ (hv := by first | with_reducible exact True.intro | (exact hst; done) | omega | simp | (simp; omega) | (simp +contextual; omega))
        refine s1 tok [4] ?_
        refine AOpsO.nil ?_
        exact AW.ret ⟨.inr rfl, _, _, by (conv => lhs; simp), trivial, by simp [hR]⟩
      · intro h28
        try simp at h28
        refine AW.seqRegionO [] ?_
        refine s1 tok [2, 3, 20, 36] ?_
        refine s1 tok [2, 3, 20, 35] ?_
        refine AOpsO.nil ?_
        refine AW.cond (c := .tmp 35) (by conv => lhs; simp) trivial ?_ ?_
        · intro h35
          try simp at h35
          have hR : cmpF (f + 1) a b = cmpL (cmpF f) a.kids b.kids := by simp only [cmpF]; rw [if_neg hkd, if_neg h21, if_neg h28, if_pos h35]
          have hcl := cmpVL_ev (G := G) a.kids b.kids 16 (cmpF f) ih
          refine AW.seqRegionO [.nilp, .int .i64 (cmpL (cmpF f) a.kids b.kids)] ?_
          refine s1 tok [3, 37] ?_
          refine s1 tok [3, 38] ?_ (hv := by first | with_reducible exact True.intro | (exact hcl; done) | omega | simp | (simp; omega) | (simp +contextual; omega))
          refine s1 tok [38, 39] ?_
          refine s1 tok [38, 40] ?_ (hv := by first | with_reducible exact True.intro | (exact hcl; done) | omega | simp | (simp; omega) | (simp +contextual; omega))
          refine s1 tok [41] ?_ (hv := by first | with_reducible exact True.intro | (exact hcl; done) | omega | simp | (simp; omega) | (simp +contextual; omega))
          refine s1 tok [4] ?_
          refine AOpsO.nil ?_
          exact AW.ret ⟨.inr rfl, _, _, by (conv => lhs; simp), trivial, by simp [hR]⟩
        · intro h35
          try simp at h35
          refine AW.seqRegionO [] ?_
          refine s1 tok [2, 3, 20, 43] ?_
          refine s1 tok [2, 3, 20, 42] ?_
          refine AOpsO.nil ?_
          refine AW.cond (c := .tmp 42) (by conv => lhs; simp) trivial ?_ ?_
          · intro h42
            try simp at h42
            have hR : cmpF (f + 1) a b = cmpI a.code b.code := by simp only [cmpF]; rw [if_neg hkd, if_neg h21, if_neg h28, if_neg h35, if_pos h42]
            refine AW.seqRegionO [.nilp, .int .i64 (cmpI a.code b.code)] ?_
            refine s1 tok [3, 44] ?_
            refine s1 tok [3, 45] ?_ (hv := by first | with_reducible exact True.intro | (exact hce; done) | omega | simp | (simp; omega) | (simp +contextual; omega))
            refine s1 tok [45, 46] ?_
            refine s1 tok [45, 47] ?_ (hv := by first | with_reducible exact True.intro | (exact hce; done) | omega | simp | (simp; omega) | (simp +contextual; omega))
            refine s1 tok [48] ?_ (hv := by first | with_reducible exact True.intro | (exact hce; done) | omega | simp | (simp; omega) | (simp +contextual; omega))
            refine s1 tok [4] ?_
            refine AOpsO.nil ?_
            exact AW.ret ⟨.inr rfl, _, _, by (conv => lhs; simp), trivial, by simp [hR]⟩
          · intro h42
            try simp at h42
            refine AW.seqRegionO [] ?_
            refine s1 tok [2, 3, 50] ?_
            refine s1 tok [2, 3, 49] ?_
            refine AOpsO.nil ?_
            refine AW.cond (c := .tmp 49) (by conv => lhs; simp) trivial ?_ ?_
            · intro h49
              try simp at h49
              have hR : cmpF (f + 1) a b = (if cmpL cmpS (sortK a.keys) (sortK b.keys) ≠ 0 then cmpL cmpS (sortK a.keys) (sortK b.keys) else cmpL (cmpF f) (kidsS a) (kidsS b)) := by simp only [cmpF]; rw [if_neg hkd, if_neg h21, if_neg h28, if_neg h35, if_neg h42, if_pos h49]
              have hoa := may_obj ha h49
              have hob := may_obj hb (by omega)
              have hsa := sortedV_ev (G := G) a (by omega) (by omega)
              have hsb := sortedV_ev (G := G) b (by omega) (by omega)
              have hcs := cmpSL_ev (G := G) (sortK a.keys) (sortK b.keys)
              have hcl := cmpVL_ev (G := G) (kidsS a) (kidsS b) 16 (cmpF f) fun x hx y hy => ih x (kidsS_mem (by omega) hx) y (kidsS_mem (by omega) hy)
              have hor := or2_ev (G := G) (cmpL cmpS (sortK a.keys) (sortK b.keys)) (cmpL (cmpF f) (kidsS a) (kidsS b))
              rw [← hR] at hor
              refine AW.seqRegionO [.nilp, .tup [.sl 1 ((sortK a.keys).map PD.str), .sl 9 ((kidsS a).map Val.enc)]] ?_
              refine s1 tok [3, 52] ?_ (hv := by first | with_reducible exact True.intro | ((simp at hsa ⊢; exact hsa); done) | omega | simp | (simp; omega) | (simp +contextual; omega))
              refine s1 tok [3, 53] ?_ (hv := by first | with_reducible exact True.intro | ((simp at hsa ⊢; exact hsa); done) | omega | simp | (simp; omega) | (simp +contextual; omega))
              refine s1 tok [3, 51] ?_
              refine s1 tok [3, 51, 54] ?_
              refine s1 tok [3, 54, 55] ?_
              refine s1 tok [3, 5, 55] ?_
              refine s1 tok [3, 5, 6] ?_
              refine AOpsO.nil ?_
              refine AW.seqRegionO [.nilp, .tup [.sl 1 ((sortK b.keys).map PD.str), .sl 9 ((kidsS b).map Val.enc)]] ?_
              refine s1 tok [5, 6, 57] ?_ (hv := by first | with_reducible exact True.intro | ((simp at hsb ⊢; exact hsb); done) | omega | simp | (simp; omega) | (simp +contextual; omega))
              refine s1 tok [5, 6, 58] ?_ (hv := by first | with_reducible exact True.intro | ((simp at hsb ⊢; exact hsb); done) | omega | simp | (simp; omega) | (simp +contextual; omega))
              refine s1 tok [5, 6, 56] ?_
              refine s1 tok [5, 6, 56, 59] ?_
              refine s1 tok [5, 6, 59, 60] ?_
              refine s1 tok [5, 6, 7, 60] ?_
              refine s1 tok [5, 6, 7, 8] ?_
              refine AOpsO.nil ?_
              refine AW.seqRegionO [.nilp, .int .i64 (cmpL cmpS (sortK a.keys) (sortK b.keys)), .nilp, .int .i64 (cmpL (cmpF f) (kidsS a) (kidsS b)), .int .i64 (cmpL cmpS (sortK a.keys) (sortK b.keys)), .int .i64 (cmpL (cmpF f) (kidsS a) (kidsS b)), .nilp, .int .i64 (cmpF (f + 1) a b)] ?_
              refine s1 tok [6, 7, 8, 61] ?_
              refine s1 tok [6, 8, 61, 62] ?_
              refine s1 tok [6, 8, 63] ?_ (hv := by first | with_reducible exact True.intro | (first | exact hcs | exact hcl | exact hor | simp; done) | omega | simp | (simp; omega) | (simp +contextual; omega))
              refine s1 tok [8, 63, 64] ?_
              refine s1 tok [63, 64, 65] ?_
              refine s1 tok [63, 66] ?_ (hv := by first | with_reducible exact True.intro | (first | exact hcs | exact hcl | exact hor | simp; done) | omega | simp | (simp; omega) | (simp +contextual; omega))
              refine s1 tok [67] ?_ (hv := by first | with_reducible exact True.intro | (first | exact hcs | exact hcl | exact hor | simp; done) | omega | simp | (simp; omega) | (simp +contextual; omega))
              refine s1 tok [68] ?_ (hv := by first | with_reducible exact True.intro | (first | exact hcs | exact hcl | exact hor | simp; done) | omega | simp | (simp; omega) | (simp +contextual; omega))
              refine s1 tok [4] ?_
              refine AOpsO.nil ?_
              exact AW.ret ⟨.inr rfl, _, _, by (conv => lhs; simp), trivial, by simp⟩
            · intro h49
              try simp at h49
              have hR : cmpF (f + 1) a b = 0 := by simp only [cmpF]; rw [if_neg hkd, if_neg h21, if_neg h28, if_neg h35, if_neg h42, if_neg h49]
              refine AW.skip ?_
              refine AW.seqRegionO [] ?_
              refine s1 tok [4] ?_
              refine AOpsO.nil ?_
              exact AW.ret ⟨.inr rfl, _, _, by (conv => lhs; simp), trivial, by simp [hR]⟩
theorem cmpF_ev : ∀ (f : Nat) (a b : Val), mayT a = true → mayT b = true → Val.sz a ≤ f → AFn Tryz.prog G 16 [a.enc, b.enc] (.int .i64 (cmpF (f + 1) a b))
  | 0, a, b, ha, hb, h => cmp_step 0 a b ha hb fun x hx => by have := Val.sz_kid hx; omega
  | f + 1, a, b, ha, hb, h => cmp_step (f + 1) a b ha hb fun x hx y hy => cmpF_ev f x y (may_kid ha hx) (may_kid hb hy) (by have := Val.sz_kid hx; omega)
/-- The order of two values. -/
def cmpT (a b : Val) : Int := cmpF (Val.sz a + 1) a b
theorem cmpT_ev (a b : Val) (ha : mayT a = true) (hb : mayT b = true) : AFn Tryz.prog G 16 [a.enc, b.enc] (.int .i64 (cmpT a b)) := cmpF_ev _ a b ha hb (Nat.le_refl _)
end Go.Proofs.YtgoepemmcibdaaaGreatDoor
