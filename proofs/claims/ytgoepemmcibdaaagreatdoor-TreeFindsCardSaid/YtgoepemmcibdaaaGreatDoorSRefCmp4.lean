import Derived.Test.YtgoepemmcibdaaaGreatDoorSRefSort
namespace Go.Proofs.YtgoepemmcibdaaaGreatDoor
open Sy Go
set_option maxRecDepth 100000
set_option maxHeartbeats 4000000
set_option linter.unusedSimpArgs false
set_option linter.unusedVariables false
variable {G : Glob}
theorem cmpSL_zero : ∀ {l m : List (List UInt8)}, cmpL cmpS l m = 0 → l = m
  | [], [], _ => rfl
  | [], _ :: _, h => by simp [cmpL] at h
  | _ :: _, [], h => by simp [cmpL] at h
  | x :: l, y :: m, h => by
    simp only [cmpL] at h
    split at h
    · omega
    · rename_i h0
      have e : x = y := by
        have h1 : cmpS x y = 0 := by omega
        unfold cmpS at h1
        split at h1
        · omega
        · split at h1
          · assumption
          · omega
      rw [e, cmpSL_zero h]
theorem refCmpT_ev (s t : List UInt8) : AFn Tryz.prog G 26 [(txtV s).enc, (txtV t).enc] (.int .i64 (cmpS s t)) := by
  refine AFn.introU tok Tryz.func26 (by kernel_rfl) rfl rfl ?_
  simp only [Tryz.f26, enumA, List.map_cons, List.map_nil]
  simp only [Val.enc_def, txtV, Val.kind_mk, Val.mask_mk, Val.num_mk, Val.text_mk, Val.keys_mk, Val.kids_mk, Val.code_mk, dc0, List.map_nil]
  refine AW.seqRegionO [] ?_
  refine s1 tok [1, 2] ?_
  refine s1 tok [2, 3] ?_
  refine s1 tok [2, 3] ?_
  refine AOpsO.nil ?_
  refine AW.seq ?_
  refine AW.seqRegionO [] ?_
  refine s1 tok [2, 3, 15] ?_
  refine s1 tok [2, 3, 16] ?_
  refine s1 tok [2, 3, 16, 17] ?_
  refine s1 tok [2, 3, 16, 18] ?_
  refine s1 tok [2, 3, 19] ?_
  refine AOpsO.nil ?_
  refine AW.cond (c := .tmp 19) (by conv => lhs; simp) trivial ?_ ?_
  · intro h19
    try simp at h19
  · intro h19
    try simp at h19
    refine AW.skip ?_
    refine AW.seq ?_
    refine AW.seqRegionO [] ?_
    refine s1 tok [2, 3, 25] ?_
    refine s1 tok [2, 3, 26] ?_
    refine AOpsO.nil ?_
    refine AW.block ?_
    refine AW.seqRegionO [] ?_
    refine s1 tok [2, 3, 26, 28] ?_
    refine s1 tok [2, 3, 26, 27] ?_
    refine AOpsO.nil ?_
    refine AW.cond (c := .tmp 27) (by conv => lhs; simp) trivial ?_ ?_
    · intro h27
      try simp at h27
    · intro h27
      try simp at h27
      refine AW.seqRegionO [] ?_
      refine s1 tok [2, 3, 26, 35] ?_
      refine s1 tok [2, 3, 26, 34] ?_
      refine AOpsO.nil ?_
      refine AW.cond (c := .tmp 34) (by conv => lhs; simp) trivial ?_ ?_
      · intro h34
        try simp at h34
        have hx : True := trivial
        refine AW.seq ?_
        refine AW.seqRegionO [] ?_
        refine s1 tok [2, 3, 36] ?_
        refine s1 tok [2, 3, 37] ?_
        refine s1 tok [2, 3, 37, 38] ?_
        refine s1 tok [2, 3, 37, 39] ?_
        refine s1 tok [2, 3, 40] ?_
        refine AOpsO.nil ?_
        refine AW.cond (c := .tmp 40) (by conv => lhs; simp) trivial ?_ ?_
        · intro h40
          try simp at h40
          have hR : cmpS s t = -1 := by unfold cmpS; rw [if_pos h40]
          refine AW.seqRegionO [] ?_
          refine s1 tok [4] ?_
          refine AOpsO.nil ?_
          exact AW.ret ⟨.inr rfl, _, _, by (conv => lhs; simp), trivial, by simp [hR]⟩
        · intro h40
          try simp at h40
          refine AW.skip ?_
          refine AW.seq ?_
          refine AW.seqRegionO [] ?_
          refine s1 tok [3, 41] ?_
          refine s1 tok [3, 42] ?_
          refine s1 tok [42, 43] ?_
          refine s1 tok [42, 44] ?_
          refine s1 tok [45] ?_
          refine AOpsO.nil ?_
          refine AW.cond (c := .tmp 45) (by conv => lhs; simp) trivial ?_ ?_
          · intro h45
            try simp at h45
            have hR : cmpS s t = 1 := by unfold cmpS; rw [if_neg (by simp [h45.1]), if_neg h45.2]
            refine AW.seqRegionO [] ?_
            refine s1 tok [4] ?_
            refine AOpsO.nil ?_
            exact AW.ret ⟨.inr rfl, _, _, by (conv => lhs; simp), trivial, by simp [hR]⟩
          · intro h45
            try simp at h45
            have hR : cmpS s t = 0 := by
              unfold cmpS; rw [if_neg (by simp [h40]), if_pos (h45 h40)]
            refine AW.skip ?_
            refine AW.seqRegionO [] ?_
            refine s1 tok [4] ?_
            refine AOpsO.nil ?_
            exact AW.ret ⟨.inr rfl, _, _, by (conv => lhs; simp), trivial, by simp [hR]⟩
      · intro h34
        try simp at h34
theorem refCmp_step (f : Nat) (a b : Val) (ha : mayT a = true) (hb : mayT b = true) (ih : ∀ x ∈ a.kids, ∀ y ∈ b.kids, AFn Tryz.prog G 26 [x.enc, y.enc] (.int .i64 (cmpF f x y))) : AFn Tryz.prog G 26 [a.enc, b.enc] (.int .i64 (cmpF (f + 1) a b)) := by
  refine AFn.introU tok Tryz.func26 (by kernel_rfl) rfl rfl ?_
  simp only [Tryz.f26, enumA, List.map_cons, List.map_nil]
  have hsa := may_small ha
  have hsb := may_small hb
  have hR := cmpF_succ f a b
  refine AW.seqRegionO [] ?_
  refine s1 tok [1, 2] ?_
  refine s1 tok [2, 3] ?_
  refine s1 tok [2, 3] ?_
  refine AOpsO.nil ?_
  refine AW.seq ?_
  refine AW.seqRegionO [] ?_
  refine s1 tok [2, 3, 15] ?_
  refine s1 tok [2, 3, 16] ?_
  refine s1 tok [2, 3, 16, 17] ?_
  refine s1 tok [2, 3, 16, 18] ?_
  refine s1 tok [2, 3, 19] ?_
  refine AOpsO.nil ?_
  refine AW.cond (c := .tmp 19) (by conv => lhs; simp) trivial ?_ ?_
  · intro h19
    try simp at h19
    have hR : cmpF (f + 1) a b = cmpI a.kind b.kind := by rw [hR, if_pos]; intro e; exact h19 (cmpI_zero e)
    refine AW.seq ?_
    refine AW.seqRegionO [] ?_
    refine s1 tok [3, 20] ?_
    refine s1 tok [3, 21] ?_
    refine s1 tok [21, 22] ?_
    refine s1 tok [21, 23] ?_
    refine s1 tok [24] ?_
    refine AOpsO.nil ?_
    refine AW.cond (c := .tmp 24) (by conv => lhs; simp) trivial ?_ ?_
    · intro h24
      try simp at h24
      rw [cmpI_lt h24] at hR
      refine AW.seqRegionO [] ?_
      refine s1 tok [4] ?_
      refine AOpsO.nil ?_
      exact AW.ret ⟨.inr rfl, _, _, by (conv => lhs; simp), trivial, by simp [hR]⟩
    · intro h24
      try simp at h24
      rw [cmpI_gt (by omega)] at hR
      refine AW.skip ?_
      refine AW.seqRegionO [] ?_
      refine s1 tok [4] ?_
      refine AOpsO.nil ?_
      exact AW.ret ⟨.inr rfl, _, _, by (conv => lhs; simp), trivial, by simp [hR]⟩
  · intro h19
    try simp at h19
    have hkd : a.kind = b.kind := by simpa using h19
    rw [← hkd, cmpI_self, if_neg (by simp), bodyF] at hR
    refine AW.skip ?_
    refine AW.seq ?_
    refine AW.seqRegionO [] ?_
    refine s1 tok [2, 3, 25] ?_
    refine s1 tok [2, 3, 26] ?_
    refine AOpsO.nil ?_
    refine AW.block ?_
    refine AW.seqRegionO [] ?_
    refine s1 tok [2, 3, 26, 28] ?_
    refine s1 tok [2, 3, 26, 27] ?_
    refine AOpsO.nil ?_
    refine AW.cond (c := .tmp 27) (by conv => lhs; simp) trivial ?_ ?_
    · intro h27
      try simp at h27
      have hnum := refCmpD_ev (G := G) a.num b.num (may_num ha h27) (may_num hb (by omega))
      rw [if_pos h27] at hR
      refine AW.seqRegionO [.nilp, .int .i64 (cmpD a.num b.num)] ?_
      refine s1 tok [3, 29] ?_
      refine s1 tok [3, 30] ?_ (hv := by first | with_reducible exact True.intro | ((simp at hnum ⊢; exact hnum); done) | omega | simp | (simp; omega) | (simp +contextual; omega))
      refine s1 tok [30, 31] ?_
      refine s1 tok [30, 32] ?_ (hv := by first | with_reducible exact True.intro | ((simp at hnum ⊢; exact hnum); done) | omega | simp | (simp; omega) | (simp +contextual; omega))
      refine s1 tok [33] ?_ (hv := by first | with_reducible exact True.intro | ((simp at hnum ⊢; exact hnum); done) | omega | simp | (simp; omega) | (simp +contextual; omega))
      refine s1 tok [4] ?_
      refine AOpsO.nil ?_
      exact AW.ret ⟨.inr rfl, _, _, by (conv => lhs; simp), trivial, by simp [hR]⟩
    · intro h27
      try simp at h27
      rw [if_neg h27] at hR
      refine AW.seqRegionO [] ?_
      refine s1 tok [2, 3, 26, 35] ?_
      refine s1 tok [2, 3, 26, 34] ?_
      refine AOpsO.nil ?_
      refine AW.cond (c := .tmp 34) (by conv => lhs; simp) trivial ?_ ?_
      · intro h34
        try simp at h34
        rw [if_pos h34, compareBytes_eq, ← cmpS_eq] at hR
        refine AW.seq ?_
        refine AW.seqRegionO [] ?_
        refine s1 tok [2, 3, 36] ?_
        refine s1 tok [2, 3, 37] ?_
        refine s1 tok [2, 3, 37, 38] ?_
        refine s1 tok [2, 3, 37, 39] ?_
        refine s1 tok [2, 3, 40] ?_
        refine AOpsO.nil ?_
        refine AW.cond (c := .tmp 40) (by conv => lhs; simp) trivial ?_ ?_
        · intro h40
          try simp at h40
          rw [show cmpS a.text b.text = -1 by unfold cmpS; rw [if_pos h40]] at hR
          refine AW.seqRegionO [] ?_
          refine s1 tok [4] ?_
          refine AOpsO.nil ?_
          exact AW.ret ⟨.inr rfl, _, _, by (conv => lhs; simp), trivial, by simp [hR]⟩
        · intro h40
          try simp at h40
          refine AW.skip ?_
          refine AW.seq ?_
          refine AW.seqRegionO [] ?_
          refine s1 tok [3, 41] ?_
          refine s1 tok [3, 42] ?_
          refine s1 tok [42, 43] ?_
          refine s1 tok [42, 44] ?_
          refine s1 tok [45] ?_
          refine AOpsO.nil ?_
          refine AW.cond (c := .tmp 45) (by conv => lhs; simp) trivial ?_ ?_
          · intro h45
            try simp at h45
            rw [show cmpS a.text b.text = 1 by unfold cmpS; rw [if_neg (by simp [h45.1]), if_neg h45.2]] at hR
            refine AW.seqRegionO [] ?_
            refine s1 tok [4] ?_
            refine AOpsO.nil ?_
            exact AW.ret ⟨.inr rfl, _, _, by (conv => lhs; simp), trivial, by simp [hR]⟩
          · intro h45
            try simp at h45
            rw [show cmpS a.text b.text = 0 by unfold cmpS; rw [if_neg (by simp [h40]), if_pos (h45 h40)]] at hR
            refine AW.skip ?_
            refine AW.seqRegionO [] ?_
            refine s1 tok [4] ?_
            refine AOpsO.nil ?_
            exact AW.ret ⟨.inr rfl, _, _, by (conv => lhs; simp), trivial, by simp [hR]⟩
      · intro h34
        try simp at h34
        rw [if_neg h34] at hR
        refine AW.seqRegionO [] ?_
        refine s1 tok [2, 3, 26, 47] ?_
        refine s1 tok [2, 3, 26, 46] ?_
        refine AOpsO.nil ?_
        refine AW.cond (c := .tmp 46) (by conv => lhs; simp) trivial ?_ ?_
        · intro h46
          try simp at h46
          rw [if_pos h46] at hR
          have hcl := lists_ev (G := G) a.kids b.kids (cmpF f) (by omega) ih
          refine AW.seqRegionO [.nilp, .int .i64 (cmpL (cmpF f) a.kids b.kids)] ?_
          refine s1 tok [3, 48] ?_
          refine s1 tok [3, 49] ?_ (hv := by first | with_reducible exact True.intro | (exact hcl; done) | omega | simp | (simp; omega) | (simp +contextual; omega))
          refine s1 tok [49, 50] ?_
          refine s1 tok [49, 51] ?_ (hv := by first | with_reducible exact True.intro | (exact hcl; done) | omega | simp | (simp; omega) | (simp +contextual; omega))
          refine s1 tok [52] ?_ (hv := by first | with_reducible exact True.intro | (exact hcl; done) | omega | simp | (simp; omega) | (simp +contextual; omega))
          refine s1 tok [4] ?_
          refine AOpsO.nil ?_
          exact AW.ret ⟨.inr rfl, _, _, by (conv => lhs; simp), trivial, by simp [hR]⟩
        · intro h46
          try simp at h46
          rw [if_neg h46] at hR
          refine AW.seqRegionO [] ?_
          refine s1 tok [2, 3, 26, 54] ?_
          refine s1 tok [2, 3, 26, 53] ?_
          refine AOpsO.nil ?_
          refine AW.cond (c := .tmp 53) (by conv => lhs; simp) trivial ?_ ?_
          · intro h53
            try simp at h53
            rw [if_pos h53] at hR
            refine AW.seq ?_
            refine AW.seqRegionO [] ?_
            refine s1 tok [2, 3, 55] ?_
            refine s1 tok [2, 3, 56] ?_
            refine s1 tok [2, 3, 56, 57] ?_
            refine s1 tok [2, 3, 56, 58] ?_
            refine s1 tok [2, 3, 59] ?_
            refine AOpsO.nil ?_
            refine AW.cond (c := .tmp 59) (by conv => lhs; simp) trivial ?_ ?_
            · intro h59
              try simp at h59
              rw [cmpI_lt h59] at hR
              refine AW.seqRegionO [] ?_
              refine s1 tok [4] ?_
              refine AOpsO.nil ?_
              exact AW.ret ⟨.inr rfl, _, _, by (conv => lhs; simp), trivial, by simp [hR]⟩
            · intro h59
              try simp at h59
              refine AW.skip ?_
              refine AW.seq ?_
              refine AW.seqRegionO [] ?_
              refine s1 tok [3, 60] ?_
              refine s1 tok [3, 61] ?_
              refine s1 tok [61, 62] ?_
              refine s1 tok [61, 63] ?_
              refine s1 tok [64] ?_
              refine AOpsO.nil ?_
              refine AW.cond (c := .tmp 64) (by conv => lhs; simp) trivial ?_ ?_
              · intro h64
                try simp at h64
                rw [cmpI_gt h64] at hR
                refine AW.seqRegionO [] ?_
                refine s1 tok [4] ?_
                refine AOpsO.nil ?_
                exact AW.ret ⟨.inr rfl, _, _, by (conv => lhs; simp), trivial, by simp [hR]⟩
              · intro h64
                try simp at h64
                rw [show cmpI a.code b.code = 0 by rw [show a.code = b.code by omega, cmpI_self]] at hR
                refine AW.skip ?_
                refine AW.seqRegionO [] ?_
                refine s1 tok [4] ?_
                refine AOpsO.nil ?_
                exact AW.ret ⟨.inr rfl, _, _, by (conv => lhs; simp), trivial, by simp [hR]⟩
          · intro h53
            try simp at h53
            rw [if_neg h53] at hR
            refine AW.seqRegionO [] ?_
            refine s1 tok [2, 3, 66] ?_
            refine s1 tok [2, 3, 65] ?_
            refine AOpsO.nil ?_
            refine AW.cond (c := .tmp 65) (by conv => lhs; simp) trivial ?_ ?_
            · intro h65
              try simp at h65
              rw [if_pos h65] at hR
              obtain ⟨oa1, oa2, oa3⟩ := may_obj ha h65
              obtain ⟨ob1, ob2, ob3⟩ := may_obj hb (by omega)
              have q1 := sortedR_ev (G := G) a.keys (by omega)
              have q2 := sortedR_ev (G := G) b.keys (by omega)
              have w1 := words_ev (G := G) (sortK a.keys) (by rw [sortK_len]; omega)
              have w2 := words_ev (G := G) (sortK b.keys) (by rw [sortK_len]; omega)
              have hc := lists_ev (G := G) ((sortK a.keys).map txtV) ((sortK b.keys).map txtV) (fun x y => cmpS x.text y.text) (by rw [List.length_map, sortK_len]; omega) (fun x hx y hy => by
                obtain ⟨s, _, rfl⟩ := List.mem_map.1 hx
                obtain ⟨t, _, rfl⟩ := List.mem_map.1 hy
                exact refCmpT_ev s t)
              have hcm : cmpL (fun x y : Val => cmpS x.text y.text) ((sortK a.keys).map txtV) ((sortK b.keys).map txtV) = cmpL cmpS (sortK a.keys) (sortK b.keys) := by rw [cmpL_map]; rfl
              rw [hcm] at hc
              have hco : (cmpL cmpS (sortK a.keys) (sortK b.keys) = 0) → sortK a.keys = sortK b.keys := cmpSL_zero
              have hma : ∀ s ∈ sortK a.keys, s ∈ a.keys := fun s h => sortK_mem.1 h
              have hmb : ∀ s ∈ sortK b.keys, s ∈ b.keys := fun s h => sortK_mem.1 h
              have hcl := lists_ev (G := G) (kidsS a) (kidsS b) (cmpF f) (by unfold kidsS; rw [List.length_map, sortK_len]; omega) (fun x hx y hy => ih x (kidsS_mem (by omega) hx) y (kidsS_mem (by omega) hy))
              have hka : kidsS a = (sortK a.keys).map (kidOf a) := rfl
              have hkb : kidsS b = (sortK b.keys).map (kidOf b) := rfl
              have hxl : (sortK a.keys).length ≤ 200 := by rw [sortK_len]; omega
              generalize cmpL cmpS (sortK a.keys) (sortK b.keys) = c at *
              generalize sortK a.keys = xs at *
              generalize sortK b.keys = ys at *
              refine AW.seqRegionO [.nilp, .sl 1 (xs.map PD.str)] ?_
              refine s1 tok [2, 3, 67] ?_
              refine s1 tok [2, 3, 68] ?_ (hv := by first | with_reducible exact True.intro | (exact q1; done) | omega | simp | (simp; omega) | (simp +contextual; omega))
              refine s1 tok [2, 3, 69] ?_ (hv := by first | with_reducible exact True.intro | (exact q1; done) | omega | simp | (simp; omega) | (simp +contextual; omega))
              refine s1 tok [2, 3, 5] ?_
              refine AOpsO.nil ?_
              refine AW.seqRegionO [.nilp, .sl 1 (ys.map PD.str)] ?_
              refine s1 tok [2, 3, 5, 70] ?_
              refine s1 tok [2, 3, 5, 71] ?_ (hv := by first | with_reducible exact True.intro | (exact q2; done) | omega | simp | (simp; omega) | (simp +contextual; omega))
              refine s1 tok [2, 3, 5, 72] ?_ (hv := by first | with_reducible exact True.intro | (exact q2; done) | omega | simp | (simp; omega) | (simp +contextual; omega))
              refine s1 tok [2, 3, 5, 6] ?_
              refine AOpsO.nil ?_
              refine AW.seqRegionO [.nilp, .sl 9 ((xs.map txtV).map Val.enc), .nilp, .sl 9 ((ys.map txtV).map Val.enc), .nilp, .int .i64 c] ?_
              refine s1 tok [2, 3, 5, 6, 73] ?_
              refine s1 tok [2, 3, 5, 6, 74] ?_ (hv := by first | with_reducible exact True.intro | (first | exact w1 | exact w2 | exact hc | (simp at w1 ⊢; exact w1) | (simp at w2 ⊢; exact w2) | (simp at hc ⊢; exact hc); done) | omega | simp | (simp; omega) | (simp +contextual; omega))
              refine s1 tok [2, 3, 5, 74, 75] ?_
              refine s1 tok [2, 3, 5, 74, 76] ?_ (hv := by first | with_reducible exact True.intro | (first | exact w1 | exact w2 | exact hc | (simp at w1 ⊢; exact w1) | (simp at w2 ⊢; exact w2) | (simp at hc ⊢; exact hc); done) | omega | simp | (simp; omega) | (simp +contextual; omega))
              refine s1 tok [2, 3, 5, 77] ?_ (hv := by first | with_reducible exact True.intro | (first | exact w1 | exact w2 | exact hc | (simp at w1 ⊢; exact w1) | (simp at w2 ⊢; exact w2) | (simp at hc ⊢; exact hc); done) | omega | simp | (simp; omega) | (simp +contextual; omega))
              refine s1 tok [2, 3, 5, 7] ?_
              refine AOpsO.nil ?_
              refine AW.seqRegionO [] ?_
              refine s1 tok [2, 3, 5, 7, 78] ?_
              refine s1 tok [2, 3, 5, 7, 8] ?_
              refine AOpsO.nil ?_
              refine AW.seqRegionO [] ?_
              refine s1 tok [2, 3, 5, 7, 8, 79] ?_
              refine s1 tok [2, 3, 5, 7, 8, 9] ?_
              refine AOpsO.nil ?_
              refine AW.seq ?_
              refine AW.seqRegionO [] ?_
              refine s1 tok [2, 3, 5, 7, 8, 9, 10] ?_
              refine AOpsO.nil ?_
              refine AW.block ?_
              refine AW.loop (α := Nat) (fun k => k ≤ xs.length ∧ (c ≠ 0 → k = 0)) (fun k => ⟨upds 122 [(2, .ptr 2 0), (3, .ptr 3 0), (5, .p (.sl 1 (xs.map PD.str))), (7, .p (.int .i64 c)), (8, .ms 78), (9, .ms 79), (10, .p (.int .i64 k))], [], [(2, .vars 31 a.cells), (3, .vars 31 b.cells), (78, .row 31 9 (((xs.take k).map (kidOf a)).map Val.enc)), (79, .row 31 9 (((xs.take k).map (kidOf b)).map Val.enc))], 0⟩) (fun k => xs.length - k) (0) ⟨by omega, fun _ => rfl⟩ ⟨upds_le (by simp), rfl, by simp, by simp⟩ ?_
              rintro k ⟨hk, hz⟩
              refine AW.seq ?_
              refine AW.seqRegionO [] ?_
              refine s1 tok [2, 3, 5, 7, 8, 9, 10, 80] ?_
              refine s1 tok [2, 3, 5, 7, 8, 9, 10, 80, 81] ?_
              refine s1 tok [2, 3, 5, 7, 8, 9, 10, 80, 82] ?_
              refine s1 tok [2, 3, 5, 7, 8, 9, 10, 83] ?_
              refine s1 tok [2, 3, 5, 7, 8, 9, 10, 84] ?_
              refine s2 tok [2, 3, 5, 7, 8, 9, 10, 84, 85] 84 rfl rfl ?_
              refine s2 tok [2, 3, 5, 7, 8, 9, 10, 84, 86] 84 rfl rfl ?_
              refine s1 tok [2, 3, 5, 7, 8, 9, 10, 87] ?_
              refine AOpsO.nil ?_
              refine AW.cond (c := .tmp 87) (by conv => lhs; simp) trivial ?_ ?_
              · intro h87
                try simp at h87
                have hc0 : c = 0 := by omega
                have hkl : k < xs.length := by omega
                obtain ⟨s, hs⟩ : ∃ s, xs[k]? = some s := ⟨xs[k], by simp [hkl]⟩
                have k1 := refKid_ev (G := G) a s (by omega) (by omega)
                have k2 := refKid_ev (G := G) b s (by omega) (by omega)
                have i1 : s ∈ a.keys := hma s (List.mem_of_getElem? hs)
                have i2 : s ∈ b.keys := hmb s (by rw [← hco hc0]; exact List.mem_of_getElem? hs)
                rw [if_pos i1, decide_eq_true i1] at k1
                rw [if_pos i2, decide_eq_true i2] at k2
                generalize hu : kidOf a s = u at k1
                generalize hw : kidOf b s = w at k2
                simp only [Val.enc_def] at k1 k2
                refine AW.skip ?_
                refine AW.seq ?_
                refine AW.block ?_
                refine AW.seqDrawS tok mixed 11 [[2], [5], [10], [92, 93], [94], [91, 95], [96], [90], [90], [], [11, 97]] [.str s, .nilp, .tup [u.enc, .bool true]] [] (by kernel_rfl) ?_
                refine d1 ?_ (hv := by first | with_reducible exact True.intro | (first | (simp [hs]; done) | exact k1; done) | omega | simp | (simp; omega) | (simp +contextual; omega))
                refine d1 ?_
                refine d1 ?_
                refine d1 ?_ (hv := by first | with_reducible exact True.intro | (first | (simp [hs]; done) | exact k1; done) | omega | simp | (simp; omega) | (simp +contextual; omega))
                refine d1 ?_ (hv := by first | with_reducible exact True.intro | (first | (simp [hs]; done) | exact k1; done) | omega | simp | (simp; omega) | (simp +contextual; omega))
                refine d1 ?_ (hv := by first | with_reducible exact True.intro | (first | (simp [hs]; done) | exact k1; done) | omega | simp | (simp; omega) | (simp +contextual; omega))
                refine d1 ?_
                refine d1 ?_
                refine d1 ?_
                refine d1 ?_
                refine d1 ?_ (hv := by first | with_reducible exact True.intro | (first | (simp [hs]; done) | exact k1; done) | omega | simp | (simp; omega) | (simp +contextual; omega))
                refine DGo.nil (by kernel_rfl) ⟨by kernel_rfl, ?_⟩
                refine s1 tok [2, 3, 5, 7, 8, 9, 10, 11] ?_
                refine AOpsO.nil ?_
                refine AW.seqDrawS tok mixed 11 [[3], [5], [10], [101, 102], [103], [100, 104], [105], [99], [99], [], [13, 106]] [.str s, .nilp, .tup [w.enc, .bool true]] [] (by kernel_rfl) ?_
                refine d1 ?_ (hv := by first | with_reducible exact True.intro | (first | (simp [hs]; done) | exact k2; done) | omega | simp | (simp; omega) | (simp +contextual; omega))
                refine d1 ?_
                refine d1 ?_
                refine d1 ?_ (hv := by first | with_reducible exact True.intro | (first | (simp [hs]; done) | exact k2; done) | omega | simp | (simp; omega) | (simp +contextual; omega))
                refine d1 ?_ (hv := by first | with_reducible exact True.intro | (first | (simp [hs]; done) | exact k2; done) | omega | simp | (simp; omega) | (simp +contextual; omega))
                refine d1 ?_ (hv := by first | with_reducible exact True.intro | (first | (simp [hs]; done) | exact k2; done) | omega | simp | (simp; omega) | (simp +contextual; omega))
                refine d1 ?_
                refine d1 ?_
                refine d1 ?_
                refine d1 ?_
                refine d1 ?_ (hv := by first | with_reducible exact True.intro | (first | (simp [hs]; done) | exact k2; done) | omega | simp | (simp; omega) | (simp +contextual; omega))
                refine DGo.nil (by kernel_rfl) ⟨by kernel_rfl, ?_⟩
                refine s1 tok [2, 3, 5, 7, 8, 9, 10, 11, 13] ?_
                refine AOpsO.nil ?_
                refine AW.seqRegionO [u.enc] ?_
                refine s1 tok [2, 3, 5, 7, 9, 10, 11, 13, 108] ?_
                refine s1 tok [2, 3, 5, 7, 9, 10, 13, 108, 109] ?_ (hv := by first | with_reducible exact True.intro | ((simp; omega); done) | omega | simp | (simp; omega) | (simp +contextual; omega))
                refine s1 tok [2, 3, 5, 7, 9, 10, 13, 108, 110] ?_ (hv := by first | with_reducible exact True.intro | ((simp; omega); done) | omega | simp | (simp; omega) | (simp +contextual; omega))
                refine s1 tok [2, 3, 5, 7, 9, 10, 13, 111] ?_ (hv := by first | with_reducible exact True.intro | ((simp; omega); done) | omega | simp | (simp; omega) | (simp +contextual; omega))
                refine s1 tok [2, 3, 5, 7, 8, 9, 10, 13] ?_
                refine AOpsO.nil ?_
                refine AW.regionO [w.enc] ?_
                refine s1 tok [2, 3, 5, 7, 8, 10, 13, 112] ?_
                refine s1 tok [2, 3, 5, 7, 8, 10, 112, 113] ?_ (hv := by first | with_reducible exact True.intro | ((simp; omega); done) | omega | simp | (simp; omega) | (simp +contextual; omega))
                refine s1 tok [2, 3, 5, 7, 8, 10, 112, 114] ?_ (hv := by first | with_reducible exact True.intro | ((simp; omega); done) | omega | simp | (simp; omega) | (simp +contextual; omega))
                refine s1 tok [2, 3, 5, 7, 8, 10, 115] ?_ (hv := by first | with_reducible exact True.intro | ((simp; omega); done) | omega | simp | (simp; omega) | (simp +contextual; omega))
                refine s1 tok [2, 3, 5, 7, 8, 9, 10] ?_
                refine AOpsO.nil ?_
                refine AW.regionO [] ?_
                refine s1 tok [2, 3, 5, 7, 8, 9, 88] ?_
                refine s1 tok [2, 3, 5, 7, 8, 9, 89] ?_
                refine s1 tok [2, 3, 5, 7, 8, 9, 10] ?_
                refine AOpsO.nil ?_
                exact ⟨k + 1, ⟨by omega, fun h => (h hc0).elim⟩, by omega, upds_le (by simp [List.take_add_one, hs, hu, hw]), rfl, by simp [List.take_add_one, hs, hu, hw], by simp [List.take_add_one, hs, hu, hw]⟩
              · intro h87
                try simp at h87
                refine AW.exit ?_
                simp
                refine AW.seq ?_
                refine AW.seqRegionO [] ?_
                refine s1 tok [7, 8, 9, 116] ?_
                refine s1 tok [7, 8, 9, 117] ?_
                refine AOpsO.nil ?_
                refine AW.cond (c := .tmp 117) (by conv => lhs; simp) trivial ?_ ?_
                · intro h117
                  try simp at h117
                  rw [if_pos h117] at hR
                  refine AW.seqRegionO [] ?_
                  refine s1 tok [118] ?_
                  refine s1 tok [4] ?_
                  refine AOpsO.nil ?_
                  exact AW.ret ⟨.inr rfl, _, _, by (conv => lhs; simp), trivial, by simp [hR]⟩
                · intro h117
                  try simp at h117
                  rw [if_neg (by simp [h117])] at hR
                  have hkx : k = xs.length := by omega
                  have hxy := hco h117
                  subst hkx
                  subst hxy
                  refine AW.skip ?_
                  refine AW.seqRegionO [.nilp, .int .i64 (cmpL (cmpF f) (kidsS a) (kidsS b))] ?_
                  refine AOpsO.freeze 78 (by conv => lhs; simp) ?_
                  refine AOpsO.freeze 79 (by conv => lhs; simp) ?_
                  refine s1 tok [9, 119] ?_
                  refine s1 tok [119, 120] ?_
                  refine s1 tok [121] ?_ (hv := by first | with_reducible exact True.intro | ((rw [hka, hkb] at hcl ⊢; simp at hcl ⊢; rw [List.take_of_length_le (by simp), List.take_of_length_le (by simp)]; exact hcl); done) | omega | simp | (simp; omega) | (simp +contextual; omega))
                  refine s1 tok [4] ?_
                  refine AOpsO.nil ?_
                  exact AW.ret ⟨.inr rfl, _, _, by (conv => lhs; simp), trivial, by simp [hR]⟩
            · intro h65
              try simp at h65
              rw [if_neg h65] at hR
              refine AW.skip ?_
              refine AW.seqRegionO [] ?_
              refine s1 tok [4] ?_
              refine AOpsO.nil ?_
              exact AW.ret ⟨.inr rfl, _, _, by (conv => lhs; simp), trivial, by simp [hR]⟩
theorem refCmpF_ev : ∀ (f : Nat) (a b : Val), mayT a = true → mayT b = true → Val.sz a ≤ f → AFn Tryz.prog G 26 [a.enc, b.enc] (.int .i64 (cmpF (f + 1) a b))
  | 0, a, b, ha, hb, h => refCmp_step 0 a b ha hb fun x hx => by have := Val.sz_kid hx; omega
  | f + 1, a, b, ha, hb, h => refCmp_step (f + 1) a b ha hb fun x hx y hy => refCmpF_ev f x y (may_kid ha hx) (may_kid hb hy) (by have := Val.sz_kid hx; omega)
theorem refCmp_ev (a b : Val) (ha : mayT a = true) (hb : mayT b = true) : AFn Tryz.prog G 26 [a.enc, b.enc] (.int .i64 (cmpT a b)) := refCmpF_ev _ a b ha hb (Nat.le_refl _)
end Go.Proofs.YtgoepemmcibdaaaGreatDoor
