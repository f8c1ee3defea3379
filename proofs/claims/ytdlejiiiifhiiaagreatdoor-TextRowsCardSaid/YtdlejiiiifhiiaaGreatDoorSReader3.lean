import Derived.Test.YtdlejiiiifhiiaaGreatDoorSReader2
namespace Go.Proofs.YtdlejiiiifhiiaaGreatDoor
open Sy Go
set_option maxRecDepth 100000
set_option maxHeartbeats 4000000
set_option linter.unusedSimpArgs false
set_option linter.unusedVariables false
variable {G : Glob}
/-- The reader, once it has counted. -/
def preR (st : RS) (d : Nat) : RS := ⟨st.left, st.nodes + 1, st.bad, Bool.or st.deep (decide (12 < d)), Bool.or st.big (decide (400 < st.nodes + 1))⟩
theorem tk_pre (w : List UInt8) (st : RS) (d : Nat) : tk w (preR st d) = if w.isPrefixOf (enterR st d).left = true then (true, dropR (enterR st d) w.length) else (false, enterR st d) := rfl
theorem tk_self (w : List UInt8) {E : RS} (h : trimB E.left = E.left) : tk w E = if w.isPrefixOf E.left = true then (true, dropR E w.length) else (false, E) := by
  unfold tk; rw [h]; rfl
theorem takesT (w : List UInt8) (k : Nat) {S E : RS} (h : tk w S = if w.isPrefixOf E.left = true then (true, dropR E w.length) else (false, E)) (hp : w.isPrefixOf E.left = true) (hk : w.length = k := by rfl) :
    AX Tryz.prog G 44 [.ptr 2 0, .p (.str w)] [(2, .vars 59 (rdC S))] (.p (.bool true)) [2] [(2, .vars 59 (rdC (dropR E k)))] := by
  have := takes_ax (G := G) S w
  rw [h, if_pos hp] at this; exact hk ▸ this
theorem takesF (w : List UInt8) {S E : RS} (h : tk w S = if w.isPrefixOf E.left = true then (true, dropR E w.length) else (false, E)) (hp : ¬ w.isPrefixOf E.left = true) :
    AX Tryz.prog G 44 [.ptr 2 0, .p (.str w)] [(2, .vars 59 (rdC S))] (.p (.bool false)) [2] [(2, .vars 59 (rdC E))] := by
  have := takes_ax (G := G) S w
  rw [h, if_neg hp] at this; exact this
theorem val_step (n : Nat) (st : RS) (d : Nat) : valR (n + 1) st d = if ([91] : List UInt8).isPrefixOf (enterR st d).left = true then ((lstM n (dropR (enterR st d) 1) (d + 1)).1, .mk 6 0 dc0 [] [] (lstM n (dropR (enterR st d) 1) (d + 1)).2 0)
    else if ([123] : List UInt8).isPrefixOf (enterR st d).left = true then ((objM n (dropR (enterR st d) 1) (d + 1)).1, .mk 7 0 dc0 [] (objM n (dropR (enterR st d) 1) (d + 1)).2.1 (objM n (dropR (enterR st d) 1) (d + 1)).2.2 0) else atomR (enterR st d) := by
  rw [valR]; rfl
attribute [local simp] dropR
theorem value_step_ax (hG : U8 G) (n : Nat) (st : RS) (d : Nat) (hN : 2 * st.left.length + 2 ≤ n + 1) (hl : st.left.length ≤ 1000000000) (hk : st.nodes + st.left.length ≤ 10000000000) (hd : d + st.left.length ≤ 10000000000) (ih : ∀ e, ValHyp G n e) : AX Tryz.prog G 27 [.ptr 2 0, .p (.int .i64 d)] [(2, .vars 59 (rdC st))] (.agg (valR (n + 1) st d).2.cells) [2] [(2, .vars 59 (rdC (valR (n + 1) st d).1))] := by
  refine AX.introU tok 900 Tryz.func27 (by kernel_rfl) rfl rfl ?_
  simp only [Tryz.f27, enumA, List.map_cons, List.map_nil]
  rw [val_step]
  have htp := fun w => tk_pre w st d
  have hEl : trimB (enterR st d).left = (enterR st d).left := trimB_trim _
  have hts := fun w => tk_self w hEl
  have hle := enter_le st d
  have hen : (enterR st d).nodes = st.nodes + 1 := rfl
  have hd1 : decide ((12 : Int) < (d : Int)) = decide (12 < d) := by rw [decide_eq_decide]; omega
  have hd2 : decide ((400 : Int) < (st.nodes : Int) + 1) = decide (400 < st.nodes + 1) := by rw [decide_eq_decide]; omega
  refine AW.seqRegionO [] ?_
  refine s1 tok [0, 1, 4] ?_
  refine AOpsO.nil ?_
  refine AW.seqRegionO [] ?_
  refine s1 tok [0, 1, 4, 5] ?_
  refine s1 tok [0, 1, 4, 5, 6] ?_
  refine s1 tok [0, 1, 4, 5, 7] ?_
  refine s1 tok [0, 1, 4, 5, 8] ?_
  refine s1 tok [0, 1, 4, 5, 9] ?_
  refine s1 tok [0, 1, 4, 9, 10] ?_
  refine s1 tok [0, 1, 4, 9, 11] ?_
  refine s1 tok [0, 1, 4] ?_
  refine AOpsO.nil ?_
  refine AW.seqRegionO [] ?_
  refine s1 tok [0, 1, 4, 12] ?_
  refine s1 tok [0, 1, 4, 12, 13] ?_
  refine s1 tok [0, 1, 4, 12, 14] ?_
  refine s1 tok [0, 1, 4, 12, 15] ?_
  refine s1 tok [0, 1, 4, 12, 16] ?_
  refine s1 tok [0, 1, 4, 12, 17] ?_
  refine s2 tok [0, 1, 4, 12, 17, 18] 17 rfl rfl ?_
  refine s2 tok [0, 1, 4, 12, 17, 19] 17 rfl rfl ?_
  refine s1 tok [0, 1, 4, 12, 20] ?_
  refine s1 tok [0, 1, 4, 20, 21] ?_
  refine s1 tok [0, 1, 4, 20, 22] ?_
  refine s1 tok [0, 1, 4] ?_
  refine AOpsO.nil ?_
  refine AW.seqRegionO [] ?_
  refine s1 tok [0, 1, 4, 23] ?_
  refine s1 tok [0, 1, 4, 23, 24] ?_
  refine s1 tok [0, 1, 4, 23, 25] ?_
  refine s1 tok [0, 1, 4, 23, 26] ?_
  refine s1 tok [0, 1, 4, 23, 27] ?_
  refine s1 tok [0, 1, 4, 23, 28] ?_
  refine s2 tok [0, 1, 4, 23, 28, 29] 28 rfl rfl ?_
  refine s2 tok [0, 1, 4, 23, 28, 30] 28 rfl rfl ?_
  refine s2 tok [0, 1, 4, 23, 28, 31] 28 rfl rfl ?_
  refine s2 tok [0, 1, 4, 23, 28, 32] 28 rfl rfl ?_
  refine s2 tok [0, 1, 4, 23, 28, 33] 28 rfl rfl ?_
  refine s1 tok [0, 1, 4, 23, 34] ?_
  refine s1 tok [0, 1, 4, 34, 35] ?_
  refine s1 tok [0, 1, 4, 34, 36] ?_
  refine s1 tok [0, 1, 4] ?_
  refine AOpsO.nil ?_
  refine AW.seq ?_
  refine AW.block ?_
  by_cases hs4 : ([91] : List UInt8).isPrefixOf (enterR st d).left = true
  ·
    first | rw [if_pos hs4] | rw [if_neg hs4]
    generalize enterR st d = E at *; obtain ⟨el, en, eb, edp, ebg⟩ := E
    simp only at hs4 hle hen hEl
    have hpl := prefix_len hs4
    simp at hpl
    refine AW.seqRegionO [] ?_
    refine s1 tok [0, 1, 4, 38] ?_
    refine AOpsO.stepK [0, 1, 4, 39] (y_cx rfl (takesT [91] 1 (htp _) hs4) (by simp [preR, hd1, hd2])) (by conv => lhs; simp) rfl ?_
    refine s1 tok [0, 1, 4, 37] ?_
    refine AOpsO.nil ?_
    refine AW.cond (c := .tmp 37) (by conv => lhs; simp) trivial ?_ ?_
    · intro h37
      try simp at h37
      refine AW.seqRegionO [] ?_
      refine s1 tok [1, 4, 40] ?_
      refine s1 tok [4, 40, 41] ?_
      refine s1 tok [4, 40, 42] ?_
      refine AOpsO.stepK [4, 43] (y_cx rfl (list_ax n (dropR ⟨el, en, eb, edp, ebg⟩ 1) (d + 1) (by simp [dropR]; omega) (by simp [dropR]; omega) (by simp [dropR]; omega) (by simp [dropR]; omega) (ih _)) (by simp [dropR])) (by conv => lhs; simp) rfl ?_
      refine s1 tok [4] ?_
      refine AOpsO.nil ?_
      exact AW.ret ⟨.inr rfl, _, _, by (conv => lhs; simp), trivial, by simp [dc0], by simp, by simp, by simp⟩
    · intro h37
      try simp at h37
  ·
    first | rw [if_pos hs4] | rw [if_neg hs4]
    generalize enterR st d = E at *; obtain ⟨el, en, eb, edp, ebg⟩ := E
    simp only at hs4 hle hen hEl
    refine AW.seqRegionO [] ?_
    refine s1 tok [0, 1, 4, 38] ?_
    refine AOpsO.stepK [0, 1, 4, 39] (y_cx rfl (takesF [91] (htp _) hs4) (by simp [preR, hd1, hd2])) (by conv => lhs; simp) rfl ?_
    refine s1 tok [0, 1, 4, 37] ?_
    refine AOpsO.nil ?_
    refine AW.cond (c := .tmp 37) (by conv => lhs; simp) trivial ?_ ?_
    · intro h37
      try simp at h37
    · intro h37
      try simp at h37
      by_cases hs6 : ([123] : List UInt8).isPrefixOf el = true
      ·
        first | rw [if_pos hs6] | rw [if_neg hs6]
        have hpl := prefix_len hs6
        simp at hpl
        refine AW.seqRegionO [] ?_
        refine s1 tok [0, 1, 4, 45] ?_
        refine AOpsO.stepK [0, 1, 4, 46] (y_cx rfl (takesT [123] 1 (hts _) hs6) (by simp)) (by conv => lhs; simp) rfl ?_
        refine s1 tok [0, 1, 4, 44] ?_
        refine AOpsO.nil ?_
        refine AW.cond (c := .tmp 44) (by conv => lhs; simp) trivial ?_ ?_
        · intro h44
          try simp at h44
          refine AW.seqRegionO [] ?_
          refine s1 tok [1, 4, 47] ?_
          refine s1 tok [4, 47, 48] ?_
          refine s1 tok [4, 47, 49] ?_
          refine AOpsO.stepK [4, 50] (y_cx rfl (object_ax hG n (dropR ⟨el, en, eb, edp, ebg⟩ 1) (d + 1) (by simp [dropR]; omega) (by simp [dropR]; omega) (by simp [dropR]; omega) (by simp [dropR]; omega) (ih _)) (by simp [dropR])) (by conv => lhs; simp) rfl ?_
          refine s1 tok [4] ?_
          refine AOpsO.nil ?_
          exact AW.ret ⟨.inr rfl, _, _, by (conv => lhs; simp), trivial, by simp [dc0], by simp, by simp, by simp⟩
        · intro h44
          try simp at h44
      ·
        first | rw [if_pos hs6] | rw [if_neg hs6]
        unfold atomR
        simp only
        refine AW.seqRegionO [] ?_
        refine s1 tok [0, 1, 4, 45] ?_
        refine AOpsO.stepK [0, 1, 4, 46] (y_cx rfl (takesF [123] (hts _) hs6) (by simp)) (by conv => lhs; simp) rfl ?_
        refine s1 tok [0, 1, 4, 44] ?_
        refine AOpsO.nil ?_
        refine AW.cond (c := .tmp 44) (by conv => lhs; simp) trivial ?_ ?_
        · intro h44
          try simp at h44
        · intro h44
          try simp at h44
          by_cases hs8 : wNull.isPrefixOf el = true
          ·
            first | rw [if_pos hs8] | rw [if_neg hs8]
            refine AW.seqRegionO [] ?_
            refine s1 tok [0, 4, 52] ?_
            refine AOpsO.stepK [0, 4, 53] (y_cx rfl (takesT wNull 4 (hts _) hs8) (by simp [wNull])) (by conv => lhs; simp) rfl ?_
            refine s1 tok [0, 4, 51] ?_
            refine AOpsO.nil ?_
            refine AW.cond (c := .tmp 51) (by conv => lhs; simp) trivial ?_ ?_
            · intro h51
              try simp at h51
              refine AW.seqRegionO [] ?_
              refine s1 tok [4, 54] ?_
              refine s1 tok [4] ?_
              refine AOpsO.nil ?_
              refine AW.fillE 904 [none, none, none, none, none, none, some 1, some 9, none] (by conv => lhs; simp) ?_
              exact AW.ret ⟨.inr rfl, _, _, by (conv => lhs; simp), trivial, by simp [dc0], by simp, by simp, by simp⟩
            · intro h51
              try simp at h51
          ·
            first | rw [if_pos hs8] | rw [if_neg hs8]
            refine AW.seqRegionO [] ?_
            refine s1 tok [0, 4, 52] ?_
            refine AOpsO.stepK [0, 4, 53] (y_cx rfl (takesF wNull (hts _) hs8) (by simp [wNull])) (by conv => lhs; simp) rfl ?_
            refine s1 tok [0, 4, 51] ?_
            refine AOpsO.nil ?_
            refine AW.cond (c := .tmp 51) (by conv => lhs; simp) trivial ?_ ?_
            · intro h51
              try simp at h51
            · intro h51
              try simp at h51
              by_cases hs10 : wTrue.isPrefixOf el = true
              ·
                first | rw [if_pos hs10] | rw [if_neg hs10]
                refine AW.seqRegionO [] ?_
                refine s1 tok [0, 4, 56] ?_
                refine AOpsO.stepK [0, 4, 57] (y_cx rfl (takesT wTrue 4 (hts _) hs10) (by simp [wTrue])) (by conv => lhs; simp) rfl ?_
                refine s1 tok [0, 4, 55] ?_
                refine AOpsO.nil ?_
                refine AW.cond (c := .tmp 55) (by conv => lhs; simp) trivial ?_ ?_
                · intro h55
                  try simp at h55
                  refine AW.seqRegionO [] ?_
                  refine s1 tok [4, 58] ?_
                  refine s1 tok [4] ?_
                  refine AOpsO.nil ?_
                  refine AW.fillE 904 [none, none, none, none, none, none, some 1, some 9, none] (by conv => lhs; simp) ?_
                  exact AW.ret ⟨.inr rfl, _, _, by (conv => lhs; simp), trivial, by simp [dc0], by simp, by simp, by simp⟩
                · intro h55
                  try simp at h55
              ·
                first | rw [if_pos hs10] | rw [if_neg hs10]
                refine AW.seqRegionO [] ?_
                refine s1 tok [0, 4, 56] ?_
                refine AOpsO.stepK [0, 4, 57] (y_cx rfl (takesF wTrue (hts _) hs10) (by simp [wTrue])) (by conv => lhs; simp) rfl ?_
                refine s1 tok [0, 4, 55] ?_
                refine AOpsO.nil ?_
                refine AW.cond (c := .tmp 55) (by conv => lhs; simp) trivial ?_ ?_
                · intro h55
                  try simp at h55
                · intro h55
                  try simp at h55
                  by_cases hs12 : wFalse.isPrefixOf el = true
                  ·
                    first | rw [if_pos hs12] | rw [if_neg hs12]
                    refine AW.seqRegionO [] ?_
                    refine s1 tok [0, 4, 60] ?_
                    refine AOpsO.stepK [0, 4, 61] (y_cx rfl (takesT wFalse 5 (hts _) hs12) (by simp [wFalse])) (by conv => lhs; simp) rfl ?_
                    refine s1 tok [0, 4, 59] ?_
                    refine AOpsO.nil ?_
                    refine AW.cond (c := .tmp 59) (by conv => lhs; simp) trivial ?_ ?_
                    · intro h59
                      try simp at h59
                      refine AW.seqRegionO [] ?_
                      refine s1 tok [4, 62] ?_
                      refine s1 tok [4] ?_
                      refine AOpsO.nil ?_
                      refine AW.fillE 904 [none, none, none, none, none, none, some 1, some 9, none] (by conv => lhs; simp) ?_
                      exact AW.ret ⟨.inr rfl, _, _, by (conv => lhs; simp), trivial, by simp [dc0], by simp, by simp, by simp⟩
                    · intro h59
                      try simp at h59
                  ·
                    first | rw [if_pos hs12] | rw [if_neg hs12]
                    refine AW.seqRegionO [] ?_
                    refine s1 tok [0, 4, 60] ?_
                    refine AOpsO.stepK [0, 4, 61] (y_cx rfl (takesF wFalse (hts _) hs12) (by simp [wFalse])) (by conv => lhs; simp) rfl ?_
                    refine s1 tok [0, 4, 59] ?_
                    refine AOpsO.nil ?_
                    refine AW.cond (c := .tmp 59) (by conv => lhs; simp) trivial ?_ ?_
                    · intro h59
                      try simp at h59
                    · intro h59
                      try simp at h59
                      refine AW.seqRegionO [.nilp, .bool (([34] : List UInt8).isPrefixOf el)] ?_
                      refine s1 tok [0, 4, 64] ?_
                      refine s1 tok [0, 4, 65] ?_ (hv := by first | with_reducible exact True.intro | ((rw [← hasPre_pre]; exact HasPrefix_ev _ _); done) | omega | simp | (simp; omega) | (simp +contextual; omega))
                      refine s1 tok [0, 4, 66] ?_
                      refine s1 tok [0, 4, 67] ?_ (hv := by first | with_reducible exact True.intro | ((rw [← hasPre_pre]; exact HasPrefix_ev _ _); done) | omega | simp | (simp; omega) | (simp +contextual; omega))
                      refine s1 tok [0, 4, 68] ?_ (hv := by first | with_reducible exact True.intro | ((rw [← hasPre_pre]; exact HasPrefix_ev _ _); done) | omega | simp | (simp; omega) | (simp +contextual; omega))
                      refine s1 tok [0, 4, 63] ?_
                      refine AOpsO.nil ?_
                      refine AW.cond (c := .tmp 63) (by conv => lhs; simp) trivial ?_ ?_
                      · intro h63
                        rw [if_pos h63]
                        refine AW.seqRegionO [] ?_
                        refine s1 tok [4, 69] ?_
                        refine AOpsO.stepK [4, 70] (y_cx rfl (quoted_ax hG ⟨el, en, eb, edp, ebg⟩ (by simp only; omega)) (by simp)) (by conv => lhs; simp) rfl ?_
                        refine s1 tok [4, 71] ?_
                        refine s1 tok [4] ?_
                        refine AOpsO.nil ?_
                        refine AW.fillE 904 [none, none, none, none, none, none, some 1, some 9, none] (by conv => lhs; simp) ?_
                        exact AW.ret ⟨.inr rfl, _, _, by (conv => lhs; simp), trivial, by simp [dc0], by simp, by simp, by simp⟩
                      · intro h63
                        rw [if_neg (by rw [h63]; simp)]
                        by_cases hs16 : el = []
                        ·
                          skip
                          subst hs16
                          refine AW.seqRegionO [.int .u8 0, .int .u8 0, .int .u8 0] ?_
                          refine s1 tok [0, 4, 73] ?_
                          refine s1 tok [0, 4, 74] ?_
                          refine s1 tok [0, 4, 75] ?_
                          refine s1 tok [0, 4, 76] ?_
                          refine s1 tok [0, 4, 77] ?_
                          refine s1 tok [0, 4, 78] ?_
                          refine s2 tok [0, 4, 78, 79] 78 rfl rfl ?_
                          refine s2 tok [0, 4, 78, 80] 78 rfl rfl ?_
                          refine s2 tok [0, 4, 78, 81] 78 rfl rfl ?_
                          refine s2 tok [0, 4, 78, 82] 78 rfl rfl ?_
                          refine s2 tok [0, 4, 78, 83] 78 rfl rfl ?_
                          refine s2 tok [0, 4, 78, 84] 78 rfl rfl ?_
                          refine s2 tok [0, 4, 78, 85] 78 rfl rfl ?_
                          refine s2 tok [0, 4, 78, 85, 86] 85 rfl rfl ?_
                          refine s2 tok [0, 4, 78, 85, 87] 85 rfl rfl ?_
                          refine s2 tok [0, 4, 78, 85, 88] 85 rfl rfl ?_
                          refine s2 tok [0, 4, 78, 85, 89] 85 rfl rfl ?_
                          refine s2 tok [0, 4, 78, 85, 90] 85 rfl rfl ?_
                          refine s2 tok [0, 4, 78, 85, 91] 85 rfl rfl ?_
                          refine s2 tok [0, 4, 78, 85, 92] 85 rfl rfl ?_
                          refine s2 tok [0, 4, 78, 85, 92, 93] 92 rfl rfl ?_
                          refine s2 tok [0, 4, 78, 85, 92, 94] 92 rfl rfl ?_
                          refine s2 tok [0, 4, 78, 85, 92, 95] 92 rfl rfl ?_
                          refine s2 tok [0, 4, 78, 85, 92, 96] 92 rfl rfl ?_
                          refine s2 tok [0, 4, 78, 85, 92, 97] 92 rfl rfl ?_
                          refine s2 tok [0, 4, 78, 85, 92, 98] 92 rfl rfl ?_
                          refine s2 tok [0, 4, 78, 85, 99] 85 rfl rfl ?_
                          refine s2 tok [0, 4, 78, 100] 78 rfl rfl ?_
                          refine s1 tok [0, 4, 101] ?_
                          refine s1 tok [0, 4, 72] ?_
                          refine AOpsO.nil ?_
                          refine AW.cond (c := .tmp 72) (by conv => lhs; simp) trivial ?_ ?_
                          · intro h72
                            try simp at h72
                          · intro h72
                            try simp at h72
                            refine AW.skip ?_
                            rw [if_neg (by simp)]
                            refine AW.seqRegionO [] ?_
                            refine s1 tok [4, 104] ?_
                            refine s1 tok [4, 105] ?_
                            refine s1 tok [4, 106] ?_
                            refine s1 tok [4] ?_
                            refine AOpsO.nil ?_
                            refine AW.seqRegionO [] ?_
                            refine s1 tok [4, 107] ?_
                            refine s1 tok [4] ?_
                            refine AOpsO.nil ?_
                            refine AW.fillE 904 [none, none, none, none, none, none, some 1, some 9, none] (by conv => lhs; simp) ?_
                            exact AW.ret ⟨.inr rfl, _, _, by (conv => lhs; simp), trivial, by simp [zeroV, dc0], by simp, by simp, by simp⟩
                        ·
                          skip
                          obtain ⟨c, t, rfl⟩ : ∃ c t, el = c :: t := by cases el with | nil => exact (hs16 rfl).elim | cons c t => exact ⟨c, t, rfl⟩
                          refine AW.seqRegionO [.int .u8 c.toNat, .int .u8 c.toNat, .int .u8 c.toNat] ?_
                          refine s1 tok [0, 4, 73] ?_
                          refine s1 tok [0, 4, 74] ?_ (hv := by first | with_reducible exact True.intro | (first | (simp; done) | (simp; omega) | (simp +contextual; done); done) | omega | simp | (simp; omega) | (simp +contextual; omega))
                          refine s1 tok [0, 4, 75] ?_
                          refine s1 tok [0, 4, 76] ?_ (hv := by first | with_reducible exact True.intro | (first | (simp; done) | (simp; omega) | (simp +contextual; done); done) | omega | simp | (simp; omega) | (simp +contextual; omega))
                          refine s1 tok [0, 4, 77] ?_ (hv := by first | with_reducible exact True.intro | (first | (simp; done) | (simp; omega) | (simp +contextual; done); done) | omega | simp | (simp; omega) | (simp +contextual; omega))
                          refine s1 tok [0, 4, 78] ?_
                          refine s2 tok [0, 4, 78, 79] 78 rfl rfl ?_
                          refine s2 tok [0, 4, 78, 80] 78 rfl rfl ?_ (hv := by first | with_reducible exact True.intro | (first | (simp; done) | (simp; omega) | (simp +contextual; done); done) | omega | simp | (simp; omega) | (simp +contextual; omega))
                          refine s2 tok [0, 4, 78, 81] 78 rfl rfl ?_
                          refine s2 tok [0, 4, 78, 82] 78 rfl rfl ?_ (hv := by first | with_reducible exact True.intro | (first | (simp; done) | (simp; omega) | (simp +contextual; done); done) | omega | simp | (simp; omega) | (simp +contextual; omega))
                          refine s2 tok [0, 4, 78, 83] 78 rfl rfl ?_ (hv := by first | with_reducible exact True.intro | (first | (simp; done) | (simp; omega) | (simp +contextual; done); done) | omega | simp | (simp; omega) | (simp +contextual; omega))
                          refine s2 tok [0, 4, 78, 84] 78 rfl rfl ?_ (hv := by first | with_reducible exact True.intro | (first | (simp; done) | (simp; omega) | (simp +contextual; done); done) | omega | simp | (simp; omega) | (simp +contextual; omega))
                          refine s2 tok [0, 4, 78, 85] 78 rfl rfl ?_
                          refine s2 tok [0, 4, 78, 85, 86] 85 rfl rfl ?_
                          refine s2 tok [0, 4, 78, 85, 87] 85 rfl rfl ?_ (hv := by first | with_reducible exact True.intro | (first | (simp; done) | (simp; omega) | (simp +contextual; done); done) | omega | simp | (simp; omega) | (simp +contextual; omega))
                          refine s2 tok [0, 4, 78, 85, 88] 85 rfl rfl ?_
                          refine s2 tok [0, 4, 78, 85, 89] 85 rfl rfl ?_ (hv := by first | with_reducible exact True.intro | (first | (simp; done) | (simp; omega) | (simp +contextual; done); done) | omega | simp | (simp; omega) | (simp +contextual; omega))
                          refine s2 tok [0, 4, 78, 85, 90] 85 rfl rfl ?_ (hv := by first | with_reducible exact True.intro | (first | (simp; done) | (simp; omega) | (simp +contextual; done); done) | omega | simp | (simp; omega) | (simp +contextual; omega))
                          refine s2 tok [0, 4, 78, 85, 91] 85 rfl rfl ?_ (hv := by first | with_reducible exact True.intro | (first | (simp; done) | (simp; omega) | (simp +contextual; done); done) | omega | simp | (simp; omega) | (simp +contextual; omega))
                          refine s2 tok [0, 4, 78, 85, 92] 85 rfl rfl ?_
                          refine s2 tok [0, 4, 78, 85, 92, 93] 92 rfl rfl ?_
                          refine s2 tok [0, 4, 78, 85, 92, 94] 92 rfl rfl ?_ (hv := by first | with_reducible exact True.intro | (first | (simp; done) | (simp; omega) | (simp +contextual; done); done) | omega | simp | (simp; omega) | (simp +contextual; omega))
                          refine s2 tok [0, 4, 78, 85, 92, 95] 92 rfl rfl ?_
                          refine s2 tok [0, 4, 78, 85, 92, 96] 92 rfl rfl ?_ (hv := by first | with_reducible exact True.intro | (first | (simp; done) | (simp; omega) | (simp +contextual; done); done) | omega | simp | (simp; omega) | (simp +contextual; omega))
                          refine s2 tok [0, 4, 78, 85, 92, 97] 92 rfl rfl ?_ (hv := by first | with_reducible exact True.intro | (first | (simp; done) | (simp; omega) | (simp +contextual; done); done) | omega | simp | (simp; omega) | (simp +contextual; omega))
                          refine s2 tok [0, 4, 78, 85, 92, 98] 92 rfl rfl ?_ (hv := by first | with_reducible exact True.intro | (first | (simp; done) | (simp; omega) | (simp +contextual; done); done) | omega | simp | (simp; omega) | (simp +contextual; omega))
                          refine s2 tok [0, 4, 78, 85, 99] 85 rfl rfl ?_ (hv := by first | with_reducible exact True.intro | (first | (simp; done) | (simp; omega) | (simp +contextual; done); done) | omega | simp | (simp; omega) | (simp +contextual; omega))
                          refine s2 tok [0, 4, 78, 100] 78 rfl rfl ?_ (hv := by first | with_reducible exact True.intro | (first | (simp; done) | (simp; omega) | (simp +contextual; done); done) | omega | simp | (simp; omega) | (simp +contextual; omega))
                          refine s1 tok [0, 4, 101] ?_ (hv := by first | with_reducible exact True.intro | (first | (simp; done) | (simp; omega) | (simp +contextual; done); done) | omega | simp | (simp; omega) | (simp +contextual; omega))
                          refine s1 tok [0, 4, 72] ?_
                          refine AOpsO.nil ?_
                          refine AW.cond (c := .tmp 72) (by conv => lhs; simp) trivial ?_ ?_
                          · intro h72
                            have hb : byteAt (List.cons c t) 0 = (c.toNat : Int) := rfl
                            rw [if_pos (show List.cons c t ≠ [] ∧ (byteAt (List.cons c t) 0 = 45 ∨ digitM (byteAt (List.cons c t) 0) = true) by
                              refine ⟨by simp, ?_⟩
                              rw [hb]; unfold digitM
                              simp only [Bool.or_eq_true, Bool.and_eq_true, decide_eq_true_eq] at h72 ⊢
                              exact h72)]
                            refine AW.seqRegionO [] ?_
                            refine s1 tok [4, 102] ?_
                            refine AOpsO.stepK [4, 103] (y_cx rfl (number_ax ⟨List.cons c t, en, eb, edp, ebg⟩ (by simp only; omega)) (by simp)) (by conv => lhs; simp) rfl ?_
                            refine s1 tok [4] ?_
                            refine AOpsO.nil ?_
                            exact AW.ret ⟨.inr rfl, _, _, by (conv => lhs; simp), trivial, by simp [dc0], by simp, by simp, by simp⟩
                          · intro h72
                            have hb : byteAt (List.cons c t) 0 = (c.toNat : Int) := rfl
                            rw [if_neg (show ¬ (List.cons c t ≠ [] ∧ (byteAt (List.cons c t) 0 = 45 ∨ digitM (byteAt (List.cons c t) 0) = true)) by
                              rintro ⟨_, h⟩
                              rw [hb] at h; unfold digitM at h
                              simp only [Bool.or_eq_false_iff, Bool.and_eq_false_iff, decide_eq_false_iff_not] at h72
                              simp only [Bool.and_eq_true, decide_eq_true_eq] at h
                              omega)]
                            refine AW.skip ?_
                            refine AW.seqRegionO [] ?_
                            refine s1 tok [4, 104] ?_
                            refine s1 tok [4, 105] ?_
                            refine s1 tok [4, 106] ?_
                            refine s1 tok [4] ?_
                            refine AOpsO.nil ?_
                            refine AW.seqRegionO [] ?_
                            refine s1 tok [4, 107] ?_
                            refine s1 tok [4] ?_
                            refine AOpsO.nil ?_
                            refine AW.fillE 904 [none, none, none, none, none, none, some 1, some 9, none] (by conv => lhs; simp) ?_
                            exact AW.ret ⟨.inr rfl, _, _, by (conv => lhs; simp), trivial, by simp [zeroV, dc0], by simp, by simp, by simp⟩
end Go.Proofs.YtdlejiiiifhiiaaGreatDoor
