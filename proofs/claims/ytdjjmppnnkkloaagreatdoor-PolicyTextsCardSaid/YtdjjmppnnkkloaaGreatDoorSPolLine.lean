import Derived.Test.YtdjjmppnnkkloaaGreatDoorSPol
namespace Go.Proofs.YtdjjmppnnkkloaaGreatDoor
open Sy Go
set_option maxRecDepth 100000
set_option maxHeartbeats 4000000
set_option linter.unusedSimpArgs false
set_option linter.unusedVariables false
variable {G : Glob}
theorem lineF_ev (s : List UInt8) : AFn Tryz.prog G 70 [.str s] (.bool (decide (s = []))) := by
  refine AFn.introU tok Tryz.func70 (by kernel_rfl) rfl rfl ?_
  simp only [Tryz.f70, enumA, List.map_cons, List.map_nil]
  refine rgn [] [[0]] ?_
  refine op1 tok ?_
  refine runEnd ?_
  refine rgn [] [[], [], [2]] ?_
  iterate 3 refine op1 tok ?_
  refine runEnd ?_
  exact AW.ret ⟨.inr rfl, _, _, by (conv => lhs; simp), trivial, by simp⟩
theorem cut_le (c : UInt8) (s : List UInt8) : (cutB c s).1.length ≤ s.length ∧ (cutB c s).2.1.length ≤ s.length := by
  by_cases h : c ∈ s
  · obtain ⟨a, r, rfl, hn⟩ := mem_split h
    rw [cutB_at hn]; simp; omega
  · rw [cutB_no h]; simp
theorem line_ax (hG : U8 G) (hP : PW G) (hE : PE G) (p : Pol) (s : List UInt8) (hc : catsMayM p.cats = 0) (hn : p.marks.length ≤ 100000) (hs : s.length ≤ 10000000) : AX Tryz.prog G 30 [.ptr 2 0, .p (.str s)] [(2, .vars 25 [.p (.sl 1 (p.cats.map PD.str)), .ms 3, .p (.str p.token), .p (.int .i64 p.fuel), .p (.int .i64 p.quota)]), (3, .row 59 2 (p.marks.map Mk.enc))] (.p (.bool (lineM p s).2)) [2] [(2, .vars 25 [.p (.sl 1 ((lineM p s).1.cats.map PD.str)), .ms 3, .p (.str (lineM p s).1.token), .p (.int .i64 (lineM p s).1.fuel), .p (.int .i64 (lineM p s).1.quota)]), (3, .row 59 2 ((lineM p s).1.marks.map Mk.enc))] := by
  refine AX.introU tok 900 Tryz.func30 (by kernel_rfl) rfl rfl ?_
  simp only [Tryz.f30, enumA, List.map_cons, List.map_nil]
  generalize hL : lineM p s = L
  have hcut := Cut_ev (G := G) s 32
  obtain ⟨hl1, hl2⟩ := cut_le 32 s
  unfold lineM at hL
  generalize cutB 32 s = c at *
  obtain ⟨w, rest, fnd⟩ := c
  simp only at hL hl1 hl2 hcut
  refine rgn [] [[0, 1]] ?_
  refine op1 tok ?_
  refine runEnd ?_
  refine rgn [.nilp, .tup [.str w, .str rest, .bool fnd]] [[], [], [], [], [], [0, 22, 23, 24], [], [], [0, 5, 6]] ?_
  iterate 9 refine op1 tok ?_ (hv := by first | with_reducible exact True.intro | (exact hcut; done) | omega | simp | (simp; omega) | (simp +contextual; omega))
  refine runEnd ?_
  refine rgn [] [[]] ?_
  refine op1 tok ?_
  refine runEnd ?_
  refine AW.seq ?_
  refine rgn [] [[0, 6, 8, 25]] ?_
  refine op1 tok ?_
  refine runEnd ?_
  refine AW.block ?_
  refine rgn [] [[], [0, 6, 8, 25, 26]] ?_
  iterate 2 refine op1 tok ?_
  refine runEnd ?_
  refine cnd ?_ ?_
  · intro h26
    try simp at h26
    rw [if_pos (show w = kwCats from h26)] at hL
    have hsp := Split_ar (G := G) rest 32 (by omega)
    have hwl : (splitB 32 rest).length ≤ 10000001 := by rw [splitB_len]; have : rest.count 32 ≤ rest.length := List.count_le_length; omega
    generalize splitB 32 rest = ws at *
    have hdl := delS_ax (G := G) 70 (fun s => decide (s = [])) ws lineF_ev (by omega)
    generalize hfw : ws.filter (fun x => !decide (x = [])) = cs at *
    have hcm := catsMay_ev (G := G) cs
    subst hL
    refine rgn [.nilf, .sl 1 (ws.map PD.str), .clo 9 []] [[], [], []] ?_
    iterate 3 refine op1 tok ?_ (hv := by first | with_reducible exact True.intro | (first | exact hsp | (simp; exact hsp); done) | omega | simp | (simp; omega) | (simp +contextual; omega))
    refine runOff ?_
    refine AOpsO.stepK [0, 28, 31] (y_cx rfl hdl (by simp)) (by conv => lhs; simp) rfl ?_
    refine AOpsO.run [[], [], [0]] ?_
    iterate 3 refine op1 tok ?_ (hv := by first | with_reducible exact True.intro | (first | exact hsp | (simp; exact hsp); done) | omega | simp | (simp; omega) | (simp +contextual; omega))
    refine runEnd ?_
    refine rgz [.nilp, .int .i64 (catsMayM cs)] [[], [], [], [37], [], [], [8]] ?_
    iterate 7 refine op1 tok ?_ (hv := by first | with_reducible exact True.intro | (first | exact hcm | (simp; exact hcm); done) | omega | simp | (simp; omega) | (simp +contextual; omega))
    refine runEnd ?_
    refine rgn [] [[], [4]] ?_
    iterate 2 refine op1 tok ?_
    refine runEnd ?_
    exact AW.ret ⟨.inr rfl, _, _, by (conv => lhs; simp), trivial, by simp, by simp, by simp, by simp⟩
  · intro h26
    try simp at h26
    rw [if_neg (show ¬ w = kwCats from h26)] at hL
    refine rgn [] [[], [0, 6, 8, 25, 40]] ?_
    iterate 2 refine op1 tok ?_
    refine runEnd ?_
    refine cnd ?_ ?_
    · intro h40
      try simp at h40
      rw [if_pos (show w = kwMark from h40)] at hL
      have hcut2 := Cut_ev (G := G) rest 36
      obtain ⟨hk1, hk2⟩ := cut_le 36 rest
      generalize cutB 36 rest = d at *
      obtain ⟨nm, pat, fd⟩ := d
      simp only at hL hk1 hk2 hcut2
      have hmk := catsMask_ev (G := G) p.cats nm (may_cats hc).2.1 (may_cats hc).1 (by omega)
      have hpp := parseB_ev hG hP (36 :: pat) (by simp; omega)
      generalize maskT p.cats nm = mk at *
      generalize parseT (36 :: pat) = st at *
      subst hL
      refine rgn [.nilp, .tup [.str nm, .str pat, .bool fd]] [[], [], [], [], [], [0, 45, 46, 47], [], [], [0, 9, 10, 11]] ?_
      iterate 9 refine op1 tok ?_ (hv := by first | with_reducible exact True.intro | (exact hcut2; done) | omega | simp | (simp; omega) | (simp +contextual; omega))
      refine runEnd ?_
      refine rgn [.nilp, .tup [.int .u64 mk.1, .int .i64 mk.2]] [[], [], [], [], [0, 10, 11, 52, 53], [], [], [], [0, 10, 11, 55, 56], [], [0, 10, 11, 12, 13]] ?_
      iterate 11 refine op1 tok ?_ (hv := by first | with_reducible exact True.intro | (exact hmk; done) | omega | simp | (simp; omega) | (simp +contextual; omega))
      refine runEnd ?_
      refine rgn [.nilp, .tup [.sl 3 (st.1.map Step.enc), .int .i64 st.2]] [[], [], [], [0, 11, 12, 13, 57], [], [], [], [0, 11, 12, 13, 14, 15]] ?_
      iterate 8 refine op1 tok ?_ (hv := by first | with_reducible exact True.intro | (first | exact hpp | (simp; omega); done) | omega | simp | (simp; omega) | (simp +contextual; omega))
      refine runEnd ?_
      refine rgn [.agg [.sl 3 (st.1.map Step.enc), .int .u64 mk.1]] [[], [], [], [], [11, 12, 13, 14, 15, 63, 67], [], [], [11, 13, 15, 63, 67, 70], [], [], [11, 13, 15, 72, 73], [], [11, 13, 15]] ?_
      iterate 13 refine op1 tok ?_ (hv := by first | with_reducible exact True.intro | (first | (simp; omega) | simp; done) | omega | simp | (simp; omega) | (simp +contextual; omega))
      refine runEnd ?_
      refine rgz [] [[], [], [], [15, 76, 78], [], [], [80, 81], [], [], [8]] ?_
      iterate 10 first | refine op1 tok ?_ | refine op2 tok ?_
      refine runEnd ?_
      refine rgn [] [[], [4]] ?_
      iterate 2 refine op1 tok ?_
      refine runEnd ?_
      exact AW.ret ⟨.inr rfl, _, _, by (conv => lhs; simp), trivial, by simp, by simp, by simp, by simp⟩
    · intro h40
      try simp at h40
      rw [if_neg (show ¬ w = kwMark from h40)] at hL
      refine rgn [] [[], [0, 6, 8, 25, 84]] ?_
      iterate 2 refine op1 tok ?_
      refine runEnd ?_
      refine cnd ?_ ?_
      · intro h84
        try simp at h84
        rw [if_pos (show w = kwToken from h84)] at hL
        have hu := Unquote_ev (G := G) hG rest (by omega)
        generalize unquoteT rest = u at *
        subst hL
        refine rgn [.nilp, .tup [.str u.1, .int .i64 u.2.1, .int .i64 u.2.2]] [[], [], [], [], [], [0, 89, 90, 91], [], [], [0, 16, 18]] ?_
        iterate 9 refine op1 tok ?_ (hv := by first | with_reducible exact True.intro | (exact hu; done) | omega | simp | (simp; omega) | (simp +contextual; omega))
        refine runEnd ?_
        refine rgz [] [[], [], [], [92, 93, 95], [], [], [95], [8]] ?_
        iterate 8 refine op1 tok ?_
        refine runEnd ?_
        refine rgn [] [[], [4]] ?_
        iterate 2 refine op1 tok ?_
        refine runEnd ?_
        exact AW.ret ⟨.inr rfl, _, _, by (conv => lhs; simp), trivial, by simp, by simp, by simp, by simp⟩
      · intro h84
        try simp at h84
        rw [if_neg (show ¬ w = kwToken from h84)] at hL
        refine rgn [] [[], [0, 6, 8, 25, 98]] ?_
        iterate 2 refine op1 tok ?_
        refine runEnd ?_
        refine cnd ?_ ?_
        · intro h98
          try simp at h98
          rw [if_pos (show w = kwFuel from h98)] at hL
          have hnum := number_ev hE rest (by omega)
          subst hL
          refine rgz [.nilp, .int .i64 (numberM rest)] [[], [], [], [8, 102, 103], [], [8]] ?_
          iterate 6 refine op1 tok ?_ (hv := by first | with_reducible exact True.intro | (exact hnum; done) | omega | simp | (simp; omega) | (simp +contextual; omega))
          refine runEnd ?_
          refine rgn [] [[], [4]] ?_
          iterate 2 refine op1 tok ?_
          refine runEnd ?_
          exact AW.ret ⟨.inr rfl, _, _, by (conv => lhs; simp), trivial, by simp, by simp, by simp, by simp⟩
        · intro h98
          try simp at h98
          rw [if_neg (show ¬ w = kwFuel from h98)] at hL
          refine rgn [] [[], [0, 6, 8, 105]] ?_
          iterate 2 refine op1 tok ?_
          refine runEnd ?_
          refine cnd ?_ ?_
          · intro h105
            try simp at h105
            rw [if_pos (show w = kwQuota from h105)] at hL
            have hnum := number_ev hE rest (by omega)
            subst hL
            refine rgz [.nilp, .int .i64 (numberM rest)] [[], [], [], [8, 109, 110], [], [8]] ?_
            iterate 6 refine op1 tok ?_ (hv := by first | with_reducible exact True.intro | (exact hnum; done) | omega | simp | (simp; omega) | (simp +contextual; omega))
            refine runEnd ?_
            refine rgn [] [[], [4]] ?_
            iterate 2 refine op1 tok ?_
            refine runEnd ?_
            exact AW.ret ⟨.inr rfl, _, _, by (conv => lhs; simp), trivial, by simp, by simp, by simp, by simp⟩
          · intro h105
            try simp at h105
            rw [if_neg (show ¬ w = kwQuota from h105)] at hL
            subst hL
            refine rgz [] [[]] ?_
            refine op1 tok ?_
            refine runEnd ?_
            refine rgn [] [[], [4]] ?_
            iterate 2 refine op1 tok ?_
            refine runEnd ?_
            exact AW.ret ⟨.inr rfl, _, _, by (conv => lhs; simp), trivial, by simp, by simp, by simp, by simp⟩
end Go.Proofs.YtdjjmppnnkkloaaGreatDoor
