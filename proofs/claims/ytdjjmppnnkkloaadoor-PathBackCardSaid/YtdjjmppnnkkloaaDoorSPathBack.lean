import Derived.Test.YtdjjmppnnkkloaaDoorSPathP
import Derived.Test.YtdjjmppnnkkloaaDoorSPath9
import Derived.Test.YtdjjmppnnkkloaaDoorSSame
namespace Go.Proofs.YtdjjmppnnkkloaaDoor
open Sy Go
set_option maxRecDepth 100000
set_option maxHeartbeats 4000000
set_option linter.unusedSimpArgs false
set_option linter.unusedVariables false
variable {G : Glob}
theorem few_len12 (l : List Step) : (fewM l).length ≤ 12 := by simp [fewM]; omega
theorem may_zero {l : List Step} (h : mayL l = 0) : l.all mayM = true ∧ l.length ≤ 8 := by
  unfold mayL at h
  split at h
  · cases h
  · split at h
    · rename_i h1 h2; exact ⟨h2, by omega⟩
    · cases h
theorem may_ok {l : List Step} (h : l.all mayM = true) (h8 : l.length ≤ 8) : mayL l = 0 := by
  unfold mayL; rw [if_neg (by omega), if_pos h]
theorem PathBack_ev (hG : U8 G) (hP : PW G) (l : List Step) (s : List UInt8) : AFn Tryd.prog G 3 [.sl 3 (l.map Step.enc), .str s] (.bool true) := by
  refine AFn.introU tok Tryd.func3 (by kernel_rfl) rfl rfl ?_
  simp only [Tryd.f3, enumA, List.map_cons, List.map_nil]
  have hl := few_len12 l
  have h1 := shown_ev (G := G)
  have h2 := few_ev (G := G) l
  generalize fewM l = m at *
  have h4 := May_ev hG m
  have hsm := refSame_ev (G := G) m m
  simp at hsm
  refine AW.seqRegionO [] ?_
  refine s1 tok [0, 1] ?_
  refine AOpsO.nil ?_
  refine AW.seqRegionO [.nilp, .bool true] ?_
  refine s1 tok [0, 1, 11] ?_ (hv := by first | with_reducible exact True.intro | (simp [h1]; done) | omega | simp | (simp; omega) | (simp +contextual; omega))
  refine s1 tok [0, 1, 5] ?_
  refine AOpsO.nil ?_
  refine AW.seqRegionO [.nilp, .sl 3 (m.map Step.enc)] ?_
  refine s1 tok [1, 5, 12] ?_
  refine s1 tok [1, 5, 13] ?_ (hv := by first | with_reducible exact True.intro | (simp [h2]; done) | omega | simp | (simp; omega) | (simp +contextual; omega))
  refine s1 tok [0, 1, 5] ?_
  refine AOpsO.nil ?_
  refine AW.join (α := List UInt8) (fun t => t.length ≤ 300) (fun t => ⟨upds 62 [(0, .p (.sl 3 (m.map Step.enc))), (1, .p (.str t)), (5, .p (.bool true))], [], [], 0⟩) ?_ ?_
  ·
    refine AW.seqRegionO [] ?_
    refine s1 tok [0, 1, 5, 14] ?_
    refine s1 tok [0, 1, 5, 15] ?_
    refine s1 tok [0, 1, 5, 16] ?_
    refine AOpsO.nil ?_
    refine AW.cond (c := .tmp 16) (by conv => lhs; simp) trivial ?_ ?_
    · intro h16
      try simp at h16
      refine AW.regionO [] ?_
      refine s1 tok [0, 5, 17] ?_
      refine s1 tok [0, 5, 18] ?_
      refine s1 tok [0, 1, 5] ?_
      refine AOpsO.nil ?_
      exact ⟨s.take 300, by simp; omega, upds_le (by simp), rfl, by simp, by simp⟩
    · intro h16
      try simp at h16
      refine AW.skip ?_
      exact ⟨s, by omega, upds_le (by simp), rfl, by simp, by simp⟩
  ·
    rintro t ht
    have hpt := parseB_ev hG hP t (by omega)
    have hbad := parse_bad (s := t)
    have hgood := parse_printS (s := t)
    refine AW.seq ?_
    refine AW.seqRegionO [.nilp, .int .i64 (mayL m)] ?_
    refine s1 tok [0, 1, 5, 19] ?_
    refine s1 tok [0, 1, 5, 20] ?_ (hv := by first | with_reducible exact True.intro | (simp [h4]; done) | omega | simp | (simp; omega) | (simp +contextual; omega))
    refine s1 tok [0, 1, 5, 21] ?_ (hv := by first | with_reducible exact True.intro | (simp [h4]; done) | omega | simp | (simp; omega) | (simp +contextual; omega))
    refine AOpsO.nil ?_
    refine AW.cond (c := .tmp 21) (by conv => lhs; simp) trivial ?_ ?_
    · intro h21
      try simp at h21
      have hz := may_zero h21
      have hpr := printB_ev hP m hz.1 (by omega)
      have hfl := flat_le hz.1
      have hpp := parseB_ev hG hP (printS m) (by simp only [printS, List.length_cons]; omega)
      rw [printS_parse hz.1 hz.2] at hpp
      refine AW.seqRegionO [.nilp, .str (printS m), .nilp, .tup [.sl 3 (m.map Step.enc), .int .i64 0]] ?_
      refine s1 tok [0, 1, 5, 23] ?_
      refine s1 tok [0, 1, 5, 24] ?_ (hv := by first | with_reducible exact True.intro | (first | exact hpr | exact hpp | simp; done) | omega | simp | (simp; omega) | (simp +contextual; omega))
      refine s1 tok [0, 1, 5, 25] ?_ (hv := by first | with_reducible exact True.intro | (first | exact hpr | exact hpp | simp; done) | omega | simp | (simp; omega) | (simp +contextual; omega))
      refine s1 tok [0, 1, 5, 22] ?_
      refine s1 tok [0, 1, 5, 22, 26] ?_
      refine s1 tok [0, 1, 5, 26, 27] ?_
      refine s1 tok [0, 1, 5, 6, 27] ?_
      refine s1 tok [0, 1, 5, 6, 7] ?_
      refine AOpsO.nil ?_
      refine AW.seqRegionO [.nilp, .bool true] ?_
      refine s1 tok [0, 1, 5, 7, 28] ?_
      refine s1 tok [1, 5, 7, 28, 29] ?_
      refine s1 tok [1, 5, 7, 30] ?_ (hv := by first | with_reducible exact True.intro | (first | exact hsm | simp; done) | omega | simp | (simp; omega) | (simp +contextual; omega))
      refine s1 tok [1, 5, 7, 8] ?_
      refine AOpsO.nil ?_
      refine AW.seqRegionO [] ?_
      refine s1 tok [1, 5, 8, 31] ?_
      refine s1 tok [1, 5, 8, 32] ?_
      refine s1 tok [1, 5, 8, 33] ?_
      refine s2 tok [1, 5, 33, 34] 33 rfl rfl ?_
      refine s2 tok [1, 5, 33, 35] 33 rfl rfl ?_
      refine s1 tok [1, 5, 36] ?_
      refine AOpsO.nil ?_
      refine AW.cond (c := .tmp 36) (by conv => lhs; simp) trivial ?_ ?_
      · intro h36
        try simp at h36
      · intro h36
        try simp at h36
        refine AW.skip ?_
        refine AW.seqRegionO [.nilp, .tup [.sl 3 ((parseT t).1.map Step.enc), .int .i64 (parseT t).2]] ?_
        refine s1 tok [1, 5, 38] ?_
        refine s1 tok [1, 5, 39] ?_ (hv := by first | with_reducible exact True.intro | (first | exact hpt | simp; done) | omega | simp | (simp; omega) | (simp +contextual; omega))
        refine s1 tok [1, 5, 37] ?_
        refine s1 tok [1, 5, 37, 40] ?_
        refine s1 tok [1, 5, 40, 41] ?_
        refine s1 tok [1, 5, 9, 41] ?_
        refine s1 tok [1, 5, 9, 10] ?_
        refine AOpsO.nil ?_
        refine AW.seq ?_
        refine AW.seqRegionO [] ?_
        refine s1 tok [1, 5, 9, 42] ?_
        refine s1 tok [1, 5, 9, 43] ?_
        refine AOpsO.nil ?_
        refine AW.cond (c := .tmp 43) (by conv => lhs; simp) trivial ?_ ?_
        · intro h43
          try simp at h43
          have hb := hbad h43
          try rw [hb]
          refine AW.seqRegionO [] ?_
          refine s1 tok [9, 44] ?_
          refine s1 tok [9, 45] ?_
          refine s2 tok [45, 46] 45 rfl rfl ?_
          refine s2 tok [45, 47] 45 rfl rfl ?_
          refine s2 tok [45, 48] 45 rfl rfl ?_
          refine s1 tok [49] ?_
          refine s1 tok [4] ?_
          refine AOpsO.nil ?_
          exact AW.ret ⟨.inr rfl, _, _, by (conv => lhs; simp), trivial, by simp_all⟩
        · intro h43
          try simp at h43
          obtain ⟨hg1, hg2, hg3⟩ := hgood h43
          have hmy := May_ev hG (parseT t).1
          rw [may_ok hg2 hg3] at hmy
          have hpr2 := printB_ev hP (parseT t).1 hg2 (by omega)
          rw [hg1] at hpr2
          refine AW.skip ?_
          refine AW.seqRegionO [.nilp, .int .i64 0, .nilp, .str t] ?_
          refine s1 tok [1, 9, 50] ?_
          refine s1 tok [1, 9, 51] ?_
          refine s2 tok [1, 9, 51, 52] 51 rfl rfl ?_
          refine s2 tok [1, 9, 51, 53] 51 rfl rfl ?_ (hv := by first | with_reducible exact True.intro | (first | exact hmy | exact hpr2 | simp; done) | omega | simp | (simp; omega) | (simp +contextual; omega))
          refine s2 tok [1, 9, 51, 54] 51 rfl rfl ?_ (hv := by first | with_reducible exact True.intro | (first | exact hmy | exact hpr2 | simp; done) | omega | simp | (simp; omega) | (simp +contextual; omega))
          refine s1 tok [1, 9, 55] ?_ (hv := by first | with_reducible exact True.intro | (first | exact hmy | exact hpr2 | simp; done) | omega | simp | (simp; omega) | (simp +contextual; omega))
          refine s1 tok [1, 9, 56] ?_
          refine s2 tok [1, 56, 57] 56 rfl rfl ?_
          refine s2 tok [1, 56, 58] 56 rfl rfl ?_ (hv := by first | with_reducible exact True.intro | (first | exact hmy | exact hpr2 | simp; done) | omega | simp | (simp; omega) | (simp +contextual; omega))
          refine s2 tok [56, 58, 59] 56 rfl rfl ?_
          refine s2 tok [56, 60] 56 rfl rfl ?_ (hv := by first | with_reducible exact True.intro | (first | exact hmy | exact hpr2 | simp; done) | omega | simp | (simp; omega) | (simp +contextual; omega))
          refine s1 tok [61] ?_ (hv := by first | with_reducible exact True.intro | (first | exact hmy | exact hpr2 | simp; done) | omega | simp | (simp; omega) | (simp +contextual; omega))
          refine s1 tok [4] ?_
          refine AOpsO.nil ?_
          exact AW.ret ⟨.inr rfl, _, _, by (conv => lhs; simp), trivial, by simp_all⟩
    · intro h21
      try simp at h21
      refine AW.skip ?_
      refine AW.seqRegionO [.nilp, .tup [.sl 3 ((parseT t).1.map Step.enc), .int .i64 (parseT t).2]] ?_
      refine s1 tok [1, 5, 38] ?_
      refine s1 tok [1, 5, 39] ?_ (hv := by first | with_reducible exact True.intro | (first | exact hpt | simp; done) | omega | simp | (simp; omega) | (simp +contextual; omega))
      refine s1 tok [1, 5, 37] ?_
      refine s1 tok [1, 5, 37, 40] ?_
      refine s1 tok [1, 5, 40, 41] ?_
      refine s1 tok [1, 5, 9, 41] ?_
      refine s1 tok [1, 5, 9, 10] ?_
      refine AOpsO.nil ?_
      refine AW.seq ?_
      refine AW.seqRegionO [] ?_
      refine s1 tok [1, 5, 9, 42] ?_
      refine s1 tok [1, 5, 9, 43] ?_
      refine AOpsO.nil ?_
      refine AW.cond (c := .tmp 43) (by conv => lhs; simp) trivial ?_ ?_
      · intro h43
        try simp at h43
        have hb := hbad h43
        try rw [hb]
        refine AW.seqRegionO [] ?_
        refine s1 tok [9, 44] ?_
        refine s1 tok [9, 45] ?_
        refine s2 tok [45, 46] 45 rfl rfl ?_
        refine s2 tok [45, 47] 45 rfl rfl ?_
        refine s2 tok [45, 48] 45 rfl rfl ?_
        refine s1 tok [49] ?_
        refine s1 tok [4] ?_
        refine AOpsO.nil ?_
        exact AW.ret ⟨.inr rfl, _, _, by (conv => lhs; simp), trivial, by simp_all⟩
      · intro h43
        try simp at h43
        obtain ⟨hg1, hg2, hg3⟩ := hgood h43
        have hmy := May_ev hG (parseT t).1
        rw [may_ok hg2 hg3] at hmy
        have hpr2 := printB_ev hP (parseT t).1 hg2 (by omega)
        rw [hg1] at hpr2
        refine AW.skip ?_
        refine AW.seqRegionO [.nilp, .int .i64 0, .nilp, .str t] ?_
        refine s1 tok [1, 9, 50] ?_
        refine s1 tok [1, 9, 51] ?_
        refine s2 tok [1, 9, 51, 52] 51 rfl rfl ?_
        refine s2 tok [1, 9, 51, 53] 51 rfl rfl ?_ (hv := by first | with_reducible exact True.intro | (first | exact hmy | exact hpr2 | simp; done) | omega | simp | (simp; omega) | (simp +contextual; omega))
        refine s2 tok [1, 9, 51, 54] 51 rfl rfl ?_ (hv := by first | with_reducible exact True.intro | (first | exact hmy | exact hpr2 | simp; done) | omega | simp | (simp; omega) | (simp +contextual; omega))
        refine s1 tok [1, 9, 55] ?_ (hv := by first | with_reducible exact True.intro | (first | exact hmy | exact hpr2 | simp; done) | omega | simp | (simp; omega) | (simp +contextual; omega))
        refine s1 tok [1, 9, 56] ?_
        refine s2 tok [1, 56, 57] 56 rfl rfl ?_
        refine s2 tok [1, 56, 58] 56 rfl rfl ?_ (hv := by first | with_reducible exact True.intro | (first | exact hmy | exact hpr2 | simp; done) | omega | simp | (simp; omega) | (simp +contextual; omega))
        refine s2 tok [56, 58, 59] 56 rfl rfl ?_
        refine s2 tok [56, 60] 56 rfl rfl ?_ (hv := by first | with_reducible exact True.intro | (first | exact hmy | exact hpr2 | simp; done) | omega | simp | (simp; omega) | (simp +contextual; omega))
        refine s1 tok [61] ?_ (hv := by first | with_reducible exact True.intro | (first | exact hmy | exact hpr2 | simp; done) | omega | simp | (simp; omega) | (simp +contextual; omega))
        refine s1 tok [4] ?_
        refine AOpsO.nil ?_
        exact AW.ret ⟨.inr rfl, _, _, by (conv => lhs; simp), trivial, by simp_all⟩
end Go.Proofs.YtdjjmppnnkkloaaDoor
