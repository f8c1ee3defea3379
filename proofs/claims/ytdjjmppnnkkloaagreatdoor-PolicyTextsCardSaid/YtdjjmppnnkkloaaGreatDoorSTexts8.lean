import Derived.Test.YtdjjmppnnkkloaaGreatDoorSRefY8
import Derived.Test.YtdjjmppnnkkloaaGreatDoorSShown8
import Derived.Test.YtdjjmppnnkkloaaGreatDoorSFewL8
import Derived.Test.YtdjjmppnnkkloaaGreatDoorSSame8
namespace Go.Proofs.YtdjjmppnnkkloaaGreatDoor
open Sy Go
set_option maxRecDepth 100000
set_option maxHeartbeats 4000000
set_option linter.unusedSimpArgs false
set_option linter.unusedVariables false
variable {G : Glob}
theorem PolicyTexts_ev (hG : U8 G) (hP : PW G) (hE : PE G) (s : List UInt8) (p : Pol) (hm : ∀ m ∈ p.marks, InM m.mask) : AFn Tryz.prog G 3 [.str s, p.enc] (.bool true) := by
  refine AFn.introU tok Tryz.func3 (by kernel_rfl) rfl rfl ?_
  simp only [Tryz.f3, enumA, List.map_cons, List.map_nil]
  have hsh := shown8_ev hG hP hE
  have hF := few8_ev (G := G) p
  have fm := fewPol_masks hm
  have fn := fewPol_marks p
  have fc := fewPol_ncats p
  have fk := fun m hm t ht => fewPol_keys (p := p) m hm t ht
  have fcc := fun c hc => fewPol_cats (p := p) c hc
  have ft := fewPol_token p
  generalize fewPol p = q at *
  have hM := polMay_ev hG q
  have hMr := refPolMay_ev (G := G) q fm (fun m hm t ht => by have := fk m hm t ht; omega) (fun c hc => by have := fcc c hc; omega) (by omega)
  have hPr := fun h => polPrint_ev (G := G) hP q (may_pol.1 h)
  have hPrr := fun h => refPrint8_ev (G := G) hP q (may_pol.1 h) fm
  have hPs := polParse_ev hG hP hE (s.take 2000) (by simp; omega)
  have hPs2 := refParse8_ev (G := G) hP (s.take 2000) (by simp; omega)
  rw [ref_parse] at hPs2
  have hcs := parse_ok (s := s.take 2000)
  have hts : ¬ 2000 < s.length → s.take 2000 = s := fun h => List.take_of_length_le (by omega)
  generalize hgs : s.take 2000 = s' at *
  generalize polParse s' = R at *
  have hS := refPolSame_ev (G := G) R.1 (fun m _ => by have := refPSame_ev (G := G) m.path m.path; simpa using this) (by
    rcases hcs with ⟨_, h, _⟩ | h
    · have := h.few; have := (may_cats h.cats).1; omega
    · rw [h]; simp [pol0])
  simp only [Pol.enc] at hF hM hMr hPr hPrr hPs hPs2 hS
  generalize polMay q = pm at *
  generalize polPrint q = pp at *
  refine rgn [] [[], [0, 3]] ?_
  iterate 2 refine op1 tok ?_
  refine runEnd ?_
  refine rgn [.nilp, .bool true] [[], [0, 3, 5]] ?_
  iterate 2 refine op1 tok ?_ (hv := by first | with_reducible exact True.intro | (exact hsh; done) | omega | simp | (simp; omega) | (simp +contextual; omega))
  refine runEnd ?_
  refine AW.join (α := Unit) (fun _ => True) (fun _ => ⟨upds 61 [(0, .p (.str s')), (3, .ptr 3 0), (5, .p (.bool true))], [], [(3, .vars 25 [.p (.sl 1 (p.cats.map PD.str)), .p (.sl 2 (p.marks.map Mk.enc)), .p (.str p.token), .p (.int .i64 p.fuel), .p (.int .i64 p.quota)])], 0⟩) ?_ ?_
  ·
    refine rgn [] [[], [], [0, 3, 5, 15]] ?_
    iterate 3 refine op1 tok ?_
    refine runEnd ?_
    refine cnd ?_ ?_
    · intro h15
      try simp at h15
      refine rgz [] [[], [], [0, 3, 5]] ?_
      iterate 3 refine op1 tok ?_
      refine runEnd ?_
      exact ⟨(), trivial, upds_le (by simp [hgs]), rfl, by simp [hgs], by simp [hgs]⟩
    · intro h15
      try simp at h15
      have hd := hts (by omega)
      refine AW.skip ?_
      exact ⟨(), trivial, upds_le (by simp [hd]), rfl, by simp [hd], by simp [hd]⟩
  ·
    rintro _ _
    refine rgn [.nilp, q.enc] [[], [], [0, 3, 5]] ?_
    iterate 3 refine op1 tok ?_ (hv := by first | with_reducible exact True.intro | (exact hF; done) | omega | simp | (simp; omega) | (simp +contextual; omega))
    refine runEnd ?_
    refine rgn [.nilp, .tup [R.1.enc, .int .i64 R.2]] [[], [], [], [], [], [], [0, 3, 5, 6, 24], [0, 3, 5, 6, 7]] ?_
    iterate 8 refine op1 tok ?_ (hv := by first | with_reducible exact True.intro | (exact hPs; done) | omega | simp | (simp; omega) | (simp +contextual; omega))
    refine runEnd ?_
    refine rgn [.nilp, .tup [R.1.enc, .int .i64 R.2]] [[], [], [], [], [3, 5, 6, 7, 28, 29], [], [], [3, 5, 6, 7, 8, 9]] ?_
    iterate 8 refine op1 tok ?_ (hv := by first | with_reducible exact True.intro | (exact hPs2; done) | omega | simp | (simp; omega) | (simp +contextual; omega))
    refine runEnd ?_
    refine rgn [.nilp, .bool true] [[], [], [3, 5, 7, 9, 32], [3, 5, 7, 9, 10]] ?_
    iterate 4 refine op1 tok ?_ (hv := by first | with_reducible exact True.intro | (exact hS; done) | omega | simp | (simp; omega) | (simp +contextual; omega))
    refine runEnd ?_
    refine rgn [.nilp, .int .i64 pm] [[], [], [3, 5, 7, 9, 10, 11]] ?_
    iterate 3 refine op1 tok ?_ (hv := by first | with_reducible exact True.intro | (exact hMr; done) | omega | simp | (simp; omega) | (simp +contextual; omega))
    refine runEnd ?_
    refine AW.seqDrawS tok mixed 26 [[5], [35], [10, 36], [36, 37], [38], [7, 39], [9, 39], [40, 41, 39], [39, 42], [43], [3, 44], [45, 44], [11, 44], [46, 47, 44], [44, 48], [49], [11, 50], [51, 50], [52, 50], [3, 53], [54, 53], [3, 53], [56, 53], [55, 57, 53], [53, 58, 50], [50, 59]] [.nilp, .int .i64 pm, .nilp, .str pp, .nilp, .str pp] [] (by kernel_rfl) ?_
    iterate 2 refine d1 ?_ (hv := by first | with_reducible exact True.intro | (first | exact hM | (intro h; exact ⟨h, hPr h⟩) | (intro h; exact ⟨h, hPrr h⟩); done) | omega | simp | (simp; omega) | (simp +contextual; omega))
    refine d2 36 rfl rfl ?_ (hv := by first | with_reducible exact True.intro | (first | exact hM | (intro h; exact ⟨h, hPr h⟩) | (intro h; exact ⟨h, hPrr h⟩); done) | omega | simp | (simp; omega) | (simp +contextual; omega))
    iterate 2 refine d1 ?_ (hv := by first | with_reducible exact True.intro | (first | exact hM | (intro h; exact ⟨h, hPr h⟩) | (intro h; exact ⟨h, hPrr h⟩); done) | omega | simp | (simp; omega) | (simp +contextual; omega))
    iterate 3 refine d2 39 rfl rfl ?_ (hv := by first | with_reducible exact True.intro | (first | exact hM | (intro h; exact ⟨h, hPr h⟩) | (intro h; exact ⟨h, hPrr h⟩); done) | omega | simp | (simp; omega) | (simp +contextual; omega))
    iterate 2 refine d1 ?_ (hv := by first | with_reducible exact True.intro | (first | exact hM | (intro h; exact ⟨h, hPr h⟩) | (intro h; exact ⟨h, hPrr h⟩); done) | omega | simp | (simp; omega) | (simp +contextual; omega))
    iterate 4 refine d2 44 rfl rfl ?_ (hv := by first | with_reducible exact True.intro | (first | exact hM | (intro h; exact ⟨h, hPr h⟩) | (intro h; exact ⟨h, hPrr h⟩); done) | omega | simp | (simp; omega) | (simp +contextual; omega))
    iterate 2 refine d1 ?_ (hv := by first | with_reducible exact True.intro | (first | exact hM | (intro h; exact ⟨h, hPr h⟩) | (intro h; exact ⟨h, hPrr h⟩); done) | omega | simp | (simp; omega) | (simp +contextual; omega))
    iterate 3 refine d2 50 rfl rfl ?_ (hv := by first | with_reducible exact True.intro | (first | exact hM | (intro h; exact ⟨h, hPr h⟩) | (intro h; exact ⟨h, hPrr h⟩); done) | omega | simp | (simp; omega) | (simp +contextual; omega))
    iterate 5 refine d2 53 rfl rfl ?_ (hv := by first | with_reducible exact True.intro | (first | exact hM | (intro h; exact ⟨h, hPr h⟩) | (intro h; exact ⟨h, hPrr h⟩); done) | omega | simp | (simp; omega) | (simp +contextual; omega))
    refine d2 50 rfl rfl ?_ (hv := by first | with_reducible exact True.intro | (first | exact hM | (intro h; exact ⟨h, hPr h⟩) | (intro h; exact ⟨h, hPrr h⟩); done) | omega | simp | (simp; omega) | (simp +contextual; omega))
    refine d1 ?_ (hv := by first | with_reducible exact True.intro | (first | exact hM | (intro h; exact ⟨h, hPr h⟩) | (intro h; exact ⟨h, hPrr h⟩); done) | omega | simp | (simp; omega) | (simp +contextual; omega))
    refine DGo.nil (by kernel_rfl) ⟨by kernel_rfl, ?_⟩
    refine AOpsO.run [[4]] ?_
    refine op1 tok ?_
    refine runEnd ?_
    exact AW.ret ⟨.inr rfl, _, _, by (conv => lhs; simp), trivial, by simp⟩
end Go.Proofs.YtdjjmppnnkkloaaGreatDoor
