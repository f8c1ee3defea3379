import Derived.Test.YtdjjmppnnkkloaaGreatDoorSPolBack2
import Derived.Test.YtdjjmppnnkkloaaGreatDoorSShown8
import Derived.Test.YtdjjmppnnkkloaaGreatDoorSFewL8
import Derived.Test.YtdjjmppnnkkloaaGreatDoorSSame8
namespace Go.Proofs.YtdjjmppnnkkloaaGreatDoor
open Sy Go
set_option maxRecDepth 100000
set_option maxHeartbeats 4000000
set_option linter.unusedSimpArgs false
set_option linter.unusedVariables false
variable {G : Glob}
theorem print_le {p : Pol} (h : PolOK p) : (polPrint p).length ≤ 90000 := by
 have h1 := head_le h p.marks.length
 have h2 := h.few
 have h3 := h.token.1
 have hqb := qBody_le6 p.token
 have hql : (quoteT p.token).length ≤ 146 := by simp only [quoteT, List.length_cons, List.length_append, List.length_nil]; omega
 have ki : ∀ n : Int, 1 ≤ n ∧ n ≤ 100000 → (Lib.itoa n).length ≤ 21 := fun n hn => Lib.itoa_length_le n (by omega) (by omega)
 have k1 := ki _ h.fuel
 have k2 := ki _ h.quota
 have rl : ∀ (k x : List UInt8), (rowT [k, x]).length = k.length + x.length + 2 := fun k x => by
  simp only [rowT, join_two, Lib.join_one, List.length_append, List.length_cons, List.length_nil]; omega
 simp only [polPrint, List.length_append, rl]
 simp only [kwToken, kwFuel, kwQuota, List.length_cons, List.length_nil]
 omega
theorem PolicyBack_ev (hG : U8 G) (hP : PW G) (hE : PE G) (p : Pol) (s : List UInt8) (i : Int) (hm : ∀ m ∈ p.marks, InM m.mask) (hi : -9223372036854775808 ≤ i ∧ i ≤ 9223372036854775807) : AFn Tryz.prog G 4 [p.enc, .str s, .int .i64 i] (.bool true) := by
 refine AFn.introU tok Tryz.func4 (by kernel_rfl) rfl rfl ?_
 simp only [Tryz.f4, enumA, List.map_cons, List.map_nil]
 have hsh := shown8_ev hG hP hE
 have hF := few8_ev (G := G) p
 have fm := fewPol_masks hm
 have fn := fewPol_marks p
 have fc := fewPol_ncats p
 generalize fewPol p = q at *
 have hM := polMay_ev hG q
 have hok := fun h => may_pol.1 (show polMay q = 0 from h)
 have hS := refPolSame_ev (G := G) q (fun m _ => by have := refPSame_ev (G := G) m.path m.path; simpa using this) (by omega)
 have hPs := polParse_ev hG hP hE (s.take 2000) (by simp; omega)
 have hcs := parse_ok (s := s.take 2000)
 have hts : ¬ 2000 < s.length → s.take 2000 = s := fun h => List.take_of_length_le (by omega)
 have htl : (s.take 2000).length ≤ 2000 := by simp; omega
 generalize hgs : s.take 2000 = s' at *
 generalize polParse s' = R at *
 simp only [Pol.enc] at hF hM hS hPs
 refine rgn [] [[], [1, 2, 3]] ?_
 iterate 2 refine op1 tok ?_
 refine runEnd ?_
 refine rgn [.nilp, .bool true] [[], [1, 2, 3, 7]] ?_
 iterate 2 refine op1 tok ?_ (hv := by first | with_reducible exact True.intro | (exact hsh; done) | omega | simp | (simp; omega) | (simp +contextual; omega))
 refine runEnd ?_
 refine rgn [.nilp, q.enc] [[], [], [1, 2, 3, 7]] ?_
 iterate 3 refine op1 tok ?_ (hv := by first | with_reducible exact True.intro | (exact hF; done) | omega | simp | (simp; omega) | (simp +contextual; omega))
 refine runEnd ?_
 refine AW.join (α := Unit) (fun _ => True) (fun _ => ⟨upds 90 [(1, .p (.str s')), (2, .p (.int .i64 i)), (3, .ptr 3 0), (7, .p (.bool true))], [], [(3, .vars 25 [.p (.sl 1 (q.cats.map PD.str)), .p (.sl 2 (q.marks.map Mk.enc)), .p (.str q.token), .p (.int .i64 q.fuel), .p (.int .i64 q.quota)])], 0⟩) ?_ ?_
 ·
  refine rgn [] [[], [], [1, 2, 3, 7, 21]] ?_
  iterate 3 refine op1 tok ?_
  refine runEnd ?_
  refine cnd ?_ ?_
  ·intro h21
   try simp at h21
   refine rgz [] [[], [], [1, 2, 3, 7]] ?_
   iterate 3 refine op1 tok ?_
   refine runEnd ?_
   exact ⟨(), trivial, upds_le (by simp [hgs]), rfl, by simp [hgs], by simp [hgs]⟩
  ·intro h21
   try simp at h21
   have hd := hts (by omega)
   refine AW.skip ?_
   exact ⟨(), trivial, upds_le (by simp [hd]), rfl, by simp [hd], by simp [hd]⟩
 ·
  rintro _ _
  refine AW.join (α := Unit) (fun _ => True) (fun _ => ⟨upds 90 [(1, .p (.str s')), (7, .p (.bool true))], [], [], 0⟩) ?_ ?_
  ·
   refine rgn [.nilp, .int .i64 (polMay q)] [[], [], [1, 2, 3, 7, 26]] ?_
   iterate 3 refine op1 tok ?_ (hv := by first | with_reducible exact True.intro | (exact hM; done) | omega | simp | (simp; omega) | (simp +contextual; omega))
   refine runEnd ?_
   refine cnd ?_ ?_
   ·intro h26
    try simp at h26
    have ok := hok h26
    have hPr := polPrint_ev (G := G) hP q ok
    have hpl := print_le ok
    have hPa := polParse_ev hG hP hE (polPrint q) hpl
    rw [parse_print ok fm] at hPa
    have hct : ∀ k, k < (polPrint q).length → AFn Tryz.prog G 11 [.str ((polPrint q).take k)] (.tup [pol0.enc, .int .i64 22]) := fun k hk => by
     have := polParse_ev hG hP hE ((polPrint q).take k) (by simp; omega)
     rw [parse_cut ok hk] at this; exact this
    simp only [Pol.enc, pol0, List.map_nil] at hPr hPa hct
    generalize polPrint q = t at *
    refine rgn [.nilp, .str t] [[], [], [1, 2, 3, 7, 8]] ?_
    iterate 3 refine op1 tok ?_ (hv := by first | with_reducible exact True.intro | (exact hPr; done) | omega | simp | (simp; omega) | (simp +contextual; omega))
    refine runEnd ?_
    refine rgn [.nilp, .tup [q.enc, .int .i64 0]] [[], [], [], [], [], [], [1, 2, 3, 7, 8, 9, 33], [1, 2, 3, 7, 8, 9, 10]] ?_
    iterate 8 refine op1 tok ?_ (hv := by first | with_reducible exact True.intro | (exact hPa; done) | omega | simp | (simp; omega) | (simp +contextual; omega))
    refine runEnd ?_
    refine rgn [.nilp, .bool true] [[], [], [1, 2, 7, 8, 10, 36], [1, 2, 7, 8, 10, 11]] ?_
    iterate 4 refine op1 tok ?_ (hv := by first | with_reducible exact True.intro | (exact hS; done) | omega | simp | (simp; omega) | (simp +contextual; omega))
    refine runEnd ?_
    refine AW.seq ?_
    refine rgn [] [[], [], [], [1, 2, 7, 8, 39, 40], [], [1, 2, 7, 8, 42]] ?_
    iterate 3 refine op1 tok ?_
    iterate 2 refine op2 tok ?_
    refine op1 tok ?_
    refine runEnd ?_
    refine cnd ?_ ?_
    ·intro h42
     try simp at h42
    ·intro h42
     try simp at h42
     refine AW.skip ?_
     refine rgn [] [[], [], [], [], [], [], [1, 2, 7, 8, 45, 49], [1, 2, 7, 8, 50]] ?_
     iterate 3 refine op1 tok ?_
     iterate 4 refine op2 tok ?_
     refine op1 tok ?_
     refine runEnd ?_
     refine cnd ?_ ?_
     ·intro h50
      try simp at h50
      have hc := hct i.toNat (by omega)
      refine rgn [.nilp, .tup [.agg [.sl 1 [], .sl 2 [], .str [], .int .i64 0, .int .i64 0], .int .i64 22]] [[], [], [1, 7, 54], [], [], [], [], [], [1, 7, 57], [1, 7, 13]] ?_
      iterate 10 refine op1 tok ?_ (hv := by first | with_reducible exact True.intro | (first | exact hc | (simp; omega) | (simp; exact hc); done) | omega | simp | (simp; omega) | (simp +contextual; omega))
      refine runEnd ?_
      refine rgn [] [[], [1, 7, 59]] ?_
      iterate 2 refine op1 tok ?_
      refine runEnd ?_
      refine cnd ?_ ?_
      ·intro h59
       try simp at h59
      ·intro h59
       try simp at h59
       refine AW.skip ?_
       exact ⟨(), trivial, upds_le (by simp), rfl, by simp, by simp⟩
     ·intro h50
      try simp at h50
      refine AW.skip ?_
      exact ⟨(), trivial, upds_le (by simp), rfl, by simp, by simp⟩
   ·intro h26
    try simp at h26
    refine AW.skip ?_
    exact ⟨(), trivial, upds_le (by simp), rfl, by simp, by simp⟩
  ·
   rintro _ _
   refine rgn [.nilp, .tup [R.1.enc, .int .i64 R.2]] [[], [], [], [], [], [], [1, 7, 14, 64], [1, 7, 14, 15]] ?_
   iterate 8 refine op1 tok ?_ (hv := by first | with_reducible exact True.intro | (exact hPs; done) | omega | simp | (simp; omega) | (simp +contextual; omega))
   refine runEnd ?_
   refine AW.seq ?_
   refine rgn [] [[], [1, 7, 14, 15, 66]] ?_
   iterate 2 refine op1 tok ?_
   refine runEnd ?_
   refine cnd ?_ ?_
   ·intro h66
    try simp at h66
    obtain rfl : R = (pol0, 22) := by
     rcases hcs with ⟨h, _⟩ | h
     ·exact absurd h h66
     ·exact h
    refine rgn [] [[], [], [], [14, 68, 70], [], [], [72, 73], [], [], [], [77], [6]] ?_
    iterate 12 first | refine op1 tok ?_ (h := by intro C; conv => lhs; simp [pol0]) | refine op2 tok ?_ (h := by intro C; conv => lhs; simp [pol0])
    refine runEnd ?_
    exact AW.ret ⟨.inr rfl, _, _, by (conv => lhs; simp), trivial, by simp⟩
   ·intro h66
    try simp at h66
    obtain ⟨h1, h2⟩ : polMay R.1 = 0 ∧ polPrint R.1 = s' ∧ PolOK R.1 := by
     rcases hcs with ⟨_, h, h'⟩ | h
     ·exact ⟨may_pol.2 h, h', h⟩
     ·rw [h] at h66; exact absurd h66 (by decide)
    have g1 := polMay_ev hG R.1
    have g2 := polPrint_ev (G := G) hP R.1 h2.2
    rw [h1] at g1
    rw [h2.1] at g2
    simp only [Pol.enc] at g1 g2
    refine AW.skip ?_
    refine rgn [.nilp, .int .i64 0, .nilp, .str s'] [[], [], [], [], [1, 14, 79, 82], [], [], [1, 84, 85], [], [], [84, 88], [], [6]] ?_
    iterate 13 first | refine op1 tok ?_ (hv := by first | with_reducible exact True.intro | (first | exact g1 | exact g2 | ((repeat' (first | with_reducible apply And.intro | intro _)) <;> first | exact (g1) | exact (g2) | assumption | omega | contradiction | simp_all); done) | omega | simp | (simp; omega) | (simp +contextual; omega)) | refine op2 tok ?_ (hv := by first | with_reducible exact True.intro | (first | exact g1 | exact g2 | ((repeat' (first | with_reducible apply And.intro | intro _)) <;> first | exact (g1) | exact (g2) | assumption | omega | contradiction | simp_all); done) | omega | simp | (simp; omega) | (simp +contextual; omega))
    refine runEnd ?_
    exact AW.ret ⟨.inr rfl, _, _, by (conv => lhs; simp), trivial, by simp⟩
end Go.Proofs.YtdjjmppnnkkloaaGreatDoor
