import Derived.Test.YtdploelkmlbhnaaDoorCore20
import Derived.Test.YtdploelkmlbhnaaDoorPathIn
import Derived.Test.YtdploelkmlbhnaaDoorPathLaw
import Derived.Test.YtdploelkmlbhnaaDoorMay
namespace Go.Proofs.YtdploelkmlbhnaaDoor
open Sy Go
set_option maxRecDepth 100000
set_option maxHeartbeats 4000000
set_option linter.unusedSimpArgs false
set_option linter.unusedVariables false
variable {G : Glob}

@[simp] def deepS : Step := ⟨5, [], 0⟩
def aboveM (m p : List Step) (i : Nat) : Bool := (List.range i).any fun j => matchM m (p.take j)
def belowM (m p : List Step) (i : Nat) : Bool := (List.range i).any fun j => matchM m (p.drop j)
theorem aboveM_succ (m p : List Step) (i : Nat) : aboveM m p (i + 1) = (aboveM m p i || matchM m (p.take i)) := by simp [aboveM, List.range_succ]
theorem belowM_succ (m p : List Step) (i : Nat) : belowM m p (i + 1) = (belowM m p i || matchM m (p.drop i)) := by simp [belowM, List.range_succ]
theorem above_end (m p : List Step) : matchM (m ++ [deepS]) p = aboveM m p (p.length + 1) := bool_iff (by
  rw [match_above rfl]
  simp only [aboveM, List.any_eq_true, List.mem_range]
  exact ⟨fun ⟨i, h1, h2⟩ => ⟨i, by omega, h2⟩, fun ⟨i, h1, h2⟩ => ⟨i, by omega, h2⟩⟩)
theorem below_end (m p : List Step) : matchM (deepS :: m) p = belowM m p (p.length + 1) := bool_iff (by
  rw [match_below rfl]
  simp only [belowM, List.any_eq_true, List.mem_range]
  exact ⟨fun ⟨i, h1, h2⟩ => ⟨i, by omega, h2⟩, fun ⟨i, h1, h2⟩ => ⟨i, by omega, h2⟩⟩)
theorem PathDeep_ev (hG : U8 G) (l tp : List Step) : AFn Tryd.prog G 6 [.sl 3 (l.map Step.enc), .sl 3 (tp.map Step.enc)] (.bool true) := by
  refine AFn.introU tok Tryd.func6 (by kernel_rfl) rfl rfl ?_
  simp only [Tryd.f6, enumA, List.map_cons, List.map_nil]
  have hl := few_len l
  have hp := place_len tp
  have h1 := shown_ev (G := G)
  have h2 := few_ev (G := G) l
  have h3 := place_ev (G := G) tp
  generalize placeM tp = p at *
  generalize fewM l = x at *
  refine AW.seqRegionO [] ?_
  refine AOpsO.one tok [0, 1] (by intro C; conv => lhs; simp) (by first | with_reducible exact True.intro | omega | simp | (simp; omega) | (simp +contextual; omega)) rfl ?_
  refine AOpsO.nil ?_
  refine AW.seqRegionO [.nilp, .bool true] ?_
  refine AOpsO.one tok [0, 1, 14] (by intro C; conv => lhs; simp) (by first | with_reducible exact True.intro | (simp [h1]; done) | omega | simp | (simp; omega) | (simp +contextual; omega)) rfl ?_
  refine AOpsO.one tok [0, 1, 5] (by intro C; conv => lhs; simp) (by first | with_reducible exact True.intro | (simp [h1]; done) | omega | simp | (simp; omega) | (simp +contextual; omega)) rfl ?_
  refine AOpsO.nil ?_
  refine AW.seqRegionO [.nilp, .sl 3 (x.map Step.enc)] ?_
  refine AOpsO.one tok [1, 5, 15] (by intro C; conv => lhs; simp) (by first | with_reducible exact True.intro | (simp [h2]; done) | omega | simp | (simp; omega) | (simp +contextual; omega)) rfl ?_
  refine AOpsO.one tok [1, 5, 16] (by intro C; conv => lhs; simp) (by first | with_reducible exact True.intro | (simp [h2]; done) | omega | simp | (simp; omega) | (simp +contextual; omega)) rfl ?_
  refine AOpsO.one tok [0, 1, 5] (by intro C; conv => lhs; simp) (by first | with_reducible exact True.intro | (simp [h2]; done) | omega | simp | (simp; omega) | (simp +contextual; omega)) rfl ?_
  refine AOpsO.nil ?_
  refine AW.join (α := List Step) (fun m => m.length ≤ 6) (fun m => ⟨upds 90 [(0, .p (.sl 3 (m.map Step.enc))), (1, .p (.sl 3 (tp.map Step.enc))), (5, .p (.bool true))], [], [], 0⟩) ?_ ?_
  ·
    refine AW.seqRegionO [] ?_
    refine AOpsO.one tok [0, 1, 5, 17] (by intro C; conv => lhs; simp) (by first | with_reducible exact True.intro | omega | simp | (simp; omega) | (simp +contextual; omega)) rfl ?_
    refine AOpsO.one tok [0, 1, 5, 18] (by intro C; conv => lhs; simp) (by first | with_reducible exact True.intro | omega | simp | (simp; omega) | (simp +contextual; omega)) rfl ?_
    refine AOpsO.one tok [0, 1, 5, 19] (by intro C; conv => lhs; simp) (by first | with_reducible exact True.intro | omega | simp | (simp; omega) | (simp +contextual; omega)) rfl ?_
    refine AOpsO.nil ?_
    refine AW.cond (c := .tmp 19) (by conv => lhs; simp) trivial ?_ ?_
    · intro h19
      simp at h19
      refine AW.regionO [] ?_
      refine AOpsO.one tok [1, 5, 20] (by intro C; conv => lhs; simp) (by first | with_reducible exact True.intro | omega | simp | (simp; omega) | (simp +contextual; omega)) rfl ?_
      refine AOpsO.one tok [1, 5, 21] (by intro C; conv => lhs; simp) (by first | with_reducible exact True.intro | omega | simp | (simp; omega) | (simp +contextual; omega)) rfl ?_
      refine AOpsO.one tok [0, 1, 5] (by intro C; conv => lhs; simp) (by first | with_reducible exact True.intro | omega | simp | (simp; omega) | (simp +contextual; omega)) rfl ?_
      refine AOpsO.nil ?_
      exact ⟨x.take 6, by simp; omega, upds_le (by simp), rfl, by simp, by simp⟩
    · intro h19
      simp at h19
      refine AW.skip ?_
      exact ⟨x, by omega, upds_le (by simp), rfl, by simp, by simp⟩
  ·
    rintro m hm6
    have h4 := May_ev hG m
    refine AW.seqRegionO [.nilp, .sl 3 (p.map Step.enc)] ?_
    refine AOpsO.one tok [0, 5, 22] (by intro C; conv => lhs; simp) (by first | with_reducible exact True.intro | (simp [h3]; done) | omega | simp | (simp; omega) | (simp +contextual; omega)) rfl ?_
    refine AOpsO.one tok [0, 5, 23] (by intro C; conv => lhs; simp) (by first | with_reducible exact True.intro | (simp [h3]; done) | omega | simp | (simp; omega) | (simp +contextual; omega)) rfl ?_
    refine AOpsO.one tok [0, 5, 6] (by intro C; conv => lhs; simp) (by first | with_reducible exact True.intro | (simp [h3]; done) | omega | simp | (simp; omega) | (simp +contextual; omega)) rfl ?_
    refine AOpsO.nil ?_
    refine AW.seq ?_
    refine AW.seqRegionO [.nilp, .int .i64 (mayL m)] ?_
    refine AOpsO.one tok [0, 5, 6, 24] (by intro C; conv => lhs; simp) (by first | with_reducible exact True.intro | (simp [h4]; done) | omega | simp | (simp; omega) | (simp +contextual; omega)) rfl ?_
    refine AOpsO.one tok [0, 5, 6, 25] (by intro C; conv => lhs; simp) (by first | with_reducible exact True.intro | (simp [h4]; done) | omega | simp | (simp; omega) | (simp +contextual; omega)) rfl ?_
    refine AOpsO.one tok [0, 5, 6, 26] (by intro C; conv => lhs; simp) (by first | with_reducible exact True.intro | (simp [h4]; done) | omega | simp | (simp; omega) | (simp +contextual; omega)) rfl ?_
    refine AOpsO.nil ?_
    refine AW.cond (c := .tmp 26) (by conv => lhs; simp) trivial ?_ ?_
    · intro h26
      simp at h26
      refine AW.seqRegionO [] ?_
      refine AOpsO.one tok [27] (by intro C; conv => lhs; simp) (by first | with_reducible exact True.intro | omega | simp | (simp; omega) | (simp +contextual; omega)) rfl ?_
      refine AOpsO.one tok [4] (by intro C; conv => lhs; simp) (by first | with_reducible exact True.intro | omega | simp | (simp; omega) | (simp +contextual; omega)) rfl ?_
      refine AOpsO.nil ?_
      exact AW.ret ⟨.inr rfl, _, _, by (conv => lhs; simp), trivial, by simp⟩
    · intro h26
      simp at h26
      refine AW.skip ?_
      refine AW.seqRegionO [] ?_
      refine AOpsO.one tok [0, 5, 6, 28] (by intro C; conv => lhs; simp) (by first | with_reducible exact True.intro | omega | simp | (simp; omega) | (simp +contextual; omega)) rfl ?_
      refine AOpsO.one tok [0, 5, 6, 7, 28] (by intro C; conv => lhs; simp) (by first | with_reducible exact True.intro | omega | simp | (simp; omega) | (simp +contextual; omega)) rfl ?_
      refine AOpsO.one tok [0, 5, 6, 7] (by intro C; conv => lhs; simp) (by first | with_reducible exact True.intro | omega | simp | (simp; omega) | (simp +contextual; omega)) rfl ?_
      refine AOpsO.nil ?_
      refine AW.seqRegionO [] ?_
      refine AOpsO.one tok [0, 5, 6, 7, 8] (by intro C; conv => lhs; simp) (by first | with_reducible exact True.intro | omega | simp | (simp; omega) | (simp +contextual; omega)) rfl ?_
      refine AOpsO.nil ?_
      refine AW.seqRegionO [] ?_
      refine AOpsO.one tok [0, 5, 6, 7, 8, 9] (by intro C; conv => lhs; simp) (by first | with_reducible exact True.intro | omega | simp | (simp; omega) | (simp +contextual; omega)) rfl ?_
      refine AOpsO.nil ?_
      refine AW.seq ?_
      refine AW.seqRegionO [] ?_
      refine AOpsO.one tok [0, 5, 6, 7, 8, 9, 10] (by intro C; conv => lhs; simp) (by first | with_reducible exact True.intro | omega | simp | (simp; omega) | (simp +contextual; omega)) rfl ?_
      refine AOpsO.nil ?_
      refine AW.block ?_
      refine AW.loop (α := Nat) (fun k => k ≤ p.length + 1) (fun k => ⟨upds 90 [(0, .p (.sl 3 (m.map Step.enc))), (5, .p (.bool true)), (6, .p (.sl 3 (p.map Step.enc))), (7, .ptr 7 0), (8, .p (.bool (aboveM m p k))), (9, .p (.bool (belowM m p k))), (10, .p (.int .i64 k))], [], [(7, .vars 29 [.p (.int .i64 5), .p (.str []), .p (.int .i64 0)])], 0⟩) (fun k => p.length + 1 - k) (0) (by omega) ⟨upds_le (by simp [aboveM, belowM]), rfl, by simp, by simp⟩ ?_
      rintro k hk
      refine AW.seq ?_
      refine AW.seqRegionO [] ?_
      refine AOpsO.one tok [0, 5, 6, 7, 8, 9, 10, 29] (by intro C; conv => lhs; simp) (by first | with_reducible exact True.intro | omega | simp | (simp; omega) | (simp +contextual; omega)) rfl ?_
      refine AOpsO.one tok [0, 5, 6, 7, 8, 9, 10, 29, 30] (by intro C; conv => lhs; simp) (by first | with_reducible exact True.intro | omega | simp | (simp; omega) | (simp +contextual; omega)) rfl ?_
      refine AOpsO.one tok [0, 5, 6, 7, 8, 9, 10, 29, 31] (by intro C; conv => lhs; simp) (by first | with_reducible exact True.intro | omega | simp | (simp; omega) | (simp +contextual; omega)) rfl ?_
      refine AOpsO.one tok [0, 5, 6, 7, 8, 9, 10, 32] (by intro C; conv => lhs; simp) (by first | with_reducible exact True.intro | omega | simp | (simp; omega) | (simp +contextual; omega)) rfl ?_
      refine AOpsO.nil ?_
      refine AW.cond (c := .tmp 32) (by conv => lhs; simp) trivial ?_ ?_
      · intro h32
        simp at h32
        have ha := match_ev (G := G) m (p.take k) (by omega) (by simp; omega)
        have hb := match_ev (G := G) m (p.drop k) (by omega) (by simp; omega)
        have hsa := aboveM_succ m p k
        have hsb := belowM_succ m p k
        generalize matchM m (p.take k) = qa at ha hsa
        generalize matchM m (p.drop k) = qb at hb hsb
        simp at ha hb
        have htl : (p.map Step.enc).take p.length = p.map Step.enc := List.take_of_length_le (by simp)
        refine AW.skip ?_
        refine AW.seq ?_
        refine AW.block ?_
        refine AW.seqRegionO [.nilp, .bool qa] ?_
        refine AOpsO.one tok [0, 5, 6, 7, 9, 10, 35] (by intro C; conv => lhs; simp) (by first | with_reducible exact True.intro | (simp +contextual [ha]; done) | omega | simp | (simp; omega) | (simp +contextual; omega)) rfl ?_
        refine AOpsO.one tok [0, 5, 6, 7, 9, 10, 36] (by intro C; conv => lhs; simp) (by first | with_reducible exact True.intro | (simp +contextual [ha]; done) | omega | simp | (simp; omega) | (simp +contextual; omega)) rfl ?_
        refine AOpsO.oneIf tok [0, 5, 6, 7, 9, 10, 36, 37] 36 (by intro C; conv => lhs; simp) (by first | with_reducible exact True.intro | (simp +contextual [ha]; done) | omega | simp | (simp; omega) | (simp +contextual; omega)) rfl rfl ?_
        refine AOpsO.oneIf tok [0, 5, 6, 7, 9, 10, 36, 37, 38] 36 (by intro C; conv => lhs; simp) (by first | with_reducible exact True.intro | (simp +contextual [ha]; done) | omega | simp | (simp; omega) | (simp +contextual; omega)) rfl rfl ?_
        refine AOpsO.oneIf tok [0, 5, 6, 7, 9, 10, 36, 37, 38, 39] 36 (by intro C; conv => lhs; simp) (by first | with_reducible exact True.intro | (simp +contextual [ha]; done) | omega | simp | (simp; omega) | (simp +contextual; omega)) rfl rfl ?_
        refine AOpsO.oneIf tok [0, 5, 6, 7, 9, 10, 36, 37, 40] 36 (by intro C; conv => lhs; simp) (by first | with_reducible exact True.intro | (simp +contextual [ha]; done) | omega | simp | (simp; omega) | (simp +contextual; omega)) rfl rfl ?_
        refine AOpsO.oneIf tok [0, 5, 6, 7, 9, 10, 36, 41] 36 (by intro C; conv => lhs; simp) (by first | with_reducible exact True.intro | (simp +contextual [ha]; done) | omega | simp | (simp; omega) | (simp +contextual; omega)) rfl rfl ?_
        refine AOpsO.one tok [0, 5, 6, 7, 9, 10, 42] (by intro C; conv => lhs; simp) (by first | with_reducible exact True.intro | (simp +contextual [ha]; done) | omega | simp | (simp; omega) | (simp +contextual; omega)) rfl ?_
        refine AOpsO.one tok [0, 5, 6, 7, 8, 9, 10] (by intro C; conv => lhs; simp) (by first | with_reducible exact True.intro | (simp +contextual [ha]; done) | omega | simp | (simp; omega) | (simp +contextual; omega)) rfl ?_
        refine AOpsO.nil ?_
        refine AW.regionO [.nilp, .bool qb] ?_
        refine AOpsO.one tok [0, 5, 6, 7, 8, 10, 43] (by intro C; conv => lhs; simp) (by first | with_reducible exact True.intro | (simp +contextual [hb, htl]; done) | omega | simp | (simp; omega) | (simp +contextual; omega)) rfl ?_
        refine AOpsO.one tok [0, 5, 6, 7, 8, 10, 44] (by intro C; conv => lhs; simp) (by first | with_reducible exact True.intro | (simp +contextual [hb, htl]; done) | omega | simp | (simp; omega) | (simp +contextual; omega)) rfl ?_
        refine AOpsO.oneIf tok [0, 5, 6, 7, 8, 10, 44, 45] 44 (by intro C; conv => lhs; simp) (by first | with_reducible exact True.intro | (simp +contextual [hb, htl]; done) | omega | simp | (simp; omega) | (simp +contextual; omega)) rfl rfl ?_
        refine AOpsO.oneIf tok [0, 5, 6, 7, 8, 10, 44, 45, 46] 44 (by intro C; conv => lhs; simp) (by first | with_reducible exact True.intro | (simp +contextual [hb, htl]; done) | omega | simp | (simp; omega) | (simp +contextual; omega)) rfl rfl ?_
        refine AOpsO.oneIf tok [0, 5, 6, 7, 8, 10, 44, 45, 46, 47] 44 (by intro C; conv => lhs; simp) (by first | with_reducible exact True.intro | (simp +contextual [hb, htl]; done) | omega | simp | (simp; omega) | (simp +contextual; omega)) rfl rfl ?_
        refine AOpsO.oneIf tok [0, 5, 6, 7, 8, 10, 44, 45, 48] 44 (by intro C; conv => lhs; simp) (by first | with_reducible exact True.intro | (simp +contextual [hb, htl]; done) | omega | simp | (simp; omega) | (simp +contextual; omega)) rfl rfl ?_
        refine AOpsO.oneIf tok [0, 5, 6, 7, 8, 10, 44, 49] 44 (by intro C; conv => lhs; simp) (by first | with_reducible exact True.intro | (simp +contextual [hb, htl]; done) | omega | simp | (simp; omega) | (simp +contextual; omega)) rfl rfl ?_
        refine AOpsO.one tok [0, 5, 6, 7, 8, 10, 50] (by intro C; conv => lhs; simp) (by first | with_reducible exact True.intro | (simp +contextual [hb, htl]; done) | omega | simp | (simp; omega) | (simp +contextual; omega)) rfl ?_
        refine AOpsO.one tok [0, 5, 6, 7, 8, 9, 10] (by intro C; conv => lhs; simp) (by first | with_reducible exact True.intro | (simp +contextual [hb, htl]; done) | omega | simp | (simp; omega) | (simp +contextual; omega)) rfl ?_
        refine AOpsO.nil ?_
        refine AW.regionO [] ?_
        refine AOpsO.one tok [0, 5, 6, 7, 8, 9, 33] (by intro C; conv => lhs; simp) (by first | with_reducible exact True.intro | omega | simp | (simp; omega) | (simp +contextual; omega)) rfl ?_
        refine AOpsO.one tok [0, 5, 6, 7, 8, 9, 34] (by intro C; conv => lhs; simp) (by first | with_reducible exact True.intro | omega | simp | (simp; omega) | (simp +contextual; omega)) rfl ?_
        refine AOpsO.one tok [0, 5, 6, 7, 8, 9, 10] (by intro C; conv => lhs; simp) (by first | with_reducible exact True.intro | omega | simp | (simp; omega) | (simp +contextual; omega)) rfl ?_
        refine AOpsO.nil ?_
        exact ⟨k + 1, by omega, by omega, upds_le (by simp [hsa, hsb]), rfl, by simp [hsa, hsb], by simp [hsa, hsb]⟩
      · intro h32
        simp at h32
        have hkp : k = p.length + 1 := by omega
        subst hkp
        have e1 := match_ev (G := G) (m ++ [deepS]) p (by simp; omega) (by omega)
        have e2 := match_ev (G := G) (deepS :: m) p (by simp; omega) (by omega)
        have e3 := match_ev (G := G) (m ++ [deepS, deepS]) p (by simp; omega) (by omega)
        rw [match_twice rfl, above_end] at e3
        rw [above_end] at e1
        rw [below_end] at e2
        generalize aboveM m p (p.length + 1) = qa at *
        generalize belowM m p (p.length + 1) = qb at *
        simp at e1 e2 e3
        refine AW.exit ?_
        simp
        refine AW.seqRunDrawK tok mixed [0, 5, 6, 7, 8, 9, 11] 8 [[], [0], [51, 52], [7], [54], [53, 55], [6], [56, 57]] [deepS.enc, .nilp, .bool qa] [] (by kernel_rfl) (by intro C; conv => lhs; simp) (by simp [e1]; omega) (by simp [Sm.sum, Sm.foot, Sm.tch, Sm.refs]; kernel_rfl) (by intro C; conv => lhs; simp) (by first | with_reducible exact True.intro | omega | simp | (simp; omega) | (simp +contextual; omega)) ?_
        refine AW.seqRegionO [deepS.enc, .nilp, .bool qb] ?_
        refine AOpsO.one tok [0, 5, 6, 7, 8, 9, 11, 59] (by intro C; conv => lhs; simp) (by first | with_reducible exact True.intro | (simp [e2]; omega; done) | omega | simp | (simp; omega) | (simp +contextual; omega)) rfl ?_
        refine AOpsO.one tok [0, 5, 6, 7, 8, 9, 11, 60] (by intro C; conv => lhs; simp) (by first | with_reducible exact True.intro | (simp [e2]; omega; done) | omega | simp | (simp; omega) | (simp +contextual; omega)) rfl ?_
        refine AOpsO.one tok [0, 5, 6, 7, 8, 9, 11, 60, 61] (by intro C; conv => lhs; simp) (by first | with_reducible exact True.intro | (simp [e2]; omega; done) | omega | simp | (simp; omega) | (simp +contextual; omega)) rfl ?_
        refine AOpsO.one tok [0, 5, 6, 7, 8, 9, 11, 62] (by intro C; conv => lhs; simp) (by first | with_reducible exact True.intro | (simp [e2]; omega; done) | omega | simp | (simp; omega) | (simp +contextual; omega)) rfl ?_
        refine AOpsO.one tok [0, 5, 6, 7, 8, 9, 11, 62, 63] (by intro C; conv => lhs; simp) (by first | with_reducible exact True.intro | (simp [e2]; omega; done) | omega | simp | (simp; omega) | (simp +contextual; omega)) rfl ?_
        refine AOpsO.one tok [0, 5, 6, 7, 8, 9, 11, 64] (by intro C; conv => lhs; simp) (by first | with_reducible exact True.intro | (simp [e2]; omega; done) | omega | simp | (simp; omega) | (simp +contextual; omega)) rfl ?_
        refine AOpsO.one tok [0, 5, 6, 7, 8, 9, 11, 12] (by intro C; conv => lhs; simp) (by first | with_reducible exact True.intro | (simp [e2]; omega; done) | omega | simp | (simp; omega) | (simp +contextual; omega)) rfl ?_
        refine AOpsO.nil ?_
        refine AW.seqRunDrawK tok mixed [5, 8, 9, 11, 12, 13] 9 [[], [0], [65, 66], [7], [7], [68, 69], [67, 70], [6], [71, 72]] [deepS.enc, deepS.enc, .nilp, .bool qa] [] (by kernel_rfl) (by intro C; conv => lhs; simp) (by simp [e3]; omega) (by simp [Sm.sum, Sm.foot, Sm.tch, Sm.refs]; kernel_rfl) (by intro C; conv => lhs; simp) (by first | with_reducible exact True.intro | omega | simp | (simp; omega) | (simp +contextual; omega)) ?_
        refine AW.seqRegionO [] ?_
        refine AOpsO.one tok [8, 9, 11, 12, 13, 74] (by intro C; conv => lhs; simp) (by first | with_reducible exact True.intro | omega | simp | (simp; omega) | (simp +contextual; omega)) rfl ?_
        refine AOpsO.one tok [8, 9, 11, 12, 13, 75] (by intro C; conv => lhs; simp) (by first | with_reducible exact True.intro | omega | simp | (simp; omega) | (simp +contextual; omega)) rfl ?_
        refine AOpsO.oneIf tok [8, 9, 11, 12, 13, 75, 76] 75 (by intro C; conv => lhs; simp) (by first | with_reducible exact True.intro | omega | simp | (simp; omega) | (simp +contextual; omega)) rfl rfl ?_
        refine AOpsO.oneIf tok [9, 11, 12, 13, 75, 76, 77] 75 (by intro C; conv => lhs; simp) (by first | with_reducible exact True.intro | omega | simp | (simp; omega) | (simp +contextual; omega)) rfl rfl ?_
        refine AOpsO.oneIf tok [9, 11, 12, 13, 75, 78] 75 (by intro C; conv => lhs; simp) (by first | with_reducible exact True.intro | omega | simp | (simp; omega) | (simp +contextual; omega)) rfl rfl ?_
        refine AOpsO.one tok [9, 11, 12, 13, 79] (by intro C; conv => lhs; simp) (by first | with_reducible exact True.intro | omega | simp | (simp; omega) | (simp +contextual; omega)) rfl ?_
        refine AOpsO.one tok [9, 11, 12, 13, 80] (by intro C; conv => lhs; simp) (by first | with_reducible exact True.intro | omega | simp | (simp; omega) | (simp +contextual; omega)) rfl ?_
        refine AOpsO.oneIf tok [9, 11, 13, 80, 81] 80 (by intro C; conv => lhs; simp) (by first | with_reducible exact True.intro | omega | simp | (simp; omega) | (simp +contextual; omega)) rfl rfl ?_
        refine AOpsO.oneIf tok [11, 13, 80, 81, 82] 80 (by intro C; conv => lhs; simp) (by first | with_reducible exact True.intro | omega | simp | (simp; omega) | (simp +contextual; omega)) rfl rfl ?_
        refine AOpsO.oneIf tok [11, 13, 80, 83] 80 (by intro C; conv => lhs; simp) (by first | with_reducible exact True.intro | omega | simp | (simp; omega) | (simp +contextual; omega)) rfl rfl ?_
        refine AOpsO.one tok [11, 13, 84] (by intro C; conv => lhs; simp) (by first | with_reducible exact True.intro | omega | simp | (simp; omega) | (simp +contextual; omega)) rfl ?_
        refine AOpsO.one tok [11, 13, 85] (by intro C; conv => lhs; simp) (by first | with_reducible exact True.intro | omega | simp | (simp; omega) | (simp +contextual; omega)) rfl ?_
        refine AOpsO.oneIf tok [11, 85, 86] 85 (by intro C; conv => lhs; simp) (by first | with_reducible exact True.intro | omega | simp | (simp; omega) | (simp +contextual; omega)) rfl rfl ?_
        refine AOpsO.oneIf tok [85, 86, 87] 85 (by intro C; conv => lhs; simp) (by first | with_reducible exact True.intro | omega | simp | (simp; omega) | (simp +contextual; omega)) rfl rfl ?_
        refine AOpsO.oneIf tok [85, 88] 85 (by intro C; conv => lhs; simp) (by first | with_reducible exact True.intro | omega | simp | (simp; omega) | (simp +contextual; omega)) rfl rfl ?_
        refine AOpsO.one tok [89] (by intro C; conv => lhs; simp) (by first | with_reducible exact True.intro | omega | simp | (simp; omega) | (simp +contextual; omega)) rfl ?_
        refine AOpsO.one tok [4] (by intro C; conv => lhs; simp) (by first | with_reducible exact True.intro | omega | simp | (simp; omega) | (simp +contextual; omega)) rfl ?_
        refine AOpsO.nil ?_
        exact AW.ret ⟨.inr rfl, _, _, by (conv => lhs; simp), trivial, by simp⟩
end Go.Proofs.YtdploelkmlbhnaaDoor
