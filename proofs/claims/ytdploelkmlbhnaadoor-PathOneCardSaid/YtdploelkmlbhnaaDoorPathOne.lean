import Derived.Test.YtdploelkmlbhnaaDoorCore20
import Derived.Test.YtdploelkmlbhnaaDoorPathIn
import Derived.Test.YtdploelkmlbhnaaDoorPathLaw
import Derived.Test.YtdploelkmlbhnaaDoorMay
namespace Go.Proofs.YtdploelkmlbhnaaDoor
open Sy Go
set_option maxRecDepth 100000
set_option maxHeartbeats 4000000
set_option linter.unusedSimpArgs false
set_option linter.unusedVariables false
variable {G : Glob}

def eachM (m p : List Step) (i : Nat) : Bool := decide ((m.length : Int) = p.length) && (List.range i).all fun j => matchM ((m.take (j + 1)).drop j) ((p.take (j + 1)).drop j)
theorem eachM_zero (m p : List Step) : eachM m p 0 = decide ((m.length : Int) = p.length) := by simp [eachM]
theorem eachM_succ (m p : List Step) (i : Nat) : eachM m p (i + 1) = (eachM m p i && matchM ((m.take (i + 1)).drop i) ((p.take (i + 1)).drop i)) := by
  simp only [eachM, List.range_succ, List.all_append, List.all_cons, List.all_nil, Bool.and_true, Bool.and_assoc]
theorem eachM_len {m p : List Step} {i : Nat} (h : eachM m p i = true) : m.length = p.length := by
  simp only [eachM, Bool.and_eq_true, decide_eq_true_eq] at h; omega
theorem eachM_end {m p : List Step} (h : ∀ t ∈ m, t.kind ≠ 5) : matchM m p = eachM m p m.length := bool_iff (by
  rw [match_each m p h]
  simp only [eachM, Bool.and_eq_true, decide_eq_true_eq, List.all_eq_true, List.mem_range]
  constructor
  · rintro ⟨h1, h2⟩; exact ⟨by omega, h2⟩
  · rintro ⟨h1, h2⟩; exact ⟨by omega, h2⟩)
theorem PathOne_ev (hG : U8 G) (l tp : List Step) : AFn Tryd.prog G 7 [.sl 3 (l.map Step.enc), .sl 3 (tp.map Step.enc)] (.bool true) := by
  refine AFn.introU tok Tryd.func7 (by kernel_rfl) rfl rfl ?_
  simp only [Tryd.f7, enumA, List.map_cons, List.map_nil]
  have hl := few_len l
  have hp := place_len tp
  have h1 := shown_ev (G := G)
  have h2 := few_ev (G := G) l
  have h3 := place_ev (G := G) tp
  generalize placeM tp = p at *
  generalize fewM l = m at *
  have h4 := May_ev hG m
  refine AW.seqRegionO [] ?_
  refine AOpsO.one tok [0, 1] (by intro C; conv => lhs; simp) (by first | with_reducible exact True.intro | omega | simp | (simp; omega) | (simp +contextual; omega)) rfl ?_
  refine AOpsO.nil ?_
  refine AW.seqRegionO [.nilp, .bool true] ?_
  refine AOpsO.one tok [0, 1, 9] (by intro C; conv => lhs; simp) (by first | with_reducible exact True.intro | (simp [h1]; done) | omega | simp | (simp; omega) | (simp +contextual; omega)) rfl ?_
  refine AOpsO.one tok [0, 1, 5] (by intro C; conv => lhs; simp) (by first | with_reducible exact True.intro | (simp [h1]; done) | omega | simp | (simp; omega) | (simp +contextual; omega)) rfl ?_
  refine AOpsO.nil ?_
  refine AW.seqRegionO [.nilp, .sl 3 (m.map Step.enc)] ?_
  refine AOpsO.one tok [1, 5, 10] (by intro C; conv => lhs; simp) (by first | with_reducible exact True.intro | (simp [h2]; done) | omega | simp | (simp; omega) | (simp +contextual; omega)) rfl ?_
  refine AOpsO.one tok [1, 5, 11] (by intro C; conv => lhs; simp) (by first | with_reducible exact True.intro | (simp [h2]; done) | omega | simp | (simp; omega) | (simp +contextual; omega)) rfl ?_
  refine AOpsO.one tok [0, 1, 5] (by intro C; conv => lhs; simp) (by first | with_reducible exact True.intro | (simp [h2]; done) | omega | simp | (simp; omega) | (simp +contextual; omega)) rfl ?_
  refine AOpsO.nil ?_
  refine AW.seqRegionO [.nilp, .sl 3 (p.map Step.enc)] ?_
  refine AOpsO.one tok [0, 5, 12] (by intro C; conv => lhs; simp) (by first | with_reducible exact True.intro | (simp [h3]; done) | omega | simp | (simp; omega) | (simp +contextual; omega)) rfl ?_
  refine AOpsO.one tok [0, 5, 13] (by intro C; conv => lhs; simp) (by first | with_reducible exact True.intro | (simp [h3]; done) | omega | simp | (simp; omega) | (simp +contextual; omega)) rfl ?_
  refine AOpsO.one tok [0, 5, 6] (by intro C; conv => lhs; simp) (by first | with_reducible exact True.intro | (simp [h3]; done) | omega | simp | (simp; omega) | (simp +contextual; omega)) rfl ?_
  refine AOpsO.nil ?_
  refine AW.seq ?_
  refine AW.seqRegionO [.nilp, .int .i64 (mayL m)] ?_
  refine AOpsO.one tok [0, 5, 6, 14] (by intro C; conv => lhs; simp) (by first | with_reducible exact True.intro | (simp [h4]; done) | omega | simp | (simp; omega) | (simp +contextual; omega)) rfl ?_
  refine AOpsO.one tok [0, 5, 6, 15] (by intro C; conv => lhs; simp) (by first | with_reducible exact True.intro | (simp [h4]; done) | omega | simp | (simp; omega) | (simp +contextual; omega)) rfl ?_
  refine AOpsO.one tok [0, 5, 6, 16] (by intro C; conv => lhs; simp) (by first | with_reducible exact True.intro | (simp [h4]; done) | omega | simp | (simp; omega) | (simp +contextual; omega)) rfl ?_
  refine AOpsO.nil ?_
  refine AW.cond (c := .tmp 16) (by conv => lhs; simp) trivial ?_ ?_
  · intro h16
    simp at h16
    refine AW.seqRegionO [] ?_
    refine AOpsO.one tok [17] (by intro C; conv => lhs; simp) (by first | with_reducible exact True.intro | omega | simp | (simp; omega) | (simp +contextual; omega)) rfl ?_
    refine AOpsO.one tok [4] (by intro C; conv => lhs; simp) (by first | with_reducible exact True.intro | omega | simp | (simp; omega) | (simp +contextual; omega)) rfl ?_
    refine AOpsO.nil ?_
    exact AW.ret ⟨.inr rfl, _, _, by (conv => lhs; simp), trivial, by simp⟩
  · intro h16
    simp at h16
    refine AW.skip ?_
    refine AW.seqRegionO [] ?_
    refine AOpsO.one tok [0, 5, 6, 18] (by intro C; conv => lhs; simp) (by first | with_reducible exact True.intro | omega | simp | (simp; omega) | (simp +contextual; omega)) rfl ?_
    refine AOpsO.one tok [0, 5, 6, 19] (by intro C; conv => lhs; simp) (by first | with_reducible exact True.intro | omega | simp | (simp; omega) | (simp +contextual; omega)) rfl ?_
    refine AOpsO.one tok [0, 5, 6, 19, 20] (by intro C; conv => lhs; simp) (by first | with_reducible exact True.intro | omega | simp | (simp; omega) | (simp +contextual; omega)) rfl ?_
    refine AOpsO.one tok [0, 5, 6, 19, 21] (by intro C; conv => lhs; simp) (by first | with_reducible exact True.intro | omega | simp | (simp; omega) | (simp +contextual; omega)) rfl ?_
    refine AOpsO.one tok [0, 5, 6, 22] (by intro C; conv => lhs; simp) (by first | with_reducible exact True.intro | omega | simp | (simp; omega) | (simp +contextual; omega)) rfl ?_
    refine AOpsO.one tok [0, 5, 6, 7] (by intro C; conv => lhs; simp) (by first | with_reducible exact True.intro | omega | simp | (simp; omega) | (simp +contextual; omega)) rfl ?_
    refine AOpsO.nil ?_
    refine AW.seq ?_
    refine AW.seqRegionO [] ?_
    refine AOpsO.one tok [0, 5, 6, 7, 8] (by intro C; conv => lhs; simp) (by first | with_reducible exact True.intro | omega | simp | (simp; omega) | (simp +contextual; omega)) rfl ?_
    refine AOpsO.nil ?_
    refine AW.block ?_
    refine AW.loop (α := Nat) (fun k => k ≤ m.length ∧ ∀ t ∈ m.take k, t.kind ≠ 5) (fun k => ⟨upds 56 [(0, .p (.sl 3 (m.map Step.enc))), (5, .p (.bool true)), (6, .p (.sl 3 (p.map Step.enc))), (7, .p (.bool (eachM m p k))), (8, .p (.int .i64 k))], [], [], 0⟩) (fun k => m.length - k) (0) ⟨by omega, by simp⟩ ⟨upds_le (by simp [eachM_zero]), rfl, by simp, by simp⟩ ?_
    rintro k ⟨hk, hno⟩
    refine AW.seq ?_
    refine AW.seqRegionO [] ?_
    refine AOpsO.one tok [0, 5, 6, 7, 8, 23] (by intro C; conv => lhs; simp) (by first | with_reducible exact True.intro | omega | simp | (simp; omega) | (simp +contextual; omega)) rfl ?_
    refine AOpsO.one tok [0, 5, 6, 7, 8, 23, 24] (by intro C; conv => lhs; simp) (by first | with_reducible exact True.intro | omega | simp | (simp; omega) | (simp +contextual; omega)) rfl ?_
    refine AOpsO.one tok [0, 5, 6, 7, 8, 23, 25] (by intro C; conv => lhs; simp) (by first | with_reducible exact True.intro | omega | simp | (simp; omega) | (simp +contextual; omega)) rfl ?_
    refine AOpsO.one tok [0, 5, 6, 7, 8, 26] (by intro C; conv => lhs; simp) (by first | with_reducible exact True.intro | omega | simp | (simp; omega) | (simp +contextual; omega)) rfl ?_
    refine AOpsO.nil ?_
    refine AW.cond (c := .tmp 26) (by conv => lhs; simp) trivial ?_ ?_
    · intro h26
      simp at h26
      obtain ⟨t, ht⟩ : ∃ t, m[k]? = some t := ⟨m[k], by simp [h26]⟩
      refine AW.skip ?_
      refine AW.seq ?_
      refine AW.block ?_
      refine AW.seq ?_
      refine AW.seqRegionO [t.enc] ?_
      refine AOpsO.one tok [0, 5, 6, 7, 8, 29] (by intro C; conv => lhs; simp) (by first | with_reducible exact True.intro | (simp [ht]; done) | omega | simp | (simp; omega) | (simp +contextual; omega)) rfl ?_
      refine AOpsO.one tok [0, 5, 6, 7, 8, 29, 30] (by intro C; conv => lhs; simp) (by first | with_reducible exact True.intro | (simp [ht]; done) | omega | simp | (simp; omega) | (simp +contextual; omega)) rfl ?_
      refine AOpsO.one tok [0, 5, 6, 7, 8, 31] (by intro C; conv => lhs; simp) (by first | with_reducible exact True.intro | (simp [ht]; done) | omega | simp | (simp; omega) | (simp +contextual; omega)) rfl ?_
      refine AOpsO.one tok [0, 5, 6, 7, 8, 32] (by intro C; conv => lhs; simp) (by first | with_reducible exact True.intro | (simp [ht]; done) | omega | simp | (simp; omega) | (simp +contextual; omega)) rfl ?_
      refine AOpsO.one tok [0, 5, 6, 7, 8, 33] (by intro C; conv => lhs; simp) (by first | with_reducible exact True.intro | (simp [ht]; done) | omega | simp | (simp; omega) | (simp +contextual; omega)) rfl ?_
      refine AOpsO.one tok [0, 5, 6, 7, 8, 34] (by intro C; conv => lhs; simp) (by first | with_reducible exact True.intro | (simp [ht]; done) | omega | simp | (simp; omega) | (simp +contextual; omega)) rfl ?_
      refine AOpsO.nil ?_
      refine AW.cond (c := .tmp 34) (by conv => lhs; simp) trivial ?_ ?_
      · intro h34
        simp at h34
        refine AW.seqRegionO [] ?_
        refine AOpsO.one tok [35] (by intro C; conv => lhs; simp) (by first | with_reducible exact True.intro | omega | simp | (simp; omega) | (simp +contextual; omega)) rfl ?_
        refine AOpsO.one tok [4] (by intro C; conv => lhs; simp) (by first | with_reducible exact True.intro | omega | simp | (simp; omega) | (simp +contextual; omega)) rfl ?_
        refine AOpsO.nil ?_
        exact AW.ret ⟨.inr rfl, _, _, by (conv => lhs; simp), trivial, by simp⟩
      · intro h34
        simp at h34
        have hno' : ∀ x ∈ m.take (k + 1), x.kind ≠ 5 := by
          intro x hx
          rw [List.take_add_one, ht] at hx
          rcases List.mem_append.1 hx with hx | hx
          · exact hno x hx
          · simp at hx; subst hx; exact h34
        have hes := eachM_succ m p k
        have hm := match_ev (G := G) ((m.take (k + 1)).drop k) ((p.take (k + 1)).drop k) (by simp; omega) (by simp; omega)
        generalize hq : matchM ((m.take (k + 1)).drop k) ((p.take (k + 1)).drop k) = q at hm hes
        simp at hm
        refine AW.skip ?_
        refine AW.seqRegionO [] ?_
        refine AOpsO.one tok [0, 5, 6, 7, 8, 36] (by intro C; conv => lhs; simp) (by first | with_reducible exact True.intro | omega | simp | (simp; omega) | (simp +contextual; omega)) rfl ?_
        refine AOpsO.nil ?_
        refine AW.cond (c := .tmp 36) (by conv => lhs; simp) trivial ?_ ?_
        · intro h36
          have hlen := eachM_len h36
          refine AW.runDrawK tok mixed [0, 5, 6, 7, 8] 11 [[0], [8], [8], [39], [37, 38, 40], [6], [8], [8], [44], [42, 43, 45], [41, 46]] [.nilp, .bool q] [] (by kernel_rfl) (by intro C; conv => lhs; simp) (by simp [hm]; omega) (by simp [Sm.sum, Sm.foot, Sm.tch, Sm.refs]; kernel_rfl) (by intro C; conv => lhs; simp) (by first | with_reducible exact True.intro | omega | simp | (simp; omega) | (simp +contextual; omega)) ?_
          refine AW.regionO [] ?_
          refine AOpsO.one tok [0, 5, 6, 7, 27] (by intro C; conv => lhs; simp) (by first | with_reducible exact True.intro | omega | simp | (simp; omega) | (simp +contextual; omega)) rfl ?_
          refine AOpsO.one tok [0, 5, 6, 7, 28] (by intro C; conv => lhs; simp) (by first | with_reducible exact True.intro | omega | simp | (simp; omega) | (simp +contextual; omega)) rfl ?_
          refine AOpsO.one tok [0, 5, 6, 7, 8] (by intro C; conv => lhs; simp) (by first | with_reducible exact True.intro | omega | simp | (simp; omega) | (simp +contextual; omega)) rfl ?_
          refine AOpsO.nil ?_
          exact ⟨k + 1, ⟨by omega, hno'⟩, by omega, upds_le (by simp [hes, h36]), rfl, by simp [hes, h36], by simp [hes, h36]⟩
        · intro h36
          refine AW.skip ?_
          refine AW.regionO [] ?_
          refine AOpsO.one tok [0, 5, 6, 7, 27] (by intro C; conv => lhs; simp) (by first | with_reducible exact True.intro | omega | simp | (simp; omega) | (simp +contextual; omega)) rfl ?_
          refine AOpsO.one tok [0, 5, 6, 7, 28] (by intro C; conv => lhs; simp) (by first | with_reducible exact True.intro | omega | simp | (simp; omega) | (simp +contextual; omega)) rfl ?_
          refine AOpsO.one tok [0, 5, 6, 7, 8] (by intro C; conv => lhs; simp) (by first | with_reducible exact True.intro | omega | simp | (simp; omega) | (simp +contextual; omega)) rfl ?_
          refine AOpsO.nil ?_
          exact ⟨k + 1, ⟨by omega, hno'⟩, by omega, upds_le (by simp [hes, h36]), rfl, by simp [hes, h36], by simp [hes, h36]⟩
    · intro h26
      simp at h26
      have hkm : k = m.length := by omega
      subst hkm
      rw [List.take_length] at hno
      have hm := match_ev (G := G) m p (by omega) (by omega)
      rw [eachM_end hno] at hm
      refine AW.exit ?_
      simp
      refine AW.seqRegionO [.nilp, .bool (eachM m p m.length)] ?_
      refine AOpsO.one tok [0, 6, 7, 48] (by intro C; conv => lhs; simp) (by first | with_reducible exact True.intro | (simp [hm]; done) | omega | simp | (simp; omega) | (simp +contextual; omega)) rfl ?_
      refine AOpsO.one tok [0, 6, 7, 49] (by intro C; conv => lhs; simp) (by first | with_reducible exact True.intro | (simp [hm]; done) | omega | simp | (simp; omega) | (simp +contextual; omega)) rfl ?_
      refine AOpsO.oneIf tok [6, 7, 49, 50] 49 (by intro C; conv => lhs; simp) (by first | with_reducible exact True.intro | (simp [hm]; done) | omega | simp | (simp; omega) | (simp +contextual; omega)) rfl rfl ?_
      refine AOpsO.oneIf tok [7, 49, 50, 51] 49 (by intro C; conv => lhs; simp) (by first | with_reducible exact True.intro | (simp [hm]; done) | omega | simp | (simp; omega) | (simp +contextual; omega)) rfl rfl ?_
      refine AOpsO.oneIf tok [7, 49, 52] 49 (by intro C; conv => lhs; simp) (by first | with_reducible exact True.intro | (simp [hm]; done) | omega | simp | (simp; omega) | (simp +contextual; omega)) rfl rfl ?_
      refine AOpsO.oneIf tok [49, 52, 53] 49 (by intro C; conv => lhs; simp) (by first | with_reducible exact True.intro | (simp [hm]; done) | omega | simp | (simp; omega) | (simp +contextual; omega)) rfl rfl ?_
      refine AOpsO.oneIf tok [49, 54] 49 (by intro C; conv => lhs; simp) (by first | with_reducible exact True.intro | (simp [hm]; done) | omega | simp | (simp; omega) | (simp +contextual; omega)) rfl rfl ?_
      refine AOpsO.one tok [55] (by intro C; conv => lhs; simp) (by first | with_reducible exact True.intro | (simp [hm]; done) | omega | simp | (simp; omega) | (simp +contextual; omega)) rfl ?_
      refine AOpsO.one tok [4] (by intro C; conv => lhs; simp) (by first | with_reducible exact True.intro | (simp [hm]; done) | omega | simp | (simp; omega) | (simp +contextual; omega)) rfl ?_
      refine AOpsO.nil ?_
      exact AW.ret ⟨.inr rfl, _, _, by (conv => lhs; simp), trivial, by simp⟩
end Go.Proofs.YtdploelkmlbhnaaDoor
