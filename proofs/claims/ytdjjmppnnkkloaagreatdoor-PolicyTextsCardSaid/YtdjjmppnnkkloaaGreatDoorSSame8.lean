import Derived.Test.YtdjjmppnnkkloaaGreatDoorK2
import Derived.Test.YtdjjmppnnkkloaaGreatDoorSSame
import Derived.Test.YtdjjmppnnkkloaaGreatDoorM3
namespace Go.Proofs.YtdjjmppnnkkloaaGreatDoor
open Sy Go
set_option maxRecDepth 100000
set_option maxHeartbeats 4000000
set_option linter.unusedSimpArgs false
set_option linter.unusedVariables false
variable {G : Glob}
theorem refPolSame_ev (p : Pol) (hp : ∀ m ∈ p.marks, AFn Tryz.prog G 40 [.sl 3 (m.path.map Step.enc), .sl 3 (m.path.map Step.enc)] (.bool true)) (hlm : p.cats.length ≤ 1000000 ∧ p.marks.length ≤ 1000000) : AFn Tryz.prog G 13 [p.enc, p.enc] (.bool true) := by
  refine AFn.introU tok Tryz.func13 (by kernel_rfl) rfl rfl ?_
  simp only [Tryz.f13, enumA, List.map_cons, List.map_nil]
  refine rgn [] [[], [], [2, 3]] ?_
  iterate 3 refine op1 tok ?_
  refine runEnd ?_
  refine AW.seq ?_
  refine rgn [] [[], [], [], [], [2, 3, 12], [], [], [], [], [], [2, 3, 13, 18], [], [], [], [2, 3, 20, 22], [], [], [], [2, 3, 26], [], [], [], [], [], [2, 3, 27, 30, 32], [], [], [2, 3, 35], [], [], [], [], [], [2, 3, 36, 39, 41], [], [], [2, 3, 44]] ?_
  iterate 37 first | refine op1 tok ?_ | refine op2 tok ?_
  refine runEnd ?_
  refine cnd ?_ ?_
  · intro h44
    try simp at h44
  · intro h44
    try simp at h44
    refine AW.skip ?_
    refine AW.seq ?_
    refine rgn [] [[]] ?_
    refine op1 tok ?_
    refine runEnd ?_
    refine AW.block ?_
    refine AW.loop (α := Nat) (fun k => k ≤ p.cats.length) (fun k => ⟨upds 100 [(2, .ptr 2 0), (3, .ptr 3 0), (5, .p (.int .i64 k))], [], [(2, .vars 25 [.p (.sl 1 (p.cats.map PD.str)), .p (.sl 2 (p.marks.map Mk.enc)), .p (.str p.token), .p (.int .i64 p.fuel), .p (.int .i64 p.quota)]), (3, .vars 25 [.p (.sl 1 (p.cats.map PD.str)), .p (.sl 2 (p.marks.map Mk.enc)), .p (.str p.token), .p (.int .i64 p.fuel), .p (.int .i64 p.quota)])], 0⟩) (fun k => p.cats.length - k) (0) (by omega) ⟨upds_le (by simp), rfl, by simp, by simp⟩ ?_
    rintro k hk
    refine AW.seq ?_
    refine rgn [] [[], [], [], [], [2, 3, 5, 49]] ?_
    iterate 5 refine op1 tok ?_
    refine runEnd ?_
    refine cnd ?_ ?_
    · intro h49
      try simp at h49
      obtain ⟨c, hc⟩ : ∃ c, p.cats[k]? = some c := ⟨p.cats[k], by simp [h49]⟩
      refine AW.skip ?_
      refine AW.seq ?_
      refine AW.block ?_
      refine AW.seqDrawS tok mixed 11 [[2], [52], [5], [53, 54], [55], [3], [57], [5], [58, 59], [60], [56, 61]] [.str c, .str c] [] (by kernel_rfl) ?_
      iterate 11 refine d1 ?_ (hv := by first | with_reducible exact True.intro | (first | (simp [hc]; done) | (simp [hc]; omega); done) | omega | simp | (simp; omega) | (simp +contextual; omega))
      refine DGo.nil (by kernel_rfl) ⟨by kernel_rfl, ?_⟩
      refine AOpsO.nil ?_
      refine cnd ?_ ?_
      · intro h62
        try simp at h62
      · intro h62
        try simp at h62
        refine AW.skip ?_
        refine rgz [] [[], [], [2, 3, 5]] ?_
        iterate 3 refine op1 tok ?_
        refine runEnd ?_
        exact ⟨k + 1, by omega, by omega, upds_le (by simp), rfl, by simp, by simp⟩
    · intro h49
      try simp at h49
      refine AW.exit ?_
      simp
      refine AW.seq ?_
      refine rgn [] [[]] ?_
      refine op1 tok ?_
      refine runEnd ?_
      refine AW.block ?_
      refine AW.loop (α := Nat) (fun k => k ≤ p.marks.length) (fun k => ⟨upds 100 [(2, .ptr 2 0), (3, .ptr 3 0), (6, .p (.int .i64 k))], [], [(2, .vars 25 [.p (.sl 1 (p.cats.map PD.str)), .p (.sl 2 (p.marks.map Mk.enc)), .p (.str p.token), .p (.int .i64 p.fuel), .p (.int .i64 p.quota)]), (3, .vars 25 [.p (.sl 1 (p.cats.map PD.str)), .p (.sl 2 (p.marks.map Mk.enc)), .p (.str p.token), .p (.int .i64 p.fuel), .p (.int .i64 p.quota)])], 0⟩) (fun k => p.marks.length - k) (0) (by omega) ⟨upds_le (by simp), rfl, by simp, by simp⟩ ?_
      rintro k hk
      refine AW.seq ?_
      refine rgn [] [[], [], [], [], [2, 3, 6, 67]] ?_
      iterate 5 refine op1 tok ?_
      refine runEnd ?_
      refine cnd ?_ ?_
      · intro h67
        try simp at h67
        obtain ⟨x, hx⟩ : ∃ x, p.marks[k]? = some x := ⟨p.marks[k], by simp [h67]⟩
        have hix := hp x (List.mem_of_getElem? hx)
        refine AW.skip ?_
        refine AW.seq ?_
        refine AW.block ?_
        refine AW.seqDrawS tok mixed 13 [[2], [70], [6], [71, 72], [73], [74], [3], [76], [6], [77, 78], [79], [80], [75, 81]] [x.enc, x.enc, .nilp, .bool true] [] (by kernel_rfl) ?_
        iterate 13 refine d1 ?_ (hv := by first | with_reducible exact True.intro | (first | exact hix | (simp [hx]; done) | (simp [hx]; omega); done) | omega | simp | (simp; omega) | (simp +contextual; omega))
        refine DGo.nil (by kernel_rfl) ⟨by kernel_rfl, ?_⟩
        refine AOpsO.run [[2, 3, 6, 7]] ?_
        refine op1 tok ?_
        refine runEnd ?_
        refine AW.seqDrawS tok mixed 17 [[7], [83], [84], [2, 85], [86, 85], [6, 85], [87, 88, 85], [89, 85], [90, 85], [3, 85], [92, 85], [6, 85], [93, 94, 85], [95, 85], [96, 85], [91, 97, 85], [85, 98]] [x.enc, x.enc] [] (by kernel_rfl) ?_
        iterate 3 refine d1 ?_ (hv := by first | with_reducible exact True.intro | (first | (simp [hx]; done) | (simp [hx]; omega); done) | omega | simp | (simp; omega) | (simp +contextual; omega))
        iterate 13 refine d2 85 rfl rfl ?_ (hv := by first | with_reducible exact True.intro | (first | (simp [hx]; done) | (simp [hx]; omega); done) | omega | simp | (simp; omega) | (simp +contextual; omega))
        refine d1 ?_ (hv := by first | with_reducible exact True.intro | (first | (simp [hx]; done) | (simp [hx]; omega); done) | omega | simp | (simp; omega) | (simp +contextual; omega))
        refine DGo.nil (by kernel_rfl) ⟨by kernel_rfl, ?_⟩
        refine AOpsO.nil ?_
        refine cnd ?_ ?_
        · intro h99
          try simp at h99
        · intro h99
          try simp at h99
          refine AW.skip ?_
          refine rgz [] [[], [], [2, 3, 6]] ?_
          iterate 3 refine op1 tok ?_
          refine runEnd ?_
          exact ⟨k + 1, by omega, by omega, upds_le (by simp), rfl, by simp, by simp⟩
      · intro h67
        try simp at h67
        refine AW.exit ?_
        simp
        refine rgn [] [[]] ?_
        refine op1 tok ?_
        refine runEnd ?_
        exact AW.ret ⟨.inr rfl, _, _, by (conv => lhs; simp), trivial, by simp⟩
end Go.Proofs.YtdjjmppnnkkloaaGreatDoor
