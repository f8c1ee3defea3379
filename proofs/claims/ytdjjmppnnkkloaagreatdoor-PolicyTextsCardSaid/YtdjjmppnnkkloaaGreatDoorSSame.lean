import Derived.Test.YtdjjmppnnkkloaaGreatDoorM3
import Derived.Test.YtdjjmppnnkkloaaGreatDoorK1
namespace Go.Proofs.YtdjjmppnnkkloaaGreatDoor
open Sy Go
set_option maxRecDepth 100000
set_option linter.unusedSimpArgs false
set_option linter.unusedVariables false
variable {G : Glob}

theorem Step.ext' {t x : Step} (h1 : t.kind = x.kind) (h2 : t.key = x.key) (h3 : t.n = x.n) : t = x := by cases t; cases x; simp_all
theorem refPSame_ev (a b : List Step) : AFn Tryz.prog G 40 [.sl 3 (a.map Step.enc), .sl 3 (b.map Step.enc)] (.bool (decide (a = b))) := by
  refine AFn.introU tok Tryz.func40 (by kernel_rfl) rfl rfl ?_
  simp only [Tryz.f40, enumA, List.map_cons, List.map_nil]
  refine AW.slFactU (i := 0) rfl (by decide) ?_
  intro hla
  simp at hla
  refine rgn [] [[0, 1]] ?_
  refine op1 tok ?_
  refine runEnd ?_
  refine AW.seq ?_
  refine rgn [] [[], [], [], [], [0, 1, 10]] ?_
  iterate 5 refine op1 tok ?_
  refine runEnd ?_
  refine cnd ?_ ?_
  · intro h10
    try simp at h10
    have hne : a ≠ b := by rintro rfl; simp at h10
    refine rgn [] [[]] ?_
    refine op1 tok ?_
    refine runEnd ?_
    exact AW.ret ⟨.inr rfl, _, _, by (conv => lhs; simp), trivial, by simp [hne]⟩
  · intro h10
    try simp at h10
    refine AW.skip ?_
    refine AW.seq ?_
    refine rgn [] [[]] ?_
    refine op1 tok ?_
    refine runEnd ?_
    refine AW.block ?_
    refine AW.loop (α := Nat) (fun k => k ≤ a.length ∧ a.take k = b.take k) (fun k => ⟨upds 26 [(0, .p (.sl 3 (a.map Step.enc))), (1, .p (.sl 3 (b.map Step.enc))), (5, .p (.int .i64 k))], [], [], 0⟩) (fun k => a.length - k) (0) ⟨by omega, rfl⟩ ⟨upds_le (by simp), rfl, by simp, by simp⟩ ?_
    rintro k ⟨hk, hall⟩
    refine AW.seq ?_
    refine rgn [] [[], [], [], [0, 1, 5, 14]] ?_
    iterate 4 refine op1 tok ?_
    refine runEnd ?_
    refine cnd ?_ ?_
    · intro h14
      try simp at h14
      obtain ⟨t, ht⟩ : ∃ t, a[k]? = some t := ⟨a[k], by simp [h14]⟩
      obtain ⟨x, hx⟩ : ∃ x, b[k]? = some x := ⟨b[k]'(by omega), by simp [show k < b.length by omega]⟩
      refine AW.skip ?_
      refine AW.seq ?_
      refine AW.block ?_
      refine AW.seqRunDrawK tok mixed [0, 1, 5, 25] 9 [[0], [5], [17, 18], [19], [1], [5], [21, 22], [23], [20, 24]] [t.enc, x.enc] [] (by kernel_rfl) (by intro C; conv => lhs; simp) (by simp [ht, hx]) (by simp [Sm.sum, Sm.foot, Sm.tch, Sm.refs]; kernel_rfl) (by intro C; conv => lhs; simp) (by first | with_reducible exact True.intro | omega | simp | (simp; omega) | (simp +contextual; omega)) ?_
      refine cnd ?_ ?_
      · intro h25
        try simp at h25
        have hne : a ≠ b := by
          rintro rfl
          rw [ht] at hx; cases hx
          simp at h25
        refine rgn [] [[]] ?_
        refine op1 tok ?_
        refine runEnd ?_
        exact AW.ret ⟨.inr rfl, _, _, by (conv => lhs; simp), trivial, by simp [hne]⟩
      · intro h25
        try simp at h25
        have htx := Step.ext' h25.1 h25.2.1 h25.2.2
        have hall' : a.take (k + 1) = b.take (k + 1) := by
          rw [List.take_add_one, List.take_add_one, ht, hx, hall, htx]
        refine AW.skip ?_
        refine rgz [] [[], [], [0, 1, 5]] ?_
        iterate 3 refine op1 tok ?_
        refine runEnd ?_
        exact ⟨k + 1, ⟨by omega, hall'⟩, by omega, upds_le (by simp), rfl, by simp, by simp⟩
    · intro h14
      try simp at h14
      refine AW.exit ?_
      simp
      refine rgn [] [[]] ?_
      refine op1 tok ?_
      refine runEnd ?_
      exact AW.ret ⟨.inr rfl, _, _, by (conv => lhs; simp), trivial, by rw [List.take_of_length_le (by omega), List.take_of_length_le (by omega)] at hall; simp [hall]⟩
end Go.Proofs.YtdjjmppnnkkloaaGreatDoor
