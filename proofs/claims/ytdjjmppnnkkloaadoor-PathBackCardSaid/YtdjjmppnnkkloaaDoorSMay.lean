import Derived.Test.YtdjjmppnnkkloaaDoorM3
import Derived.Test.YtdjjmppnnkkloaaDoorSPath6
import Derived.Test.YtdjjmppnnkkloaaDoorSLibU
namespace Go.Proofs.YtdjjmppnnkkloaaDoor
open Sy Go
set_option maxRecDepth 100000
set_option maxHeartbeats 4000000
set_option linter.unusedSimpArgs false
set_option linter.unusedVariables false
variable {G : Glob}

theorem Valid_ev (hG : U8 G) (s : List UInt8) : AFn Tryd.prog G 19 [.str s] (.bool (Lib.validD s)) := by
  refine AFn.introU tok Tryd.func19 (by kernel_rfl) rfl rfl ?_
  simp only [Tryd.f19, enumA, List.map_cons, List.map_nil]
  refine AW.seqRegionO [] ?_
  refine s1 tok [0] ?_
  refine AOpsO.nil ?_
  refine AW.seqRegionO [.nilp, .bool (Lib.validD s)] ?_
  refine s1 tok [3] ?_
  refine s1 tok [4] ?_ (hv := by first | with_reducible exact True.intro | (simp [ValidString_ev hG]; done) | omega | simp | (simp; omega) | (simp +contextual; omega))
  refine s1 tok [2] ?_
  refine AOpsO.nil ?_
  exact AW.ret ⟨.inr rfl, _, _, by (conv => lhs; simp), trivial, by simp⟩
def mayM (t : Step) : Bool := stepM t (Lib.validD t.key)
def mayL (l : List Step) : Int := if 8 < l.length then 3 else if l.all mayM then 0 else 21
theorem stepV_ev (hG : U8 G) (t : Step) : AFn Tryd.prog G 13 [t.enc] (.bool (mayM t)) := step_ev t _ fun _ _ => Valid_ev hG t.key
theorem May_ev (hG : U8 G) (l : List Step) : AFn Tryd.prog G 6 [.sl 3 (l.map Step.enc)] (.int .i64 (mayL l)) := by
  refine AFn.introU tok Tryd.func6 (by kernel_rfl) rfl rfl ?_
  simp only [Tryd.f6, enumA, List.map_cons, List.map_nil]
  refine AW.seqRegionO [] ?_
  refine s1 tok [0] ?_
  refine AOpsO.nil ?_
  refine AW.seq ?_
  refine AW.seqRegionO [] ?_
  refine s1 tok [0, 5] ?_
  refine s1 tok [0, 6] ?_
  refine s1 tok [0, 7] ?_
  refine AOpsO.nil ?_
  refine AW.cond (c := .tmp 7) (by conv => lhs; simp) trivial ?_ ?_
  · intro h7
    try simp at h7
    refine AW.seqRegionO [] ?_
    refine s1 tok [2] ?_
    refine AOpsO.nil ?_
    exact AW.ret ⟨.inr rfl, _, _, by (conv => lhs; simp), trivial, by simp [mayL, show 8 < l.length by omega]⟩
  · intro h7
    try simp at h7
    refine AW.skip ?_
    refine AW.seq ?_
    refine AW.seqRegionO [] ?_
    refine s1 tok [8] ?_
    refine s1 tok [8, 9] ?_
    refine s1 tok [8, 9, 10] ?_
    refine AOpsO.nil ?_
    refine AW.block ?_
    refine AW.loop (α := Nat) (fun k => k ≤ l.length ∧ (l.take k).all mayM = true) (fun k => ⟨upds 18 [(8, .p (.sl 3 (l.map Step.enc))), (9, .p (.int .i64 l.length)), (10, .p (.int .i64 k))], [], [], 0⟩) (fun k => l.length - k) (0) ⟨by omega, rfl⟩ ⟨upds_le (by simp), rfl, by simp, by simp⟩ ?_
    rintro k ⟨hk, hall⟩
    refine AW.seqRegionO [] ?_
    refine s1 tok [8, 9, 10, 11] ?_
    refine AOpsO.nil ?_
    refine AW.seq ?_
    refine AW.cond (c := .tmp 11) (by conv => lhs; simp) trivial ?_ ?_
    · intro h11
      try simp at h11
      obtain ⟨t, ht⟩ : ∃ t, l[k]? = some t := ⟨l[k], by simp [h11]⟩
      have hM := stepV_ev hG t
      simp at hM
      refine AW.skip ?_
      refine AW.seq ?_
      refine AW.block ?_
      refine AW.seqRegionO [t.enc] ?_
      refine s1 tok [8, 9, 10, 12] ?_ (hv := by first | with_reducible exact True.intro | (simp [ht]; done) | omega | simp | (simp; omega) | (simp +contextual; omega))
      refine s1 tok [8, 9, 10, 13] ?_ (hv := by first | with_reducible exact True.intro | (simp [ht]; done) | omega | simp | (simp; omega) | (simp +contextual; omega))
      refine s1 tok [4, 8, 9, 10, 13] ?_
      refine s1 tok [4, 8, 9, 10] ?_ (hv := by first | with_reducible exact True.intro | (simp [ht]; done) | omega | simp | (simp; omega) | (simp +contextual; omega))
      refine AOpsO.nil ?_
      refine AW.seqRegionO [.nilp, .bool (mayM t)] ?_
      refine s1 tok [8, 9, 10, 14] ?_ (hv := by first | with_reducible exact True.intro | (simp [hM]; done) | omega | simp | (simp; omega) | (simp +contextual; omega))
      refine s1 tok [8, 9, 10, 15] ?_ (hv := by first | with_reducible exact True.intro | (simp [hM]; done) | omega | simp | (simp; omega) | (simp +contextual; omega))
      refine s1 tok [8, 9, 10, 16] ?_ (hv := by first | with_reducible exact True.intro | (simp [hM]; done) | omega | simp | (simp; omega) | (simp +contextual; omega))
      refine AOpsO.nil ?_
      refine AW.cond (c := .tmp 16) (by conv => lhs; simp) trivial ?_ ?_
      · intro h16
        try simp at h16
        have hno : l.all mayM = false := by
          rw [List.all_eq_false]
          exact ⟨t, List.mem_of_getElem? ht, by simp [h16]⟩
        refine AW.seqRegionO [] ?_
        refine s1 tok [2] ?_
        refine AOpsO.nil ?_
        exact AW.ret ⟨.inr rfl, _, _, by (conv => lhs; simp), trivial, by simp only [mayL, hno]; simp [show ¬ 8 < l.length by omega]⟩
      · intro h16
        try simp at h16
        refine AW.skip ?_
        refine AW.regionO [] ?_
        refine s1 tok [8, 9, 17] ?_
        refine s1 tok [8, 9, 10] ?_
        refine AOpsO.nil ?_
        exact ⟨k + 1, ⟨by omega, by rw [List.take_add_one, ht, List.all_append, hall]; simp [h16]⟩, by omega, upds_le (by simp), rfl, by simp, by simp⟩
    · intro h11
      try simp at h11
      rw [List.take_of_length_le h11] at hall
      refine AW.exit ?_
      simp
      refine AW.seqRegionO [] ?_
      refine s1 tok [2] ?_
      refine AOpsO.nil ?_
      exact AW.ret ⟨.inr rfl, _, _, by (conv => lhs; simp), trivial, by simp only [mayL, hall]; simp [show ¬ 8 < l.length by omega]⟩
end Go.Proofs.YtdjjmppnnkkloaaDoor
