import Derived.Test.YtgoepemmcibdaaaGreatDoorSRefRest
import Derived.Test.YtgoepemmcibdaaaGreatDoorSRefDecCmp
import Derived.Test.YtgoepemmcibdaaaGreatDoorSOrd2
namespace Go.Proofs.YtgoepemmcibdaaaGreatDoor
open Sy Go
set_option maxRecDepth 100000
set_option maxHeartbeats 4000000
set_option linter.unusedSimpArgs false
set_option linter.unusedVariables false
variable {G : Glob}
/-- A text as a value. -/
def txtV (s : List UInt8) : Val := .mk 5 0 dc0 s [] [] 0
theorem rcmpL_drop {α : Type} {p : α → α → Int} {l m : List α} {k : Nat} {x y : α} (hx : l[k]? = some x) (hy : m[k]? = some y) : cmpL p (l.drop k) (m.drop k) = if p x y ≠ 0 then p x y else cmpL p (l.drop (k + 1)) (m.drop (k + 1)) := by
  obtain ⟨h1, rfl⟩ := List.getElem?_eq_some_iff.1 hx
  obtain ⟨h2, rfl⟩ := List.getElem?_eq_some_iff.1 hy
  rw [List.drop_eq_getElem_cons h1, List.drop_eq_getElem_cons h2]; rfl
theorem cmpL_nilL {α : Type} {p : α → α → Int} {m : List α} : cmpL p [] m = if 0 < m.length then -1 else 0 := by cases m <;> simp [cmpL]
theorem cmpL_nilR {α : Type} {p : α → α → Int} {l : List α} : cmpL p l [] = if 0 < l.length then 1 else 0 := by cases l <;> simp [cmpL]
theorem rcmpL_end {α : Type} {p : α → α → Int} {l m : List α} {k : Nat} (h : l.length ≤ k ∨ m.length ≤ k) (h1 : k ≤ l.length) (h2 : k ≤ m.length) : cmpL p (l.drop k) (m.drop k) = if l.length < m.length then -1 else if m.length < l.length then 1 else 0 := by
  by_cases h3 : l.length = k
  · rw [List.drop_eq_nil_of_le (by omega), cmpL_nilL, List.length_drop]; (repeat' split) <;> omega
  · rw [show m.drop k = [] from List.drop_eq_nil_of_le (by omega), cmpL_nilR, List.length_drop]; (repeat' split) <;> omega
theorem lists_ev (l m : List Val) (p : Val → Val → Int) (hlm : l.length ≤ 1000000) (hg : ∀ x ∈ l, ∀ y ∈ m, AFn Tryz.prog G 26 [x.enc, y.enc] (.int .i64 (p x y))) : AFn Tryz.prog G 60 [.sl 9 (l.map Val.enc), .sl 9 (m.map Val.enc)] (.int .i64 (cmpL p l m)) := by
  refine AFn.introU tok Tryz.func60 (by kernel_rfl) rfl rfl ?_
  simp only [Tryz.f60, enumA, List.map_cons, List.map_nil]
  refine AW.seqRegionO [] ?_
  refine s1 tok [0, 1] ?_
  refine AOpsO.nil ?_
  refine AW.seq ?_
  refine AW.seqRegionO [] ?_
  refine s1 tok [0, 1, 5] ?_
  refine AOpsO.nil ?_
  refine AW.block ?_
  refine AW.loop (α := Nat) (fun k => k ≤ l.length ∧ k ≤ m.length ∧ cmpL p l m = cmpL p (l.drop k) (m.drop k)) (fun k => ⟨upds 41 [(0, .p (.sl 9 (l.map Val.enc))), (1, .p (.sl 9 (m.map Val.enc))), (5, .p (.int .i64 k))], [], [], 0⟩) (fun k => l.length - k) (0) ⟨by omega, by omega, rfl⟩ ⟨upds_le (by simp), rfl, by simp, by simp⟩ ?_
  rintro k ⟨hk, hk2, hall⟩
  refine AW.seq ?_
  refine AW.seqRegionO [] ?_
  refine s1 tok [0, 1, 5, 7] ?_
  refine s1 tok [0, 1, 5, 7, 8] ?_
  refine s1 tok [0, 1, 5, 7, 9] ?_
  refine s1 tok [0, 1, 5, 10] ?_
  refine s1 tok [0, 1, 5, 11] ?_
  refine s2 tok [0, 1, 5, 11, 12] 11 rfl rfl ?_
  refine s2 tok [0, 1, 5, 11, 12, 13] 11 rfl rfl ?_
  refine s2 tok [0, 1, 5, 11, 12, 14] 11 rfl rfl ?_
  refine s2 tok [0, 1, 5, 11, 15] 11 rfl rfl ?_
  refine s1 tok [0, 1, 5, 16] ?_
  refine AOpsO.nil ?_
  refine AW.cond (c := .tmp 16) (by conv => lhs; simp) trivial ?_ ?_
  · intro h16
    try simp at h16
    obtain ⟨x, hx⟩ : ∃ x, l[k]? = some x := ⟨l[k]'(by omega), by simp <;> omega⟩
    obtain ⟨y, hy⟩ : ∃ y, m[k]? = some y := ⟨m[k]'(by omega), by simp <;> omega⟩
    have hst := rcmpL_drop (p := p) hx hy
    have hgv := hg x (List.mem_of_getElem? hx) y (List.mem_of_getElem? hy)
    simp only [Val.enc_def] at hgv
    refine AW.skip ?_
    refine AW.seq ?_
    refine AW.block ?_
    refine AW.seqDrawS tok mixed 9 [[0], [5], [19, 20], [21], [1], [5], [23, 24], [25], [22, 26]] [x.enc, y.enc, .nilp, .int .i64 (p x y)] [] (by kernel_rfl) ?_
    refine d1 ?_
    refine d1 ?_
    refine d1 ?_ (hv := by first | with_reducible exact True.intro | (first | (simp [hx]; done) | (simp [hy]; done) | exact hgv; done) | omega | simp | (simp; omega) | (simp +contextual; omega))
    refine d1 ?_ (hv := by first | with_reducible exact True.intro | (first | (simp [hx]; done) | (simp [hy]; done) | exact hgv; done) | omega | simp | (simp; omega) | (simp +contextual; omega))
    refine d1 ?_
    refine d1 ?_
    refine d1 ?_ (hv := by first | with_reducible exact True.intro | (first | (simp [hx]; done) | (simp [hy]; done) | exact hgv; done) | omega | simp | (simp; omega) | (simp +contextual; omega))
    refine d1 ?_ (hv := by first | with_reducible exact True.intro | (first | (simp [hx]; done) | (simp [hy]; done) | exact hgv; done) | omega | simp | (simp; omega) | (simp +contextual; omega))
    refine d1 ?_ (hv := by first | with_reducible exact True.intro | (first | (simp [hx]; done) | (simp [hy]; done) | exact hgv; done) | omega | simp | (simp; omega) | (simp +contextual; omega))
    refine DGo.nil (by kernel_rfl) ⟨by kernel_rfl, ?_⟩
    refine s1 tok [0, 1, 5, 6] ?_
    refine AOpsO.nil ?_
    refine AW.seqRegionO [] ?_
    refine s1 tok [0, 1, 5, 6, 28] ?_
    refine s1 tok [0, 1, 5, 6, 29] ?_
    refine AOpsO.nil ?_
    refine AW.cond (c := .tmp 29) (by conv => lhs; simp) trivial ?_ ?_
    · intro h29
      try simp at h29
      have hR : cmpL p l m = p x y := by rw [hall, hst, if_pos h29]
      refine AW.seqRegionO [] ?_
      refine s1 tok [30] ?_
      refine s1 tok [4] ?_
      refine AOpsO.nil ?_
      exact AW.ret ⟨.inr rfl, _, _, by (conv => lhs; simp), trivial, by simp [hR]⟩
    · intro h29
      try simp at h29
      have hnx : cmpL p l m = cmpL p (l.drop (k + 1)) (m.drop (k + 1)) := by rw [hall, hst, if_neg (by simp [h29])]
      refine AW.skip ?_
      refine AW.regionO [] ?_
      refine s1 tok [0, 1, 17] ?_
      refine s1 tok [0, 1, 18] ?_
      refine s1 tok [0, 1, 5] ?_
      refine AOpsO.nil ?_
      exact ⟨k + 1, ⟨by omega, by omega, hnx⟩, by omega, upds_le (by simp), rfl, by simp, by simp⟩
  · intro h16
    try simp at h16
    have hR : cmpL p l m = if l.length < m.length then -1 else if m.length < l.length then 1 else 0 := by rw [hall]; exact rcmpL_end (by omega) hk hk2
    refine AW.exit ?_
    simp
    refine AW.seq ?_
    refine AW.seqRegionO [] ?_
    refine s1 tok [0, 1, 31] ?_
    refine s1 tok [0, 1, 32] ?_
    refine s1 tok [0, 1, 32, 33] ?_
    refine s1 tok [0, 1, 32, 34] ?_
    refine s1 tok [0, 1, 35] ?_
    refine AOpsO.nil ?_
    refine AW.cond (c := .tmp 35) (by conv => lhs; simp) trivial ?_ ?_
    · intro h35
      try simp at h35
      rw [if_pos h35] at hR
      refine AW.seqRegionO [] ?_
      refine s1 tok [4] ?_
      refine AOpsO.nil ?_
      exact AW.ret ⟨.inr rfl, _, _, by (conv => lhs; simp), trivial, by simp [hR]⟩
    · intro h35
      try simp at h35
      rw [if_neg (by omega)] at hR
      refine AW.skip ?_
      refine AW.seq ?_
      refine AW.seqRegionO [] ?_
      refine s1 tok [1, 36] ?_
      refine s1 tok [1, 37] ?_
      refine s1 tok [37, 38] ?_
      refine s1 tok [37, 39] ?_
      refine s1 tok [40] ?_
      refine AOpsO.nil ?_
      refine AW.cond (c := .tmp 40) (by conv => lhs; simp) trivial ?_ ?_
      · intro h40
        try simp at h40
        rw [if_pos h40] at hR
        refine AW.seqRegionO [] ?_
        refine s1 tok [4] ?_
        refine AOpsO.nil ?_
        exact AW.ret ⟨.inr rfl, _, _, by (conv => lhs; simp), trivial, by simp [hR]⟩
      · intro h40
        try simp at h40
        rw [if_neg (by omega)] at hR
        refine AW.skip ?_
        refine AW.seqRegionO [] ?_
        refine s1 tok [4] ?_
        refine AOpsO.nil ?_
        exact AW.ret ⟨.inr rfl, _, _, by (conv => lhs; simp), trivial, by simp [hR]⟩
theorem words_ev (l : List (List UInt8)) (hlm : l.length ≤ 1000000) : AFn Tryz.prog G 62 [.sl 1 (l.map PD.str)] (.sl 9 ((l.map txtV).map Val.enc)) := by
  refine AFn.introU tok Tryz.func62 (by kernel_rfl) rfl rfl ?_
  simp only [Tryz.f62, enumA, List.map_cons, List.map_nil]
  refine AW.seqRegionO [] ?_
  refine s1 tok [0] ?_
  refine AOpsO.nil ?_
  refine AW.seqRegionO [] ?_
  refine s1 tok [0, 5] ?_
  refine s1 tok [0, 3] ?_
  refine AOpsO.nil ?_
  refine AW.seq ?_
  refine AW.seqRegionO [] ?_
  refine s1 tok [0, 3, 4] ?_
  refine AOpsO.nil ?_
  refine AW.block ?_
  refine AW.loop (α := Nat) (fun k => k ≤ l.length) (fun k => ⟨upds 21 [(0, .p (.sl 1 (l.map PD.str))), (3, .ms 5), (4, .p (.int .i64 k))], [], [(5, .row 31 9 (((l.take k).map txtV).map Val.enc))], 0⟩) (fun k => l.length - k) (0) (by omega) ⟨upds_le (by simp), rfl, by simp, by simp⟩ ?_
  rintro k hk
  refine AW.seq ?_
  refine AW.seqRegionO [] ?_
  refine s1 tok [0, 3, 4, 6] ?_
  refine s1 tok [0, 3, 4, 6, 7] ?_
  refine s1 tok [0, 3, 4, 6, 8] ?_
  refine s1 tok [0, 3, 4, 9] ?_
  refine AOpsO.nil ?_
  refine AW.cond (c := .tmp 9) (by conv => lhs; simp) trivial ?_ ?_
  · intro h9
    try simp at h9
    obtain ⟨x, hx⟩ : ∃ x, l[k]? = some x := ⟨l[k], by simp [h9]⟩
    refine AW.skip ?_
    refine AW.seq ?_
    refine AW.block ?_
    refine AW.regionO [.str x, (txtV x).enc] ?_
    refine s1 tok [0, 4, 12] ?_
    refine s1 tok [0, 4, 12, 13] ?_
    refine s1 tok [0, 4, 12, 13, 14] ?_
    refine s1 tok [0, 4, 12, 15] ?_ (hv := by first | with_reducible exact True.intro | (first | (simp [hx]; done) | (simp [txtV, dc0]; done) | (simp; omega); done) | omega | simp | (simp; omega) | (simp +contextual; omega))
    refine s1 tok [0, 4, 12, 16] ?_ (hv := by first | with_reducible exact True.intro | (first | (simp [hx]; done) | (simp [txtV, dc0]; done) | (simp; omega); done) | omega | simp | (simp; omega) | (simp +contextual; omega))
    refine s1 tok [0, 4, 12, 17] ?_ (hv := by first | with_reducible exact True.intro | (first | (simp [hx]; done) | (simp [txtV, dc0]; done) | (simp; omega); done) | omega | simp | (simp; omega) | (simp +contextual; omega))
    refine s1 tok [0, 4, 12, 18] ?_ (hv := by first | with_reducible exact True.intro | (first | (simp [hx]; done) | (simp [txtV, dc0]; done) | (simp; omega); done) | omega | simp | (simp; omega) | (simp +contextual; omega))
    refine s1 tok [0, 4, 19] ?_ (hv := by first | with_reducible exact True.intro | (first | (simp [hx]; done) | (simp [txtV, dc0]; done) | (simp; omega); done) | omega | simp | (simp; omega) | (simp +contextual; omega))
    refine s1 tok [0, 3, 4] ?_
    refine AOpsO.nil ?_
    refine AW.regionO [] ?_
    refine s1 tok [0, 3, 10] ?_
    refine s1 tok [0, 3, 11] ?_
    refine s1 tok [0, 3, 4] ?_
    refine AOpsO.nil ?_
    exact ⟨k + 1, by omega, by omega, upds_le (by simp [List.take_add_one, hx]), rfl, by simp [List.take_add_one, hx], by simp [List.take_add_one, hx]⟩
  · intro h9
    try simp at h9
    refine AW.exit ?_
    simp
    refine AW.seqRegionO [] ?_
    refine s1 tok [20] ?_
    refine s1 tok [2] ?_
    refine AOpsO.nil ?_
    exact AW.ret ⟨.inr rfl, _, _, by (conv => lhs; simp), trivial, by simp; exact List.take_of_length_le (by simpa using h9)⟩
end Go.Proofs.YtgoepemmcibdaaaGreatDoor
