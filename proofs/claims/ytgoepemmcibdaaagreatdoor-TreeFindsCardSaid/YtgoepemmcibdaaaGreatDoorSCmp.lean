import Derived.Test.YtgoepemmcibdaaaGreatDoorK1
import Derived.Test.YtgoepemmcibdaaaGreatDoorSVal
namespace Go.Proofs.YtgoepemmcibdaaaGreatDoor
open Sy Go
set_option maxRecDepth 100000
set_option maxHeartbeats 4000000
set_option linter.unusedSimpArgs false
set_option linter.unusedVariables false
variable {G : Glob}

/-- cmp.Compare of integers, and of texts. -/
def cmpI (a b : Int) : Int := if a < b then -1 else if b < a then 1 else 0
def cmpS (a b : List UInt8) : Int := if Op.bytesLess a b = true then -1 else if a = b then 0 else 1
/-- Rows are compared place by place, then by their lengths. -/
def cmpL {α : Type} (p : α → α → Int) : List α → List α → Int
  | [], [] => 0
  | [], _ :: _ => -1
  | _ :: _, [] => 1
  | x :: xs, y :: ys => if p x y ≠ 0 then p x y else cmpL p xs ys
theorem nanI_ev (a : Int) : AFn Tryz.prog G 73 [.int .i64 a] (.bool false) := by
  refine AFn.introU tok Tryz.func73 (by kernel_rfl) rfl rfl ?_
  simp only [Tryz.f73, enumA, List.map_cons, List.map_nil]
  refine AW.seqRegionO [] ?_
  refine s1 tok [0] ?_
  refine AOpsO.nil ?_
  refine AW.seqRegionO [] ?_
  refine s1 tok [0, 3] ?_
  refine s1 tok [3, 4] ?_
  refine s1 tok [5] ?_
  refine s1 tok [2] ?_
  refine AOpsO.nil ?_
  exact AW.ret ⟨.inr rfl, _, _, by (conv => lhs; simp), trivial, by simp⟩
theorem nanE_ev (a : Int) : AFn Tryz.prog G 77 [.int .i64 a] (.bool false) := by
  refine AFn.introU tok Tryz.func77 (by kernel_rfl) rfl rfl ?_
  simp only [Tryz.f77, enumA, List.map_cons, List.map_nil]
  refine AW.seqRegionO [] ?_
  refine s1 tok [0] ?_
  refine AOpsO.nil ?_
  refine AW.seqRegionO [] ?_
  refine s1 tok [0, 3] ?_
  refine s1 tok [3, 4] ?_
  refine s1 tok [5] ?_
  refine s1 tok [2] ?_
  refine AOpsO.nil ?_
  exact AW.ret ⟨.inr rfl, _, _, by (conv => lhs; simp), trivial, by simp⟩
theorem nanS_ev (a : List UInt8) : AFn Tryz.prog G 95 [.str a] (.bool false) := by
  refine AFn.introU tok Tryz.func95 (by kernel_rfl) rfl rfl ?_
  simp only [Tryz.f95, enumA, List.map_cons, List.map_nil]
  refine AW.seqRegionO [] ?_
  refine s1 tok [0] ?_
  refine AOpsO.nil ?_
  refine AW.seqRegionO [] ?_
  refine s1 tok [0, 3] ?_
  refine s1 tok [3, 4] ?_
  refine s1 tok [5] ?_
  refine s1 tok [2] ?_
  refine AOpsO.nil ?_
  exact AW.ret ⟨.inr rfl, _, _, by (conv => lhs; simp), trivial, by simp⟩
theorem cmpI_ev (a b : Int) : AFn Tryz.prog G 43 [.int .i64 a, .int .i64 b] (.int .i64 (cmpI a b)) := by
  refine AFn.introU tok Tryz.func43 (by kernel_rfl) rfl rfl ?_
  simp only [Tryz.f43, enumA, List.map_cons, List.map_nil]
  refine AW.seqRegionO [] ?_
  refine s1 tok [0, 1] ?_
  refine AOpsO.nil ?_
  refine AW.seqRegionO [.nilp, .bool false] ?_
  refine s1 tok [0, 1, 7] ?_
  refine s1 tok [0, 1, 8] ?_ (hv := by first | with_reducible exact True.intro | (exact nanI_ev a; done) | omega | simp | (simp; omega) | (simp +contextual; omega))
  refine s1 tok [0, 1, 5] ?_
  refine AOpsO.nil ?_
  refine AW.seqRegionO [.nilp, .bool false] ?_
  refine s1 tok [0, 1, 5, 9] ?_
  refine s1 tok [0, 1, 5, 10] ?_ (hv := by first | with_reducible exact True.intro | (exact nanI_ev b; done) | omega | simp | (simp; omega) | (simp +contextual; omega))
  refine s1 tok [0, 1, 5, 6] ?_
  refine AOpsO.nil ?_
  refine AW.seq ?_
  refine AW.seqRegionO [] ?_
  refine s1 tok [0, 1, 6, 11] ?_
  refine AOpsO.nil ?_
  refine AW.cond (c := .tmp 11) (by conv => lhs; simp) trivial ?_ ?_
  · intro h11
    try simp at h11
  · intro h11
    try simp at h11
    refine AW.skip ?_
    refine AW.seq ?_
    refine AW.seqRegionO [] ?_
    refine s1 tok [0, 1, 13] ?_
    refine AOpsO.nil ?_
    refine AW.cond (c := .tmp 13) (by conv => lhs; simp) trivial ?_ ?_
    · intro h13
      try simp at h13
    · intro h13
      try simp at h13
      refine AW.skip ?_
      refine AW.seq ?_
      refine AW.seqRegionO [] ?_
      refine s1 tok [0, 1, 14] ?_
      refine s1 tok [0, 1, 14, 15] ?_
      refine s1 tok [0, 1, 16] ?_
      refine AOpsO.nil ?_
      refine AW.cond (c := .tmp 16) (by conv => lhs; simp) trivial ?_ ?_
      · intro h16
        try simp at h16
        refine AW.seqRegionO [] ?_
        refine s1 tok [4] ?_
        refine AOpsO.nil ?_
        exact AW.ret ⟨.inr rfl, _, _, by (conv => lhs; simp), trivial, by simp [cmpI, h16]⟩
      · intro h16
        try simp at h16
        refine AW.skip ?_
        refine AW.seq ?_
        refine AW.seqRegionO [] ?_
        refine s1 tok [1, 17] ?_
        refine s1 tok [17, 18] ?_
        refine s1 tok [19] ?_
        refine AOpsO.nil ?_
        refine AW.cond (c := .tmp 19) (by conv => lhs; simp) trivial ?_ ?_
        · intro h19
          try simp at h19
          refine AW.seqRegionO [] ?_
          refine s1 tok [4] ?_
          refine AOpsO.nil ?_
          exact AW.ret ⟨.inr rfl, _, _, by (conv => lhs; simp), trivial, by simp [cmpI, h19]; omega⟩
        · intro h19
          try simp at h19
          refine AW.skip ?_
          refine AW.seqRegionO [] ?_
          refine s1 tok [4] ?_
          refine AOpsO.nil ?_
          exact AW.ret ⟨.inr rfl, _, _, by (conv => lhs; simp), trivial, by simp [cmpI]; omega⟩
theorem cmpE_ev (a b : Int) : AFn Tryz.prog G 47 [.int .i64 a, .int .i64 b] (.int .i64 (cmpI a b)) := by
  refine AFn.introU tok Tryz.func47 (by kernel_rfl) rfl rfl ?_
  simp only [Tryz.f47, enumA, List.map_cons, List.map_nil]
  refine AW.seqRegionO [] ?_
  refine s1 tok [0, 1] ?_
  refine AOpsO.nil ?_
  refine AW.seqRegionO [.nilp, .bool false] ?_
  refine s1 tok [0, 1, 7] ?_
  refine s1 tok [0, 1, 8] ?_ (hv := by first | with_reducible exact True.intro | (exact nanE_ev a; done) | omega | simp | (simp; omega) | (simp +contextual; omega))
  refine s1 tok [0, 1, 5] ?_
  refine AOpsO.nil ?_
  refine AW.seqRegionO [.nilp, .bool false] ?_
  refine s1 tok [0, 1, 5, 9] ?_
  refine s1 tok [0, 1, 5, 10] ?_ (hv := by first | with_reducible exact True.intro | (exact nanE_ev b; done) | omega | simp | (simp; omega) | (simp +contextual; omega))
  refine s1 tok [0, 1, 5, 6] ?_
  refine AOpsO.nil ?_
  refine AW.seq ?_
  refine AW.seqRegionO [] ?_
  refine s1 tok [0, 1, 6, 11] ?_
  refine AOpsO.nil ?_
  refine AW.cond (c := .tmp 11) (by conv => lhs; simp) trivial ?_ ?_
  · intro h11
    try simp at h11
  · intro h11
    try simp at h11
    refine AW.skip ?_
    refine AW.seq ?_
    refine AW.seqRegionO [] ?_
    refine s1 tok [0, 1, 13] ?_
    refine AOpsO.nil ?_
    refine AW.cond (c := .tmp 13) (by conv => lhs; simp) trivial ?_ ?_
    · intro h13
      try simp at h13
    · intro h13
      try simp at h13
      refine AW.skip ?_
      refine AW.seq ?_
      refine AW.seqRegionO [] ?_
      refine s1 tok [0, 1, 14] ?_
      refine s1 tok [0, 1, 14, 15] ?_
      refine s1 tok [0, 1, 16] ?_
      refine AOpsO.nil ?_
      refine AW.cond (c := .tmp 16) (by conv => lhs; simp) trivial ?_ ?_
      · intro h16
        try simp at h16
        refine AW.seqRegionO [] ?_
        refine s1 tok [4] ?_
        refine AOpsO.nil ?_
        exact AW.ret ⟨.inr rfl, _, _, by (conv => lhs; simp), trivial, by simp [cmpI, h16]⟩
      · intro h16
        try simp at h16
        refine AW.skip ?_
        refine AW.seq ?_
        refine AW.seqRegionO [] ?_
        refine s1 tok [1, 17] ?_
        refine s1 tok [17, 18] ?_
        refine s1 tok [19] ?_
        refine AOpsO.nil ?_
        refine AW.cond (c := .tmp 19) (by conv => lhs; simp) trivial ?_ ?_
        · intro h19
          try simp at h19
          refine AW.seqRegionO [] ?_
          refine s1 tok [4] ?_
          refine AOpsO.nil ?_
          exact AW.ret ⟨.inr rfl, _, _, by (conv => lhs; simp), trivial, by simp [cmpI, h19]; omega⟩
        · intro h19
          try simp at h19
          refine AW.skip ?_
          refine AW.seqRegionO [] ?_
          refine s1 tok [4] ?_
          refine AOpsO.nil ?_
          exact AW.ret ⟨.inr rfl, _, _, by (conv => lhs; simp), trivial, by simp [cmpI]; omega⟩
theorem cmpS_ev (a b : List UInt8) : AFn Tryz.prog G 80 [.str a, .str b] (.int .i64 (cmpS a b)) := by
  refine AFn.introU tok Tryz.func80 (by kernel_rfl) rfl rfl ?_
  simp only [Tryz.f80, enumA, List.map_cons, List.map_nil]
  refine AW.seqRegionO [] ?_
  refine s1 tok [0, 1] ?_
  refine AOpsO.nil ?_
  refine AW.seqRegionO [.nilp, .bool false] ?_
  refine s1 tok [0, 1, 7] ?_
  refine s1 tok [0, 1, 8] ?_ (hv := by first | with_reducible exact True.intro | (exact nanS_ev a; done) | omega | simp | (simp; omega) | (simp +contextual; omega))
  refine s1 tok [0, 1, 5] ?_
  refine AOpsO.nil ?_
  refine AW.seqRegionO [.nilp, .bool false] ?_
  refine s1 tok [0, 1, 5, 9] ?_
  refine s1 tok [0, 1, 5, 10] ?_ (hv := by first | with_reducible exact True.intro | (exact nanS_ev b; done) | omega | simp | (simp; omega) | (simp +contextual; omega))
  refine s1 tok [0, 1, 5, 6] ?_
  refine AOpsO.nil ?_
  refine AW.seq ?_
  refine AW.seqRegionO [] ?_
  refine s1 tok [0, 1, 6, 11] ?_
  refine AOpsO.nil ?_
  refine AW.cond (c := .tmp 11) (by conv => lhs; simp) trivial ?_ ?_
  · intro h11
    try simp at h11
  · intro h11
    try simp at h11
    refine AW.skip ?_
    refine AW.seq ?_
    refine AW.seqRegionO [] ?_
    refine s1 tok [0, 1, 13] ?_
    refine AOpsO.nil ?_
    refine AW.cond (c := .tmp 13) (by conv => lhs; simp) trivial ?_ ?_
    · intro h13
      try simp at h13
    · intro h13
      try simp at h13
      refine AW.skip ?_
      refine AW.seq ?_
      refine AW.seqRegionO [] ?_
      refine s1 tok [0, 1, 14] ?_
      refine s1 tok [0, 1, 14, 15] ?_
      refine s1 tok [0, 1, 16] ?_
      refine AOpsO.nil ?_
      refine AW.cond (c := .tmp 16) (by conv => lhs; simp) trivial ?_ ?_
      · intro h16
        try simp at h16
        refine AW.seqRegionO [] ?_
        refine s1 tok [4] ?_
        refine AOpsO.nil ?_
        exact AW.ret ⟨.inr rfl, _, _, by (conv => lhs; simp), trivial, by simp [cmpS, h16]⟩
      · intro h16
        try simp at h16
        refine AW.skip ?_
        refine AW.seq ?_
        refine AW.seqRegionO [] ?_
        refine s1 tok [1, 17] ?_
        refine s1 tok [17, 18] ?_
        refine s1 tok [19] ?_
        refine AOpsO.nil ?_
        refine AW.cond (c := .tmp 19) (by conv => lhs; simp) trivial ?_ ?_
        · intro h19
          try simp at h19
          refine AW.seqRegionO [] ?_
          refine s1 tok [4] ?_
          refine AOpsO.nil ?_
          exact AW.ret ⟨.inr rfl, _, _, by (conv => lhs; simp), trivial, by simp [cmpS, h19]⟩
        · intro h19
          try simp at h19
          have hab : a = b := h19 h16
          subst hab
          refine AW.skip ?_
          refine AW.seqRegionO [] ?_
          refine s1 tok [4] ?_
          refine AOpsO.nil ?_
          exact AW.ret ⟨.inr rfl, _, _, by (conv => lhs; simp), trivial, by simp [cmpS, h16]⟩
theorem cmpL_nil {α : Type} (p : α → α → Int) (l : List α) : cmpL p l [] = if l = [] then 0 else 1 := by cases l <;> simp [cmpL]
theorem cmpL_drop {α : Type} {p : α → α → Int} {l m : List α} {k : Nat} {x y : α} (hx : l[k]? = some x) (hy : m[k]? = some y) : cmpL p (l.drop k) (m.drop k) = if p x y ≠ 0 then p x y else cmpL p (l.drop (k + 1)) (m.drop (k + 1)) := by
  obtain ⟨h1, rfl⟩ := List.getElem?_eq_some_iff.1 hx
  obtain ⟨h2, rfl⟩ := List.getElem?_eq_some_iff.1 hy
  rw [List.drop_eq_getElem_cons h1, List.drop_eq_getElem_cons h2]; rfl
theorem cmpL_long {α : Type} {p : α → α → Int} {l m : List α} {k : Nat} (h1 : k < l.length) (h2 : m.length ≤ k) : cmpL p (l.drop k) (m.drop k) = 1 := by
  rw [List.drop_eq_nil_of_le h2, cmpL_nil, if_neg (by intro h; have := congrArg List.length h; simp at this; omega)]
theorem cmpL_end {α : Type} {p : α → α → Int} {l m : List α} {k : Nat} (h1 : l.length ≤ k) (hk : k ≤ l.length) (h2 : k ≤ m.length) : cmpL p (l.drop k) (m.drop k) = if l.length < m.length then -1 else 0 := by
  rw [List.drop_eq_nil_of_le h1]
  by_cases h : k < m.length
  · rw [List.drop_eq_getElem_cons h, if_pos (by omega)]; rfl
  · rw [List.drop_eq_nil_of_le (by omega), if_neg (by omega)]; rfl
theorem cmpSL_ev (l m : List (List UInt8)) : AFn Tryz.prog G 50 [.sl 1 (l.map PD.str), .sl 1 (m.map PD.str)] (.int .i64 (cmpL cmpS l m)) := by
  refine AFn.introU tok Tryz.func50 (by kernel_rfl) rfl rfl ?_
  simp only [Tryz.f50, enumA, List.map_cons, List.map_nil]
  refine AW.seqRegionO [] ?_
  refine s1 tok [0, 1] ?_
  refine AOpsO.nil ?_
  refine AW.seq ?_
  refine AW.seqRegionO [] ?_
  refine s1 tok [0, 1, 9] ?_
  refine s1 tok [0, 1, 9, 10] ?_
  refine s1 tok [0, 1, 9, 10, 11] ?_
  refine AOpsO.nil ?_
  refine AW.block ?_
  refine AW.intFactU (i := 10) rfl (by decide) ?_; intro hlen; simp at hlen
  refine AW.loop (α := Nat) (fun k => k ≤ l.length ∧ k ≤ m.length ∧ cmpL cmpS l m = cmpL cmpS (l.drop k) (m.drop k)) (fun k => ⟨upds 36 [(0, .p (.sl 1 (l.map PD.str))), (1, .p (.sl 1 (m.map PD.str))), (9, .p (.sl 1 (l.map PD.str))), (10, .p (.int .i64 l.length)), (11, .p (.int .i64 k))], [], [], 0⟩) (fun k => l.length - k) (0) ⟨by omega, by omega, rfl⟩ ⟨upds_le (by simp), rfl, by simp, by simp⟩ ?_
  rintro k ⟨hk, hkm, hall⟩
  refine AW.seqRegionO [] ?_
  refine s1 tok [0, 1, 9, 10, 11, 12] ?_
  refine AOpsO.nil ?_
  refine AW.seq ?_
  refine AW.cond (c := .tmp 12) (by conv => lhs; simp) trivial ?_ ?_
  · intro h12
    try simp at h12
    obtain ⟨x, hx⟩ : ∃ x, l[k]? = some x := ⟨l[k], by simp [h12]⟩
    refine AW.skip ?_
    refine AW.seq ?_
    refine AW.block ?_
    refine AW.seqRegionO [.str x] ?_
    refine s1 tok [0, 1, 9, 10, 11, 13] ?_
    refine s1 tok [0, 1, 9, 10, 11, 13, 14] ?_ (hv := by first | with_reducible exact True.intro | (simp [hx]; done) | omega | simp | (simp; omega) | (simp +contextual; omega))
    refine s1 tok [0, 1, 9, 10, 11, 13, 15] ?_ (hv := by first | with_reducible exact True.intro | (simp [hx]; done) | omega | simp | (simp; omega) | (simp +contextual; omega))
    refine s1 tok [0, 1, 5, 9, 10, 11, 15] ?_
    refine s1 tok [0, 1, 5, 6, 9, 10, 11] ?_
    refine AOpsO.nil ?_
    refine AW.seq ?_
    refine AW.seqRegionO [] ?_
    refine s1 tok [0, 1, 5, 6, 9, 10, 11, 16] ?_
    refine s1 tok [0, 1, 5, 6, 9, 10, 11, 16, 17] ?_
    refine s1 tok [0, 1, 5, 6, 9, 10, 11, 16, 18] ?_
    refine s1 tok [0, 1, 5, 6, 9, 10, 11, 19] ?_
    refine AOpsO.nil ?_
    refine AW.cond (c := .tmp 19) (by conv => lhs; simp) trivial ?_ ?_
    · intro h19
      try simp at h19
      have hR : cmpL cmpS l m = 1 := by rw [hall]; exact cmpL_long (by omega) (by omega)
      refine AW.seqRegionO [] ?_
      refine s1 tok [4] ?_
      refine AOpsO.nil ?_
      exact AW.ret ⟨.inr rfl, _, _, by (conv => lhs; simp), trivial, by simp [hR]⟩
    · intro h19
      try simp at h19
      obtain ⟨y, hy⟩ : ∃ y, m[k]? = some y := ⟨m[k]'(by omega), by simp [show k < m.length by omega]⟩
      have hst := cmpL_drop (p := cmpS) hx hy
      refine AW.skip ?_
      refine AW.seqRegionO [.str y] ?_
      refine s1 tok [0, 1, 5, 6, 9, 10, 11, 20] ?_
      refine s1 tok [0, 1, 6, 9, 10, 11, 20, 21] ?_
      refine s1 tok [0, 1, 6, 9, 10, 11, 22] ?_ (hv := by first | with_reducible exact True.intro | (simp [hy]; done) | omega | simp | (simp; omega) | (simp +contextual; omega))
      refine s1 tok [0, 1, 6, 9, 10, 11, 23] ?_ (hv := by first | with_reducible exact True.intro | (simp [hy]; done) | omega | simp | (simp; omega) | (simp +contextual; omega))
      refine s1 tok [0, 1, 6, 7, 9, 10, 11] ?_
      refine AOpsO.nil ?_
      refine AW.seqRegionO [.nilp, .int .i64 (cmpS x y)] ?_
      refine s1 tok [0, 1, 7, 9, 10, 11, 24] ?_
      refine s1 tok [0, 1, 9, 10, 11, 24, 25] ?_
      refine s1 tok [0, 1, 9, 10, 11, 26] ?_ (hv := by first | with_reducible exact True.intro | (exact cmpS_ev x y; done) | omega | simp | (simp; omega) | (simp +contextual; omega))
      refine s1 tok [0, 1, 8, 9, 10, 11] ?_
      refine AOpsO.nil ?_
      refine AW.seqRegionO [] ?_
      refine s1 tok [0, 1, 8, 9, 10, 11, 27] ?_
      refine s1 tok [0, 1, 8, 9, 10, 11, 28] ?_
      refine AOpsO.nil ?_
      refine AW.cond (c := .tmp 28) (by conv => lhs; simp) trivial ?_ ?_
      · intro h28
        try simp at h28
        have hR : cmpL cmpS l m = cmpS x y := by rw [hall, hst, if_pos h28]
        refine AW.seqRegionO [] ?_
        refine s1 tok [29] ?_
        refine s1 tok [4] ?_
        refine AOpsO.nil ?_
        exact AW.ret ⟨.inr rfl, _, _, by (conv => lhs; simp), trivial, by simp [hR]⟩
      · intro h28
        try simp at h28
        have hnx : cmpL cmpS l m = cmpL cmpS (l.drop (k + 1)) (m.drop (k + 1)) := by rw [hall, hst, if_neg (by omega)]
        refine AW.skip ?_
        refine AW.regionO [] ?_
        refine s1 tok [0, 1, 9, 10, 30] ?_
        refine s1 tok [0, 1, 9, 10, 11] ?_
        refine AOpsO.nil ?_
        exact ⟨k + 1, ⟨by omega, by omega, hnx⟩, by omega, upds_le (by simp), rfl, by simp, by simp⟩
  · intro h12
    try simp at h12
    have hE := cmpL_end (p := cmpS) (l := l) (m := m) (k := k) (by omega) hk hkm
    rw [← hall] at hE
    refine AW.exit ?_
    simp
    refine AW.seq ?_
    refine AW.seqRegionO [] ?_
    refine s1 tok [1, 31] ?_
    refine s1 tok [1, 32] ?_
    refine s1 tok [32, 33] ?_
    refine s1 tok [32, 34] ?_
    refine s1 tok [35] ?_
    refine AOpsO.nil ?_
    refine AW.cond (c := .tmp 35) (by conv => lhs; simp) trivial ?_ ?_
    · intro h35
      try simp at h35
      have hR : cmpL cmpS l m = -1 := by rw [hE, if_pos (by omega)]
      refine AW.seqRegionO [] ?_
      refine s1 tok [4] ?_
      refine AOpsO.nil ?_
      exact AW.ret ⟨.inr rfl, _, _, by (conv => lhs; simp), trivial, by simp [hR]⟩
    · intro h35
      try simp at h35
      have hR : cmpL cmpS l m = 0 := by rw [hE, if_neg (by omega)]
      refine AW.skip ?_
      refine AW.seqRegionO [] ?_
      refine s1 tok [4] ?_
      refine AOpsO.nil ?_
      exact AW.ret ⟨.inr rfl, _, _, by (conv => lhs; simp), trivial, by simp [hR]⟩
theorem cmpVL_ev (l m : List Val) (g : FuncId) (p : Val → Val → Int) (hg : ∀ x ∈ l, ∀ y ∈ m, AFn Tryz.prog G g [x.enc, y.enc] (.int .i64 (p x y))) : AFn Tryz.prog G 46 [.sl 9 (l.map Val.enc), .sl 9 (m.map Val.enc), .fn g] (.int .i64 (cmpL p l m)) := by
  refine AFn.introU tok Tryz.func46 (by kernel_rfl) rfl rfl ?_
  simp only [Tryz.f46, enumA, List.map_cons, List.map_nil]
  refine AW.seqRegionO [] ?_
  refine s1 tok [0, 1, 2] ?_
  refine AOpsO.nil ?_
  refine AW.seq ?_
  refine AW.seqRegionO [] ?_
  refine s1 tok [0, 1, 2, 11] ?_
  refine s1 tok [0, 1, 2, 11, 12] ?_
  refine s1 tok [0, 1, 2, 11, 12, 13] ?_
  refine AOpsO.nil ?_
  refine AW.block ?_
  refine AW.intFactU (i := 12) rfl (by decide) ?_; intro hlen; simp at hlen
  refine AW.loop (α := Nat) (fun k => k ≤ l.length ∧ k ≤ m.length ∧ cmpL p l m = cmpL p (l.drop k) (m.drop k)) (fun k => ⟨upds 39 [(0, .p (.sl 9 (l.map Val.enc))), (1, .p (.sl 9 (m.map Val.enc))), (2, .p (.fn g)), (11, .p (.sl 9 (l.map Val.enc))), (12, .p (.int .i64 l.length)), (13, .p (.int .i64 k))], [], [], 0⟩) (fun k => l.length - k) (0) ⟨by omega, by omega, rfl⟩ ⟨upds_le (by simp), rfl, by simp, by simp⟩ ?_
  rintro k ⟨hk, hkm, hall⟩
  refine AW.seqRegionO [] ?_
  refine s1 tok [0, 1, 2, 11, 12, 13, 14] ?_
  refine AOpsO.nil ?_
  refine AW.seq ?_
  refine AW.cond (c := .tmp 14) (by conv => lhs; simp) trivial ?_ ?_
  · intro h14
    try simp at h14
    obtain ⟨x, hx⟩ : ∃ x, l[k]? = some x := ⟨l[k], by simp [h14]⟩
    refine AW.skip ?_
    refine AW.seq ?_
    refine AW.block ?_
    refine AW.seqRegionO [x.enc] ?_
    refine s1 tok [0, 1, 2, 11, 12, 13, 15] ?_
    refine s1 tok [0, 1, 2, 11, 12, 13, 15, 16] ?_ (hv := by first | with_reducible exact True.intro | (simp [hx]; done) | omega | simp | (simp; omega) | (simp +contextual; omega))
    refine s1 tok [0, 1, 2, 11, 12, 13, 15, 17] ?_ (hv := by first | with_reducible exact True.intro | (simp [hx]; done) | omega | simp | (simp; omega) | (simp +contextual; omega))
    refine s1 tok [0, 1, 2, 8, 11, 12, 13, 15, 17] ?_
    refine s1 tok [0, 1, 2, 7, 8, 11, 12, 13, 17] ?_
    refine s1 tok [0, 1, 2, 7, 8, 11, 12, 13] ?_ (hv := by first | with_reducible exact True.intro | (simp [hx]; done) | omega | simp | (simp; omega) | (simp +contextual; omega))
    refine AOpsO.nil ?_
    refine AW.seq ?_
    refine AW.seqRegionO [] ?_
    refine s1 tok [0, 1, 2, 7, 8, 11, 12, 13, 18] ?_
    refine s1 tok [0, 1, 2, 7, 8, 11, 12, 13, 18, 19] ?_
    refine s1 tok [0, 1, 2, 7, 8, 11, 12, 13, 18, 20] ?_
    refine s1 tok [0, 1, 2, 7, 8, 11, 12, 13, 21] ?_
    refine AOpsO.nil ?_
    refine AW.cond (c := .tmp 21) (by conv => lhs; simp) trivial ?_ ?_
    · intro h21
      try simp at h21
      have hR : cmpL p l m = 1 := by rw [hall]; exact cmpL_long (by omega) (by omega)
      refine AW.seqRegionO [] ?_
      refine s1 tok [6] ?_
      refine AOpsO.nil ?_
      exact AW.ret ⟨.inr rfl, _, _, by (conv => lhs; simp), trivial, by simp [hR]⟩
    · intro h21
      try simp at h21
      obtain ⟨y, hy⟩ : ∃ y, m[k]? = some y := ⟨m[k]'(by omega), by simp [show k < m.length by omega]⟩
      have hst := cmpL_drop (p := p) hx hy
      have hgv := hg x (List.mem_of_getElem? hx) y (List.mem_of_getElem? hy)
      refine AW.skip ?_
      refine AW.seqRegionO [y.enc] ?_
      refine s1 tok [0, 1, 2, 7, 8, 11, 12, 13, 22] ?_
      refine s1 tok [0, 1, 2, 8, 11, 12, 13, 22, 23] ?_
      refine s1 tok [0, 1, 2, 8, 11, 12, 13, 24] ?_ (hv := by first | with_reducible exact True.intro | (simp [hy]; done) | omega | simp | (simp; omega) | (simp +contextual; omega))
      refine s1 tok [0, 1, 2, 8, 11, 12, 13, 25] ?_ (hv := by first | with_reducible exact True.intro | (simp [hy]; done) | omega | simp | (simp; omega) | (simp +contextual; omega))
      refine s1 tok [0, 1, 2, 8, 9, 11, 12, 13, 25] ?_
      refine s1 tok [0, 1, 2, 8, 9, 11, 12, 13] ?_ (hv := by first | with_reducible exact True.intro | (simp [hy]; done) | omega | simp | (simp; omega) | (simp +contextual; omega))
      refine AOpsO.nil ?_
      refine AW.seqRegionO [.tup [x.enc, y.enc], .int .i64 (p x y)] ?_
      refine s1 tok [0, 1, 2, 8, 9, 11, 12, 13, 26] ?_
      refine s1 tok [0, 1, 2, 9, 11, 12, 13, 26, 27] ?_ (hv := by first | with_reducible exact True.intro | ((simp at hgv ⊢; exact hgv); done) | omega | simp | (simp; omega) | (simp +contextual; omega))
      refine s1 tok [0, 1, 2, 11, 12, 13, 26, 27, 28] ?_ (hv := by first | with_reducible exact True.intro | ((simp at hgv ⊢; exact hgv); done) | omega | simp | (simp; omega) | (simp +contextual; omega))
      refine s1 tok [0, 1, 2, 11, 12, 13, 29] ?_ (hv := by first | with_reducible exact True.intro | ((simp at hgv ⊢; exact hgv); done) | omega | simp | (simp; omega) | (simp +contextual; omega))
      refine s1 tok [0, 1, 2, 10, 11, 12, 13] ?_
      refine AOpsO.nil ?_
      refine AW.seqRegionO [] ?_
      refine s1 tok [0, 1, 2, 10, 11, 12, 13, 30] ?_
      refine s1 tok [0, 1, 2, 10, 11, 12, 13, 31] ?_
      refine AOpsO.nil ?_
      refine AW.cond (c := .tmp 31) (by conv => lhs; simp) trivial ?_ ?_
      · intro h31
        try simp at h31
        have hR : cmpL p l m = p x y := by rw [hall, hst, if_pos h31]
        refine AW.seqRegionO [] ?_
        refine s1 tok [32] ?_
        refine s1 tok [6] ?_
        refine AOpsO.nil ?_
        exact AW.ret ⟨.inr rfl, _, _, by (conv => lhs; simp), trivial, by simp [hR]⟩
      · intro h31
        try simp at h31
        have hnx : cmpL p l m = cmpL p (l.drop (k + 1)) (m.drop (k + 1)) := by rw [hall, hst, if_neg (by omega)]
        refine AW.skip ?_
        refine AW.regionO [] ?_
        refine s1 tok [0, 1, 2, 11, 12, 33] ?_
        refine s1 tok [0, 1, 2, 11, 12, 13] ?_
        refine AOpsO.nil ?_
        exact ⟨k + 1, ⟨by omega, by omega, hnx⟩, by omega, upds_le (by simp), rfl, by simp, by simp⟩
  · intro h14
    try simp at h14
    have hE := cmpL_end (p := p) (l := l) (m := m) (k := k) (by omega) hk hkm
    rw [← hall] at hE
    refine AW.exit ?_
    simp
    refine AW.seq ?_
    refine AW.seqRegionO [] ?_
    refine s1 tok [1, 34] ?_
    refine s1 tok [1, 35] ?_
    refine s1 tok [35, 36] ?_
    refine s1 tok [35, 37] ?_
    refine s1 tok [38] ?_
    refine AOpsO.nil ?_
    refine AW.cond (c := .tmp 38) (by conv => lhs; simp) trivial ?_ ?_
    · intro h38
      try simp at h38
      have hR : cmpL p l m = -1 := by rw [hE, if_pos (by omega)]
      refine AW.seqRegionO [] ?_
      refine s1 tok [6] ?_
      refine AOpsO.nil ?_
      exact AW.ret ⟨.inr rfl, _, _, by (conv => lhs; simp), trivial, by simp [hR]⟩
    · intro h38
      try simp at h38
      have hR : cmpL p l m = 0 := by rw [hE, if_neg (by omega)]
      refine AW.skip ?_
      refine AW.seqRegionO [] ?_
      refine s1 tok [6] ?_
      refine AOpsO.nil ?_
      exact AW.ret ⟨.inr rfl, _, _, by (conv => lhs; simp), trivial, by simp [hR]⟩
def idxK (ks : List (List UInt8)) (s : List UInt8) : Int := if s ∈ ks then (ks.idxOf s : Int) else -1
theorem idxK_ev (l : List (List UInt8)) (s : List UInt8) : AFn Tryz.prog G 41 [.sl 1 (l.map PD.str), .str s] (.int .i64 (idxK l s)) := by
  refine AFn.introU tok Tryz.func41 (by kernel_rfl) rfl rfl ?_
  simp only [Tryz.f41, enumA, List.map_cons, List.map_nil]
  refine AW.seqRegionO [] ?_
  refine s1 tok [0, 1] ?_
  refine AOpsO.nil ?_
  refine AW.seq ?_
  refine AW.seqRegionO [] ?_
  refine s1 tok [0, 1, 6] ?_
  refine s1 tok [0, 1, 7] ?_
  refine s1 tok [0, 1, 7, 8] ?_
  refine AOpsO.nil ?_
  refine AW.block ?_
  refine AW.intFactU (i := 7) rfl (by decide) ?_; intro hlen; simp at hlen
  refine AW.loop (α := Nat) (fun k => k ≤ l.length ∧ s ∉ l.take k) (fun k => ⟨upds 19 [(0, .p (.sl 1 (l.map PD.str))), (1, .p (.str s)), (7, .p (.int .i64 l.length)), (8, .p (.int .i64 k))], [], [], 0⟩) (fun k => l.length - k) (0) ⟨by omega, by simp⟩ ⟨upds_le (by simp), rfl, by simp, by simp⟩ ?_
  rintro k ⟨hk, hno⟩
  refine AW.seqRegionO [] ?_
  refine s1 tok [0, 1, 7, 8, 9] ?_
  refine AOpsO.nil ?_
  refine AW.seq ?_
  refine AW.cond (c := .tmp 9) (by conv => lhs; simp) trivial ?_ ?_
  · intro h9
    try simp at h9
    obtain ⟨x, hx⟩ : ∃ x, l[k]? = some x := ⟨l[k], by simp [h9]⟩
    refine AW.skip ?_
    refine AW.seq ?_
    refine AW.block ?_
    refine AW.seqRegionO [] ?_
    refine s1 tok [0, 1, 7, 8, 10] ?_
    refine s1 tok [0, 1, 5, 7, 8] ?_
    refine AOpsO.nil ?_
    refine AW.seqRegionO [.str x] ?_
    refine s1 tok [0, 1, 5, 7, 8, 11] ?_
    refine s1 tok [0, 1, 5, 7, 8, 11, 12] ?_
    refine s1 tok [0, 1, 5, 7, 8, 11, 12, 13] ?_
    refine s1 tok [0, 1, 5, 7, 8, 11, 14] ?_ (hv := by first | with_reducible exact True.intro | (simp [hx]; done) | omega | simp | (simp; omega) | (simp +contextual; omega))
    refine s1 tok [0, 1, 5, 7, 8, 11, 15] ?_ (hv := by first | with_reducible exact True.intro | (simp [hx]; done) | omega | simp | (simp; omega) | (simp +contextual; omega))
    refine s1 tok [0, 1, 5, 7, 8, 16] ?_ (hv := by first | with_reducible exact True.intro | (simp [hx]; done) | omega | simp | (simp; omega) | (simp +contextual; omega))
    refine AOpsO.nil ?_
    refine AW.cond (c := .tmp 16) (by conv => lhs; simp) trivial ?_ ?_
    · intro h16
      try simp at h16
      have hR : idxK l s = k := by
        have hm : s ∈ l := by rw [h16]; exact List.mem_of_getElem? hx
        unfold idxK; rw [if_pos hm]
        have : l.idxOf s = k := by
          obtain ⟨h1, h2⟩ := List.getElem?_eq_some_iff.1 hx
          have h3 := List.take_append_drop k l
          rw [← h3, List.idxOf_append, if_neg hno, List.drop_eq_getElem_cons h1, h2, h16, List.idxOf_cons_self]
          simp; omega
        rw [this]
      refine AW.seqRegionO [] ?_
      refine s1 tok [17] ?_
      refine s1 tok [4] ?_
      refine AOpsO.nil ?_
      exact AW.ret ⟨.inr rfl, _, _, by (conv => lhs; simp), trivial, by simp [hR]⟩
    · intro h16
      try simp at h16
      refine AW.skip ?_
      refine AW.regionO [] ?_
      refine s1 tok [0, 1, 7, 18] ?_
      refine s1 tok [0, 1, 7, 8] ?_
      refine AOpsO.nil ?_
      exact ⟨k + 1, ⟨by omega, by rw [List.take_add_one, hx]; simp; exact ⟨hno, h16⟩⟩, by omega, upds_le (by simp), rfl, by simp, by simp⟩
  · intro h9
    try simp at h9
    have hR : idxK l s = -1 := by rw [List.take_of_length_le h9] at hno; unfold idxK; rw [if_neg hno]
    refine AW.exit ?_
    simp
    refine AW.seqRegionO [] ?_
    refine s1 tok [4] ?_
    refine AOpsO.nil ?_
    exact AW.ret ⟨.inr rfl, _, _, by (conv => lhs; simp), trivial, by simp [hR]⟩
theorem or2_ev (a b : Int) : AFn Tryz.prog G 49 [.sl 1 [.int .i64 a, .int .i64 b]] (.int .i64 (if a ≠ 0 then a else b)) := by
  refine AFn.introU tok Tryz.func49 (by kernel_rfl) rfl rfl ?_
  simp only [Tryz.f49, enumA, List.map_cons, List.map_nil]
  refine AW.seqRegionO [] ?_
  refine s1 tok [0] ?_
  refine AOpsO.nil ?_
  refine AW.seqRegionO [] ?_
  refine s1 tok [0, 3] ?_
  refine AOpsO.nil ?_
  refine AW.seq ?_
  refine AW.seqRegionO [] ?_
  refine s1 tok [3, 6] ?_
  refine s1 tok [3, 6, 7] ?_
  refine s1 tok [3, 6, 7, 8] ?_
  refine AOpsO.nil ?_
  refine AW.block ?_
  refine AW.loop (α := Nat) (fun k => k ≤ 2 ∧ (1 ≤ k → a = 0) ∧ (2 ≤ k → b = 0)) (fun k => ⟨upds 18 [(3, .p (.int .i64 0)), (6, .p (.sl 1 [.int .i64 a, .int .i64 b])), (7, .p (.int .i64 2)), (8, .p (.int .i64 k))], [], [], 0⟩) (fun k => 2 - k) (0) ⟨by omega, by omega, by omega⟩ ⟨upds_le (by simp), rfl, by simp, by simp⟩ ?_
  rintro k ⟨hk, h1, h2⟩
  refine AW.seqRegionO [] ?_
  refine s1 tok [3, 6, 7, 8, 9] ?_
  refine AOpsO.nil ?_
  refine AW.seq ?_
  refine AW.cond (c := .tmp 9) (by conv => lhs; simp) trivial ?_ ?_
  · intro h9
    try simp at h9
    have hel : [a, b][k]? = some (if k = 0 then a else b) := by
      match k, h9 with
      | 0, _ => rfl
      | 1, _ => rfl
    have helP : [PD.int .i64 a, PD.int .i64 b][k]? = some (.int .i64 (if k = 0 then a else b)) := by
      match k, h9 with
      | 0, _ => rfl
      | 1, _ => rfl
    refine AW.skip ?_
    refine AW.seq ?_
    refine AW.block ?_
    refine AW.seqRegionO [.int .i64 (if k = 0 then a else b)] ?_
    refine s1 tok [3, 6, 7, 8, 10] ?_ (hv := by first | with_reducible exact True.intro | (first | exact helP | simp [helP]; done) | omega | simp | (simp; omega) | (simp +contextual; omega))
    refine s1 tok [3, 6, 7, 8, 11] ?_ (hv := by first | with_reducible exact True.intro | (first | exact helP | simp [helP]; done) | omega | simp | (simp; omega) | (simp +contextual; omega))
    refine s1 tok [3, 5, 6, 7, 8] ?_
    refine AOpsO.nil ?_
    refine AW.seqRegionO [] ?_
    refine s1 tok [3, 5, 6, 7, 8, 12] ?_
    refine s1 tok [3, 5, 6, 7, 8, 12, 13] ?_
    refine s1 tok [3, 5, 6, 7, 8, 14] ?_
    refine AOpsO.nil ?_
    refine AW.cond (c := .tmp 14) (by conv => lhs; simp) trivial ?_ ?_
    · intro h14
      try simp at h14
      have hR : (if a ≠ 0 then a else b) = (if k = 0 then a else b) := by
        by_cases hk0 : k = 0
        · subst hk0; simp at h14 ⊢; intro e; exact absurd e h14
        · rw [if_neg hk0, if_neg (by simp; exact h1 (by omega))]
      rw [hR]
      refine AW.seqRegionO [] ?_
      refine s1 tok [15] ?_
      refine s1 tok [2] ?_
      refine AOpsO.nil ?_
      exact AW.ret ⟨.inr rfl, _, _, by (conv => lhs; simp), trivial, by simp⟩
    · intro h14
      try simp at h14
      have e1 : 1 ≤ k + 1 → a = 0 := by
        intro _
        by_cases hk0 : k = 0
        · simpa [hk0] using h14
        · exact h1 (by omega)
      have e2 : 2 ≤ k + 1 → b = 0 := by
        intro h
        rw [if_neg (by omega)] at h14; exact h14
      refine AW.skip ?_
      refine AW.regionO [] ?_
      refine s1 tok [3, 6, 7, 16] ?_
      refine s1 tok [3, 6, 7, 8] ?_
      refine AOpsO.nil ?_
      exact ⟨k + 1, ⟨by omega, e1, e2⟩, by omega, upds_le (by simp), rfl, by simp, by simp⟩
  · intro h9
    try simp at h9
    have ha : a = 0 := h1 (by omega)
    have hb : b = 0 := h2 (by omega)
    subst ha hb
    refine AW.exit ?_
    simp
    refine AW.seqRegionO [] ?_
    refine s1 tok [17] ?_
    refine s1 tok [2] ?_
    refine AOpsO.nil ?_
    exact AW.ret ⟨.inr rfl, _, _, by (conv => lhs; simp), trivial, by simp⟩
end Go.Proofs.YtgoepemmcibdaaaGreatDoor
