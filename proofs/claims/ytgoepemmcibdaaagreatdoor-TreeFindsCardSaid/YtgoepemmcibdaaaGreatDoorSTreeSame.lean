import Derived.Test.YtgoepemmcibdaaaGreatDoorSTreeCmp
namespace Go.Proofs.YtgoepemmcibdaaaGreatDoor
open Sy Go
set_option maxRecDepth 100000
set_option maxHeartbeats 4000000
set_option linter.unusedSimpArgs false
set_option linter.unusedVariables false
variable {G : Glob}

/-- Rows that are the same, place by place. -/
def eqL {α : Type} (p : α → α → Bool) : List α → List α → Bool
  | [], [] => true
  | x :: l, y :: m => p x y && eqL p l m
  | _, _ => false
theorem eqL_len {α : Type} {p : α → α → Bool} : ∀ {l m : List α}, eqL p l m = true → l.length = m.length
  | [], [], _ => rfl
  | x :: l, y :: m, h => by simp only [eqL, Bool.and_eq_true] at h; simp [eqL_len h.2]
  | [], _ :: _, h => by simp [eqL] at h
  | _ :: _, [], h => by simp [eqL] at h
theorem eqL_drop {α : Type} {p : α → α → Bool} {l m : List α} {k : Nat} {x y : α} (hx : l[k]? = some x) (hy : m[k]? = some y) : eqL p (l.drop k) (m.drop k) = (p x y && eqL p (l.drop (k + 1)) (m.drop (k + 1))) := by
  obtain ⟨h1, rfl⟩ := List.getElem?_eq_some_iff.1 hx
  obtain ⟨h2, rfl⟩ := List.getElem?_eq_some_iff.1 hy
  rw [List.drop_eq_getElem_cons h1, List.drop_eq_getElem_cons h2]; rfl
theorem eqL_end {α : Type} {p : α → α → Bool} {l m : List α} {k : Nat} (h1 : l.length ≤ k) (h2 : l.length = m.length) : eqL p (l.drop k) (m.drop k) = true := by
  rw [List.drop_eq_nil_of_le h1, List.drop_eq_nil_of_le (by omega)]; rfl
theorem eqL_iff {α : Type} {p : α → α → Bool} (hp : ∀ x y, p x y = true ↔ x = y) : ∀ {l m : List α}, eqL p l m = true ↔ l = m
  | [], [] => by simp [eqL]
  | x :: l, y :: m => by simp [eqL, hp, eqL_iff hp]
  | [], _ :: _ => by simp [eqL]
  | _ :: _, [] => by simp [eqL]
def eqS (a b : List UInt8) : Bool := decide (a = b)
theorem eqK_ev (l m : List (List UInt8)) : AFn Tryz.prog G 63 [.sl 1 (l.map PD.str), .sl 1 (m.map PD.str)] (.bool (eqL eqS l m)) := by
  refine AFn.introU tok Tryz.func63 (by kernel_rfl) rfl rfl ?_
  simp only [Tryz.f63, enumA, List.map_cons, List.map_nil]
  refine AW.seqRegionO [] ?_
  refine s1 tok [0, 1] ?_
  refine AOpsO.nil ?_
  refine AW.seq ?_
  refine AW.seqRegionO [] ?_
  refine s1 tok [0, 1, 6] ?_
  refine s1 tok [0, 1, 7] ?_
  refine s1 tok [0, 1, 7, 8] ?_
  refine s1 tok [0, 1, 7, 9] ?_
  refine s1 tok [0, 1, 10] ?_
  refine AOpsO.nil ?_
  refine AW.cond (c := .tmp 10) (by conv => lhs; simp) trivial ?_ ?_
  · intro h10
    try simp at h10
    have hR : eqL eqS l m = false := by
      rw [← Bool.not_eq_true]; intro h; have := eqL_len h; omega
    refine AW.seqRegionO [] ?_
    refine s1 tok [4] ?_
    refine AOpsO.nil ?_
    exact AW.ret ⟨.inr rfl, _, _, by (conv => lhs; simp), trivial, by simp [hR]⟩
  · intro h10
    try simp at h10
    refine AW.skip ?_
    refine AW.seq ?_
    refine AW.seqRegionO [] ?_
    refine s1 tok [0, 1, 11] ?_
    refine s1 tok [0, 1, 12] ?_
    refine s1 tok [0, 1, 12, 13] ?_
    refine AOpsO.nil ?_
    refine AW.block ?_
    refine AW.intFactU (i := 12) rfl (by decide) ?_; intro hlen; simp at hlen
    refine AW.loop (α := Nat) (fun k => k ≤ l.length ∧ eqL eqS l m = eqL eqS (l.drop k) (m.drop k)) (fun k => ⟨upds 26 [(0, .p (.sl 1 (l.map PD.str))), (1, .p (.sl 1 (m.map PD.str))), (12, .p (.int .i64 l.length)), (13, .p (.int .i64 k))], [], [], 0⟩) (fun k => l.length - k) (0) ⟨by omega, rfl⟩ ⟨upds_le (by simp), rfl, by simp, by simp⟩ ?_
    rintro k ⟨hk, hall⟩
    refine AW.seqRegionO [] ?_
    refine s1 tok [0, 1, 12, 13, 14] ?_
    refine AOpsO.nil ?_
    refine AW.seq ?_
    refine AW.cond (c := .tmp 14) (by conv => lhs; simp) trivial ?_ ?_
    · intro h14
      try simp at h14
      obtain ⟨x, hx⟩ : ∃ x, l[k]? = some x := ⟨l[k], by simp [h14]⟩
      obtain ⟨y, hy⟩ : ∃ y, m[k]? = some y := ⟨m[k]'(by omega), by simp [show k < m.length by omega]⟩
      have hst := eqL_drop (p := eqS) hx hy
      refine AW.skip ?_
      refine AW.seq ?_
      refine AW.block ?_
      refine AW.seqRegionO [] ?_
      refine s1 tok [0, 1, 12, 13, 15] ?_
      refine s1 tok [0, 1, 5, 12, 13] ?_
      refine AOpsO.nil ?_
      refine AW.seqRunDrawK tok mixed [0, 1, 12, 13, 24] 9 [[0], [5], [16, 17], [18], [1], [5], [20, 21], [22], [19, 23]] [.str x, .str y] [] (by kernel_rfl) (by intro C; conv => lhs; simp) (by simp [hx, hy]) (by simp [Sm.sum, Sm.foot, Sm.tch, Sm.refs]; kernel_rfl) (by intro C; conv => lhs; simp) (by first | with_reducible exact True.intro | omega | simp | (simp; omega) | (simp +contextual; omega)) ?_
      refine AW.cond (c := .tmp 24) (by conv => lhs; simp) trivial ?_ ?_
      · intro h24
        try simp at h24
        have hR : eqL eqS l m = false := by rw [hall, hst]; simp [eqS, h24]
        refine AW.seqRegionO [] ?_
        refine s1 tok [4] ?_
        refine AOpsO.nil ?_
        exact AW.ret ⟨.inr rfl, _, _, by (conv => lhs; simp), trivial, by simp [hR]⟩
      · intro h24
        try simp at h24
        have hnx : eqL eqS l m = eqL eqS (l.drop (k + 1)) (m.drop (k + 1)) := by rw [hall, hst]; simp [eqS, h24]
        refine AW.skip ?_
        refine AW.regionO [] ?_
        refine s1 tok [0, 1, 12, 25] ?_
        refine s1 tok [0, 1, 12, 13] ?_
        refine AOpsO.nil ?_
        exact ⟨k + 1, ⟨by omega, hnx⟩, by omega, upds_le (by simp), rfl, by simp, by simp⟩
    · intro h14
      try simp at h14
      have hR : eqL eqS l m = true := by rw [hall]; exact eqL_end (by omega) (by omega)
      refine AW.exit ?_
      simp
      refine AW.seqRegionO [] ?_
      refine s1 tok [4] ?_
      refine AOpsO.nil ?_
      exact AW.ret ⟨.inr rfl, _, _, by (conv => lhs; simp), trivial, by simp [hR]⟩
theorem eqV_ev (l m : List Val) (g : FuncId) (p : Val → Val → Bool) (hg : ∀ x ∈ l, ∀ y ∈ m, AFn Tryz.prog G g [x.enc, y.enc] (.bool (p x y))) : AFn Tryz.prog G 64 [.sl 9 (l.map Val.enc), .sl 9 (m.map Val.enc), .fn g] (.bool (eqL p l m)) := by
  refine AFn.introU tok Tryz.func64 (by kernel_rfl) rfl rfl ?_
  simp only [Tryz.f64, enumA, List.map_cons, List.map_nil]
  refine AW.seqRegionO [] ?_
  refine s1 tok [0, 1, 2] ?_
  refine AOpsO.nil ?_
  refine AW.seq ?_
  refine AW.seqRegionO [] ?_
  refine s1 tok [0, 1, 2, 10] ?_
  refine s1 tok [0, 1, 2, 11] ?_
  refine s1 tok [0, 1, 2, 11, 12] ?_
  refine s1 tok [0, 1, 2, 11, 13] ?_
  refine s1 tok [0, 1, 2, 14] ?_
  refine AOpsO.nil ?_
  refine AW.cond (c := .tmp 14) (by conv => lhs; simp) trivial ?_ ?_
  · intro h14
    try simp at h14
    have hR : eqL p l m = false := by
      rw [← Bool.not_eq_true]; intro h; have := eqL_len h; omega
    refine AW.seqRegionO [] ?_
    refine s1 tok [6] ?_
    refine AOpsO.nil ?_
    exact AW.ret ⟨.inr rfl, _, _, by (conv => lhs; simp), trivial, by simp [hR]⟩
  · intro h14
    try simp at h14
    refine AW.skip ?_
    refine AW.seq ?_
    refine AW.seqRegionO [] ?_
    refine s1 tok [1, 2, 15] ?_
    refine s1 tok [1, 2, 15, 16] ?_
    refine s1 tok [1, 2, 15, 16, 17] ?_
    refine AOpsO.nil ?_
    refine AW.block ?_
    refine AW.intFactU (i := 16) rfl (by decide) ?_; intro hlen; simp at hlen
    refine AW.loop (α := Nat) (fun k => k ≤ l.length ∧ eqL p l m = eqL p (l.drop k) (m.drop k)) (fun k => ⟨upds 32 [(1, .p (.sl 9 (m.map Val.enc))), (2, .p (.fn g)), (15, .p (.sl 9 (l.map Val.enc))), (16, .p (.int .i64 l.length)), (17, .p (.int .i64 k))], [], [], 0⟩) (fun k => l.length - k) (0) ⟨by omega, rfl⟩ ⟨upds_le (by simp), rfl, by simp, by simp⟩ ?_
    rintro k ⟨hk, hall⟩
    refine AW.seqRegionO [] ?_
    refine s1 tok [1, 2, 15, 16, 17, 18] ?_
    refine AOpsO.nil ?_
    refine AW.seq ?_
    refine AW.cond (c := .tmp 18) (by conv => lhs; simp) trivial ?_ ?_
    · intro h18
      try simp at h18
      obtain ⟨x, hx⟩ : ∃ x, l[k]? = some x := ⟨l[k], by simp [h18]⟩
      obtain ⟨y, hy⟩ : ∃ y, m[k]? = some y := ⟨m[k]'(by omega), by simp [show k < m.length by omega]⟩
      have hst := eqL_drop (p := p) hx hy
      have hgv := hg x (List.mem_of_getElem? hx) y (List.mem_of_getElem? hy)
      refine AW.skip ?_
      refine AW.seq ?_
      refine AW.block ?_
      refine AW.seqRegionO [x.enc] ?_
      refine s1 tok [1, 2, 15, 16, 17, 19] ?_
      refine s1 tok [1, 2, 15, 16, 17, 19, 20] ?_ (hv := by first | with_reducible exact True.intro | (simp [hx]; done) | omega | simp | (simp; omega) | (simp +contextual; omega))
      refine s1 tok [1, 2, 15, 16, 17, 19, 21] ?_ (hv := by first | with_reducible exact True.intro | (simp [hx]; done) | omega | simp | (simp; omega) | (simp +contextual; omega))
      refine s1 tok [1, 2, 8, 15, 16, 17, 19, 21] ?_
      refine s1 tok [1, 2, 7, 8, 15, 16, 17, 21] ?_
      refine s1 tok [1, 2, 7, 8, 15, 16, 17] ?_ (hv := by first | with_reducible exact True.intro | (simp [hx]; done) | omega | simp | (simp; omega) | (simp +contextual; omega))
      refine AOpsO.nil ?_
      refine AW.seqRegionO [y.enc] ?_
      refine s1 tok [1, 2, 7, 8, 15, 16, 17, 22] ?_
      refine s1 tok [1, 2, 8, 15, 16, 17, 22, 23] ?_
      refine s1 tok [1, 2, 8, 15, 16, 17, 24] ?_ (hv := by first | with_reducible exact True.intro | (simp [hy]; done) | omega | simp | (simp; omega) | (simp +contextual; omega))
      refine s1 tok [1, 2, 8, 15, 16, 17, 25] ?_ (hv := by first | with_reducible exact True.intro | (simp [hy]; done) | omega | simp | (simp; omega) | (simp +contextual; omega))
      refine s1 tok [1, 2, 8, 9, 15, 16, 17, 25] ?_
      refine s1 tok [1, 2, 8, 9, 15, 16, 17] ?_ (hv := by first | with_reducible exact True.intro | (simp [hy]; done) | omega | simp | (simp; omega) | (simp +contextual; omega))
      refine AOpsO.nil ?_
      refine AW.seqRegionO [.tup [x.enc, y.enc], .bool (p x y)] ?_
      refine s1 tok [1, 2, 8, 9, 15, 16, 17, 26] ?_
      refine s1 tok [1, 2, 9, 15, 16, 17, 26, 27] ?_ (hv := by first | with_reducible exact True.intro | ((simp at hgv ⊢; exact hgv); done) | omega | simp | (simp; omega) | (simp +contextual; omega))
      refine s1 tok [1, 2, 15, 16, 17, 26, 27, 28] ?_ (hv := by first | with_reducible exact True.intro | ((simp at hgv ⊢; exact hgv); done) | omega | simp | (simp; omega) | (simp +contextual; omega))
      refine s1 tok [1, 2, 15, 16, 17, 29] ?_ (hv := by first | with_reducible exact True.intro | ((simp at hgv ⊢; exact hgv); done) | omega | simp | (simp; omega) | (simp +contextual; omega))
      refine s1 tok [1, 2, 15, 16, 17, 30] ?_ (hv := by first | with_reducible exact True.intro | ((simp at hgv ⊢; exact hgv); done) | omega | simp | (simp; omega) | (simp +contextual; omega))
      refine AOpsO.nil ?_
      refine AW.cond (c := .tmp 30) (by conv => lhs; simp) trivial ?_ ?_
      · intro h30
        try simp at h30
        have hR : eqL p l m = false := by rw [hall, hst]; simp [h30]
        refine AW.seqRegionO [] ?_
        refine s1 tok [6] ?_
        refine AOpsO.nil ?_
        exact AW.ret ⟨.inr rfl, _, _, by (conv => lhs; simp), trivial, by simp [hR]⟩
      · intro h30
        try simp at h30
        have hnx : eqL p l m = eqL p (l.drop (k + 1)) (m.drop (k + 1)) := by rw [hall, hst]; simp [h30]
        refine AW.skip ?_
        refine AW.regionO [] ?_
        refine s1 tok [1, 2, 15, 16, 31] ?_
        refine s1 tok [1, 2, 15, 16, 17] ?_
        refine AOpsO.nil ?_
        exact ⟨k + 1, ⟨by omega, hnx⟩, by omega, upds_le (by simp), rfl, by simp, by simp⟩
    · intro h18
      try simp at h18
      have hR : eqL p l m = true := by rw [hall]; exact eqL_end (by omega) (by omega)
      refine AW.exit ?_
      simp
      refine AW.seqRegionO [] ?_
      refine s1 tok [6] ?_
      refine AOpsO.nil ?_
      exact AW.ret ⟨.inr rfl, _, _, by (conv => lhs; simp), trivial, by simp [hR]⟩
/-- Are two values the same? -/
noncomputable def sameT (a b : Val) : Bool := @decide (a = b) (Classical.propDecidable _)
theorem sameT_iff (a b : Val) : sameT a b = true ↔ a = b := by unfold sameT; exact @decide_eq_true_iff _ (Classical.propDecidable _)
theorem sameT_eq (a b : Val) : sameT a b = (decide (a.kind = b.kind) && decide (a.mask = b.mask) && decide (a.num.neg = b.num.neg ∧ a.num.digits = b.num.digits ∧ a.num.scale = b.num.scale) && decide (a.text = b.text) && decide (a.code = b.code) && eqL eqS a.keys b.keys && eqL sameT a.kids b.kids) := by
  rw [Bool.eq_iff_iff, sameT_iff]
  simp only [Bool.and_eq_true, decide_eq_true_eq, eqL_iff sameT_iff, eqL_iff (p := eqS) (fun x y => by simp [eqS])]
  constructor
  · rintro rfl; simp
  · rintro ⟨⟨⟨⟨⟨⟨h1, h2⟩, h3⟩, h4⟩, h5⟩, h6⟩, h7⟩
    exact Val.ext h1 h2 (Dc.ext' h3.1 h3.2.1 h3.2.2) h4 h6 h7 h5
theorem same_step (a b : Val) (ih : ∀ x ∈ a.kids, ∀ y ∈ b.kids, AFn Tryz.prog G 27 [x.enc, y.enc] (.bool (sameT x y))) : AFn Tryz.prog G 27 [a.enc, b.enc] (.bool (sameT a b)) := by
  refine AFn.introU tok Tryz.func27 (by kernel_rfl) rfl rfl ?_
  simp only [Tryz.f27, enumA, List.map_cons, List.map_nil]
  have hk := eqK_ev (G := G) a.keys b.keys
  have hv := eqV_ev (G := G) a.kids b.kids 27 sameT ih
  rw [sameT_eq]
  refine AW.seqRegionO [] ?_
  refine s1 tok [1, 2] ?_
  refine s1 tok [2, 3] ?_
  refine s1 tok [2, 3] ?_
  refine AOpsO.nil ?_
  refine AW.seqRegionO [] ?_
  refine s1 tok [2, 3, 6] ?_
  refine s1 tok [2, 3, 7] ?_
  refine s1 tok [2, 3, 7, 8] ?_
  refine s1 tok [2, 3, 7, 9] ?_
  refine s1 tok [2, 3, 10] ?_
  refine s1 tok [2, 3, 11] ?_
  refine s2 tok [2, 3, 11, 12] 11 rfl rfl ?_
  refine s2 tok [2, 3, 11, 13] 11 rfl rfl ?_
  refine s2 tok [2, 3, 11, 13, 14] 11 rfl rfl ?_
  refine s2 tok [2, 3, 11, 13, 15] 11 rfl rfl ?_
  refine s2 tok [2, 3, 11, 16] 11 rfl rfl ?_
  refine s1 tok [2, 3, 17] ?_
  refine s1 tok [2, 3, 18] ?_
  refine s2 tok [2, 3, 18, 19] 18 rfl rfl ?_
  refine s2 tok [2, 3, 18, 20] 18 rfl rfl ?_
  refine s2 tok [2, 3, 18, 20, 21] 18 rfl rfl ?_
  refine s2 tok [2, 3, 18, 20, 22] 18 rfl rfl ?_
  refine s2 tok [2, 3, 18, 23] 18 rfl rfl ?_
  refine s1 tok [2, 3, 24] ?_
  refine s1 tok [2, 3, 25] ?_
  refine s2 tok [2, 3, 25, 26] 25 rfl rfl ?_
  refine s2 tok [2, 3, 25, 27] 25 rfl rfl ?_
  refine s2 tok [2, 3, 25, 27, 28] 25 rfl rfl ?_
  refine s2 tok [2, 3, 25, 27, 29] 25 rfl rfl ?_
  refine s2 tok [2, 3, 25, 30] 25 rfl rfl ?_
  refine s1 tok [2, 3, 31] ?_
  refine s1 tok [2, 3, 32] ?_
  refine s2 tok [2, 3, 32, 33] 32 rfl rfl ?_
  refine s2 tok [2, 3, 32, 34] 32 rfl rfl ?_
  refine s2 tok [2, 3, 32, 34, 35] 32 rfl rfl ?_
  refine s2 tok [2, 3, 32, 34, 36] 32 rfl rfl ?_
  refine s2 tok [2, 3, 32, 37] 32 rfl rfl ?_
  refine s1 tok [2, 3, 38] ?_
  refine s1 tok [2, 3, 5] ?_
  refine AOpsO.nil ?_
  refine AW.seqRegionO [.nilp, .bool (eqL eqS a.keys b.keys), .nilp, .bool (eqL sameT a.kids b.kids)] ?_
  refine s1 tok [2, 3, 39] ?_
  refine s1 tok [2, 3, 40] ?_
  refine s2 tok [2, 3, 40, 41] 40 rfl rfl ?_
  refine s2 tok [2, 3, 40, 42] 40 rfl rfl ?_ (hv := by first | with_reducible exact True.intro | (((repeat' (first | with_reducible apply And.intro | intro _)) <;> first | exact (hk) | exact (hv) | assumption | omega | contradiction | simp_all); done) | omega | simp | (simp; omega) | (simp +contextual; omega))
  refine s2 tok [2, 3, 40, 42, 43] 40 rfl rfl ?_
  refine s2 tok [2, 3, 40, 42, 44] 40 rfl rfl ?_ (hv := by first | with_reducible exact True.intro | (((repeat' (first | with_reducible apply And.intro | intro _)) <;> first | exact (hk) | exact (hv) | assumption | omega | contradiction | simp_all); done) | omega | simp | (simp; omega) | (simp +contextual; omega))
  refine s2 tok [2, 3, 40, 45] 40 rfl rfl ?_ (hv := by first | with_reducible exact True.intro | (((repeat' (first | with_reducible apply And.intro | intro _)) <;> first | exact (hk) | exact (hv) | assumption | omega | contradiction | simp_all); done) | omega | simp | (simp; omega) | (simp +contextual; omega))
  refine s1 tok [2, 3, 46] ?_ (hv := by first | with_reducible exact True.intro | (((repeat' (first | with_reducible apply And.intro | intro _)) <;> first | exact (hk) | exact (hv) | assumption | omega | contradiction | simp_all); done) | omega | simp | (simp; omega) | (simp +contextual; omega))
  refine s1 tok [2, 3, 47] ?_
  refine s2 tok [3, 47, 48] 47 rfl rfl ?_
  refine s2 tok [3, 47, 49] 47 rfl rfl ?_ (hv := by first | with_reducible exact True.intro | (((repeat' (first | with_reducible apply And.intro | intro _)) <;> first | exact (hk) | exact (hv) | assumption | omega | contradiction | simp_all); done) | omega | simp | (simp; omega) | (simp +contextual; omega))
  refine s2 tok [47, 49, 50] 47 rfl rfl ?_
  refine s2 tok [47, 49, 51] 47 rfl rfl ?_ (hv := by first | with_reducible exact True.intro | (((repeat' (first | with_reducible apply And.intro | intro _)) <;> first | exact (hk) | exact (hv) | assumption | omega | contradiction | simp_all); done) | omega | simp | (simp; omega) | (simp +contextual; omega))
  refine s2 tok [47, 52] 47 rfl rfl ?_ (hv := by first | with_reducible exact True.intro | (((repeat' (first | with_reducible apply And.intro | intro _)) <;> first | exact (hk) | exact (hv) | assumption | omega | contradiction | simp_all); done) | omega | simp | (simp; omega) | (simp +contextual; omega))
  refine s1 tok [53] ?_ (hv := by first | with_reducible exact True.intro | (((repeat' (first | with_reducible apply And.intro | intro _)) <;> first | exact (hk) | exact (hv) | assumption | omega | contradiction | simp_all); done) | omega | simp | (simp; omega) | (simp +contextual; omega))
  refine s1 tok [4] ?_
  refine AOpsO.nil ?_
  exact AW.ret ⟨.inr rfl, _, _, by (conv => lhs; simp), trivial, by simp [Bool.and_assoc]⟩
theorem sameT_ev (a b : Val) : AFn Tryz.prog G 27 [a.enc, b.enc] (.bool (sameT a b)) :=
  Val.induct (p := fun a => ∀ b, AFn Tryz.prog G 27 [a.enc, b.enc] (.bool (sameT a b))) (fun a ih b => same_step a b fun x hx y _ => ih x hx y) a b
end Go.Proofs.YtgoepemmcibdaaaGreatDoor
