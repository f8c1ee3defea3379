import Derived.Test.YtdjjmppnnkkloaaGreatDoorK2
import Derived.Test.YtdjjmppnnkkloaaGreatDoorK1
namespace Go.Proofs.YtdjjmppnnkkloaaGreatDoor
open Sy Go
set_option maxRecDepth 100000
set_option maxHeartbeats 4000000
set_option linter.unusedSimpArgs false
set_option linter.unusedVariables false
variable {G : Glob}
/-- The first `k` of what is kept (no more than `n`), each as `f` makes it. -/
def upTo {α β : Type} (f : α → β) (n : Nat) (l : List α) (k : Nat) : List β := ((l.take n).map f).take k
@[simp] theorem upTo_zero {α β : Type} (f : α → β) (n : Nat) (l : List α) : upTo f n l 0 = [] := rfl
theorem upTo_succ {α β : Type} (f : α → β) {l : List α} {n k : Nat} {x : α} (h : l[k]? = some x) (hk : k < n) : upTo f n l (k + 1) = upTo f n l k ++ [f x] := by
  have : ((l.take n).map f)[k]? = some (f x) := by simp [List.getElem?_take, hk, h]
  unfold upTo
  rw [List.take_add_one, this]; rfl
theorem upTo_end {α β : Type} (f : α → β) {l : List α} {n k : Nat} (h : l.length ≤ k ∨ n ≤ k) : upTo f n l k = upTo f n l n := by
  unfold upTo
  rw [← List.map_take, ← List.map_take, List.take_take, List.take_take]
  rcases h with h | h
  · rw [Nat.min_self]
    by_cases hkn : k ≤ n
    · rw [Nat.min_eq_left hkn, List.take_of_length_le h, List.take_of_length_le (by omega)]
    · rw [Nat.min_eq_right (by omega)]
  · rw [Nat.min_eq_right h, Nat.min_self]
theorem upTo_len {α β : Type} (f : α → β) (n : Nat) (l : List α) (k : Nat) : (upTo f n l k).length ≤ n := by
  unfold upTo; simp; omega
def few40 (c : List UInt8) : List UInt8 := c.take 40
theorem few40_eq (c : List UInt8) : few40 c = c.take 40 := rfl
def fewK (m : Mk) : Mk := ⟨upTo few1 12 m.path 12, m.mask⟩
/-- A policy of no more than so much. -/
def fewPol (p : Pol) : Pol := ⟨upTo few40 70 p.cats 70, upTo fewK 20 p.marks 20, p.token.take 100, p.fuel, p.quota⟩
theorem few8_ev (p : Pol) : AFn Tryz.prog G 10 [p.enc] ((fewPol p).enc) := by
  refine AFn.introU tok Tryz.func10 (by kernel_rfl) rfl rfl ?_
  simp only [Tryz.f10, enumA, List.map_cons, List.map_nil]
  refine rgn [] [[], [1, 2]] ?_
  iterate 2 refine op1 tok ?_
  refine runEnd ?_
  refine rgn [] [[], [], [], [], [], [], [1, 2, 18], [], [1, 2, 3]] ?_
  iterate 9 refine op1 tok ?_
  refine runEnd ?_
  refine AW.join (α := Unit) (fun _ => True) (fun _ => ⟨upds 118 [(1, .ptr 1 0), (2, .ptr 2 0), (3, .ptr 3 0)], [], [(1, .vars 25 [.p (.sl 1 (p.cats.map PD.str)), .p (.sl 2 (p.marks.map Mk.enc)), .p (.str p.token), .p (.int .i64 p.fuel), .p (.int .i64 p.quota)]), (2, .vars 25 [.nilsl, .nilsl, .p (.str []), .p (.int .i64 0), .p (.int .i64 0)]), (3, .vars 25 [.nilsl, .nilsl, .p (.str (p.token.take 100)), .p (.int .i64 p.fuel), .p (.int .i64 p.quota)])], 0⟩) ?_ ?_
  ·
    refine rgn [] [[], [], [], [1, 2, 3, 22]] ?_
    iterate 4 refine op1 tok ?_
    refine runEnd ?_
    refine cnd ?_ ?_
    · intro h22
      try simp at h22
      refine rgz [] [[], [], [], [], [1, 2, 3]] ?_
      iterate 5 refine op1 tok ?_
      refine runEnd ?_
      exact ⟨(), trivial, upds_le (by simp), rfl, by simp, by simp⟩
    · intro h22
      try simp at h22
      refine AW.skip ?_
      exact ⟨(), trivial, upds_le (by simp [List.take_of_length_le (show p.token.length ≤ 100 by omega)]), rfl, by simp [List.take_of_length_le (show p.token.length ≤ 100 by omega)], by simp [List.take_of_length_le (show p.token.length ≤ 100 by omega)]⟩
  ·
    rintro _ _
    refine rgn [] [[], [1, 2, 3, 4]] ?_
    iterate 2 refine op1 tok ?_
    refine runEnd ?_
    refine AW.seq ?_
    refine rgn [] [[]] ?_
    refine op1 tok ?_
    refine runEnd ?_
    refine AW.block ?_
    refine AW.loop (α := Nat) (fun k => k ≤ p.cats.length ∧ k ≤ 70) (fun k => ⟨upds 118 [(1, .ptr 1 0), (2, .ptr 2 0), (3, .ptr 3 0), (4, .ms 27), (5, .p (.int .i64 k))], [], [(1, .vars 25 [.p (.sl 1 (p.cats.map PD.str)), .p (.sl 2 (p.marks.map Mk.enc)), .p (.str p.token), .p (.int .i64 p.fuel), .p (.int .i64 p.quota)]), (2, .vars 25 [.nilsl, .nilsl, .p (.str []), .p (.int .i64 0), .p (.int .i64 0)]), (3, .vars 25 [.nilsl, .nilsl, .p (.str (p.token.take 100)), .p (.int .i64 p.fuel), .p (.int .i64 p.quota)]), (27, .row 9 1 ((upTo few40 70 p.cats k).map PD.str))], 0⟩) (fun k => p.cats.length - k) (0) ⟨by omega, by omega⟩ ⟨upds_le (by simp), rfl, by simp, by simp⟩ ?_
    rintro k ⟨hk, hk2⟩
    refine AW.seq ?_
    refine rgn [] [[], [], [], [], [1, 2, 3, 4, 5, 32], [], [], [], [1, 2, 3, 4, 5, 36]] ?_
    iterate 6 refine op1 tok ?_
    iterate 2 refine op2 tok ?_
    refine op1 tok ?_
    refine runEnd ?_
    refine cnd ?_ ?_
    · intro h36
      try simp at h36
      obtain ⟨c, hc⟩ : ∃ c, p.cats[k]? = some c := ⟨p.cats[k]'(by omega), by simp [show k < p.cats.length by omega]⟩
      have hsn := upTo_succ few40 (n := 70) hc (by omega)
      have h40 := few40_eq c
      have hln := upTo_len few40 70 p.cats k
      refine AW.skip ?_
      refine AW.seq ?_
      refine AW.block ?_
      refine rgn [.str c] [[], [], [], [], [1, 2, 3, 4, 5, 43], [1, 2, 3, 4, 5, 6]] ?_
      iterate 6 refine op1 tok ?_ (hv := by first | with_reducible exact True.intro | (first | (simp [hc]; done) | (simp [hc]; omega); done) | omega | simp | (simp; omega) | (simp +contextual; omega))
      refine runEnd ?_
      refine AW.seq ?_
      refine rgn [] [[], [], [1, 2, 3, 4, 5, 6, 46]] ?_
      iterate 3 refine op1 tok ?_
      refine runEnd ?_
      refine cnd ?_ ?_
      · intro h46
        try simp at h46
        refine rgz [] [[], [], [1, 2, 3, 4, 5, 6]] ?_
        iterate 3 refine op1 tok ?_
        refine runEnd ?_
        refine rgz [.str (c.take 40)] [[], [], [], [1, 2, 3, 5, 52], [1, 2, 3, 4, 5]] ?_
        iterate 5 refine op1 tok ?_ (hv := by first | with_reducible exact True.intro | (first | (simp; omega) | simp; done) | omega | simp | (simp; omega) | (simp +contextual; omega))
        refine runEnd ?_
        refine rgz [] [[], [], [1, 2, 3, 4, 5]] ?_
        iterate 3 refine op1 tok ?_
        refine runEnd ?_
        exact ⟨k + 1, ⟨by omega, by omega⟩, by omega, upds_le (by simp [hsn, h40]), rfl, by simp [hsn, h40], by simp [hsn, h40]⟩
      · intro h46
        try simp at h46
        refine AW.skip ?_
        refine rgz [.str c] [[], [], [], [1, 2, 3, 5, 52], [1, 2, 3, 4, 5]] ?_
        iterate 5 refine op1 tok ?_ (hv := by first | with_reducible exact True.intro | (first | (simp; omega) | simp; done) | omega | simp | (simp; omega) | (simp +contextual; omega))
        refine runEnd ?_
        refine rgz [] [[], [], [1, 2, 3, 4, 5]] ?_
        iterate 3 refine op1 tok ?_
        refine runEnd ?_
        exact ⟨k + 1, ⟨by omega, by omega⟩, by omega, upds_le (by simp [hsn, h40, List.take_of_length_le (show c.length ≤ 40 by omega)]), rfl, by simp [hsn, h40, List.take_of_length_le (show c.length ≤ 40 by omega)], by simp [hsn, h40, List.take_of_length_le (show c.length ≤ 40 by omega)]⟩
    · intro h36
      try simp at h36
      rw [upTo_end few40 (l := p.cats) (n := 70) (k := k) (by
        by_cases h : k < p.cats.length
        · have := h36 (by omega); exact .inr (by omega)
        · exact .inl (by omega))]
      refine AW.exit ?_
      simp
      refine rgn [] [[], [1, 2, 3, 4, 7]] ?_
      iterate 2 refine op1 tok ?_
      refine runEnd ?_
      refine AW.seq ?_
      refine rgn [] [[]] ?_
      refine op1 tok ?_
      refine runEnd ?_
      refine AW.block ?_
      refine AW.loop (α := Nat) (fun k => k ≤ p.marks.length ∧ k ≤ 20) (fun k => ⟨upds 118 [(1, .ptr 1 0), (2, .ptr 2 0), (3, .ptr 3 0), (4, .ms 27), (7, .ms 53), (8, .p (.int .i64 k))], [], [(1, .vars 25 [.p (.sl 1 (p.cats.map PD.str)), .p (.sl 2 (p.marks.map Mk.enc)), .p (.str p.token), .p (.int .i64 p.fuel), .p (.int .i64 p.quota)]), (2, .vars 25 [.nilsl, .nilsl, .p (.str []), .p (.int .i64 0), .p (.int .i64 0)]), (3, .vars 25 [.nilsl, .nilsl, .p (.str (p.token.take 100)), .p (.int .i64 p.fuel), .p (.int .i64 p.quota)]), (27, .row 9 1 ((upTo few40 70 p.cats 70).map PD.str)), (53, .row 59 2 ((upTo fewK 20 p.marks k).map Mk.enc))], 0⟩) (fun k => p.marks.length - k) (0) ⟨by omega, by omega⟩ ⟨upds_le (by simp), rfl, by simp, by simp⟩ ?_
      rintro k ⟨hk, hk2⟩
      refine AW.seq ?_
      refine rgn [] [[], [], [], [], [1, 2, 3, 4, 7, 8, 58], [], [], [], [1, 2, 3, 4, 7, 8, 62]] ?_
      iterate 6 refine op1 tok ?_
      iterate 2 refine op2 tok ?_
      refine op1 tok ?_
      refine runEnd ?_
      refine cnd ?_ ?_
      · intro h62
        try simp at h62
        obtain ⟨x, hx⟩ : ∃ x, p.marks[k]? = some x := ⟨p.marks[k]'(by omega), by simp [show k < p.marks.length by omega]⟩
        have hsn := upTo_succ fewK (n := 20) hx (by omega)
        have hln := upTo_len fewK 20 p.marks k
        refine AW.skip ?_
        refine AW.seq ?_
        refine AW.block ?_
        refine rgn [] [[], [1, 2, 3, 4, 7, 8, 9]] ?_
        iterate 2 refine op1 tok ?_
        refine runEnd ?_
        refine AW.seq ?_
        refine rgn [] [[]] ?_
        refine op1 tok ?_
        refine runEnd ?_
        refine AW.block ?_
        refine AW.loop (α := Nat) (fun j => j ≤ x.path.length ∧ j ≤ 12) (fun j => ⟨upds 118 [(1, .ptr 1 0), (2, .ptr 2 0), (3, .ptr 3 0), (4, .ms 27), (7, .ms 53), (8, .p (.int .i64 k)), (9, .ms 65), (10, .p (.int .i64 j))], [], [(1, .vars 25 [.p (.sl 1 (p.cats.map PD.str)), .p (.sl 2 (p.marks.map Mk.enc)), .p (.str p.token), .p (.int .i64 p.fuel), .p (.int .i64 p.quota)]), (2, .vars 25 [.nilsl, .nilsl, .p (.str []), .p (.int .i64 0), .p (.int .i64 0)]), (3, .vars 25 [.nilsl, .nilsl, .p (.str (p.token.take 100)), .p (.int .i64 p.fuel), .p (.int .i64 p.quota)]), (27, .row 9 1 ((upTo few40 70 p.cats 70).map PD.str)), (53, .row 59 2 ((upTo fewK 20 p.marks k).map Mk.enc)), (65, .row 57 3 ((upTo few1 12 x.path j).map Step.enc))], 0⟩) (fun j => x.path.length - j) (0) ⟨by omega, by omega⟩ ⟨upds_le (by simp), rfl, by simp, by simp⟩ ?_
        rintro j ⟨hj, hj2⟩
        refine AW.seq ?_
        refine rgn [x.enc] [[], [], [], [], [], [1, 2, 3, 4, 7, 8, 9, 10, 66, 71], [], [], [1, 2, 3, 4, 7, 8, 9, 10, 74], [], [], [], [1, 2, 3, 4, 7, 8, 9, 10, 78]] ?_
        iterate 10 refine op1 tok ?_ (hv := by first | with_reducible exact True.intro | (first | (simp [hx]; done) | (simp [hx]; omega); done) | omega | simp | (simp; omega) | (simp +contextual; omega))
        iterate 2 refine op2 tok ?_ (hv := by first | with_reducible exact True.intro | (first | (simp [hx]; done) | (simp [hx]; omega); done) | omega | simp | (simp; omega) | (simp +contextual; omega))
        refine op1 tok ?_ (hv := by first | with_reducible exact True.intro | (first | (simp [hx]; done) | (simp [hx]; omega); done) | omega | simp | (simp; omega) | (simp +contextual; omega))
        refine runEnd ?_
        refine cnd ?_ ?_
        · intro h78
          try simp at h78
          obtain ⟨t, ht⟩ : ∃ t, x.path[j]? = some t := ⟨x.path[j]'(by omega), by simp [show j < x.path.length by omega]⟩
          have hsn2 := upTo_succ few1 (n := 12) ht (by omega)
          have hln2 := upTo_len few1 12 x.path j
          refine AW.skip ?_
          refine AW.seq ?_
          refine AW.block ?_
          refine rgn [x.enc, t.enc] [[], [], [], [], [1, 2, 3, 4, 7, 8, 9, 10, 85], [], [], [], [1, 2, 3, 4, 7, 8, 9, 10, 89], [], [1, 2, 3, 4, 7, 8, 9, 10, 11]] ?_
          iterate 11 refine op1 tok ?_ (hv := by first | with_reducible exact True.intro | (first | (simp [hx]; done) | (simp [ht]; done) | (simp [hx, ht]; omega); done) | omega | simp | (simp; omega) | (simp +contextual; omega))
          refine runEnd ?_
          refine AW.seq ?_
          refine rgn [] [[], [], [], [1, 2, 3, 4, 7, 8, 9, 10, 11, 93]] ?_
          iterate 4 refine op1 tok ?_
          refine runEnd ?_
          refine cnd ?_ ?_
          · intro h93
            try simp at h93
            have hf1 : few1 t = ⟨t.kind, t.key.take 40, t.n⟩ := by unfold few1; rw [if_pos (by omega)]
            refine rgz [] [[], [], [], [], [1, 2, 3, 4, 7, 8, 9, 10, 11]] ?_
            iterate 5 refine op1 tok ?_
            refine runEnd ?_
            refine rgz [.agg [.int .i64 t.kind, .str (t.key.take 40), .int .i64 t.n]] [[], [], [], [1, 2, 3, 4, 7, 8, 10, 101], [1, 2, 3, 4, 7, 8, 9, 10]] ?_
            iterate 5 refine op1 tok ?_ (hv := by first | with_reducible exact True.intro | (first | (simp; omega) | simp; done) | omega | simp | (simp; omega) | (simp +contextual; omega))
            refine runEnd ?_
            refine rgz [] [[], [], [1, 2, 3, 4, 7, 8, 9, 10]] ?_
            iterate 3 refine op1 tok ?_
            refine runEnd ?_
            exact ⟨j + 1, ⟨by omega, by omega⟩, by omega, upds_le (by simp [hsn2, hf1]), rfl, by simp [hsn2, hf1], by simp [hsn2, hf1]⟩
          · intro h93
            try simp at h93
            have hf1 : few1 t = t := by unfold few1; rw [if_neg (by omega)]
            refine AW.skip ?_
            refine rgz [t.enc] [[], [], [], [1, 2, 3, 4, 7, 8, 10, 101], [1, 2, 3, 4, 7, 8, 9, 10]] ?_
            iterate 5 refine op1 tok ?_ (hv := by first | with_reducible exact True.intro | (first | (simp; omega) | simp; done) | omega | simp | (simp; omega) | (simp +contextual; omega))
            refine runEnd ?_
            refine rgz [] [[], [], [1, 2, 3, 4, 7, 8, 9, 10]] ?_
            iterate 3 refine op1 tok ?_
            refine runEnd ?_
            exact ⟨j + 1, ⟨by omega, by omega⟩, by omega, upds_le (by simp [hsn2, hf1]), rfl, by simp [hsn2, hf1], by simp [hsn2, hf1]⟩
        · intro h78
          try simp at h78
          rw [upTo_end few1 (l := x.path) (n := 12) (k := j) (by
            by_cases h : j < x.path.length
            · have := h78 (by omega); exact .inr (by omega)
            · exact .inl (by omega))]
          have hfk : fewK x = ⟨upTo few1 12 x.path 12, x.mask⟩ := rfl
          generalize upTo few1 12 x.path 12 = path at *
          refine AW.exit ?_
          simp
          refine AW.freezeE 65 (by conv => lhs; simp) ?_
          refine rgz [x.enc, .agg [.sl 3 (path.map Step.enc), .int .u64 x.mask]] [[], [], [], [], [], [1, 2, 3, 4, 8, 102, 103, 107], [], [], [1, 2, 3, 4, 8, 102, 110], [], [], [1, 2, 3, 4, 7, 8]] ?_
          iterate 12 refine op1 tok ?_ (hv := by first | with_reducible exact True.intro | (first | (simp [hx]; done) | (simp; omega) | simp; done) | omega | simp | (simp; omega) | (simp +contextual; omega))
          refine runEnd ?_
          refine rgz [] [[], [], [1, 2, 3, 4, 7, 8]] ?_
          iterate 3 refine op1 tok ?_
          refine runEnd ?_
          exact ⟨k + 1, ⟨by omega, by omega⟩, by omega, upds_le (by simp [hsn, hfk]), rfl, by simp [hsn, hfk], by simp [hsn, hfk]⟩
      · intro h62
        try simp at h62
        rw [upTo_end fewK (l := p.marks) (n := 20) (k := k) (by
          by_cases h : k < p.marks.length
          · have := h62 (by omega); exact .inr (by omega)
          · exact .inl (by omega))]
        refine AW.exit ?_
        simp
        refine rgn [] [[], [], [2, 3, 7]] ?_
        iterate 3 refine op1 tok ?_
        refine runEnd ?_
        refine rgn [] [[], [], [2, 3]] ?_
        iterate 3 refine op1 tok ?_
        refine runEnd ?_
        refine AW.freezeE 27 (by conv => lhs; simp) ?_
        refine AW.freezeE 53 (by conv => lhs; simp) ?_
        refine rgn [] [[], [2]] ?_
        iterate 2 refine op1 tok ?_
        refine runEnd ?_
        exact AW.ret ⟨.inr rfl, _, _, by (conv => lhs; simp), trivial, by simp [fewPol]⟩
end Go.Proofs.YtdjjmppnnkkloaaGreatDoor
