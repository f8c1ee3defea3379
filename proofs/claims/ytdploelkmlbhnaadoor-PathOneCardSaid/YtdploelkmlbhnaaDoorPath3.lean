import Derived.Test.YtdploelkmlbhnaaDoorPath2
namespace Go.Proofs.YtdploelkmlbhnaaDoor
open Sy Go
set_option maxRecDepth 100000
set_option linter.unusedSimpArgs false
set_option linter.unusedVariables false
variable {G : Glob}

/-- The next row of the reference. -/
def nextF (t : Step) (to : List Step) (F : Nat → Bool) : Nat → Bool
  | 0 => if t.kind = 5 then F 0 else false
  | k + 1 => if t.kind = 5 then F (k + 1) || nextF t to F k else F k && (match to[k]? with
    | some x => oneM t x
    | none => false)
def refRow (to : List Step) : List Step → (Nat → Bool) → (Nat → Bool)
  | [], F => F
  | t :: l, F => refRow to l (nextF t to F)
theorem refRow_snoc (to : List Step) (t : Step) : ∀ (l : List Step) (F : Nat → Bool), refRow to (l ++ [t]) F = nextF t to (refRow to l F)
  | [], F => rfl
  | x :: l, F => refRow_snoc to t l _
def row0 : Nat → Bool := fun k => decide (k = 0)
def refMatchM (l to : List Step) : Bool := refRow to l row0 to.length

def refS1 (l to : List Step) (i : Nat) (F : Nat → Bool) : St := ⟨[.p (.sl 3 (l.map Step.enc)), .p (.sl 3 (to.map Step.enc)), .dead, .dead, .dead, .ms 12, .p (.int .i64 i)] ++ List.replicate 78 .dead, [],
  [(12, .row 4 1 (rowP (to.length + 1) F))], 0⟩
def part (k : Nat) (F : Nat → Bool) : Nat → Bool := fun p => if p < k then F p else false
def refS2 (l to : List Step) (i k : Nat) (F F' : Nat → Bool) : St := ⟨[.p (.sl 3 (l.map Step.enc)), .p (.sl 3 (to.map Step.enc)), .dead, .dead, .dead, .ms 12, .p (.int .i64 i), .ms 24, .p (.int .i64 k)] ++ List.replicate 76 .dead, [],
  [(12, .row 4 1 (rowP (to.length + 1) F)), (24, .row 4 1 (rowP (to.length + 1) (part k F')))], 0⟩
theorem part_zero (n : Nat) (F : Nat → Bool) : rowP n (part 0 F) = rowP n fun _ => false := rfl
theorem part_step {n k : Nat} {F : Nat → Bool} {b : Bool} (h : b = F k) : rowP n (fun p => if p = k then b else part k F p) = rowP n (part (k + 1) F) := rowP_congr fun p _ => by
  simp only [part]
  by_cases h1 : p = k
  · subst h1; simp [h]
  · by_cases h2 : p < k
    · simp [h1, h2, show p < k + 1 by omega]
    · simp [h1, h2, show ¬ p < k + 1 by omega]
theorem part_end {n k : Nat} {F : Nat → Bool} (h : n ≤ k) : rowP n (part k F) = rowP n F := rowP_congr fun p hp => by simp [part, show p < k by omega]
theorem row0_eq (n : Nat) : rowP n (fun k => if k = 0 then true else false) = rowP n row0 := rowP_congr fun p _ => by simp [row0]

theorem refMatch_ev (l to : List Step) (hl : l.length ≤ 1000) (hto : to.length ≤ 1000) : AFn Tryd.prog G 13 [.sl 3 (l.map Step.enc), .sl 3 (to.map Step.enc)] (.bool (refMatchM l to)) := by
  refine AFn.intro tok Tryd.func13 (by kernel_rfl) rfl ?_
  simp only [Tryd.f13, St.start]
  refine AW.seqRun tok [] (by intro C; conv => lhs; simp) trivial ?_ -- r0 {}
  refine AW.seqRun tok [.bool false] (by intro C; conv => lhs; simp) (by omega) ?_ -- r1 {t12:makeSlice}
  refine AW.seqRun tok [.bool false, .bool true] (by intro C; conv => lhs; simp) (by simp) ?_ -- r2 {t14:index; storerow e0 e1}
  refine AW.seq ?_
  refine AW.seqRun tok [] (by intro C; conv => lhs; simp) trivial ?_ -- r3 {}
  refine AW.block ?_
  -- LOOP
  refine AW.loop (α := Nat) (fun a => a ≤ l.length) (fun a => refS1 l to a (refRow to (l.take a) row0)) (fun a => l.length - a) 0 (by omega) ⟨by simp [refS1], rfl, by simp [refS1, rep_row, refRow]; rfl, by simp [refS1]⟩ ?_
  intro a hI
  simp only [refS1]
  refine AW.seq ?_
  refine AW.seqRun tok [] (by intro C; conv => lhs; simp) trivial ?_ -- r4 {}
  refine AW.cond (c := .tmp 18) (by conv => lhs; simp) trivial ?_ ?_
  · intro h1
    simp at h1
    obtain ⟨t, ht⟩ : ∃ t, l[a]? = some t := ⟨l[a], by simp [h1]⟩
    have hnext : refRow to (l.take (a + 1)) row0 = nextF t to (refRow to (l.take a) row0) := by
      rw [List.take_add_one, ht]; exact refRow_snoc to t _ _
    generalize refRow to (l.take a) row0 = F at *
    refine AW.skip ?_
    refine AW.seq ?_
    refine AW.block ?_
    refine AW.seqRun tok [.bool false] (by intro C; conv => lhs; simp) (by omega) ?_ -- r6 {t24:makeSlice}
    refine AW.seq ?_
    refine AW.seqRun tok [] (by intro C; conv => lhs; simp) trivial ?_ -- r7 {}
    refine AW.block ?_
    -- LOOP
    refine AW.loop (α := Nat) (fun k => k ≤ to.length + 1) (fun k => refS2 l to a k F (nextF t to F)) (fun k => to.length + 1 - k) 0 (by omega) ⟨by simp [refS2], rfl, by simp [refS2, rep_row, part_zero], by simp [refS2]⟩ ?_
    intro k hk
    simp only [refS2]
    refine AW.seq ?_
    refine AW.seqRun tok [] (by intro C; conv => lhs; simp) trivial ?_ -- r8 {}
    refine AW.cond (c := .tmp 28) (by conv => lhs; simp) trivial ?_ ?_
    · intro h2
      simp at h2
      refine AW.skip ?_
      refine AW.seq ?_
      refine AW.block ?_
      refine AW.seqRun tok [t.enc] (by intro C; conv => lhs; simp) (by simp [ht]) ?_ -- r10 {t33:index}
      refine AW.cond (c := .tmp 36) (by conv => lhs; simp) trivial ?_ ?_
      · intro h3
        simp at h3
        rcases k with _ | k
        · refine AW.run tok [.bool (F 0), .bool false, .bool false, .bool (F 0)] (by intro C; conv => lhs; simp) (by simp [part]) ?_ -- r11 {t41:index; t42:load; t50:index; t51:load; t54:index; storerow e0 e1}
          refine AW.run tok [] (by intro C; conv => lhs; simp) (by simp) ?_ -- r9 {}
          exact ⟨0 + 1, by omega, by omega, by simp [refS2], rfl, by simp [refS2, part_step (k := 0) (F := nextF t to F) (b := F 0) (by simp [nextF, h3])], by simp [refS2]⟩ -- END OF ROUND
        · refine AW.run tok [.bool (F (k + 1)), .bool (nextF t to F k), .bool false, .bool (F (k + 1) || nextF t to F k)] (by intro C; conv => lhs; simp) (by simp +contextual [part, show k < to.length + 1 by omega, show k + 1 < to.length + 1 by omega]; omega) ?_ -- r11 {t41:index; t42:load; t50:index; t51:load; t54:index; storerow e0 e1}
          refine AW.run tok [] (by intro C; conv => lhs; simp) (by omega) ?_ -- r9 {}
          exact ⟨k + 1 + 1, by omega, by omega, by simp [refS2], rfl, by simp [refS2, part_step (k := k + 1) (F := nextF t to F) (b := F (k + 1) || nextF t to F k) (by simp [nextF, h3])], by simp [refS2]⟩ -- END OF ROUND
      · intro h3
        simp at h3
        rcases k with _ | k
        · refine AW.runAny tok mixed 23 [[7], [8], [8], [57], [58], [5, 59], [8, 59], [61, 59], [60, 62, 59], [63, 59], [59, 64], [65], [0, 66], [6, 66], [67, 68, 66], [69, 66], [1, 66], [8, 66], [72, 66], [71, 73, 66], [74, 66], [70, 75, 66], [66, 76]] [.bool false, t.enc, t.enc, .tup [t.enc, t.enc], .bool true] [.bool false, .bool false] (by kernel_rfl) (by intro C; conv => lhs; simp) (by simp) (by intro C; conv => lhs; simp) (by simp [part]) ?_ -- r12 {t63:index; t64:load; t69:index; t70:load; t74:index; t75:load; t76:CALL call f23(t70, t75) args,res; t78:index; storerow e0 e1}
          refine AW.run tok [] (by intro C; conv => lhs; simp) (by simp) ?_ -- r9 {}
          exact ⟨0 + 1, by omega, by omega, by simp [refS2], rfl, by simp [refS2]; exact rowP_congr fun p _ => by rcases p with _ | p <;> simp [part, nextF, h3], by simp [refS2]⟩ -- END OF ROUND
        · obtain ⟨x, hx⟩ : ∃ x, to[k]? = some x := ⟨to[k]'(by omega), by simp [show k < to.length by omega]⟩
          refine AW.runAny tok mixed 23 [[7], [8], [8], [57], [58], [5, 59], [8, 59], [61, 59], [60, 62, 59], [63, 59], [59, 64], [65], [0, 66], [6, 66], [67, 68, 66], [69, 66], [1, 66], [8, 66], [72, 66], [71, 73, 66], [74, 66], [70, 75, 66], [66, 76]] [.bool (F k), t.enc, x.enc, .tup [t.enc, x.enc], .bool (oneM t x)] [.bool false, .bool (F k && oneM t x)] (by kernel_rfl) (by intro C; conv => lhs; simp) (by have := one_ev (G := G) t x; simp +contextual [show k < to.length + 1 by omega, ht, hx] at this ⊢; exact ⟨by omega, fun _ => by omega, fun _ => this⟩) (by intro C; conv => lhs; simp) (by exact ⟨⟨by omega, by omega⟩, by rw [rowP_get (by omega)]; simp [part]⟩) ?_ -- r12 {t63:index; t64:load; t69:index; t70:load; t74:index; t75:load; t76:CALL call f23(t70, t75) args,res; t78:index; storerow e0 e1}
          refine AW.run tok [] (by intro C; conv => lhs; simp) (by omega) ?_ -- r9 {}
          exact ⟨k + 1 + 1, by omega, by omega, by simp [refS2], rfl, by simp [refS2, part_step (k := k + 1) (F := nextF t to F) (b := F k && oneM t x) (by simp [nextF, h3, hx])], by simp [refS2]⟩ -- END OF ROUND
    · intro h2
      simp at h2
      refine AW.exit ?_ -- exit 2
      simp
      refine AW.run tok [] (by intro C; conv => lhs; simp) trivial ?_ -- r13 {}
      refine AW.take 24 12 ?_
      refine AW.run tok [] (by intro C; conv => lhs; simp) (by omega) ?_ -- r5 {}
      exact ⟨a + 1, by omega, by omega, by simp [refS1], rfl, by simp [refS1, part_end (show to.length + 1 ≤ k by omega), hnext], by simp [refS1]⟩ -- END OF ROUND
  · intro h1
    simp at h1
    refine AW.exit ?_ -- exit 0
    simp
    refine AW.seqRun tok [.bool (refMatchM l to)] (by intro C; conv => lhs; simp) (by simp [refMatchM, List.take_of_length_le h1]) ?_ -- r14 {t83:index; t84:load}
    exact AW.ret ⟨.inr rfl, _, _, by (conv => lhs; simp), trivial, by simp⟩
end Go.Proofs.YtdploelkmlbhnaaDoor
