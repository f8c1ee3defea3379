import Derived.Test.YtdjjmppnnkkloaaDoorSPath2
namespace Go.Proofs.YtdjjmppnnkkloaaDoor
open Sy Go
set_option maxRecDepth 100000
set_option linter.unusedSimpArgs false
set_option linter.unusedVariables false
variable {G : Glob}

/-- The next row of the reference. -/
def nextF (t : Step) (to : List Step) (F : Nat → Bool) : Nat → Bool
  | 0 => if t.kind = 5 then F 0 else false
  | k + 1 => if t.kind = 5 then F (k + 1) || nextF t to F k else F k && (match to[k]? with
    | some x => oneM t x
    | none => false)
def refRow (to : List Step) : List Step → (Nat → Bool) → (Nat → Bool)
  | [], F => F
  | t :: l, F => refRow to l (nextF t to F)
theorem refRow_snoc (to : List Step) (t : Step) : ∀ (l : List Step) (F : Nat → Bool), refRow to (l ++ [t]) F = nextF t to (refRow to l F)
  | [], F => rfl
  | x :: l, F => refRow_snoc to t l _
def row0 : Nat → Bool := fun k => decide (k = 0)
def refMatchM (l to : List Step) : Bool := refRow to l row0 to.length

def refS1 (l to : List Step) (i : Nat) (F : Nat → Bool) : St := ⟨[.p (.sl 3 (l.map Step.enc)), .p (.sl 3 (to.map Step.enc)), .dead, .dead, .dead, .ms 12, .p (.int .i64 i)] ++ List.replicate 78 .dead, [],
  [(12, .row 4 1 (rowP (to.length + 1) F))], 0⟩
def part (k : Nat) (F : Nat → Bool) : Nat → Bool := fun p => if p < k then F p else false
def refS2 (l to : List Step) (i k : Nat) (F F' : Nat → Bool) : St := ⟨[.p (.sl 3 (l.map Step.enc)), .p (.sl 3 (to.map Step.enc)), .dead, .dead, .dead, .ms 12, .p (.int .i64 i), .ms 24, .p (.int .i64 k)] ++ List.replicate 76 .dead, [],
  [(12, .row 4 1 (rowP (to.length + 1) F)), (24, .row 4 1 (rowP (to.length + 1) (part k F')))], 0⟩
theorem part_zero (n : Nat) (F : Nat → Bool) : rowP n (part 0 F) = rowP n fun _ => false := rfl
theorem part_step {n k : Nat} {F : Nat → Bool} {b : Bool} (h : b = F k) : rowP n (fun p => if p = k then b else part k F p) = rowP n (part (k + 1) F) := rowP_congr fun p _ => by
  simp only [part]
  by_cases h1 : p = k
  · subst h1; simp [h]
  · by_cases h2 : p < k
    · simp [h1, h2, show p < k + 1 by omega]
    · simp [h1, h2, show ¬ p < k + 1 by omega]
theorem part_end {n k : Nat} {F : Nat → Bool} (h : n ≤ k) : rowP n (part k F) = rowP n F := rowP_congr fun p hp => by simp [part, show p < k by omega]
theorem row0_eq (n : Nat) : rowP n (fun k => if k = 0 then true else false) = rowP n row0 := rowP_congr fun p _ => by simp [row0]

end Go.Proofs.YtdjjmppnnkkloaaDoor
