import Derived.Test.YtdjjmppnnkkloaaGreatDoorK2
namespace Go.Proofs.YtdjjmppnnkkloaaGreatDoor
open Sy Go
set_option maxRecDepth 100000
set_option linter.unusedSimpArgs false
set_option linter.unusedVariables false
variable {G : Glob}
def nextF (t : Step) (tw : List Step) (F : Nat → Bool) : Nat → Bool
 | 0 => if t.kind = 5 then F 0 else false
 | k + 1 => if t.kind = 5 then F (k + 1) || nextF t tw F k else F k && (match tw[k]? with
  | some x => ledM t x
  | none => false)
def refRow (tw : List Step) : List Step → (Nat → Bool) → (Nat → Bool)
 | [], F => F
 | t :: l, F => refRow tw l (nextF t tw F)
theorem refRow_snoc (tw : List Step) (t : Step) : ∀ (l : List Step) (F : Nat → Bool), refRow tw (l ++ [t]) F = nextF t tw (refRow tw l F)
 | [], F => rfl
 | x :: l, F => refRow_snoc tw t l _
def row0 : Nat → Bool := fun k => decide (k = 0)
def refMatchM (l tw : List Step) : Bool := refRow tw l row0 tw.length
def part (k : Nat) (F : Nat → Bool) : Nat → Bool := fun p => if p < k then F p else false
end Go.Proofs.YtdjjmppnnkkloaaGreatDoor
