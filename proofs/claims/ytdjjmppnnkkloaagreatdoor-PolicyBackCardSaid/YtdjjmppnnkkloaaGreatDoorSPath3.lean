import Derived.Test.YtdjjmppnnkkloaaGreatDoorSPath2
namespace Go.Proofs.YtdjjmppnnkkloaaGreatDoor
open Sy Go
set_option maxRecDepth 100000
set_option linter.unusedSimpArgs false
set_option linter.unusedVariables false
variable {G : Glob}
def part (k : Nat) (F : Nat → Bool) : Nat → Bool := fun p => if p < k then F p else false
end Go.Proofs.YtdjjmppnnkkloaaGreatDoor
