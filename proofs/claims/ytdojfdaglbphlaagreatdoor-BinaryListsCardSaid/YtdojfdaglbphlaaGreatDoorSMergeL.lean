import Derived.Test.YtdojfdaglbphlaaGreatDoorK2
namespace Go.Proofs.YtdojfdaglbphlaaGreatDoor
open Sy Go
set_option linter.unusedSimpArgs false
set_option linter.unusedVariables false
theorem zGZ {a b : Val} (ha : a.keys.length = a.kids.length) (m : Int) : (jR a b m).keys.length = (jR a b m).kids.length ∧ (jR a b m).kids.length ≤ a.kids.length + b.keys.length :=
 qNW b b.keys.length ha
end Go.Proofs.YtdojfdaglbphlaaGreatDoor
