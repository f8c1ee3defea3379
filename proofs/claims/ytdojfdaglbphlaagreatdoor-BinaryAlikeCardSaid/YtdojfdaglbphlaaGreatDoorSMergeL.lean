import Derived.Test.YtdojfdaglbphlaaGreatDoorK2
namespace Go.Proofs.YtdojfdaglbphlaaGreatDoor
open Sy Go
set_option linter.unusedSimpArgs false
set_option linter.unusedVariables false
theorem zIM {a b : Val} (ha : a.keys.length = a.kids.length) (m : Int) : (kL a b m).keys.length = (kL a b m).kids.length ∧ (kL a b m).kids.length ≤ a.kids.length + b.keys.length :=
 qPA b b.keys.length ha
end Go.Proofs.YtdojfdaglbphlaaGreatDoor
