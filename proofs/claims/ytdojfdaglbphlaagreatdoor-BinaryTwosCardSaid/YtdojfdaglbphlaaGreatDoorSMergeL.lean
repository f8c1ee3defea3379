import Derived.Test.YtdojfdaglbphlaaGreatDoorK2
namespace Go.Proofs.YtdojfdaglbphlaaGreatDoor
open Sy Go
set_option linter.unusedSimpArgs false
set_option linter.unusedVariables false
theorem zIQ {a b:Val} (ha:a.keys.length=a.kids.length) (m:Int):(kV a b m).keys.length=(kV a b m).kids.length∧(kV a b m).kids.length≤a.kids.length+b.keys.length :=
 qOV b b.keys.length ha
end Go.Proofs.YtdojfdaglbphlaaGreatDoor
