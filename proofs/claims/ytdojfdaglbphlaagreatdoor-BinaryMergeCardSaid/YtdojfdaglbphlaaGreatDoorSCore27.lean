import Derived.Test.YtdojfdaglbphlaaGreatDoorSCore26
namespace Go.Proofs.YtdojfdaglbphlaaGreatDoor.Sy
open Go
set_option linter.unusedSimpArgs false
set_option linter.unusedVariables false
section
variable {P : Program} {T : Tab} {G : Glob} {l : List Oper} {tss : List (List Nat)} {K : Sums → St → Prop} {st st' st0 : St} {rest : List Oper} {ts : List Nat} {acc : Sums} {o : Oper}
end
end Go.Proofs.YtdojfdaglbphlaaGreatDoor.Sy
