import Derived.Test.YtbhhphabggcacaaGreatDoorSCore26
namespace Go.Proofs.YtbhhphabggcacaaGreatDoor.Sy
open Go
set_option linter.unusedSimpArgs false
set_option linter.unusedVariables false
section
variable {P:Program} {T:Tab} {G:qM} {l:List Oper} {tss:List (List Nat)} {K:qAP→St→Prop} {st st' st0:St} {rest:List Oper} {ts:List Nat} {acc:qAP} {o:Oper}
end
end Go.Proofs.YtbhhphabggcacaaGreatDoor.Sy
