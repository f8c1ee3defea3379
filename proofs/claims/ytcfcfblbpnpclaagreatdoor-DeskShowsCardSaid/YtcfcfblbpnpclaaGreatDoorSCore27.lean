import Derived.Test.YtcfcfblbpnpclaaGreatDoorSCore26
namespace Go.Proofs.YtcfcfblbpnpclaaGreatDoor.Sy
open Go
set_option linter.unusedSimpArgs false
set_option linter.unusedVariables false
section
variable {P:Program} {T:Tab} {G:qM} {l:List Oper} {tss:List (List Nat)} {K:yR→St→Prop} {st st' st0:St} {rest:List Oper} {ts:List Nat} {acc:yR} {o:Oper}
end
end Go.Proofs.YtcfcfblbpnpclaaGreatDoor.Sy
