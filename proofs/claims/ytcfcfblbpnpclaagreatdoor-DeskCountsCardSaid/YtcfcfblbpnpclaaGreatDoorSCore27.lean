import Derived.Test.YtcfcfblbpnpclaaGreatDoorK1
namespace Go.Proofs.YtcfcfblbpnpclaaGreatDoor.Sy
open Go
set_option linter.unusedSimpArgs false
set_option linter.unusedVariables false
section
variable {P:Program} {T:Tab} {G:qK} {l:List Oper} {tss:List (List Nat)} {K:yM→St→Prop} {st st' st0:St} {rest:List Oper} {ts:List Nat} {acc:yM} {o:Oper}
end
end Go.Proofs.YtcfcfblbpnpclaaGreatDoor.Sy
