import Derived.Test.YtcfcfblbpnpclaaGreatDoorSCore27
namespace Go.Proofs.YtcfcfblbpnpclaaGreatDoor.Sy
open Go
set_option linter.unusedSimpArgs false
set_option linter.unusedVariables false
section
variable {P:Program} {T:Tab} {G:qK} {st:St}
end
end Go.Proofs.YtcfcfblbpnpclaaGreatDoor.Sy
