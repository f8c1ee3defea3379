import Derived.Test.YtcfcfblbpnpclaaGreatDoorSMet16
namespace Go.Proofs.YtcfcfblbpnpclaaGreatDoor
open Sy Go
set_option maxRecDepth 100000
set_option maxHeartbeats 4000000
set_option linter.unusedSimpArgs false
set_option linter.unusedVariables false
variable {G:qK}
def L5 (m:List Outc):List (List Int):=[qHU 0 m,qHU 1 m,qHU 2 m,qHU 3 m,qHU 4 m]
end Go.Proofs.YtcfcfblbpnpclaaGreatDoor
