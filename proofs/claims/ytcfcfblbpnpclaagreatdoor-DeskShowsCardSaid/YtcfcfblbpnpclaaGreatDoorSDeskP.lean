import Derived.Test.YtcfcfblbpnpclaaGreatDoorSDeskL
namespace Go.Proofs.YtcfcfblbpnpclaaGreatDoor
open Sy Go
set_option linter.unusedSimpArgs false
set_option linter.unusedVariables false
end Go.Proofs.YtcfcfblbpnpclaaGreatDoor
