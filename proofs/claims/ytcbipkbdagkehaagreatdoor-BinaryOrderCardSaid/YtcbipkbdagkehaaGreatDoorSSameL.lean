import Derived.Test.YtcbipkbdagkehaaGreatDoorK1
namespace Go.Proofs.YtcbipkbdagkehaaGreatDoor
open Sy Go
set_option linter.unusedSimpArgs false
set_option linter.unusedVariables false
end Go.Proofs.YtcbipkbdagkehaaGreatDoor
