import Derived.Test.YtcbipkbdagkehaaGreatDoorM3
import Derived.Test.YtcbipkbdagkehaaGreatDoorK1
import Derived.Shelf.Strings.Builder1
namespace Go.Proofs.YtcbipkbdagkehaaGreatDoor
open Sy Go
set_option maxRecDepth 100000
set_option linter.unusedSimpArgs false
set_option linter.unusedVariables false
variable {G : Glob}
section
end
open Go.Shelf Go.RowKit
section
variable {P : Program} {ρ : Ren}
end
end Go.Proofs.YtcbipkbdagkehaaGreatDoor
