import Derived.Test.YtgcbapchinideaaGreatDoorM3
import Derived.Test.YtgcbapchinideaaGreatDoorK1
import Derived.Shelf.Strings.Builder1
namespace Go.Proofs.YtgcbapchinideaaGreatDoor
open Sy Go
set_option maxRecDepth 100000
set_option linter.unusedSimpArgs false
set_option linter.unusedVariables false
variable {G:qG}
section
end
open Go.Shelf Go.RowKit
section
variable {P:Program} {ρ:Ren}
end
end Go.Proofs.YtgcbapchinideaaGreatDoor
