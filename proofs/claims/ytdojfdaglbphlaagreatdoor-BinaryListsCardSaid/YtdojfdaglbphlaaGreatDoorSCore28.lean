import Derived.Test.YtdojfdaglbphlaaGreatDoorK3
namespace Go.Proofs.YtdojfdaglbphlaaGreatDoor.Sy
open Go
set_option linter.unusedSimpArgs false
set_option linter.unusedVariables false
section
variable {P : Program} {T : Tab} {G : qQ} {st : St}
end
end Go.Proofs.YtdojfdaglbphlaaGreatDoor.Sy
