import Derived.Test.YtcbipkbdagkehaaGreatDoorSCore27
namespace Go.Proofs.YtcbipkbdagkehaaGreatDoor.Sy
open Go
set_option linter.unusedSimpArgs false
set_option linter.unusedVariables false
section
variable {P : Program} {T : Tab} {G : Glob} {st : St}
end
end Go.Proofs.YtcbipkbdagkehaaGreatDoor.Sy
