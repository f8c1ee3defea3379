import Derived.Test.YtbhhphabggcacaaGreatDoorSCore27
namespace Go.Proofs.YtbhhphabggcacaaGreatDoor.Sy
open Go
set_option linter.unusedSimpArgs false
set_option linter.unusedVariables false
section
variable {P:Program} {T:Tab} {G:qM} {st:St}
end
end Go.Proofs.YtbhhphabggcacaaGreatDoor.Sy
