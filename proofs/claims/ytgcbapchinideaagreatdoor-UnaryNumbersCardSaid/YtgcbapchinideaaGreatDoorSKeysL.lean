import Derived.Test.YtgcbapchinideaaGreatDoorSKeys13
import Derived.Test.YtgcbapchinideaaGreatDoorSSameL
import Derived.Test.YtgcbapchinideaaGreatDoorSTreeLaw
namespace Go.Proofs.YtgcbapchinideaaGreatDoor
open Sy Go
set_option maxRecDepth 100000
set_option maxHeartbeats 4000000
set_option linter.unusedSimpArgs false
set_option linter.unusedVariables false
variable {G:qM}
theorem qOL {s:List UInt8} (h:s.length≤4096) (m:Int):wP s m = .mk 5 m dc0 s [] [] 0:=by unfold wP; rw [if_neg (by omega)]
end Go.Proofs.YtgcbapchinideaaGreatDoor
