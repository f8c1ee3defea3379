import Derived.Test.YtgcbapchinideaaGreatDoorSKeys13
import Derived.Test.YtgcbapchinideaaGreatDoorSSameL
import Derived.Test.YtgcbapchinideaaGreatDoorSTreeLaw
namespace Go.Proofs.YtgcbapchinideaaGreatDoor
open Sy Go
set_option maxRecDepth 100000
set_option maxHeartbeats 4000000
set_option linter.unusedSimpArgs false
set_option linter.unusedVariables false
variable {G:qK}
theorem qAJ {l:List Val} (h:l.length≤200) (m:Int):qAY l m = .mk 6 m dc0 [] [] l 0:=by unfold qAY; rw [if_neg (by omega)]
end Go.Proofs.YtgcbapchinideaaGreatDoor
