import Derived.Test.YtgcbapchinideaaGreatDoorSKeys13
import Derived.Test.YtgcbapchinideaaGreatDoorSSameL
import Derived.Test.YtgcbapchinideaaGreatDoorSTreeLaw
namespace Go.Proofs.YtgcbapchinideaaGreatDoor
open Sy Go
set_option maxRecDepth 100000
set_option maxHeartbeats 4000000
set_option linter.unusedSimpArgs false
set_option linter.unusedVariables false
variable {G:qJ}
theorem uZ {s:List UInt8} (h:s.length≤4096) (m:Int):wG s m = .mk 5 m dc0 s [] [] 0:=by unfold wG; rw [if_neg (by omega)]
theorem qNK {l:List Val} (h:l.length≤200) (m:Int):qDH l m = .mk 6 m dc0 [] [] l 0:=by unfold qDH; rw [if_neg (by omega)]
end Go.Proofs.YtgcbapchinideaaGreatDoor
