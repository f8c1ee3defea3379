import Derived.Test.YtlmedakhioiahaaGreatDoorSReadQL
import Derived.Test.YtlmedakhioiahaaGreatDoorSUnq3
import Derived.Test.YtlmedakhioiahaaGreatDoorSParseEq
import Derived.Test.YtlmedakhioiahaaGreatDoorK2
import Derived.Test.YtlmedakhioiahaaGreatDoorK1
namespace Go.Proofs.YtlmedakhioiahaaGreatDoor
open Sy Go
set_option maxRecDepth 100000
set_option maxHeartbeats 4000000
set_option linter.unusedSimpArgs false
set_option linter.unusedVariables false
variable {G:qO}
attribute [local simp] qUO
theorem getD_some {s:List UInt8} {k:Nat} (h:k<s.length):s[k]?=some (s.getD k 0):=by rw [List.getD_eq_getElem?_getD,List.getElem?_eq_getElem h]; rfl
end Go.Proofs.YtlmedakhioiahaaGreatDoor
