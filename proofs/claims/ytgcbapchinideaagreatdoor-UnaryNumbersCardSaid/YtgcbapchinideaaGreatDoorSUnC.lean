import Derived.Test.YtgcbapchinideaaGreatDoorSUnB
import Derived.Test.YtgcbapchinideaaGreatDoorSIntD
namespace Go.Proofs.YtgcbapchinideaaGreatDoor
open Sy Go
set_option maxRecDepth 100000
set_option maxHeartbeats 4000000
set_option linter.unusedSimpArgs false
set_option linter.unusedVariables false
variable {G:qM}
def qVK (runes:List UInt8→Nat) (v:Val) (m:Int):Val :=
 if v.kind=1 then zAV 0 m else if v.kind=5 then zAV (runes v.text) m else if v.kind=6∨v.kind=7 then zAV v.kids.length m
 else if v.kind=4 then .mk 4 m ⟨false,v.num.digits,v.num.scale⟩ [] [] [] 0 else zO 40 m
end Go.Proofs.YtgcbapchinideaaGreatDoor
