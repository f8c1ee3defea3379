import Derived.Test.YtgcbapchinideaaGreatDoorSArith
namespace Go.Proofs.YtgcbapchinideaaGreatDoor
open Sy Go
set_option maxRecDepth 100000
set_option linter.unusedSimpArgs false
set_option linter.unusedVariables false
def rowN:Nat→Nat→List Nat
 | 0,_=>[]
 | w+1,v=>v / 10 ^ w % 10::rowN w v
end Go.Proofs.YtgcbapchinideaaGreatDoor
