import Derived.Test.YtgcbapchinideaaGreatDoorSOne
import Derived.Test.YtgcbapchinideaaGreatDoorSJoin
namespace Go.Proofs.YtgcbapchinideaaGreatDoor
open Sy Go
set_option maxRecDepth 100000
set_option maxHeartbeats 4000000
set_option linter.unusedSimpArgs false
set_option linter.unusedVariables false
variable {G:qG}
def qZD (c:Int):List UInt8:=if c<10 then [UInt8.ofNat (48+c.toNat)] else [UInt8.ofNat (48+c.toNat / 10),UInt8.ofNat (48+c.toNat % 10)]
def zAS:List (List UInt8)→List (List UInt8)→List (List UInt8):=List.zipWith fun k p=>qRP k++[58]++p
mutual
def qMN:Val→List UInt8
 | .mk k _ n t ks vs c=>if k=1 then qWW else if k=2 then qVW else if k=3 then qWV else if k=4 then qWM n else if k=5 then qRP t else if k=8 then 33::qZD c else if k=7 then [123]++Lib.join (zAS ks (qIL vs)) [44]++[125] else [91]++Lib.join (qIL vs) [44]++[93]
def qIL:List Val→List (List UInt8)
 | []=>[]
 | v::vs=>qMN v::qIL vs
end
end Go.Proofs.YtgcbapchinideaaGreatDoor
