import Derived.Test.YtbhhphabggcacaaGreatDoorK1
import Derived.Test.YtbhhphabggcacaaGreatDoorK2
import Derived.Test.YtbhhphabggcacaaGreatDoorSDecP
import Derived.Lib.Join
import Derived.Lib.ItoaLen
namespace Go.Proofs.YtbhhphabggcacaaGreatDoor
open Sy Go
set_option maxRecDepth 100000
set_option linter.unusedSimpArgs false
set_option linter.unusedVariables false
def yQ (x:Nd):List UInt8 :=
 if x.op=4 then [40,80,41,46]
 else if x.op=5 then [40,80,41,91]
 else if x.op=6 then [40,80,41,91,93]
 else if x.op=7 then [40,80,32,124,32,80,41]
 else if x.op=8 then [40,80,32,44,32,80,41]
 else if x.op=11 then [40,80,32]++x.text++[32,80,41]
 else if x.op=12 then [40,105,102,32,80,32,116,104,101,110,32,80,32,101,108,115,101,32,80,32,101,110,100,41]
 else if x.op=13 then [40,116,114,121,32,80,41]
 else if x.op=14 then [115,101,97,108,40,80,41]
 else if x.op=20 then [101,114,114,111,114,40,80,41]
 else if x.op=15 then [40,114,101,100,117,99,101,32,80,32,97,115,32,36]++x.text++[32,40,80,59,80,41,41]
 else if x.op=16 then [40,80,32,97,115,32,36]++x.text++[32,124,32,80,41]
 else if x.op=17 then [108,105,109,105,116,40]++Lib.itoa x.n++[59,80,41]
 else if x.op=19 then [101,109,112,116,121]
 else []
def qBB (x:Nd):List UInt8 :=
 if x.n=1 then [110,117,108,108] else if x.n=3 then [116,114,117,101] else if x.n=2 then [102,97,108,115,101] else if x.n=4 then kU x.num else zL x.text
def xZ (ps ks:List (List UInt8)):Nat→List UInt8
 | 0=>[]
 | k+1=>xZ ps ks k++(if k=0 then [] else ks.getD (k-1) [])++ps.getD k []
@[simp] theorem zKW (ps ks:List (List UInt8)):xZ ps ks 0=[]:=rfl
def yM (pat:List UInt8) (ks:List (List UInt8)):List UInt8:=xZ (zR 80 pat) ks (zR 80 pat).length
def vG:List (List UInt8)→List (List UInt8)→List (List UInt8)
 | ks,vs=>List.zipWith (fun k v=>zL k++[58]++v) ks vs
def uY (x:Nd) (ks:List (List UInt8)):List UInt8:=[123]++Lib.join (vG x.keys ks) [44]++[125]
def wP (x:Nd) (ks:List (List UInt8)):List UInt8 :=
 if x.op=1 then [46]
 else if x.op=2 then qBB x
 else if x.op=3 then [36]++x.text
 else if x.op=9 then [91]++Lib.join ks []++[93]
 else if x.op=10 then uY x ks
 else if x.op=18 then (if 0<x.keys.length then x.text++[40]++zL (x.keys.getD 0 [])++[41] else x.text)
 else if x.op=4 then yM (yQ x) ks++zL x.text
 else if x.op=5 then yM (yQ x) ks++(Lib.itoa x.n++[93])
 else yM (yQ x) ks
end Go.Proofs.YtbhhphabggcacaaGreatDoor
