import Derived.Test.YtdojfdaglbphlaaGreatDoorSOne
import Derived.Test.YtdojfdaglbphlaaGreatDoorSJoin
namespace Go.Proofs.YtdojfdaglbphlaaGreatDoor
open Sy Go
set_option maxRecDepth 100000
set_option maxHeartbeats 4000000
set_option linter.unusedSimpArgs false
set_option linter.unusedVariables false
variable {G : Glob}
def itoa2 (c : Int) : List UInt8 := if c < 10 then [UInt8.ofNat (48 + c.toNat)] else [UInt8.ofNat (48 + c.toNat / 10), UInt8.ofNat (48 + c.toNat % 10)]
def entT : List (List UInt8) → List (List UInt8) → List (List UInt8) := List.zipWith fun k p => quoteT k ++ [58] ++ p
mutual
def printT : Val → List UInt8
 | .mk k _ n t ks vs c => if k = 1 then wNull else if k = 2 then wFalse else if k = 3 then wTrue else if k = 4 then PrintM n else if k = 5 then quoteT t else if k = 8 then 33 :: itoa2 c else if k = 7 then [123] ++ Lib.join (entT ks (printTs vs)) [44] ++ [125] else [91] ++ Lib.join (printTs vs) [44] ++ [93]
def printTs : List Val → List (List UInt8)
 | [] => []
 | v :: vs => printT v :: printTs vs
end
theorem printTs_map : ∀ l, printTs l = l.map printT
 | [] => by simp only [printTs, List.map_nil]
 | v :: vs => by simp only [printTs, List.map_cons, printTs_map vs]
theorem printT_eq (v : Val) : printT v = if v.kind = 1 then wNull else if v.kind = 2 then wFalse else if v.kind = 3 then wTrue else if v.kind = 4 then PrintM v.num else if v.kind = 5 then quoteT v.text else if v.kind = 8 then 33 :: itoa2 v.code else if v.kind = 7 then [123] ++ Lib.join (entT v.keys (v.kids.map printT)) [44] ++ [125] else [91] ++ Lib.join (v.kids.map printT) [44] ++ [93] := by
 cases v; rw [printT, printTs_map]; rfl
theorem join_cons2 (x y : List UInt8) (r : List (List UInt8)) (sep : List UInt8) : Lib.join (x :: y :: r) sep = x ++ sep ++ Lib.join (y :: r) sep := by
 simp [Lib.join, List.intercalate, List.intersperse]
theorem entT_get {ks ps : List (List UInt8)} {i : Nat} {k p : List UInt8} (h1 : ks[i]? = some k) (h2 : ps[i]? = some p) : (entT ks ps)[i]? = some (quoteT k ++ [58] ++ p) := by
 simp [entT, List.getElem?_zipWith, h1, h2]
end Go.Proofs.YtdojfdaglbphlaaGreatDoor
