import Derived.Test.YtdojfdaglbphlaaGreatDoorK4
import Derived.Test.YtdojfdaglbphlaaGreatDoorSJoin
namespace Go.Proofs.YtdojfdaglbphlaaGreatDoor
open Sy Go
set_option maxRecDepth 100000
set_option maxHeartbeats 4000000
set_option linter.unusedSimpArgs false
set_option linter.unusedVariables false
variable {G : qQ}
def qGM (c : Int) : List UInt8 := if c < 10 then [UInt8.ofNat (48 + c.toNat)] else [UInt8.ofNat (48 + c.toNat / 10), UInt8.ofNat (48 + c.toNat % 10)]
def qHH : List (List UInt8) → List (List UInt8) → List (List UInt8) := List.zipWith fun k p => kP k ++ [58] ++ p
mutual
def zQ : Val → List UInt8
 | .mk k _ n t ks vs c => if k = 1 then qAN else if k = 2 then xF else if k = 3 then qAM else if k = 4 then qEB n else if k = 5 then kP t else if k = 8 then 33 :: qGM c else if k = 7 then [123] ++ Lib.join (qHH ks (qFY vs)) [44] ++ [125] else [91] ++ Lib.join (qFY vs) [44] ++ [93]
def qFY : List Val → List (List UInt8)
 | [] => []
 | v :: vs => zQ v :: qFY vs
end
theorem qKX : ∀ l, qFY l = l.map zQ
 | [] => by simp only [qFY, List.map_nil]
 | v :: vs => by simp only [qFY, List.map_cons, qKX vs]
theorem jM (v : Val) : zQ v = if v.kind = 1 then qAN else if v.kind = 2 then xF else if v.kind = 3 then qAM else if v.kind = 4 then qEB v.num else if v.kind = 5 then kP v.text else if v.kind = 8 then 33 :: qGM v.code else if v.kind = 7 then [123] ++ Lib.join (qHH v.keys (v.kids.map zQ)) [44] ++ [125] else [91] ++ Lib.join (v.kids.map zQ) [44] ++ [93] := by
 cases v; rw [zQ, qKX]; rfl
theorem qDP (x y : List UInt8) (r : List (List UInt8)) (sep : List UInt8) : Lib.join (x :: y :: r) sep = x ++ sep ++ Lib.join (y :: r) sep := by
 simp [Lib.join, List.intercalate, List.intersperse]
theorem zLZ {ks ps : List (List UInt8)} {i : Nat} {k p : List UInt8} (h1 : ks[i]? = some k) (h2 : ps[i]? = some p) : (qHH ks ps)[i]? = some (kP k ++ [58] ++ p) := by
 simp [qHH, List.getElem?_zipWith, h1, h2]
end Go.Proofs.YtdojfdaglbphlaaGreatDoor
