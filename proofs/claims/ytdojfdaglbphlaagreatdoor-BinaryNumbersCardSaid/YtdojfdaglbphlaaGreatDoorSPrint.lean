import Derived.Test.YtdojfdaglbphlaaGreatDoorSOne
import Derived.Test.YtdojfdaglbphlaaGreatDoorSJoin
namespace Go.Proofs.YtdojfdaglbphlaaGreatDoor
open Sy Go
set_option maxRecDepth 100000
set_option maxHeartbeats 4000000
set_option linter.unusedSimpArgs false
set_option linter.unusedVariables false
variable {G : qS}
def qFA (c : Int) : List UInt8 := if c < 10 then [UInt8.ofNat (48 + c.toNat)] else [UInt8.ofNat (48 + c.toNat / 10), UInt8.ofNat (48 + c.toNat % 10)]
def qFW : List (List UInt8) → List (List UInt8) → List (List UInt8) := List.zipWith fun k p => kA k ++ [58] ++ p
mutual
def zI : Val → List UInt8
 | .mk k _ n t ks vs c => if k = 1 then uD else if k = 2 then jO else if k = 3 then uC else if k = 4 then qCR n else if k = 5 then kA t else if k = 8 then 33 :: qFA c else if k = 7 then [123] ++ Lib.join (qFW ks (qEP vs)) [44] ++ [125] else [91] ++ Lib.join (qEP vs) [44] ++ [93]
def qEP : List Val → List (List UInt8)
 | [] => []
 | v :: vs => zI v :: qEP vs
end
theorem qJA : ∀ l, qEP l = l.map zI
 | [] => by simp only [qEP, List.map_nil]
 | v :: vs => by simp only [qEP, List.map_cons, qJA vs]
theorem kX (v : Val) : zI v = if v.kind = 1 then uD else if v.kind = 2 then jO else if v.kind = 3 then uC else if v.kind = 4 then qCR v.num else if v.kind = 5 then kA v.text else if v.kind = 8 then 33 :: qFA v.code else if v.kind = 7 then [123] ++ Lib.join (qFW v.keys (v.kids.map zI)) [44] ++ [125] else [91] ++ Lib.join (v.kids.map zI) [44] ++ [93] := by
 cases v; rw [zI, qJA]; rfl
theorem qCG (x y : List UInt8) (r : List (List UInt8)) (sep : List UInt8) : Lib.join (x :: y :: r) sep = x ++ sep ++ Lib.join (y :: r) sep := by
 simp [Lib.join, List.intercalate, List.intersperse]
theorem entT_get {ks ps : List (List UInt8)} {i : Nat} {k p : List UInt8} (h1 : ks[i]? = some k) (h2 : ps[i]? = some p) : (qFW ks ps)[i]? = some (kA k ++ [58] ++ p) := by
 simp [qFW, List.getElem?_zipWith, h1, h2]
end Go.Proofs.YtdojfdaglbphlaaGreatDoor
