import Derived.Test.YtdjjmppnnkkloaaDoorM1
/-
  PLAIN: digits, and the number that they are.
-/
namespace Go.Proofs.YtdjjmppnnkkloaaDoor
open Sy Go
def digitM (n : Int) : Bool := decide (48 ≤ n) && decide (n ≤ 57)
def isDig (b : UInt8) : Bool := digitM b.toNat
def valI (D : List UInt8) : Nat := D.foldl (fun n c => n * 10 + (c.toNat - 48)) 0
end Go.Proofs.YtdjjmppnnkkloaaDoor
