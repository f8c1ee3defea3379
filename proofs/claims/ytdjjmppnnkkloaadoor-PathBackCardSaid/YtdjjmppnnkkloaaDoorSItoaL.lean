import Derived.Test.YtdjjmppnnkkloaaDoorSDigL
import Derived.Test.YtdjjmppnnkkloaaDoorSItoaN
/-
  PLAIN: the figures of the numbers below ten thousand.
-/
namespace Go.Proofs.YtdjjmppnnkkloaaDoor
open Sy Go
set_option maxRecDepth 100000
def itoaGood (k : Nat) : Bool := (Lib.itoa (k : Int)).all isDig && decide (valI (Lib.itoa (k : Int)) = k) && decide (1 ≤ (Lib.itoa (k : Int)).length ∧ (Lib.itoa (k : Int)).length ≤ 4)
theorem itoa_all : (List.range 10000).all itoaGood = true := by decide +kernel
theorem itoa_good {k : Nat} (h : k < 10000) : (Lib.itoa (k : Int)).all isDig = true ∧ valI (Lib.itoa (k : Int)) = k ∧ 1 ≤ (Lib.itoa (k : Int)).length ∧ (Lib.itoa (k : Int)).length ≤ 4 := by
  have := List.all_eq_true.1 itoa_all k (List.mem_range.2 h)
  simpa [itoaGood, and_assoc] using this
end Go.Proofs.YtdjjmppnnkkloaaDoor
