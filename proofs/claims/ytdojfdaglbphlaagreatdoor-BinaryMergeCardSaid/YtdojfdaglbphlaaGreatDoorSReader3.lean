import Derived.Test.YtdojfdaglbphlaaGreatDoorK2
namespace Go.Proofs.YtdojfdaglbphlaaGreatDoor
open Sy Go
set_option maxRecDepth 100000
set_option maxHeartbeats 4000000
set_option linter.unusedSimpArgs false
set_option linter.unusedVariables false
variable {G : Glob}
theorem val_step (n : Nat) (st : RS) (d : Nat) : valR (n + 1) st d = if ([91] : List UInt8).isPrefixOf (enterR st d).left = true then ((lstM n (dropR (enterR st d) 1) (d + 1)).1, .mk 6 0 dc0 [] [] (lstM n (dropR (enterR st d) 1) (d + 1)).2 0)
  else if ([123] : List UInt8).isPrefixOf (enterR st d).left = true then ((objM n (dropR (enterR st d) 1) (d + 1)).1, .mk 7 0 dc0 [] (objM n (dropR (enterR st d) 1) (d + 1)).2.1 (objM n (dropR (enterR st d) 1) (d + 1)).2.2 0) else atomR (enterR st d) := by
 rw [valR]; rfl
attribute [local simp] dropR
end Go.Proofs.YtdojfdaglbphlaaGreatDoor
