import Derived.Test.YtlmedakhioiahaaGreatDoorSRefDecLaw
import Derived.Lib.ItoaLen
namespace Go.Proofs.YtlmedakhioiahaaGreatDoor
open Sy Go
set_option maxRecDepth 100000
set_option linter.unusedSimpArgs false
set_option linter.unusedVariables false
theorem qNP:∀ s:List UInt8,jG (zB s)=jG s
 | []=>rfl
 | b::s=>by
  unfold zB
  rw [List.dropWhile_cons]
  by_cases h:b=48
  ·subst h
   simp only [beq_self_eq_true,if_true]
   have:=qNP s
   unfold zB at this
   rw [this,qDL]; simp
  rw [if_neg (by simpa using h)]
end Go.Proofs.YtlmedakhioiahaaGreatDoor
