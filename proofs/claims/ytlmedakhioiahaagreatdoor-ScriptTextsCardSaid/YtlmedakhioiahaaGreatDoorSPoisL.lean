import Derived.Test.YtlmedakhioiahaaGreatDoorSBackL
namespace Go.Proofs.YtlmedakhioiahaaGreatDoor
open Sy Go
set_option linter.unusedSimpArgs false
set_option linter.unusedVariables false
set_option maxRecDepth 100000
theorem qPS {n:Nat} {st:RS} {d many:Nat} {vs:List Val} (h:st.bad=true):(yP n st d many vs).1.bad=true:=by
 cases n with
 | zero=>simp only [yP]
 | succ n=>simp only [yP]; rw [if_pos h]; exact h
theorem qJJ {n:Nat} {st:RS} {d many:Nat} {ks:List (List UInt8)} {vs:List Val} (h:st.bad=true):(wR n st d many ks vs).1.bad=true:=by
 cases n with
 | zero=>simp only [wR]
 | succ n=>simp only [wR]; rw [if_pos h]; exact h
end Go.Proofs.YtlmedakhioiahaaGreatDoor
