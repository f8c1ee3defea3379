import Derived.Test.YtlmedakhioiahaaGreatDoorSBackL
namespace Go.Proofs.YtlmedakhioiahaaGreatDoor
open Sy Go
set_option linter.unusedSimpArgs false
set_option linter.unusedVariables false
set_option maxRecDepth 100000
theorem qQN {n:Nat} {st:RS} {d many:Nat} {vs:List Val} (h:st.bad=true):(yN n st d many vs).1.bad=true:=by
 cases n with
 | zero=>simp only [yN]
 | succ n=>simp only [yN]; rw [if_pos h]; exact h
theorem qJV {n:Nat} {st:RS} {d many:Nat} {ks:List (List UInt8)} {vs:List Val} (h:st.bad=true):(wN n st d many ks vs).1.bad=true:=by
 cases n with
 | zero=>simp only [wN]
 | succ n=>simp only [wN]; rw [if_pos h]; exact h
end Go.Proofs.YtlmedakhioiahaaGreatDoor
