import Derived.Test.YtgcbapchinideaaGreatDoorK2
import Derived.Test.YtgcbapchinideaaGreatDoorK1
namespace Go.Proofs.YtgcbapchinideaaGreatDoor
open Sy Go
set_option maxRecDepth 100000
set_option linter.unusedSimpArgs false
set_option linter.unusedVariables false
theorem qDD {neg:Bool} {v sc:Nat} (h:(zP neg v sc).2=0):qQ (zP neg v sc).1=true:=qJR (vH v) h
theorem qXG {a b:Dc} (h:(yK a b).2=0):qQ (yK a b).1=true:=by
 unfold yK at h ⊢
 split
 ·rename_i h0; rw [if_pos h0] at h; exact qDD h
 rename_i h0; rw [if_neg h0] at h
 split
 ·rename_i h1; rw [if_pos h1] at h; exact qDD h
 rename_i h1; rw [if_neg h1] at h; exact qDD h
end Go.Proofs.YtgcbapchinideaaGreatDoor
