import Derived.Test.YtgcbapchinideaaGreatDoorK2
import Derived.Test.YtgcbapchinideaaGreatDoorSNumL
namespace Go.Proofs.YtgcbapchinideaaGreatDoor
open Sy Go
set_option maxRecDepth 100000
set_option linter.unusedSimpArgs false
set_option linter.unusedVariables false
theorem qFO {neg:Bool} {v sc:Nat} (h:(vF neg v sc).2=0):zP (vF neg v sc).1=true:=qGI (qQQ v) h
theorem zBJ {a b:Dc} (h:(qGH a b).2=0):zP (qGH a b).1=true:=by
 unfold qGH at h ⊢
 split
 ·rename_i h0; rw [if_pos h0] at h; exact qFO h
 rename_i h0; rw [if_neg h0] at h
 split
 ·rename_i h1; rw [if_pos h1] at h; exact qFO h
 rename_i h1; rw [if_neg h1] at h; exact qFO h
end Go.Proofs.YtgcbapchinideaaGreatDoor
