import Derived.Test.YtgcbapchinideaaGreatDoorK1
import Derived.Test.YtgcbapchinideaaGreatDoorSNumL
import Derived.Test.YtgcbapchinideaaGreatDoorK2
namespace Go.Proofs.YtgcbapchinideaaGreatDoor
open Sy Go
set_option maxRecDepth 100000
set_option linter.unusedSimpArgs false
set_option linter.unusedVariables false
theorem qCK {neg:Bool} {v sc:Nat} (h:(jH neg v sc).2=0):yX (jH neg v sc).1=true:=qCZ (qLK v) h
theorem qTR {a b:Dc} (h:(qCY a b).2=0):yX (qCY a b).1=true:=by
 unfold qCY at h ⊢
 split
 ·rename_i h0; rw [if_pos h0] at h; exact qCK h
 rename_i h0; rw [if_neg h0] at h
 split
 ·rename_i h1; rw [if_pos h1] at h; exact qCK h
 rename_i h1; rw [if_neg h1] at h; exact qCK h
end Go.Proofs.YtgcbapchinideaaGreatDoor
