import Derived.Test.YtgcbapchinideaaGreatDoorK1
import Derived.Test.YtgcbapchinideaaGreatDoorSNumL
namespace Go.Proofs.YtgcbapchinideaaGreatDoor
open Sy Go
set_option maxRecDepth 100000
set_option linter.unusedSimpArgs false
set_option linter.unusedVariables false
theorem qCG {neg:Bool} {v sc:Nat} (h:(kY neg v sc).2=0):yT (kY neg v sc).1=true:=qRX (qLY v) h
theorem qUS {a b:Dc} (h:(qCU a b).2=0):yT (qCU a b).1=true:=by
 unfold qCU at h ⊢
 split
 ·rename_i h0; rw [if_pos h0] at h; exact qCG h
 rename_i h0; rw [if_neg h0] at h
 split
 ·rename_i h1; rw [if_pos h1] at h; exact qCG h
 rename_i h1; rw [if_neg h1] at h; exact qCG h
end Go.Proofs.YtgcbapchinideaaGreatDoor
