import Derived.Test.YtgcbapchinideaaGreatDoorSNumL
import Derived.Test.YtgcbapchinideaaGreatDoorK3
import Derived.Test.YtgcbapchinideaaGreatDoorK2
namespace Go.Proofs.YtgcbapchinideaaGreatDoor
open Sy Go
set_option maxRecDepth 100000
set_option linter.unusedSimpArgs false
set_option linter.unusedVariables false
theorem zJY {n:Int} (h:0≤n∧n<9223372036854775808):IntKind.i64.wrap n=n:=by simp [IntKind.wrap,IntKind.bits,IntKind.signed]; omega
end Go.Proofs.YtgcbapchinideaaGreatDoor
