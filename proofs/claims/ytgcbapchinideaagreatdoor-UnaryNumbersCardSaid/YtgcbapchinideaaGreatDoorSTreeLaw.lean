import Derived.Test.YtgcbapchinideaaGreatDoorK2
import Derived.Test.YtgcbapchinideaaGreatDoorSSameL
import Derived.Test.YtgcbapchinideaaGreatDoorK1
namespace Go.Proofs.YtgcbapchinideaaGreatDoor
open Sy Go
set_option linter.unusedSimpArgs false
set_option linter.unusedVariables false
theorem qRZ (v:Val):kB v v=true:=(jK v v).2 rfl
theorem qNT:∀ (l:List Val) {a b:Int},LeM a b→LeM a (jY b l)
 | [],a,b,h=>by simpa using h
 | x::l,a,b,h=>by simp only [jY]; exact qNT l (h.trans (.or_left _ _))
theorem qQZ (v:Val) (h:InV v):LeM v.mask (wQ v):=by rw [uW]; exact qNT _ (.refl (qXK h))
end Go.Proofs.YtgcbapchinideaaGreatDoor
