import Derived.Test.YtgcbapchinideaaGreatDoorK1
import Derived.Test.YtgcbapchinideaaGreatDoorSSameL
namespace Go.Proofs.YtgcbapchinideaaGreatDoor
open Sy Go
set_option linter.unusedSimpArgs false
set_option linter.unusedVariables false
theorem qPP (v:Val):yU v v=true:=(jD v v).2 rfl
theorem qLJ:∀ (l:List Val) {a b:Int},LeM a b→LeM a (xA b l)
 | [],a,b,h=>by simpa using h
 | x::l,a,b,h=>by simp only [xA]; exact qLJ l (h.trans (.or_left _ _))
theorem qOI (v:Val) (h:InV v):LeM v.mask (yW v):=by rw [qLI]; exact qLJ _ (.refl (qTW h))
end Go.Proofs.YtgcbapchinideaaGreatDoor
