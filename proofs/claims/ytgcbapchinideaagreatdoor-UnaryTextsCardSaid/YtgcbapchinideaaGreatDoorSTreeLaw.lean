import Derived.Test.YtgcbapchinideaaGreatDoorK1
import Derived.Test.YtgcbapchinideaaGreatDoorSSameL
namespace Go.Proofs.YtgcbapchinideaaGreatDoor
open Sy Go
set_option linter.unusedSimpArgs false
set_option linter.unusedVariables false
theorem qLX:∀ (l:List Val) {a b:Int},LeM a b→LeM a (kR b l)
 | [],a,b,h=>by simpa using h
 | x::l,a,b,h=>by simp only [kR]; exact qLX l (h.trans (.or_left _ _))
theorem qPG (v:Val) (h:InV v):LeM v.mask (wE v):=by rw [vZ]; exact qLX _ (.refl (qUW h))
end Go.Proofs.YtgcbapchinideaaGreatDoor
