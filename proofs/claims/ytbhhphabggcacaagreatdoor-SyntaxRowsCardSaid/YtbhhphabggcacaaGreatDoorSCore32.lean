import Derived.Test.YtbhhphabggcacaaGreatDoorSCore31
namespace Go.Proofs.YtbhhphabggcacaaGreatDoor.Sy
open Go
section
variable {P:Program} {T:Tab} {G:qM} {Q:Exit→St→Prop}
def qYC (s s':St):Prop:=∀ c M μ tmps w,Rel c M μ s tmps w→Rel c M μ s' tmps w
theorem qYC.of {s s':St} (h:St.Le s s'):qYC s s':=fun _ _ _ _ _ r=>r.weaken h
variable {st:St}
end
end Go.Proofs.YtbhhphabggcacaaGreatDoor.Sy
