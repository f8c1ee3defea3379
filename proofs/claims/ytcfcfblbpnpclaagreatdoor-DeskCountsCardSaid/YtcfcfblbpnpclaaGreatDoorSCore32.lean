import Derived.Test.YtcfcfblbpnpclaaGreatDoorSCore31
namespace Go.Proofs.YtcfcfblbpnpclaaGreatDoor.Sy
open Go
section
variable {P:Program} {T:Tab} {G:qK} {Q:Exit→St→Prop}
def qLG (s s':St):Prop:=∀ c M μ tmps w,Rel c M μ s tmps w→Rel c M μ s' tmps w
theorem qLG.of {s s':St} (h:St.Le s s'):qLG s s':=fun _ _ _ _ _ r=>r.weaken h
variable {st:St}
end
end Go.Proofs.YtcfcfblbpnpclaaGreatDoor.Sy
