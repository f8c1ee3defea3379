import Derived.Test.YtcfcfblbpnpclaaGreatDoorM4
import Derived.Test.YtcfcfblbpnpclaaGreatDoorM3
import Derived.Maps.RangeRun
namespace Go.Proofs.YtcfcfblbpnpclaaGreatDoor.Sy
open Go
section
variable {P:Program} {T:Tab} {G:qM} {Q:Exit→St→Prop} {st st':St}
theorem Turned.refl (w:World) (b:Nat):Turned w w b:=⟨rfl,rfl,rfl,rfl,fun _ _=>rfl⟩
end
set_option linter.unusedSimpArgs false
section
variable {P:Program} {T:Tab} {G:qM} {Q:Exit→St→Prop} {st st':St}
end
end Go.Proofs.YtcfcfblbpnpclaaGreatDoor.Sy
