import Derived.Test.YtbhhphabggcacaaGreatDoorK1
import Derived.Scope
import Derived.Control
namespace Go.Proofs.YtbhhphabggcacaaGreatDoor.Sy
open Go
set_option linter.unusedVariables false
section
variable {P:Program} {G:qS} {Q:Exit→St→Prop} {st:St}
def zPT (Q:Exit→St→Prop):Exit→St→Prop
 | .goto _,_=>False
 | e,s=>Q e s
theorem AW.scope {c:Code} (h:AW P G c (zPT Q) st):AW P G (.scope c) Q st:=fun x M μ tmps w hg r=>wp_scope_straight (wp_mono (h x M μ tmps w hg r) (by
 rintro e a w' ⟨s,M',μ',r',hd,q⟩
 cases e <;> first | exact ⟨s,M',μ',r',hd,q⟩ | exact q.elim))
theorem AW.label {l:Nat} (h:Q .normal st):AW P G (.label l) Q st:=fun _ M μ _ _ _ r=>wp_label ⟨st,M,μ,r,rfl,h⟩
end
end Go.Proofs.YtbhhphabggcacaaGreatDoor.Sy
