import Derived.Test.YtdojfdaglbphlaaGreatDoorK2
import Derived.Test.YtdojfdaglbphlaaGreatDoorK1
namespace Go.Proofs.YtdojfdaglbphlaaGreatDoor
open Sy Go
set_option linter.unusedSimpArgs false
set_option linter.unusedVariables false
theorem zHN (v:Val):vF v v=true:=(qAQ v v).2 rfl
theorem zLG (v:Val) (m:Int):qS (qQW v m)=qS v:=by rw [jX,jX v]; rfl
theorem qXM (v:Val) (m:Int):qS (vD v m)=qS v:=zLG v _
theorem zAK:∀ (l:List Val) {a b:Int},LeM a b→LeM a (qBF b l)
 | [],a,b,h=>by simpa using h
 | x::l,a,b,h=>by simp only [qBF]; exact zAK l (h.trans (.or_left _ _))
theorem zFI (v:Val) (h:InV v):LeM v.mask (qU v):=by rw [qQA]; exact zAK _ (.refl (zPD h))
mutual
def zYS (below:Bool):Val→Bool
 | .mk _ m _ _ _ vs _ => !(below && decide (m≠0)) && flatL (below || decide (m≠0)) vs
def flatL (below:Bool):List Val→Bool
 | []=>true
 | v::vs=>zYS below v && flatL below vs
end
end Go.Proofs.YtdojfdaglbphlaaGreatDoor
