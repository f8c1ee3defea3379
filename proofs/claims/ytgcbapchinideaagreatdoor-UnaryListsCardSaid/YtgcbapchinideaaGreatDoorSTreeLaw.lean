import Derived.Test.YtgcbapchinideaaGreatDoorK1
import Derived.Test.YtgcbapchinideaaGreatDoorK2
import Derived.Test.YtgcbapchinideaaGreatDoorSSameL
namespace Go.Proofs.YtgcbapchinideaaGreatDoor
open Sy Go
set_option linter.unusedSimpArgs false
set_option linter.unusedVariables false
theorem qLD (v:Val):kC v v=true:=(xW v v).2 rfl
theorem qYW (v:Val) (m:Int):zC (qIK v m)=zC v:=by rw [xQ,xQ v]; rfl
theorem qHV (v:Val) (m:Int):zC (xB v m)=zC v:=qYW v _
theorem zCC (v:Val) (m:Int):Val.sz (xB v m)=Val.sz v:=by rw [qKY,qKY v]; rfl
theorem qET:∀ (l:List Val) {a b:Int},LeM a b→LeM a (yR b l)
 | [],a,b,h=>by simpa using h
 | x::l,a,b,h=>by simp only [yR]; exact qET l (h.trans (.or_left _ _))
theorem qME:∀ {l:List Val} {k:Val} (m:Int),k∈l→LeM (zV k) (yR m l)
 | x::l,k,m,h=>by
  simp only [yR]
  rcases List.mem_cons.1 h with rfl | h
  ·exact qET l (.or_right _ _)
  exact qME _ h
theorem qHC:∀ {l:List Val} {m b:Int},LeM m b→(∀ k∈l,LeM (zV k) b)→LeM (yR m l) b
 | [],m,b,h,_=>by simpa using h
 | x::l,m,b,h,hk=>by
  simp only [yR]
  exact qHC (h.or (hk x (by simp))) fun k hk'=>hk k (by simp [hk'])
theorem qUQ (v:Val) (h:InV v):LeM v.mask (zV v):=by rw [qBU]; exact qET _ (.refl (qRJ h))
theorem qXT (v:Val) (m:Int):zZ (qIK v m)=zZ v:=by rw [yK,yK v]; rfl
end Go.Proofs.YtgcbapchinideaaGreatDoor
