import Derived.Test.YtgcbapchinideaaGreatDoorK5
import Derived.Test.YtgcbapchinideaaGreatDoorK4
set_option linter.all false
namespace Go.Proofs.YtgcbapchinideaaGreatDoor
open Sy Go
set_option maxRecDepth 100000
theorem wBL (m n c:Int):qUN (orM m n) c=0↔qUN m c=0/\qUN n c=0:=by
 unfold qUN;rw[qLU,Nat.and_or_distrib_right];have e:∀ x:Nat,((x:Nat):Int)=0↔x=0:=fun x=>by omega
 rw[e,e,e,Nat.or_eq_zero_iff]
theorem sub_le {m n c:Int} (h:LeM m n) (hn:qUN n c=0):qUN m c=0:=by
 unfold LeM at h;rw[<-h]at hn;exact((wBL m n c).1 hn).1
end Go.Proofs.YtgcbapchinideaaGreatDoor
