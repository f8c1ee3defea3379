import Derived.Test.YtgcbapchinideaaGreatDoorSUnU
import Derived.Test.YtgcbapchinideaaGreatDoorSUnS
import Derived.Test.YtgcbapchinideaaGreatDoorSRevV
import Derived.Test.YtgcbapchinideaaGreatDoorK5
import Derived.Test.YtgcbapchinideaaGreatDoorSRefCmp4
import Derived.Test.YtgcbapchinideaaGreatDoorSBuiltL
set_option linter.all false
namespace Go.Proofs.YtgcbapchinideaaGreatDoor
open Sy Go
set_option maxRecDepth 100000
set_option maxHeartbeats 4000000
variable {G:qT}
theorem qYO {y:Val}:∀ {l:List Val} {x:Val},y∈uqF x l->y∈l
 | [],_,h=>by simp[uqF]at h
 | z::l,x,h=>by
  simp only[uqF]at h;split at h
  ·exact cZ _ (qYO h)
  rcases bM.1 h with rfl|h
  ·simp
  exact cZ _ (qYO h)
theorem zKE:∀ (l:List Val) (x:Val),(uqF x l).length<=l.length
 | [],_=>by simp[uqF]
 | z::l,x=>by
  have:=zKE l z;simp only[uqF];split <;> simp <;> omega
theorem zGT {y:Val} {l:List Val} (h:y∈uqV l):y∈l:=by
 cases l with
 | nil=>simp[uqV]at h
 | cons x l =>
  rcases bM.1 h with rfl|h
  ·simp
  exact cZ _ (qYO h)
theorem wBF (l:List Val):(uqV l).length<=l.length:=by
 cases l with
 | nil=>simp[uqV]
 | cons x l=>have:=zKE l x;simp[uqV];omega
end Go.Proofs.YtgcbapchinideaaGreatDoor
