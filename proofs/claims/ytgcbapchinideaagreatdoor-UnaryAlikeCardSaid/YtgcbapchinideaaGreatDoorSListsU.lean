import Derived.Test.YtgcbapchinideaaGreatDoorK6
import Derived.Test.YtgcbapchinideaaGreatDoorK5
import Derived.Test.YtgcbapchinideaaGreatDoorSRefCmp4
import Derived.Test.YtgcbapchinideaaGreatDoorSBuiltL
namespace Go.Proofs.YtgcbapchinideaaGreatDoor
open Sy Go
set_option maxRecDepth 100000
set_option maxHeartbeats 4000000
set_option linter.all false
variable {G:qR}
theorem qVP {y:Val}:∀ {l:List Val} {x:Val},y∈uqF x l->y∈l
 | [],_,h=>by simp[uqF]at h
 | z::l,x,h=>by
  simp only[uqF]at h
  split at h
  ·exact List.mem_cons_of_mem _ (qVP h)
  rcases List.mem_cons.1 h with rfl|h
  ·simp
  exact List.mem_cons_of_mem _ (qVP h)
theorem zGP:∀ (l:List Val) (x:Val),(uqF x l).length<=l.length
 | [],_=>by simp[uqF]
 | z::l,x=>by
  have:=zGP l z
  simp only[uqF]
  split <;> simp <;> omega
theorem zMQ {y:Val} {l:List Val} (h:y∈uqV l):y∈l:=by
 cases l with
 | nil=>simp[uqV]at h
 | cons x l =>
  rcases List.mem_cons.1 h with rfl|h
  ·simp
  exact List.mem_cons_of_mem _ (qVP h)
theorem zWP (l:List Val):(uqV l).length<=l.length:=by
 cases l with
 | nil=>simp[uqV]
 | cons x l=>have:=zGP l x;simp[uqV];omega
end Go.Proofs.YtgcbapchinideaaGreatDoor
