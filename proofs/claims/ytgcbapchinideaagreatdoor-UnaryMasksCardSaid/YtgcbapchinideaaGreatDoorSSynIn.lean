import Derived.Test.YtgcbapchinideaaGreatDoorK2
import Derived.Test.YtgcbapchinideaaGreatDoorM4
set_option linter.all false
namespace Go.Proofs.YtgcbapchinideaaGreatDoor
open Sy Go
set_option maxRecDepth 100000
theorem zTQ {n:Nat} {cs:List PD} (h:ShC T (n+1) 9 cs):∃ s:List UInt8,cs=[.str s]:=by
 simp[ShC]at h;obtain⟨s,rfl,hs⟩:=h;exact⟨s,rfl⟩
end Go.Proofs.YtgcbapchinideaaGreatDoor
