import Derived.Test.YtgcbapchinideaaGreatDoorM4
import Derived.Test.YtgcbapchinideaaGreatDoorK2
set_option linter.all false
namespace Go.Proofs.YtgcbapchinideaaGreatDoor
open Sy Go
set_option maxRecDepth 100000
theorem wGW {n:Nat} {cs:List PD} (h:ShC T (n+1) 5 cs):∃ m:Nat,cs=[.int .u8 (m:Int)]/\m<256:=by
 simp[ShC]at h;obtain⟨m,rfl,h1,h2⟩:=h;exact⟨m.toNat,by rw[Int.toNat_of_nonneg (by omega)],by omega⟩
end Go.Proofs.YtgcbapchinideaaGreatDoor
