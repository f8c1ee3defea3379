import Derived.Test.YtgcbapchinideaaGreatDoorSPrintAll
import Derived.Test.YtgcbapchinideaaGreatDoorSBackL
namespace Go.Proofs.YtgcbapchinideaaGreatDoor
open Sy Go
set_option linter.unusedSimpArgs false
set_option linter.unusedVariables false
set_option maxRecDepth 100000
variable {G:qG}
theorem qRF {s:List UInt8} (h:xJ s=true):Lib.validD s=true∧s.length≤4096:=by
 unfold xJ at h; simp only [Bool.and_eq_true,decide_eq_true_eq] at h; exact ⟨h.2,by omega⟩
theorem qJT (l:List Val) (h:∀ k∈l,(qMN k).length+25000≤50000 * Val.sz k):((l.map qMN).map List.length).sum+25000 * l.length≤50000 * Val.szL l:=by
 induction l with
 | nil=>simp
 | cons v l ih =>
  have h1:=h v (by simp)
  have h2:=ih fun k hk=>h k (by simp [hk])
  simp only [List.map_cons,List.sum_cons,List.length_cons,Val.szL]; omega
end Go.Proofs.YtgcbapchinideaaGreatDoor
