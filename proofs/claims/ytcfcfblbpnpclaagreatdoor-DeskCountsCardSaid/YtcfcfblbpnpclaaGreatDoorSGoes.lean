import Derived.Test.YtcfcfblbpnpclaaGreatDoorCards
import Derived.SevenTiedAt
import Derived.KernelRfl
namespace Go.Proofs.YtcfcfblbpnpclaaGreatDoor
open Go
theorem qUI:Tryz.prog.funcs.any Func.goes=false:=by kernel_rfl
theorem qFE (P:Program) (c:OpenClaim) (hs:c.start = .entering) (h:P.funcs.any Func.goes=false):c.goesBy P=false:=by
 unfold OpenClaim.goesBy Program.goesAt Program.goesFrom
 have key:∀ f,P.goes f=false:=fun f=>by
  unfold Program.goes
  rw [h,Bool.and_false,Bool.or_false]
  rw [List.any_eq_false]
  intro g _
  cases hg:P.funcs[g]? with
  | none=>simp
  | some fn =>
   have:=Array.any_eq_false.1 h
   obtain ⟨h1,h2⟩:=Array.getElem?_eq_some_iff.1 hg
   have h3:=this g h1
   rw [h2] at h3
   simpa using h3
 rw [hs]
 simp
 cases hf:P.funcNamed c.func with
 | none=>simp
 | some f=>simp [key f]
end Go.Proofs.YtcfcfblbpnpclaaGreatDoor
