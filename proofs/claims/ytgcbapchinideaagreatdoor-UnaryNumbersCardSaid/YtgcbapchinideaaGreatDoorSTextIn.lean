import Derived.Test.YtgcbapchinideaaGreatDoorM4
import Derived.Test.YtgcbapchinideaaGreatDoorK1
namespace Go.Proofs.YtgcbapchinideaaGreatDoor
open Sy Go
set_option maxRecDepth 100000
set_option linter.unusedSimpArgs false
theorem qVS {cs:List PD} (h:ShC T 4 26 cs):∃ d:Dc,vA (.st []) cs=d.enc:=by
 simp [ShC,ShF] at h
 obtain ⟨w,_,rfl,hng,_,_,rfl,⟨dg,rfl,_⟩,sc,rfl,_⟩:=h
 obtain ⟨ng,rfl⟩:∃ ng,w=[PD.bool ng]:=by
  rcases hng with h | h
  ·exact ⟨_,h⟩
  exact ⟨_,h⟩
 exact ⟨⟨ng,dg,sc⟩,by simp [vA]⟩
end Go.Proofs.YtgcbapchinideaaGreatDoor
