import Derived.Test.YtgcbapchinideaaGreatDoorSItemIn2
import Derived.Test.YtgcbapchinideaaGreatDoorSSynIn
namespace Go.Proofs.YtgcbapchinideaaGreatDoor
open Sy Go
set_option maxRecDepth 100000
set_option linter.all false
theorem zOY {n:Nat} {cs:List PD} (h:ShC T (n+5) 42 cs):∃ (l1 l2:List Item) (s:List UInt8),cs=[.sl 6 (l1.map Item.enc),.sl 6 (l2.map Item.enc),.str s] /\
  (∀ x∈l1,x.keys.length<=140737488351232/\InM x.mask)/\(∀ x∈l2,x.keys.length<=140737488351232/\InM x.mask):=by
 have h':ShF (ShC T (n+4)) [(0,22),(0,22),(0,9)] cs:=by
  rw[ShC]at h
  simp at h
  simpa[ShF]using h
 simp only[ShF]at h'
 obtain⟨c1,_,rfl,h1,c2,_,rfl,h2,c3,_,rfl,h3,rfl⟩:=h'
 obtain⟨l1,rfl,g1⟩:=qUN h1
 obtain⟨l2,rfl,g2⟩:=qUN h2
 obtain⟨s,rfl⟩:=zOZ h3
 exact⟨l1,l2,s,rfl,g1,g2⟩
end Go.Proofs.YtgcbapchinideaaGreatDoor
