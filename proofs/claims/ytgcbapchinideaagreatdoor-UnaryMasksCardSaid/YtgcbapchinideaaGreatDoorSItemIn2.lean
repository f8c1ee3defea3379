import Derived.Test.YtgcbapchinideaaGreatDoorSItemIn
import Derived.Test.YtgcbapchinideaaGreatDoorK2
set_option linter.all false
namespace Go.Proofs.YtgcbapchinideaaGreatDoor
open Sy Go
set_option maxRecDepth 100000
theorem zPI {n:Nat} {cs:List PD} (h:ShC T (n+4) 22 cs):∃ l:List Item,cs=[.sl 6 (l.map Item.enc)]/\∀ x∈l,x.keys.length<=140737488351232/\InM x.mask:=by
 simp only[ShC]at h;simp[ShF]at h;obtain⟨es,rfl,_,h⟩:=h;obtain⟨l,rfl,hl⟩:=qWW (f:=Item.enc) (p:=fun x=>x.keys.length<=140737488351232/\InM x.mask) (es:=es) (fun x hx=>by
  obtain⟨cs,rfl,h⟩:=h x hx;obtain⟨_,_,rfl,⟨k,rfl,_⟩,_,_,rfl,⟨m,rfl,_⟩,_,_,rfl,⟨mk,rfl,hmk⟩,_,_,rfl,⟨nm,rfl,_⟩,_,_,rfl,⟨tx,rfl,_⟩,es',rfl,hl',h'⟩:=h;obtain⟨ks,rfl⟩:=zLF (f:=PD.str) (es:=es') (fun x hx=>by
   obtain⟨cs,rfl,s,rfl,_⟩:=h' x hx;exact⟨s,by simp[qEM]⟩)
  refine⟨⟨k,m,mk,nm,tx,ks⟩,by simp[qEM],by simp at hl';simp only[];omega, ?_⟩;unfold InM;show 0<=mk/\mk<18446744073709551616
  omega)
 exact⟨l,rfl,hl⟩
end Go.Proofs.YtgcbapchinideaaGreatDoor
