import Derived.Test.YtlmedakhioiahaaGreatDoorK3
import Derived.Test.YtlmedakhioiahaaGreatDoorM4
namespace Go.Proofs.YtlmedakhioiahaaGreatDoor
open Sy Go
set_option maxRecDepth 100000
set_option linter.unusedSimpArgs false
theorem zKG {n:Nat} {cs:List PD} (h:ShC T (n+4) 23 cs):∃ j:Jb,cs=j.pds∧qTV j:=by
 simp only [ShC] at h
 simp [ShF] at h
 obtain ⟨_,_,rfl,⟨p,rfl,_⟩,_,_,rfl,⟨f,rfl,_⟩,_,_,rfl,⟨i,rfl,_⟩,_,_,rfl,⟨m,rfl,_⟩,_,_,rfl,⟨a,rfl,a1,a2⟩,_,_,rfl,⟨b,rfl,b1,b2⟩,_,_,rfl,⟨c,rfl,c1,c2⟩,d,rfl,d1,d2⟩:=h
 refine ⟨⟨p,f,i,m,a,b,c,d⟩,rfl,fun k hk => ?_⟩
 match k,hk with
 | 0,_=>exact ⟨by show -9223372036854775808≤a; omega,by show a≤9223372036854775807; omega⟩
 | 1,_=>exact ⟨by show -9223372036854775808≤b; omega,by show b≤9223372036854775807; omega⟩
 | 2,_=>exact ⟨by show -9223372036854775808≤c; omega,by show c≤9223372036854775807; omega⟩
 | 3,_=>exact ⟨by show -9223372036854775808≤d; omega,by show d≤9223372036854775807; omega⟩
theorem zOA {n:Nat} {cs:List PD} (h:ShC T (n+1) 5 cs):∃ m:Nat,cs=[.int .u8 (m:Int)]∧m<256:=by
 simp [ShC] at h
 obtain ⟨m,rfl,h1,h2⟩:=h
 exact ⟨m.toNat,by rw [Int.toNat_of_nonneg (by omega)],by omega⟩
end Go.Proofs.YtlmedakhioiahaaGreatDoor
