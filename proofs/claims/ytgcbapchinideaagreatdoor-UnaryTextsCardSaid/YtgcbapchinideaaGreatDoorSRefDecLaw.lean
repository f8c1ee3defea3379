import Derived.Test.YtgcbapchinideaaGreatDoorK1
namespace Go.Proofs.YtgcbapchinideaaGreatDoor
open Sy Go
set_option linter.unusedSimpArgs false
set_option linter.unusedVariables false
theorem qWF:∀ (x y:List UInt8),x.length=y.length→x.all zB=true→y.all zB=true→(Op.bytesLess x y=true↔zF x<zF y)
 | [],[],_,_,_=>by simp [Op.bytesLess]
 | [],_::_,h,_,_=>by simp at h
 | _::_,[],h,_,_=>by simp at h
 | a::x,b::y,h,hx,hy=>by
  simp only [List.all_cons,Bool.and_eq_true] at hx hy
  have hl:x.length=y.length:=by simpa using h
  have ih:=qWF x y hl hx.2 hy.2
  have da:=(wC a).1 hx.1
  have db:=(wC b).1 hy.1
  have lx:=jJ hx.2
  have ly:=jJ hy.2
  rw [yR,yR,hl]
  rw [hl] at lx
  simp only [Op.bytesLess,Bool.or_eq_true,Bool.and_eq_true,decide_eq_true_eq,beq_iff_eq,UInt8.lt_iff_toNat_lt,ih]
  by_cases h1:a.toNat<b.toNat
  ·have:=Nat.mul_le_mul_right (10 ^ y.length) (show a.toNat-48+1≤b.toNat-48 by omega)
   rw [Nat.add_mul,Nat.one_mul] at this
   exact ⟨fun _=>by omega,fun _ => .inl h1⟩
  by_cases h2:a=b
  ·subst h2
   exact ⟨fun h => by rcases h with h | h; · omega
                      ·omega,fun h => .inr ⟨rfl,by omega⟩⟩
  have h3:b.toNat<a.toNat:=by have:a.toNat≠b.toNat:=fun e=>h2 (UInt8.toNat_inj.1 e); omega
  have:=Nat.mul_le_mul_right (10 ^ y.length) (show b.toNat-48+1≤a.toNat-48 by omega)
  rw [Nat.add_mul,Nat.one_mul] at this
  exact ⟨fun h => by rcases h with h | h; · omega
                     ·exact (h2 h.1).elim,fun h=>by omega⟩
theorem qUB:∀ (x y:List UInt8),x.length=y.length→x.all zB=true→y.all zB=true→zF x=zF y→x=y
 | [],[],_,_,_,_=>rfl
 | [],_::_,h,_,_,_=>by simp at h
 | _::_,[],h,_,_,_=>by simp at h
 | a::x,b::y,h,hx,hy,he=>by
  simp only [List.all_cons,Bool.and_eq_true] at hx hy
  have hl:x.length=y.length:=by simpa using h
  have da:=(wC a).1 hx.1
  have db:=(wC b).1 hy.1
  have lx:=jJ hx.2
  have ly:=jJ hy.2
  rw [yR,yR,hl] at he
  rw [hl] at lx
  have hab:a.toNat=b.toNat:=by
   by_cases h1:a.toNat<b.toNat
   ·have:=Nat.mul_le_mul_right (10 ^ y.length) (show a.toNat-48+1≤b.toNat-48 by omega)
    rw [Nat.add_mul,Nat.one_mul] at this; omega
   by_cases h3:b.toNat<a.toNat
   ·have:=Nat.mul_le_mul_right (10 ^ y.length) (show b.toNat-48+1≤a.toNat-48 by omega)
    rw [Nat.add_mul,Nat.one_mul] at this; omega
   omega
  rw [hab] at he
  rw [UInt8.toNat_inj.1 hab,qUB x y hl hx.2 hy.2 (by omega)]
theorem qTE {x y:List UInt8} (hx:x.all zB=true) (hy:y.all zB=true) (lx:0<x.length) (ly:0<y.length) (h1:zR x 0≠48) (h2:zR y 0≠48) (h:zF x=zF y):x.length=y.length:=by
 have a1:=qDZ hx lx h1
 have a2:=qDZ hy ly h2
 have b1:=jJ hx
 have b2:=jJ hy
 by_cases h3:x.length<y.length
 ·have:=Nat.pow_le_pow_right (show 0<10 by omega) (show x.length≤y.length-1 by omega); omega
 by_cases h4:y.length<x.length
 ·have:=Nat.pow_le_pow_right (show 0<10 by omega) (show y.length≤x.length-1 by omega); omega
 omega
end Go.Proofs.YtgcbapchinideaaGreatDoor
