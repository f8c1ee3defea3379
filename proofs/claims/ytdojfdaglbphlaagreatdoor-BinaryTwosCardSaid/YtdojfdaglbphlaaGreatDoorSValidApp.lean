import Derived.Test.YtdojfdaglbphlaaGreatDoorK1
import Derived.Test.YtdojfdaglbphlaaGreatDoorK2
namespace Go.Proofs.YtdojfdaglbphlaaGreatDoor
open Sy Go
set_option maxRecDepth 100000
set_option linter.unusedSimpArgs false
set_option linter.unusedVariables false
theorem zOE {b:Nat} {o1 o2 o3 p1 p2 p3:Option UInt8} (h1:o1=none∨p1=o1) (h2:o2=none∨p2=o2) (h3:o3=none∨p3=o3) (hne:qGX b o1 o2 o3≠(65533,1)):qGX b p1 p2 p3=qGX b o1 o2 o3:=by
 have c:∀ {o p:Option UInt8},(o=none∨p=o)→yC o=true→p=o:=by
  rintro o p (rfl | h) hc
  ·cases hc
  exact h
 unfold qGX at hne ⊢
 by_cases h0:b<0x80
 ·rw [if_pos h0,if_pos h0]
 rw [if_neg h0] at hne ⊢
 rw [if_neg h0]
 by_cases k1:(b / 32 == 6 && yC o1)=true
 ·obtain rfl:=c h1 (by simp only [Bool.and_eq_true] at k1; exact k1.2)
  rw [if_pos k1,if_pos k1]
 rw [if_neg k1] at hne ⊢
 by_cases k2:(b / 16 == 14 && yC o1 && yC o2)=true
 ·obtain rfl:=c h1 (by simp only [Bool.and_eq_true] at k2; exact k2.1.2)
  obtain rfl:=c h2 (by simp only [Bool.and_eq_true] at k2; exact k2.2)
  rw [if_neg k1,if_pos k2,if_pos k2]
 rw [if_neg k2] at hne ⊢
 by_cases k3:(b / 8 == 30 && yC o1 && yC o2 && yC o3)=true
 ·obtain rfl:=c h1 (by simp only [Bool.and_eq_true] at k3; exact k3.1.1.2)
  obtain rfl:=c h2 (by simp only [Bool.and_eq_true] at k3; exact k3.1.2)
  obtain rfl:=c h3 (by simp only [Bool.and_eq_true] at k3; exact k3.2)
  rw [if_neg k1,if_neg k2]
 rw [if_neg k3] at hne; exact absurd rfl hne
theorem qKY (b:UInt8) (s:List UInt8):Lib.decodeL (b::s)=qGX b.toNat s[0]? s[1]? s[2]?:=by
 have:=zAM (s:=b::s) (i:=0) (b:=b) rfl
 simpa [Lib.decodeL] using this
theorem qNF:∀ (n:Nat) (s t:List UInt8),s.length≤n→Lib.validD s=true→Lib.validD t=true→Lib.validD (s++t)=true
 | _,[],t,_,_,ht=>by simpa using ht
 | 0,b::s,t,hn,_,_=>by simp at hn
 | n+1,b::s,t,hn,hs,ht=>by
  have h1:=Lib.validD_step (b::s) (by simp)
  rw [hs] at h1
  have h2:=Lib.validD_step (b::s++t) (by simp)
  have hne:¬ ((Lib.decodeL (b::s)).1=65533∧(Lib.decodeL (b::s)).2=1):=by
   intro h; rw [if_pos h] at h1; cases h1
  rw [if_neg hne] at h1
  have hx:∀ k:Nat,s[k]?=none∨(s++t)[k]?=s[k]?:=fun k=>by
   by_cases hk:k<s.length
   ·exact .inr (List.getElem?_append_left hk)
   exact .inl (List.getElem?_eq_none (by omega))
  have he:Lib.decodeL (b::(s++t))=Lib.decodeL (b::s):=by
   rw [qKY,qKY]
   refine zOE (hx 0) (hx 1) (hx 2) fun h=>hne ?_
   rw [qKY,h]; exact ⟨rfl,rfl⟩
  have hw:=Lib.decodeL_le (b::s) (by simp)
  have hp:1≤(Lib.decodeL (b::s)).2:=by
   exact Lib.decode_width_pos ⟨(b::s).toArray⟩ 0 (by simp [ByteArray.size])
  rw [List.cons_append,he,if_neg hne] at h2
  rw [List.cons_append,h2]
  have hd:(b::(s++t)).drop (Lib.decodeL (b::s)).2=(b::s).drop (Lib.decodeL (b::s)).2++t:=by
   rw [← List.cons_append,List.drop_append_of_le_length hw]
  rw [hd]
  exact qNF n _ t (by simp at hn ⊢; omega) h1.symm ht
end Go.Proofs.YtdojfdaglbphlaaGreatDoor
