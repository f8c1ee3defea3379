import Derived.Test.YtbhhphabggcacaaGreatDoorK2
namespace Go.Proofs.YtbhhphabggcacaaGreatDoor
open Sy Go
set_option maxRecDepth 100000
set_option linter.unusedSimpArgs false
set_option linter.unusedVariables false
theorem qKS {s:List UInt8} (h:(wC s).isSome=true):6≤s.length:=by
 unfold wC at h
 split at h
 ·cases h
 omega
theorem zBN {s:List UInt8} (h:(yX s).2.2=true):(yX s).2.1≤s.length:=by
 match s with
 | []=>simp [yX] at h
 | [a]=>simp [yX] at h
 | a::c::t =>
  have h1:=qKS (s:=a::c::t)
  have h2:=qKS (s:=(a::c::t).drop 6)
  unfold yX at h ⊢
  cases hv:qAI c with
  | some v=>simp only [hv]; simp
  | none =>
   simp only [hv] at h ⊢
   unfold qCI at h ⊢
   generalize wC (a::c::t)=A at *
   generalize wC ((a::c::t).drop 6)=B at *
   split at h
   ·rename_i hc
    rw [if_pos hc]
    simp only [Bool.and_eq_true] at h
    exact h1 h.1
   rename_i hc
   rw [if_neg hc]
   simp only [Bool.and_eq_true] at h
   have:=h2 h.1
   rw [List.length_drop] at this
   simp only; omega
theorem qFG:∀ (f:Nat) (s:List UInt8) (k:Nat) (out:List UInt8),((yC f s k out).2.2=0∧(yC f s k out).2.1≤k+s.length)∨(((yC f s k out).2.2=3∨(yC f s k out).2.2=6)∧(yC f s k out).2.1=0)
 | 0,s,k,out => .inr (by simp [yC])
 | f+1,s,k,out=>by
  simp only [yC]
  split
  ·exact .inr (by simp)
  rename_i hne
  split
  ·split
   ·exact .inr (by simp)
   exact .inl ⟨rfl,by have:=List.length_pos_iff.2 hne; simp only; omega⟩
  split
  ·exact .inr (by simp)
  split
  ·cases he:qBR s with
   | none=>exact .inr (by simp)
   | some cn =>
    obtain ⟨c,n⟩:=cn
    simp only
    have hn:n≤s.length:=by
     unfold qBR at he
     split at he
     ·rename_i h; cases he; exact zBN h
     cases he
    have:=qFG f (s.drop n) (k+n) (out++Lib.encodeRune c)
    rw [List.length_drop] at this
    omega
  have hn:=Lib.decodeL_le s hne
  have:=qFG f (s.drop (Lib.decodeL s).2) (k+(Lib.decodeL s).2) (out++Lib.encodeRune (Lib.decodeL s).1)
  rw [List.length_drop] at this
  omega
theorem qDC (s:List UInt8):((qO s).2.2=0∧(qO s).2.1≤s.length)∨(((qO s).2.2=3∨(qO s).2.2=6)∧(qO s).2.1=0):=by
 unfold qO
 split
 ·rename_i h
  have:=qFG s.length (s.drop 1) 1 []
  rw [List.length_drop] at this
  have:1≤s.length:=by cases s with
   | nil=>simp at h
   | cons=>simp
  omega
 exact .inr (by simp)
end Go.Proofs.YtbhhphabggcacaaGreatDoor
