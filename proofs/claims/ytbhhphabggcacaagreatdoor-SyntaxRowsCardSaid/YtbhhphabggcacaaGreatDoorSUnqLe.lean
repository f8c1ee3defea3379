import Derived.Test.YtbhhphabggcacaaGreatDoorK1
namespace Go.Proofs.YtbhhphabggcacaaGreatDoor
open Sy Go
set_option maxRecDepth 100000
set_option linter.unusedSimpArgs false
set_option linter.unusedVariables false
theorem qFG {s:List UInt8} (h:(yJ s).isSome=true):6≤s.length:=by
 unfold yJ at h
 split at h
 ·cases h
 omega
theorem qRS {s:List UInt8} (h:(yY s).2.2=true):(yY s).2.1≤s.length:=by
 match s with
 | []=>simp [yY] at h
 | [a]=>simp [yY] at h
 | a::c::t =>
  have h1:=qFG (s:=a::c::t)
  have h2:=qFG (s:=(a::c::t).drop 6)
  unfold yY at h ⊢
  cases hv:qDQ c with
  | some v=>simp only [hv]; simp
  | none =>
   simp only [hv] at h ⊢
   unfold qUH at h ⊢
   generalize yJ (a::c::t)=A at *
   generalize yJ ((a::c::t).drop 6)=B at *
   split at h
   ·rename_i hc
    rw [if_pos hc]
    simp only [Bool.and_eq_true] at h
    exact h1 h.1
   rename_i hc
   rw [if_neg hc]
   simp only [Bool.and_eq_true] at h
   have:=h2 h.1
   rw [List.length_drop] at this
   simp only; omega
theorem qBL:∀ (f:Nat) (s:List UInt8) (k:Nat) (out:List UInt8),((jZ f s k out).2.2=0∧(jZ f s k out).2.1≤k+s.length)∨(((jZ f s k out).2.2=3∨(jZ f s k out).2.2=6)∧(jZ f s k out).2.1=0)
 | 0,s,k,out => .inr (by simp [jZ])
 | f+1,s,k,out=>by
  simp only [jZ]
  split
  ·exact .inr (by simp)
  rename_i hne
  split
  ·split
   ·exact .inr (by simp)
   exact .inl ⟨rfl,by have:=List.length_pos_iff.2 hne; simp only; omega⟩
  split
  ·exact .inr (by simp)
  split
  ·cases he:qOM s with
   | none=>exact .inr (by simp)
   | some cn =>
    obtain ⟨c,n⟩:=cn
    simp only
    have hn:n≤s.length:=by
     unfold qOM at he
     split at he
     ·rename_i h; cases he; exact qRS h
     cases he
    have:=qBL f (s.drop n) (k+n) (out++Lib.encodeRune c)
    rw [List.length_drop] at this
    omega
  have hn:=Lib.decodeL_le s hne
  have:=qBL f (s.drop (Lib.decodeL s).2) (k+(Lib.decodeL s).2) (out++Lib.encodeRune (Lib.decodeL s).1)
  rw [List.length_drop] at this
  omega
theorem uU (s:List UInt8):((zQ s).2.2=0∧(zQ s).2.1≤s.length)∨(((zQ s).2.2=3∨(zQ s).2.2=6)∧(zQ s).2.1=0):=by
 unfold zQ
 split
 ·rename_i h
  have:=qBL s.length (s.drop 1) 1 []
  rw [List.length_drop] at this
  have:1≤s.length:=by cases s with
   | nil=>simp at h
   | cons=>simp
  omega
 exact .inr (by simp)
end Go.Proofs.YtbhhphabggcacaaGreatDoor
