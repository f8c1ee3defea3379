import Derived.Test.YtbhhphabggcacaaGreatDoorK2
namespace Go.Proofs.YtbhhphabggcacaaGreatDoor
open Sy Go Go.Lib
set_option linter.unusedSimpArgs false
set_option linter.unusedVariables false
set_option maxRecDepth 100000
theorem qOQ {s:List UInt8} {x:Nat} (t:List UInt8) (h:wC s=some x):wC (s++t)=some x∧6≤s.length:=by
 unfold wC at h ⊢
 split at h
 ·cases h
 rename_i hc
 simp only [not_or,Nat.not_lt] at hc
 have h2:s.take 2=[92,117]:=Classical.byContradiction hc.2
 rw [if_neg (by
  rintro (h | h)
  ·rw [List.length_append] at h; omega
  rw [List.take_append_of_le_length (by omega)] at h; exact h h2)]
 rw [List.drop_append_of_le_length (by omega),List.take_append_of_le_length (by rw [List.length_drop]; omega)]
 exact ⟨h,hc.1⟩
theorem qVH {s:List UInt8} {c n:Nat} (t:List UInt8) (h:qBR s=some (c,n)):qBR (s++t)=some (c,n)∧n≤s.length:=by
 unfold qBR at h ⊢
 split at h
 ·rename_i hb
  cases h
  suffices hs:yX (s++t)=yX s∧(yX s).2.1≤s.length by rw [hs.1,if_pos hb]; exact ⟨rfl,hs.2⟩
  match s,hb with
  | [],hb=>simp [yX] at hb
  | [a],hb=>simp [yX] at hb
  | a::c::r,hb =>
   have e1:yX (a::c::r)=(match qAI c with
    | some v=>(v,2,true)
    | none=>qCI (wC (a::c::r)) (wC ((a::c::r).drop 6))):=rfl
   have e2:yX ((a::c::r)++t)=(match qAI c with
    | some v=>(v,2,true)
    | none=>qCI (wC ((a::c::r)++t)) (wC (((a::c::r)++t).drop 6))):=rfl
   rw [e1] at hb ⊢
   rw [e2]
   have h2:2≤(a::c::r).length:=by simp
   generalize a::c::r=s at *
   cases he:qAI c with
   | some v=>exact ⟨rfl,h2⟩
   | none =>
    rw [he] at hb
    simp only at hb ⊢
    cases hu:wC s with
    | none=>rw [hu] at hb; simp [qCI] at hb
    | some x =>
     obtain ⟨m1,m2⟩:=qOQ t hu
     rw [m1]
     rw [hu] at hb
     by_cases h54:x / 1024=54
     ·cases hw:wC (s.drop 6) with
      | none=>rw [hw] at hb; simp [qCI,h54] at hb
      | some y =>
       obtain ⟨m3,m4⟩:=qOQ t hw
       rw [List.drop_append_of_le_length m2,m3]
       refine ⟨rfl, ?_⟩
       rw [List.length_drop] at m4
       simp [qCI,h54]; omega
     simp [qCI,h54]; omega
 cases h
theorem qCL (u t:List UInt8) (hne:u≠[]) (hv:¬ ((decodeL u).1=65533∧(decodeL u).2=1)):decodeL (u++t)=decodeL u:=by
 have h:=qCM u (u.drop (decodeL u).2++t) hne hv
 rw [← List.append_assoc,List.take_append_drop] at h
 exact h
theorem qGE:∀ (f:Nat) (u t:List UInt8) (k:Nat) (out:List UInt8),(yC f u k out).2.2≠6→∀ f',f≤f'→yC f' (u++t) k out=yC f u k out∧((yC f u k out).2.2=0→(yC f u k out).2.1≤k+u.length)
 | 0,u,t,k,out,h,_,_=>by simp [yC] at h
 | f+1,u,t,k,out,h,f',hf=>by
  obtain ⟨f',rfl⟩:∃ g,f'=g+1:=⟨f'-1,by omega⟩
  simp only [yC] at h ⊢
  by_cases hne:u=[]
  ·rw [if_pos hne] at h; exact absurd rfl h
  rw [if_neg hne] at h ⊢
  rw [if_neg (show ¬ u++t=[] by intro e; exact hne (List.append_eq_nil_iff.1 e).1)]
  have hlen:1≤u.length:=List.length_pos_iff.2 hne
  by_cases hinv:(decodeL u).1=65533∧(decodeL u).2=1
  ·rw [if_neg (by rw [hinv.1]; decide),if_pos (.inr hinv)] at h; exact absurd rfl h
  rw [qCL u t hne hinv]
  by_cases h34:(decodeL u).1=34
  ·simp only [if_pos h34]
   refine ⟨trivial, ?_⟩
   split
   ·intro h; exact absurd h (by decide)
   intro _; simp only; omega
  simp only [if_neg h34] at h ⊢
  by_cases h32:(decodeL u).1<32∨((decodeL u).1=65533∧(decodeL u).2=1)
  ·rw [if_pos h32] at h; exact absurd rfl h
  simp only [if_neg h32] at h ⊢
  by_cases h92:(decodeL u).1=92
  ·simp only [if_pos h92] at h ⊢
   cases he:qBR u with
   | none=>rw [he] at h; exact absurd rfl h
   | some cn =>
    obtain ⟨c,n⟩:=cn
    rw [he] at h
    obtain ⟨m1,m2⟩:=qVH t he
    rw [m1]
    simp only at h ⊢
    rw [List.drop_append_of_le_length m2]
    obtain ⟨i1,i2⟩:=qGE f (u.drop n) t (k+n) (out++encodeRune c) h f' (by omega)
    refine ⟨i1,fun h0 => ?_⟩
    have:=i2 h0
    rw [List.length_drop] at this; omega
  simp only [if_neg h92] at h ⊢
  have hle:=decodeL_le u hne
  rw [List.drop_append_of_le_length hle]
  obtain ⟨i1,i2⟩:=qGE f (u.drop (decodeL u).2) t (k+(decodeL u).2) (out++encodeRune (decodeL u).1) h f' (by omega)
  refine ⟨i1,fun h0 => ?_⟩
  have:=i2 h0
  rw [List.length_drop] at this; omega
end Go.Proofs.YtbhhphabggcacaaGreatDoor
