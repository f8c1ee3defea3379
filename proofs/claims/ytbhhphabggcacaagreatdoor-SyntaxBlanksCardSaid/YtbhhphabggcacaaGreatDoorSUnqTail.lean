import Derived.Test.YtbhhphabggcacaaGreatDoorSUnqMore
namespace Go.Proofs.YtbhhphabggcacaaGreatDoor
open Sy Go Go.Lib
set_option maxRecDepth 100000
set_option linter.unusedSimpArgs false
set_option linter.unusedVariables false
theorem zFJ (r:Int) (h:2≤(encodeRune r).length):∀ b∈encodeRune r,128≤b.toNat:=by
 intro b hb
 simp only [encodeRune,List.mem_map,List.length_map] at h hb
 obtain ⟨z,hz,rfl⟩:=hb
 have hbz:=encodeRuneZ_byte r z hz
 have:128≤z:=by
  by_cases h0:r<0∨(55296≤r∧r≤57343)∨1114111<r
  ·rw [encodeRuneZ_bad h0] at hz; simp at hz; omega
  by_cases h1:r≤127
  ·rw [encodeRuneZ_one (by omega) h1] at h; simp at h
  by_cases h2:r≤2047
  ·rw [encodeRuneZ_two (by omega) h2] at hz; simp at hz; omega
  by_cases h3:r≤65535
  ·rw [encodeRuneZ_three (by omega)] at hz; simp at hz; omega
  rw [encodeRuneZ_four (by omega) (by omega)] at hz; simp at hz; omega
 simp
 omega
theorem zBQ {u:List UInt8} (t:List UInt8) (hne:u≠[]) (hb:(decodeL u).1=65533∧(decodeL u).2=1):(decodeL (u++9::t)).1=65533∧(decodeL (u++9::t)).2=1:=by
 refine Classical.byContradiction fun hv => ?_
 have hx:u++9::t≠[]:=by simp
 have he:=encode_decode (u++9::t) hx hv
 have hle:=decodeL_le (u++9::t) hx
 have hpos:=List.length_pos_iff.2 hne
 by_cases hw:(decodeL (u++9::t)).2≤u.length
 ·have hm:=qCM (u++9::t) (u.drop (decodeL (u++9::t)).2) hx hv
  rw [List.take_append_of_le_length hw,List.take_append_drop] at hm
  rw [hm] at hb
  exact hv hb
 have hlen:(encodeRune ((decodeL (u++9::t)).1:Int)).length=(decodeL (u++9::t)).2:=by rw [he,List.length_take]; omega
 have:=zFJ _ (by rw [hlen]; omega) 9 (by
  rw [he,List.take_append]
  refine List.mem_append.2 (.inr ?_)
  obtain ⟨j,hj⟩:∃ j,(decodeL (u++9::t)).2-u.length=j+1:=⟨(decodeL (u++9::t)).2-u.length-1,by omega⟩
  rw [hj]; simp)
 revert this; decide
theorem qUX:∀ (l:List UInt8) (x:Nat),(9:UInt8)∈l→qFY l x=none
 | [],x,h=>by simp at h
 | c::l,x,h=>by
  simp only [qFY]
  cases hv:qMR c with
  | none=>rfl
  | some k =>
   simp only
   rcases List.mem_cons.1 h with h | h
   ·subst h; rw [show qMR 9=none by decide] at hv; cases hv
   exact qUX l _ h
theorem qFH (u t:List UInt8):wC (u++9::t)=wC u:=by
 by_cases h6:6≤u.length
 ·unfold wC
  rw [List.take_append_of_le_length (by omega),List.drop_append_of_le_length (by omega),List.take_append_of_le_length (by rw [List.length_drop]; omega)]
  have e1:¬ (u++9::t).length<6:=by simp; omega
  have e2:¬ u.length<6:=by omega
  simp only [e1,e2,false_or]
 have e:wC u=none:=by unfold wC; rw [if_pos (.inl (by omega))]
 rw [e]
 unfold wC
 split
 ·rfl
 rename_i c
 simp only [not_or,Nat.not_lt,ne_eq,Decidable.not_not] at c
 obtain ⟨c1,c2⟩:=c
 apply qUX
 have h2:2≤u.length:=by
  refine Classical.byContradiction fun hn => ?_
  have hm:(9:UInt8)∈(u++9::t).take 2:=by
   rw [List.take_append]
   refine List.mem_append.2 (.inr ?_)
   obtain ⟨j,hj⟩:∃ j,2-u.length=j+1:=⟨2-u.length-1,by omega⟩
   rw [hj]; simp
  rw [c2] at hm
  revert hm; decide
 rw [List.drop_append_of_le_length h2,List.take_append]
 refine List.mem_append.2 (.inr ?_)
 obtain ⟨j,hj⟩:∃ j,4-(u.drop 2).length=j+1:=⟨4-(u.drop 2).length-1,by rw [List.length_drop]; omega⟩
 rw [hj]; simp
theorem zBM {u:List UInt8} (t:List UInt8) (hne:u≠[]) (h:qBR u=none):qBR (u++9::t)=none:=by
 unfold qBR at h ⊢
 split at h
 ·cases h
 rename_i hb
 rw [if_neg]
 intro hc
 apply hb
 match u,hne,hc with
 | [a],_,hc =>
  have e:yX ([a]++9::t)=qCI (wC (a::9::t)) (wC ((a::9::t).drop 6)):=rfl
  have e1:wC (a::9::t)=none:=by
   have:=qFH [a] t
   rw [show [a]++9::t=a::9::t from rfl] at this
   rw [this]; rfl
  rw [e,e1] at hc
  simp [qCI] at hc
 | a::c::r,_,hc =>
  have e1:yX (a::c::r)=(match qAI c with
   | some v=>(v,2,true)
   | none=>qCI (wC (a::c::r)) (wC ((a::c::r).drop 6))):=rfl
  have e2:yX ((a::c::r)++9::t)=(match qAI c with
   | some v=>(v,2,true)
   | none=>qCI (wC ((a::c::r)++9::t)) (wC (((a::c::r)++9::t).drop 6))):=rfl
  rw [e2] at hc
  rw [e1]
  generalize a::c::r=w at *
  cases he:qAI c with
  | some v=>rfl
  | none =>
   rw [he] at hc
   simp only at hc ⊢
   rw [qFH] at hc
   by_cases h6:6≤w.length
   ·rw [List.drop_append_of_le_length h6,qFH] at hc
    exact hc
   have e:wC w=none:=by unfold wC; rw [if_pos (.inl (by omega))]
   rw [e] at hc
   simp [qCI] at hc
theorem zIP {s:List UInt8} {c m:Nat} (h:qBR s=some (c,m)):1≤m:=by
 unfold qBR at h
 split at h
 ·rename_i hb
  cases h
  match s,hb with
  | [],hb=>simp [yX] at hb
  | [a],hb=>simp [yX] at hb
  | a::c::r,hb =>
   have e1:yX (a::c::r)=(match qAI c with
    | some v=>(v,2,true)
    | none=>qCI (wC (a::c::r)) (wC ((a::c::r).drop 6))):=rfl
   rw [e1]
   cases qAI c with
   | some v=>simp
   | none=>simp only [qCI]; split <;> simp
 cases h
theorem qHM:∀ (n f:Nat) (u:List UInt8) (k:Nat) (out t:List UInt8) (f':Nat),u.length≤n→u.length<f→(yC f u k out).2.2=6→(yC f' (u++9::t) k out).2.2≠0
 | n,f,u,k,out,t,0,hn,hf,h=>by simp [yC]
 | n,0,u,k,out,t,f'+1,hn,hf,h=>by omega
 | n,f+1,u,k,out,t,f'+1,hn,hf,h=>by
  have hx:¬ u++9::t=[]:=by simp
  simp only [yC]
  rw [if_neg hx]
  by_cases hu:u=[]
  ·subst hu
   have hd:decodeL ([]++9::t)=(9,1):=qAD (by decide)
   rw [hd,if_neg (by decide),if_pos (by decide)]
   exact (by decide:(6:Int)≠0)
  by_cases hv:(decodeL u).1=65533∧(decodeL u).2=1
  ·have hv2:=zBQ t hu hv
   rw [if_neg (by rw [hv2.1]; decide),if_pos (.inr hv2)]
   exact (by decide:(6:Int)≠0)
  have hd:=qCL u (9::t) hu hv
  have hw:=decodeL_width u
  have hle:=decodeL_le u hu
  rw [hd]
  simp only [yC] at h
  rw [if_neg hu] at h
  by_cases c1:(decodeL u).1=34
  ·rw [if_pos c1] at h
   split at h <;> (simp at h)
  rw [if_neg c1] at h ⊢
  by_cases c2:(decodeL u).1<32∨((decodeL u).1=65533∧(decodeL u).2=1)
  ·rw [if_pos c2]; exact (by decide:(6:Int)≠0)
  rw [if_neg c2] at h ⊢
  by_cases c3:(decodeL u).1=92
  ·rw [if_pos c3] at h ⊢
   cases he:qBR u with
   | none=>rw [zBM t hu he]; exact (by decide:(6:Int)≠0)
   | some cn =>
    obtain ⟨c,m⟩:=cn
    obtain ⟨he2,hm⟩:=qVH (9::t) he
    rw [he2]
    rw [he] at h
    simp only at h ⊢
    have hm1:1≤m:=zIP he
    rw [List.drop_append_of_le_length hm]
    exact qHM (n-1) f (u.drop m) _ _ t f' (by rw [List.length_drop]; omega) (by rw [List.length_drop]; omega) h
  rw [if_neg c3] at h ⊢
  rw [List.drop_append_of_le_length hle]
  exact qHM (n-1) f (u.drop (decodeL u).2) _ _ t f' (by rw [List.length_drop]; omega) (by rw [List.length_drop]; omega) h
termination_by n f u k out t f'=>f'
end Go.Proofs.YtbhhphabggcacaaGreatDoor
