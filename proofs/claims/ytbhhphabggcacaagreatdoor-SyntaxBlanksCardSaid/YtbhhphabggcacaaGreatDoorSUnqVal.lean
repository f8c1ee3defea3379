import Derived.Test.YtbhhphabggcacaaGreatDoorSUnqMore
import Derived.Test.YtbhhphabggcacaaGreatDoorK2
namespace Go.Proofs.YtbhhphabggcacaaGreatDoor
open Sy Go Go.Lib
set_option maxRecDepth 100000
set_option linter.unusedSimpArgs false
set_option linter.unusedVariables false
theorem zIV (r:Int) (t:List UInt8):(decodeL (encodeRune r++t)).2=(encodeRune r).length∧¬ ((decodeL (encodeRune r++t)).1=65533∧(decodeL (encodeRune r++t)).2=1):=by
 rw [xQ]
 by_cases h0:r<0∨(55296≤r∧r≤57343)∨1114111<r
 ·have e:encodeRune r=[239,191,189]:=by unfold encodeRune; rw [encodeRuneZ_bad h0]; rfl
  rw [e]
  have hd:decodeN (([239,191,189]:List UInt8)++t).length 239 191 189 ((([239,191,189]:List UInt8)++t).getD 3 0).toNat=(65533,3):=by
   unfold decodeN
   rw [if_neg (by omega),if_neg (by omega),if_pos ⟨by omega,⟨by simp,by omega⟩,by simp,by omega⟩,if_pos (by omega)]
  have g:((([239,191,189]:List UInt8)++t).getD 0 0).toNat=239∧((([239,191,189]:List UInt8)++t).getD 1 0).toNat=191∧((([239,191,189]:List UInt8)++t).getD 2 0).toNat=189:=⟨rfl,rfl,rfl⟩
  rw [g.1,g.2.1,g.2.2,hd]
  exact ⟨rfl,by simp⟩
 obtain ⟨n,rfl⟩:∃ n:Nat,r=n:=⟨r.toNat,by omega⟩
 by_cases h1:n≤127
 ·have e:encodeRune (n:Int)=[n.toUInt8]:=by unfold encodeRune; rw [encodeRuneZ_one (by omega) (by omega)]; rfl
  have g:(n.toUInt8).toNat=n:=by simp; omega
  rw [e]
  have g0:((([n.toUInt8]:List UInt8)++t).getD 0 0).toNat=n:=g
  rw [g0]
  unfold decodeN
  rw [if_pos (by omega)]
  exact ⟨rfl,by simp; omega⟩
 by_cases h2:n≤2047
 ·have e:encodeRune (n:Int)=[(192+n / 64).toUInt8,(128+n % 64).toUInt8]:=by unfold encodeRune; rw [encodeRuneZ_two (by omega) (by omega)]; rfl
  have g1:((192+n / 64).toUInt8).toNat=192+n / 64:=by simp; omega
  have g2:((128+n % 64).toUInt8).toNat=128+n % 64:=by simp; omega
  rw [e]
  generalize (192+n / 64).toUInt8=a at *
  generalize (128+n % 64).toUInt8=b at *
  have f1:([a,b]++t).getD 0 0=a:=rfl
  have f2:([a,b]++t).getD 1 0=b:=rfl
  have hl:1<([a,b]++t).length:=by simp
  rw [f1,f2,g1,g2]
  generalize ([a,b]++t).length=L at *
  unfold decodeN
  rw [if_neg (by omega),if_pos (by omega),if_pos (by omega)]
  exact ⟨rfl,by simp⟩
 by_cases h3:n≤65535
 ·have e:encodeRune (n:Int)=[(224+n / 4096).toUInt8,(128+n / 64 % 64).toUInt8,(128+n % 64).toUInt8]:=by unfold encodeRune; rw [encodeRuneZ_three (by omega)]; rfl
  have g1:((224+n / 4096).toUInt8).toNat=224+n / 4096:=by simp; omega
  have g2:((128+n / 64 % 64).toUInt8).toNat=128+n / 64 % 64:=by simp; omega
  have g3:((128+n % 64).toUInt8).toNat=128+n % 64:=by simp; omega
  rw [e]
  generalize (224+n / 4096).toUInt8=a at *
  generalize (128+n / 64 % 64).toUInt8=b at *
  generalize (128+n % 64).toUInt8=c at *
  have f1:([a,b,c]++t).getD 0 0=a:=rfl
  have f2:([a,b,c]++t).getD 1 0=b:=rfl
  have f3:([a,b,c]++t).getD 2 0=c:=rfl
  have hl:2<([a,b,c]++t).length:=by simp
  rw [f1,f2,f3,g1,g2,g3]
  generalize ([a,b,c]++t).length=L at *
  unfold decodeN
  rw [if_neg (by omega),if_neg (by omega),if_pos (by omega),if_pos (by omega)]
  exact ⟨rfl,by simp⟩
 have e:encodeRune (n:Int)=[(240+n / 262144).toUInt8,(128+n / 4096 % 64).toUInt8,(128+n / 64 % 64).toUInt8,(128+n % 64).toUInt8]:=by unfold encodeRune; rw [encodeRuneZ_four (by omega) (by omega)]; rfl
 have g1:((240+n / 262144).toUInt8).toNat=240+n / 262144:=by simp; omega
 have g2:((128+n / 4096 % 64).toUInt8).toNat=128+n / 4096 % 64:=by simp; omega
 have g3:((128+n / 64 % 64).toUInt8).toNat=128+n / 64 % 64:=by simp; omega
 have g4:((128+n % 64).toUInt8).toNat=128+n % 64:=by simp; omega
 rw [e]
 generalize (240+n / 262144).toUInt8=a at *
 generalize (128+n / 4096 % 64).toUInt8=b at *
 generalize (128+n / 64 % 64).toUInt8=c at *
 generalize (128+n % 64).toUInt8=d at *
 have f1:([a,b,c,d]++t).getD 0 0=a:=rfl
 have f2:([a,b,c,d]++t).getD 1 0=b:=rfl
 have f3:([a,b,c,d]++t).getD 2 0=c:=rfl
 have f4:([a,b,c,d]++t).getD 3 0=d:=rfl
 have hl:3<([a,b,c,d]++t).length:=by simp
 rw [f1,f2,f3,f4,g1,g2,g3,g4]
 generalize ([a,b,c,d]++t).length=L at *
 unfold decodeN
 rw [if_neg (by omega),if_neg (by omega),if_neg (by omega),if_pos (by omega),if_pos (by omega)]
 exact ⟨rfl,by simp⟩
theorem qON (r:Int):validD (encodeRune r)=true:=by
 have hne:encodeRune r≠[]:=by
  intro h
  have:=(encodeRuneZ_length r).1
  have e:(encodeRune r).length=0:=by rw [h]; rfl
  simp only [encodeRune,List.length_map] at e
  omega
 have h:=zIV r []
 rw [List.append_nil] at h
 rw [validD_step _ hne,if_neg h.2,h.1,List.drop_length]
 exact validD_nil
theorem qFF:∀ (n:Nat) (s t:List UInt8),s.length≤n→validD s=true→validD t=true→validD (s++t)=true
 | n,[],t,_,_,h=>h
 | 0,b::s,t,hl,_,_=>by simp at hl
 | n+1,b::s,t,hl,hs,ht=>by
  have hne:b::s≠[]:=by simp
  rw [validD_step _ hne] at hs
  split at hs
  ·cases hs
  rename_i hv
  have hp:=vV (b::s) hne
  have hle:=decodeL_le (b::s) hne
  rw [validD_step _ (by simp),qCL _ t hne hv,if_neg hv,List.drop_append_of_le_length hle]
  exact qFF n _ t (by rw [List.length_drop]; simp only [List.length_cons] at hl ⊢; omega) hs ht
theorem qHL:∀ (f:Nat) (s:List UInt8) (k:Nat) (out:List UInt8),validD out=true→(yC f s k out).2.2=0→validD (yC f s k out).1=true∧(yC f s k out).1.length≤4096
 | 0,s,k,out,hv,h=>by simp [yC] at h
 | f+1,s,k,out,hv,h=>by
  simp only [yC] at h ⊢
  split at h
  ·simp at h
  rename_i c0
  rw [if_neg c0]
  split at h
  ·rename_i c1
   rw [if_pos c1]
   split at h
   ·simp at h
   rename_i c2
   rw [if_neg c2]
   exact ⟨hv,by simp only; omega⟩
  rename_i c1
  rw [if_neg c1]
  split at h
  ·simp at h
  rename_i c2
  rw [if_neg c2]
  split at h
  ·rename_i c3
   rw [if_pos c3]
   split at h
   ·simp at h
   exact qHL f _ _ _ (qFF _ _ _ (Nat.le_refl _) hv (qON _)) h
  rename_i c3
  rw [if_neg c3]
  exact qHL f _ _ _ (qFF _ _ _ (Nat.le_refl _) hv (qON _)) h
theorem qNU {s:List UInt8} (h:(qO s).2.2=0):validD (qO s).1=true∧(qO s).1.length≤4096:=by
 unfold qO at h ⊢
 split
 ·rename_i c
  rw [if_pos c] at h
  exact qHL _ _ _ _ validD_nil h
 rename_i c
 rw [if_neg c] at h; simp at h
end Go.Proofs.YtbhhphabggcacaaGreatDoor
