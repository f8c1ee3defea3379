import Derived.Test.YtgcbapchinideaaGreatDoorK1
import Derived.Test.YtgcbapchinideaaGreatDoorM3
import Derived.Test.YtgcbapchinideaaGreatDoorM4
import Derived.Lib.ValidLaws
import Derived.Shelf.Unicode.ValidAny
import Derived.Lib.Bytealg
import Derived.Lib.AppendZerosOnto
import Derived.Scope
import Derived.Control
import Derived.Shelf.Strings.Builder1
import Derived.Shelf.Unicode.DecodeAny
import Derived.Lib.MapLaws
import Derived.Shelf.Strings.OnBuilder
import Derived.Lib.ItoaLen
namespace Go.Proofs.YtgcbapchinideaaGreatDoor
open Sy Go
set_option maxRecDepth 100000
set_option linter.unusedSimpArgs false
set_option linter.unusedVariables false
theorem qTL {s:List UInt8} {j:Nat} {c:UInt8} (h:s[j]?=some c):(⟨s.toArray⟩:ByteArray).get! j=c:=by
 have hj:=(List.getElem?_eq_some_iff.1 h).1
 have hc:=(List.getElem?_eq_some_iff.1 h).2
 show s.toArray[j]! = c
 rw [getElem!_pos s.toArray j (by simpa using hj)]
 simpa using hc
def kD (o:Option UInt8):Nat:=match o with
 | some c=>c.toNat
 | none=>0
def wV (o:Option UInt8):Bool:=match o with
 | some c=>c.toNat / 64 == 2
 | none=>false
def qJQ (b0:Nat) (o1 o2 o3:Option UInt8):Nat × Nat :=
 if b0<0x80 then (b0,1)
 else if b0 / 32 == 6 && wV o1 then
  if (b0 % 32) * 64+kD o1 % 64 ≥ 0x80 then ((b0 % 32) * 64+kD o1 % 64,2) else (65533,1)
 else if b0 / 16 == 14 && wV o1 && wV o2 then
  if (b0 % 16) * 4096+(kD o1 % 64) * 64+kD o2 % 64 ≥ 0x800 && Utf8.valid ((b0 % 16) * 4096+(kD o1 % 64) * 64+kD o2 % 64:Nat) then ((b0 % 16) * 4096+(kD o1 % 64) * 64+kD o2 % 64,3) else (65533,1)
 else if b0 / 8 == 30 && wV o1 && wV o2 && wV o3 then
  if (b0 % 8) * 262144+(kD o1 % 64) * 4096+(kD o2 % 64) * 64+kD o3 % 64 ≥ 0x10000 && Utf8.valid ((b0 % 8) * 262144+(kD o1 % 64) * 4096+(kD o2 % 64) * 64+kD o3 % 64:Nat) then
   ((b0 % 8) * 262144+(kD o1 % 64) * 4096+(kD o2 % 64) * 64+kD o3 % 64,4) else (65533,1)
 else (65533,1)
theorem zAP {s:List UInt8} {i:Nat} {b:UInt8} (h:s[i]?=some b):Utf8.decode ⟨s.toArray⟩ i=qJQ b.toNat s[i+1]? s[i+2]? s[i+3]?:=by
 have hsz:(⟨s.toArray⟩:ByteArray).size=s.length:=by simp [ByteArray.size]
 have cont:∀ k,(decide (i+k<(⟨s.toArray⟩:ByteArray).size) && ((⟨s.toArray⟩:ByteArray).get! (i+k)).toNat / 64 == 2)=wV s[i+k]?:=by
  intro k
  rw [hsz]
  cases hk:s[i+k]? with
  | none =>
   have:¬ i+k<s.length:=by have:=List.getElem?_eq_none_iff.1 hk; omega
   simp [wV,this]
  | some c =>
   have:=(List.getElem?_eq_some_iff.1 hk).1
   simp [wV,this,qTL hk]
 have byt:∀ k,wV s[i+k]?=true→((⟨s.toArray⟩:ByteArray).get! (i+k)).toNat=kD s[i+k]?:=by
  intro k hk
  cases hc:s[i+k]? with
  | none=>rw [hc] at hk; cases hk
  | some c=>rw [qTL hc]; rfl
 have b0:((⟨s.toArray⟩:ByteArray).get! (i+0)).toNat=b.toNat:=by rw [Nat.add_zero,qTL h]
 unfold Utf8.decode qJQ
 simp only [cont,b0]
 by_cases h1:wV s[i+1]?=true
 ·rw [byt 1 h1]
  by_cases h2:wV s[i+2]?=true
  ·rw [byt 2 h2]
   by_cases h3:wV s[i+3]?=true
   ·rw [byt 3 h3]; simp only [h1,h2,h3]; rfl
   simp only [h1,h2,h3,Bool.and_false,Bool.false_eq_true,if_false]; rfl
  simp only [h1,h2,Bool.and_false,Bool.false_and,Bool.false_eq_true,if_false]; rfl
 simp only [h1,Bool.and_false,Bool.false_and,Bool.false_eq_true,if_false]; rfl
theorem zAH (low v : Int) (m k : Nat) (hk : k ≠ 0) (hv : v = (m : Int)) : (if (qIM low k (some v)).2 = 0 then ((65533 : Nat), (1 : Nat)) else ((qIM low k (some v)).1.toNat, (qIM low k (some v)).2.toNat)) =
  if (m:Int)<low∨(m:Int) > 1114111∨(55296≤(m:Int)∧(m:Int)<57344) then (65533,1) else (m,k):=by
 subst hv
 unfold qIM
 by_cases h:(m:Int)<low∨(m:Int) > 1114111∨(55296≤(m:Int)∧(m:Int)<57344)
 ·simp only [h,if_true]
 simp only [h,if_false]
 rw [if_neg (by omega)]
 rfl
theorem qCW (m:Nat):Utf8.valid (m:Int)=decide (¬ ((m:Int) > 1114111∨(55296≤(m:Int)∧(m:Int)<57344))):=by
 rw [Bool.eq_iff_iff]; simp only [Utf8.valid,Bool.or_eq_true,Bool.and_eq_true,decide_eq_true_eq]; omega
theorem isC (c:UInt8):(c.toNat / 64 == 2)=decide (128≤c.toNat∧c.toNat<192):=by rw [Bool.eq_iff_iff]; simp only [beq_iff_eq,decide_eq_true_eq]; omega
theorem wK (c:UInt8):wV (some c)=decide (128≤c.toNat∧c.toNat<192):=isC c
theorem kI {s:List UInt8} {i r j:Nat} {v:Int} {c:UInt8} (h:s[i+j]?=some c) (hc:128≤c.toNat∧c.toNat<192):jF s i (r+1) j v=jF s i r (j+1) (64 * v+c.toNat-128):=by
 simp only [jF,h]; rw [if_neg (by omega)]
theorem uL {s:List UInt8} {i r j:Nat} {v:Int} {c:UInt8} (h:s[i+j]?=some c) (hc:¬ (128≤c.toNat∧c.toNat<192)):jF s i (r+1) j v=none:=by
 simp only [jF,h]; rw [if_pos (by omega)]
theorem kM {n : Nat} {o1 o2 o3 : Option UInt8} (h0 : ¬ n < 128) (h : (n / 32 = 6 → wV o1 = true → n % 32 * 64 + kD o1 % 64 < 128) ∧ (n / 16 = 14 → wV o1 = true → wV o2 = false) ∧ (n / 8 = 30 → wV o1 = true → wV o2 = true → wV o3 = true → 1114111 < n % 8 * 262144)) :
  qJQ n o1 o2 o3=(65533,1):=by
 obtain ⟨h1,h2,h3⟩:=h
 unfold qJQ
 rw [if_neg h0]
 by_cases a:n / 32=6
 ·have b:¬ n / 16=14:=by omega
  have c:¬ n / 8=30:=by omega
  cases hc:wV o1 with
  | true=>simp only [a,beq_self_eq_true,Bool.and_self,if_true]; rw [if_neg (by have:=h1 a hc; omega)]
  | false=>simp [a,b,c]
 by_cases b:n / 16=14
 ·have c:¬ n / 8=30:=by omega
  cases hc:wV o1 with
  | true=>simp [a,b,c,h2 b hc]
  | false=>simp [a,b,c]
 by_cases c:n / 8=30
 ·cases hc1:wV o1 with
  | false=>simp [a,b]
  | true =>
   cases hc2:wV o2 with
   | false=>simp [a,b]
   | true =>
    cases hc3:wV o3 with
    | false=>simp [a,b]
    | true =>
     have hb:=h3 c hc1 hc2 hc3
     simp only [a,b,c,beq_iff_eq,beq_self_eq_true,Bool.false_and,Bool.and_self,Bool.and_true,if_false,if_true,Bool.false_eq_true]
     rw [if_neg]
     rw [qCW]
     simp only [Bool.and_eq_true,decide_eq_true_eq]
     omega
 simp [a,b,c]
theorem zFO {n : Nat} {c : UInt8} {o2 o3 : Option UInt8} (h0 : ¬ n < 128) (hn : n / 32 = 6) (hc : 128 ≤ c.toNat ∧ c.toNat < 192) :
  qJQ n (some c) o2 o3=if n % 32 * 64+c.toNat % 64 ≥ 128 then (n % 32 * 64+c.toNat % 64,2) else (65533,1):=by
 have h1:wV (some c)=true:=by rw [wK]; exact decide_eq_true hc
 unfold qJQ
 rw [if_neg h0,if_pos (by rw [h1,hn]; rfl)]
 rfl
theorem zFN {n : Nat} {c d : UInt8} {o3 : Option UInt8} (h0 : ¬ n < 128) (hn : n / 16 = 14) (hc : 128 ≤ c.toNat ∧ c.toNat < 192) (hd : 128 ≤ d.toNat ∧ d.toNat < 192) {m : Nat} (hm : m = n % 16 * 4096 + c.toNat % 64 * 64 + d.toNat % 64) :
  qJQ n (some c) (some d) o3=if (m:Int)<2048∨(m:Int) > 1114111∨(55296≤(m:Int)∧(m:Int)<57344) then (65533,1) else (m,3):=by
 have h1:wV (some c)=true:=by rw [wK]; exact decide_eq_true hc
 have h2:wV (some d)=true:=by rw [wK]; exact decide_eq_true hd
 have e1:¬ n / 32=6:=by omega
 unfold qJQ
 rw [if_neg h0,if_neg (by rw [h1]; simp [e1]),if_pos (by rw [h1,h2,hn]; rfl)]
 simp only [kD,← hm,qCW]
 clear hm
 by_cases hb:(m:Int)<2048∨(m:Int) > 1114111∨55296≤(m:Int)∧(m:Int)<57344
 ·rw [if_pos hb,if_neg]; simp only [Bool.and_eq_true,decide_eq_true_eq]; omega
 rw [if_neg hb,if_pos]; simp only [Bool.and_eq_true,decide_eq_true_eq]; omega
theorem zFM {n : Nat} {c d e : UInt8} (h0 : ¬ n < 128) (hn : n / 8 = 30) (hc : 128 ≤ c.toNat ∧ c.toNat < 192) (hd : 128 ≤ d.toNat ∧ d.toNat < 192) (he : 128 ≤ e.toNat ∧ e.toNat < 192) {m : Nat}
  (hm:m=n % 8 * 262144+c.toNat % 64 * 4096+d.toNat % 64 * 64+e.toNat % 64) :
  qJQ n (some c) (some d) (some e)=if (m:Int)<65536∨(m:Int) > 1114111∨(55296≤(m:Int)∧(m:Int)<57344) then (65533,1) else (m,4):=by
 have h1:wV (some c)=true:=by rw [wK]; exact decide_eq_true hc
 have h2:wV (some d)=true:=by rw [wK]; exact decide_eq_true hd
 have h3:wV (some e)=true:=by rw [wK]; exact decide_eq_true he
 have e1:¬ n / 32=6:=by omega
 have e2:¬ n / 16=14:=by omega
 unfold qJQ
 rw [if_neg h0,if_neg (by rw [h1]; simp [e1]),if_neg (by rw [h1,h2]; simp [e2]),if_pos (by rw [h1,h2,h3,hn]; rfl)]
 simp only [kD,← hm,qCW]
 clear hm
 by_cases hb:(m:Int)<65536∨(m:Int) > 1114111∨55296≤(m:Int)∧(m:Int)<57344
 ·rw [if_pos hb,if_neg]; simp only [Bool.and_eq_true,decide_eq_true_eq]; omega
 rw [if_neg hb,if_pos]; simp only [Bool.and_eq_true,decide_eq_true_eq]; omega
theorem qPF {s:List UInt8} {i:Nat} (hi:i<s.length):Utf8.decode ⟨s.toArray⟩ i=if (wT s i).2=0 then (65533,1) else ((wT s i).1.toNat,(wT s i).2.toNat):=by
 obtain ⟨b,hb⟩:∃ b,s[i]?=some b:=⟨s[i],by simp [hi]⟩
 rw [zAP hb]
 have hblt:b.toNat<256:=b.toNat_lt
 have hr:wT s i=if (b.toNat:Int)<128 then ((b.toNat:Int),1) else yP s i (yM b.toNat):=by simp only [wT,hb]
 have in1:∀ k,s[i+k]?=none↔s.length≤i+k:=fun k=>List.getElem?_eq_none_iff
 have has:∀ k,i+k<s.length→∃ c,s[i+k]?=some c:=fun k hk=>⟨s[i+k],by simp [hk]⟩
 generalize b.toNat=n at hblt hr
 by_cases h0:n<128
 ·rw [if_pos (by omega)] at hr
  rw [hr]
  simp [qJQ,h0]
 rw [if_neg (by omega)] at hr
 rw [hr]
 clear hr
 have tail0:∀ x:Nat × Int × Int,(x.1=0∨s.length<i+x.1)→(if (yP s i x).2=0 then ((65533:Nat),(1:Nat)) else ((yP s i x).1.toNat,(yP s i x).2.toNat))=(65533,1):=by
  intro x hx; unfold yP; rw [if_pos hx]; rfl
 have tailn:∀ x:Nat × Int × Int, ¬ (x.1=0∨s.length<i+x.1)→jF s i (x.1-1) 1 x.2.2=none→(if (yP s i x).2=0 then ((65533:Nat),(1:Nat)) else ((yP s i x).1.toNat,(yP s i x).2.toNat))=(65533,1):=by
  intro x hx hn; unfold yP; rw [if_neg hx,hn]; rfl
 have tails : ∀ (x : Nat × Int × Int) (v : Int) (m : Nat), ¬ (x.1 = 0 ∨ s.length < i + x.1) → jF s i (x.1 - 1) 1 x.2.2 = some v → v = m → (if (yP s i x).2 = 0 then ((65533 : Nat), (1 : Nat)) else ((yP s i x).1.toNat, (yP s i x).2.toNat)) =
   if (m:Int)<x.2.1∨(m:Int) > 1114111∨(55296≤(m:Int)∧(m:Int)<57344) then (65533,1) else (m,x.1):=by
  intro x v m hx hl hv; unfold yP; rw [if_neg hx,hl]; exact zAH _ _ _ _ (by omega) hv
 by_cases hA:194≤n∧n<224
 ·have hrc:yM n=(2,128,(n:Int)-192):=by unfold yM; rw [if_pos (by omega)]
  rw [hrc]
  by_cases hl:s.length<i+2
  ·rw [tail0 _ (Or.inr hl)]
   refine kM h0 ⟨fun _ h => ?_,fun h=>by omega,fun h=>by omega⟩
   rw [(in1 1).2 (by omega)] at h; cases h
  obtain ⟨c,h1⟩:=has 1 (by omega)
  rw [h1]
  by_cases hc:128≤c.toNat∧c.toNat<192
  ·rw [tails (2,128,(n:Int)-192) _ (n % 32 * 64+c.toNat % 64) (by simp; omega) (by rw [show (2:Nat)-1=0+1 from rfl,kI h1 hc]; rfl) (by simp only []; omega)]
   rw [zFO h0 (by omega) hc,if_pos (by omega),if_neg (by simp only []; omega)]
  rw [tailn _ (by simp; omega) (by rw [show ((2:Nat),(128:Int),(n:Int)-192).1-1=0+1 from rfl,uL h1 hc])]
  refine kM h0 ⟨fun _ h => ?_,fun h=>by omega,fun h=>by omega⟩
  rw [wK] at h; exact (hc (of_decide_eq_true h)).elim
 by_cases hB:224≤n∧n<240
 ·have hrc:yM n=(3,2048,(n:Int)-224):=by unfold yM; rw [if_neg (by omega),if_pos (by omega)]
  rw [hrc]
  by_cases hl:s.length<i+3
  ·rw [tail0 _ (Or.inr hl)]
   refine kM h0 ⟨fun h=>by omega,fun _ _ => ?_,fun h=>by omega⟩
   rw [(in1 2).2 (by omega)]; rfl
  obtain ⟨c,h1⟩:=has 1 (by omega)
  obtain ⟨d,h2⟩:=has 2 (by omega)
  rw [h1,h2]
  by_cases hc:128≤c.toNat∧c.toNat<192
  ·by_cases hd:128≤d.toNat∧d.toNat<192
   ·rw [tails (3,2048,(n:Int)-224) _ (n % 16 * 4096+c.toNat % 64 * 64+d.toNat % 64) (by simp; omega) (by rw [show (3:Nat)-1=1+1 from rfl,kI h1 hc,show (1:Nat)=0+1 from rfl,kI h2 hd]; rfl) (by simp only []; omega)]
    exact zFN h0 (by omega) hc hd rfl
   rw [tailn _ (by simp; omega) (by rw [show ((3:Nat),(2048:Int),(n:Int)-224).1-1=1+1 from rfl,kI h1 hc,show (1:Nat)=0+1 from rfl,uL h2 hd])]
   refine kM h0 ⟨fun h=>by omega,fun _ _ => ?_,fun h=>by omega⟩
   rw [wK]; exact decide_eq_false hd
  rw [tailn _ (by simp; omega) (by rw [show ((3:Nat),(2048:Int),(n:Int)-224).1-1=1+1 from rfl,uL h1 hc])]
  refine kM h0 ⟨fun h=>by omega,fun _ h => ?_,fun h=>by omega⟩
  rw [wK] at h; exact (hc (of_decide_eq_true h)).elim
 by_cases hC:240≤n∧n<245
 ·have hrc:yM n=(4,65536,(n:Int)-240):=by unfold yM; rw [if_neg (by omega),if_neg (by omega),if_pos (by omega)]
  rw [hrc]
  by_cases hl:s.length<i+4
  ·rw [tail0 _ (Or.inr hl)]
   refine kM h0 ⟨fun h=>by omega,fun h=>by omega,fun _ _ _ h => ?_⟩
   rw [(in1 3).2 (by omega)] at h; cases h
  obtain ⟨c,h1⟩:=has 1 (by omega)
  obtain ⟨d,h2⟩:=has 2 (by omega)
  obtain ⟨e,h3⟩:=has 3 (by omega)
  rw [h1,h2,h3]
  by_cases hc:128≤c.toNat∧c.toNat<192
  ·by_cases hd:128≤d.toNat∧d.toNat<192
   ·by_cases he:128≤e.toNat∧e.toNat<192
    ·rw [tails (4,65536,(n:Int)-240) _ (n % 8 * 262144+c.toNat % 64 * 4096+d.toNat % 64 * 64+e.toNat % 64) (by simp; omega)
      (by rw [show (4:Nat)-1=2+1 from rfl,kI h1 hc,show (2:Nat)=1+1 from rfl,kI h2 hd,show (1:Nat)=0+1 from rfl,kI h3 he]; rfl) (by simp only []; omega)]
     exact zFM h0 (by omega) hc hd he rfl
    rw [tailn _ (by simp; omega) (by rw [show ((4:Nat),(65536:Int),(n:Int)-240).1-1=2+1 from rfl,kI h1 hc,show (2:Nat)=1+1 from rfl,kI h2 hd,show (1:Nat)=0+1 from rfl,uL h3 he])]
    refine kM h0 ⟨fun h=>by omega,fun h=>by omega,fun _ _ _ h => ?_⟩
    rw [wK] at h; exact (he (of_decide_eq_true h)).elim
   rw [tailn _ (by simp; omega) (by rw [show ((4:Nat),(65536:Int),(n:Int)-240).1-1=2+1 from rfl,kI h1 hc,show (2:Nat)=1+1 from rfl,uL h2 hd])]
   refine kM h0 ⟨fun h=>by omega,fun h=>by omega,fun _ _ h => ?_⟩
   rw [wK] at h; exact (hd (of_decide_eq_true h)).elim
  rw [tailn _ (by simp; omega) (by rw [show ((4:Nat),(65536:Int),(n:Int)-240).1-1=2+1 from rfl,uL h1 hc])]
  refine kM h0 ⟨fun h=>by omega,fun h=>by omega,fun _ h => ?_⟩
  rw [wK] at h; exact (hc (of_decide_eq_true h)).elim
 have hrc:yM n=(0,0,0):=by unfold yM; rw [if_neg (by omega),if_neg (by omega),if_neg (by omega)]
 rw [hrc,tail0 _ (.inl rfl)]
 refine kM h0 ⟨fun h _ => ?_,fun h=>by omega,fun h _ _ _=>by omega⟩
 have:kD s[i+1]? % 64<64:=Nat.mod_lt _ (by omega)
 omega
theorem qRX (s:List UInt8) (i:Nat):wT s i=wT (s.drop i) 0:=by
 have h:∀ k,(s.drop i)[k]?=s[i+k]?:=fun k=>by rw [List.getElem?_drop]
 have hl:∀ (f:Nat) (j:Nat) (v:Int),jF s i f j v=jF (s.drop i) 0 f j v:=by
  intro f
  induction f with
  | zero=>intro j v; rfl
  | succ f ih =>
   intro j v
   simp only [jF,Nat.zero_add,h,ih]
 unfold wT
 rw [h 0,Nat.add_zero]
 cases hb:s[i]? with
 | none=>rfl
 | some b =>
  have hi:=(List.getElem?_eq_some_iff.1 hb).1
  simp only [yP,hl,List.length_drop]
  have e:(s.length<i+(yM ↑b.toNat).1)↔(s.length-i<0+(yM ↑b.toNat).1):=by omega
  simp only [e]
theorem qOQ (s:List UInt8):Lib.validD s=qBF s:=by
 have key:∀ (n:Nat) (s:List UInt8) (i f:Nat),n=s.length-i→i≤s.length→s.length+1≤f+i→qGJ s f i=Lib.validD (s.drop i):=by
  intro n
  induction n using Nat.strongRecOn with
  | _ n ih =>
   intro s i f hn hi hf
   cases f with
   | zero=>omega
   | succ f =>
    simp only [qGJ]
    by_cases hlt:i<s.length
    ·rw [if_pos hlt]
     have hne:s.drop i≠[]:=by simp; omega
     rw [Lib.validD_step _ hne]
     have hd:=qPF (s:=s.drop i) (i:=0) (by simp; omega)
     rw [← qRX] at hd
     have hl:=qLE s i hlt
     have hdl:Lib.decodeL (s.drop i)=Utf8.decode ⟨(s.drop i).toArray⟩ 0:=rfl
     rw [hdl,hd]
     by_cases h0:(wT s i).2=0
     ·rw [if_pos h0,if_pos h0,if_pos ⟨rfl,rfl⟩]
     rw [if_neg h0,if_neg h0]
     have hne2:¬ ((wT s i).1.toNat=65533∧(wT s i).2.toNat=1):=by
      rintro ⟨h1,h2⟩
      have:(wT s i).1=65533:=by omega
      have h3:(wT s i).2=1:=by omega
      obtain ⟨b,hb⟩:∃ b,s[i]?=some b:=⟨s[i],by simp [hlt]⟩
      have hb256:b.toNat<256:=b.toNat_lt
      have hr:wT s i=if (b.toNat:Int)<128 then ((b.toNat:Int),1) else yP s i (yM b.toNat):=by simp only [wT,hb]
      rw [hr] at this h3
      split at this
      ·simp only [] at this; omega
      rename_i hge
      rw [if_neg hge] at h3
      unfold yP at h3
      split at h3
      ·simp at h3
      rename_i hx
      have:(yM b.toNat).1=0∨2≤(yM b.toNat).1:=by
       unfold yM; repeat' split
       all_goals simp
      unfold qIM at h3
      split at h3
      ·simp at h3
      split at h3
      ·simp at h3
      simp only [] at h3; omega
     simp only []
     rw [if_neg hne2,List.drop_drop]
     exact ih _ (by omega) s (i+(wT s i).2.toNat) f rfl (by omega) (by omega)
    rw [if_neg hlt,List.drop_eq_nil_of_le (by omega)]; rfl
 exact (key _ s 0 (s.length+1) rfl (by omega) (by omega)).symm
set_option maxHeartbeats 4000000
variable {G:qK}
def kE (s:List UInt8):List UInt8:=s.take 100
theorem qPD (s:List UInt8):AFn Tryz.prog G 27 [.str s] (.str (kE s)):=by
 refine AFn.introU tok Tryz.func27 (by kernel_rfl) rfl rfl ?_
 simp only [Tryz.f27,qH,List.map_cons,List.map_nil]
 refine rgn [] [[0]] ?_
 refine op1 tok ?_
 refine qA (AW.seq (rgn [] [[],[],[0,5]] ?_))
 iterate 3 refine op1 tok ?_
 refine qA (cnd ?_ ?_)
 ·intro h5
  try simp at h5
  refine rgn [] [[],[],[2]] ?_
  iterate 3 refine op1 tok ?_
  refine qA ?_
  exact AW.ret (qG (k:=by simp [kE]))
 intro h5
 try simp at h5
 refine AW.skip (rgn [] [[],[2]] ?_)
 iterate 2 refine op1 tok ?_
 refine qA ?_
 exact AW.ret (qG (k:=by simp [kE]; rw [List.take_of_length_le (by omega)]))
def uI (s:List UInt8):List UInt8:=if qBF (kE s)=true then kE s else [97]
theorem qDC (s:List UInt8):(kE s).length≤100:=by simp [kE]; omega
theorem qKV (s:List UInt8):(uI s).length≤100:=by
 unfold uI; split
 ·exact qDC s
 simp
theorem qTU (s:List UInt8):AFn Tryz.prog G 28 [.str s] (.str (uI s)):=by
 refine AFn.introU tok Tryz.func28 (by kernel_rfl) rfl rfl ?_
 simp only [Tryz.f28,qH,List.map_cons,List.map_nil]
 have h1:=qPD (G:=G) s
 have hl:=qDC s
 have h2:=qPH (G:=G) (kE s) (by omega)
 refine rgn [] [[0]] ?_
 refine op1 tok ?_
 refine qA (rgn [.nilp,.str (kE s)] [[],[],[0]] ?_)
 iterate 3 refine op1 tok ?_ (hv:=by first | with_reducible exact True.intro | (simp [h1]; done) | omega | simp | (simp +contextual; omega))
 refine qA (AW.seq (rgn [.nilp,.bool (qBF (kE s))] [[],[],[0,7]] ?_))
 iterate 3 refine op1 tok ?_ (hv:=by first | with_reducible exact True.intro | (simp [h2]; done) | omega | simp | (simp +contextual; omega))
 refine qA (cnd ?_ ?_)
 ·intro h7
  try simp at h7
  refine rgn [] [[]] ?_
  refine op1 tok ?_
  refine qA ?_
  exact AW.ret (qG (k:=by simp [uI,h7]))
 intro h7
 try simp at h7
 refine AW.skip (rgn [] [[],[2]] ?_)
 iterate 2 refine op1 tok ?_
 refine qA ?_
 exact AW.ret (qG (k:=by simp [uI,h7]))
def vJ (n:Nat):List UInt8:=List.replicate n 107
def kT (l:List (List UInt8)) (i:Nat):List UInt8:=if h:i<l.length then uI l[i] else vJ (i-l.length+1)
def qGF (out:List (List UInt8)) (s:List UInt8):List (List UInt8):=if s∈out then out else out++[s]
def jH (l:List (List UInt8)) (many:Nat):Nat→Nat→List (List UInt8)→List (List UInt8)
 | 0,_,out=>out
 | f+1,i,out=>if out.length<many then jH l many f (i+1) (qGF out (kT l i)) else out
def qBM (l:List (List UInt8)) (many:Nat):List (List UInt8):=jH l many (l.length+many+1) 0 []
theorem qPO {α:Type} [DecidableEq α]:∀ {l m:List α},l.Nodup→(∀ x∈l,x∈m)→l.length≤m.length
 | [],m,_,_=>by simp
 | a::l,m,hn,hs=>by
  have ha:=hs a (by simp)
  have hn':=List.nodup_cons.1 hn
  have:=qPO (l:=l) (m:=m.erase a) hn'.2 fun x hx=>(List.mem_erase_of_ne (by rintro rfl; exact hn'.1 hx)).2 (hs x (by simp [hx]))
  rw [List.length_erase_of_mem ha] at this
  have:=List.length_pos_of_mem ha
  simp; omega
theorem qUW {out:List (List UInt8)} {n:Nat} (h:∀ t,1≤t→t≤n→vJ t∈out):n≤out.length:=by
 have hs:((List.range n).map fun t=>vJ (t+1)).Nodup:=by
  unfold List.Nodup
  refine List.Pairwise.map _ (fun a b hab => ?_) List.nodup_range
  intro he; have:=congrArg List.length he; simp [vJ] at this; exact hab this
 have:=qPO hs (m:=out) (by
  intro x hx; obtain ⟨t,ht,rfl⟩:=List.mem_map.1 hx
  simp at ht; exact h _ (by omega) (by omega))
 simpa using this
theorem qPQ {l:List (List UInt8)} {many:Nat} {out:List (List UInt8)} (h:¬ out.length<many):∀ f i,jH l many f i out=out
 | 0,_=>rfl
 | f+1,i=>by simp only [jH]; rw [if_neg h]
theorem qZK (l:List (List UInt8)) (many:Nat) (hl:l.length≤140737488351232) (hm:many≤100000):AFn Tryz.prog G 29 [.sl 1 (l.map PD.str),.int .i64 many] (.sl 1 ((qBM l many).map PD.str)):=by
 refine AFn.introU tok Tryz.func29 (by kernel_rfl) rfl rfl ?_
 simp only [Tryz.f29,qH,List.map_cons,List.map_nil]
 have hw:=fun s=>qTU (G:=G) s
 refine rgn [] [[0,1]] ?_
 refine op1 tok ?_
 refine qA (rgn [] [[],[0,1,5]] ?_)
 iterate 2 refine op1 tok ?_
 refine qA (rgn [] [[]] ?_)
 refine op1 tok ?_
 refine qA (AW.seq (rgn [] [[]] ?_))
 refine op1 tok ?_
 refine qA (AW.block ?_)
 refine AW.loop (α:=Nat × List (List UInt8)) (fun a=>a.1≤l.length+many∧qBM l many=jH l many (l.length+many+1-a.1) a.1 a.2∧a.2.length≤many∧(∀ t,1≤t→t+l.length≤a.1→vJ t∈a.2)) (fun a=>⟨qS 52 [(0,.p (.sl 1 (l.map PD.str))),(1,.p (.int .i64 many)),(5,.ms 11),(6,.p (.str (vJ (a.1-l.length+1)))),(7,.p (.int .i64 a.1))],[],[(11,.row 9 1 (a.2.map PD.str))],0⟩) (fun a=>l.length+many-a.1) ((0,[])) ⟨by simp,rfl,by simp,by intro t h1 h2; simp at h2; omega⟩ ⟨qB (by simp [vJ]),rfl,by simp,by simp⟩ ?_
 rintro ⟨i,out⟩ ⟨hi,hn,ho,hk⟩
 simp only at hi hn ho hk
 have hkl:i-l.length≤out.length:=qUW fun t h1 h2=>hk t h1 (by omega)
 refine AW.seq (rgn [] [[],[],[],[0,1,5,6,7,15]] ?_)
 iterate 4 refine op1 tok ?_
 refine qA (cnd ?_ ?_)
 ·intro h15
  try simp at h15
  have hstep:qBM l many=jH l many (l.length+many+1-(i+1)) (i+1) (qGF out (kT l i)):=by
   rw [hn,show l.length+many+1-i=(l.length+many+1-(i+1))+1 by omega]; simp only [jH]; rw [if_pos h15]
  refine AW.skip (AW.seq (AW.block (rgn [] [[],[0,1,5,6,7,8]] ?_)))
  iterate 2 refine op1 tok ?_
  refine qA ?_
  refine AW.join (α:=Unit) (fun _=>True) (fun a=>⟨qS 52 [(0,.p (.sl 1 (l.map PD.str))),(1,.p (.int .i64 many)),(5,.ms 11),(6,.p (.str (vJ (i+1-l.length+1)))),(7,.p (.int .i64 i)),(8,.p (.str (kT l i)))],[],[(11,.row 9 1 (out.map PD.str))],0⟩) ?_ ?_
  ·
   refine rgn [] [[],[],[],[0,1,5,6,7,8,22]] ?_
   iterate 4 refine op1 tok ?_
   refine qA (cnd ?_ ?_)
   ·intro h22
    try simp at h22
    have hs:kT l i=uI l[i]:=by simp [kT,h22]
    have hsl:=qKV l[i]
    refine rgz [.str l[i],.nilp,.str (uI l[i])] [[],[],[],[],[0,1,5,6,7,27],[0,1,5,6,7,8]] ?_
    iterate 6 refine op1 tok ?_ (hv:=by first | with_reducible exact True.intro | (simp [hw,h22]; done) | omega | simp | (simp +contextual; omega))
    refine qA ?_
    exact ⟨(),trivial,qB (by simp [hs,show i+1-l.length=i-l.length from by omega]),rfl,by simp [hs,show i+1-l.length=i-l.length from by omega],by simp [hs,show i+1-l.length=i-l.length from by omega]⟩
   intro h22
   try simp at h22
   have hs:kT l i=vJ (i-l.length+1):=by simp [kT]; omega
   refine rgz [] [[],[],[0,1,5,6,7,8]] ?_
   iterate 3 refine op1 tok ?_ (hv:=by first | with_reducible exact True.intro | (simp [vJ]; omega; done) | omega | simp | (simp +contextual; omega))
   refine qA ?_
   exact ⟨(),trivial,qB (by simp [hs,show i+1-l.length+1=i-l.length+1+1 from by omega,vJ,List.replicate_succ']),rfl,by simp [hs,show i+1-l.length+1=i-l.length+1+1 from by omega,vJ,List.replicate_succ'],by simp [hs,show i+1-l.length+1=i-l.length+1+1 from by omega,vJ,List.replicate_succ']⟩
  ·
   rintro a hI
   generalize hns:kT l i=s at *
   have hkay:∀ t,1≤t→t+l.length≤i+1→vJ t∈qGF out s:=by
    intro t h1 h2
    by_cases h3:t+l.length≤i
    ·have:=hk t h1 h3
     unfold qGF; split
     ·exact this
     simp [this]
    have:vJ t=s:=by rw [← hns]; simp only [kT]; rw [dif_neg (by omega)]; congr 1; omega
    rw [this]; unfold qGF; split
    ·assumption
    simp
   refine rgn [] [[]] ?_
   refine op1 tok ?_
   refine qA (AW.seq (rgn [] [[]] ?_))
   refine op1 tok ?_
   refine qA (AW.block ?_)
   refine AW.loop (α:=Nat) (fun k=>k≤out.length) (fun k=>⟨qS 52 [(0,.p (.sl 1 (l.map PD.str))),(1,.p (.int .i64 many)),(5,.ms 11),(6,.p (.str (vJ (i+1-l.length+1)))),(7,.p (.int .i64 i)),(8,.p (.str s)),(9,.p (.bool (decide (s∈out.take k)))),(10,.p (.int .i64 k))],[],[(11,.row 9 1 (out.map PD.str))],0⟩) (fun k=>out.length-k) (0) (by omega) ⟨qB (by simp),rfl,by simp,by simp⟩ ?_
   rintro k hko
   refine AW.seq (rgn [] [[],[],[],[0,1,5,6,7,8,9,10,33]] ?_)
   iterate 4 refine op1 tok ?_
   refine qA (cnd ?_ ?_)
   ·intro h33
    try simp at h33
    have hsn:(decide (s∈out.take k) || decide (out[k]=s))=decide (s∈out.take (k+1)):=by
     rw [List.take_succ_eq_append_getElem h33,Bool.eq_iff_iff]; simp only [Bool.or_eq_true,decide_eq_true_eq,List.mem_append,List.mem_singleton]; exact ⟨fun h=>h.imp id Eq.symm,fun h=>h.imp id Eq.symm⟩
    refine AW.skip (AW.seq (AW.block (rgz [.str out[k]] [[],[],[],[],[0,1,5,6,7,8,10,37,40],[],[],[],[0,1,5,6,7,8,10,44],[0,1,5,6,7,8,9,10]] ?_)))
    iterate 2 refine op1 tok ?_ (hv:=by first | with_reducible exact True.intro | (simp [h33]; done) | omega | simp | (simp +contextual; omega))
    iterate 6 refine op2 tok ?_ (hv:=by first | with_reducible exact True.intro | (simp [h33]; done) | omega | simp | (simp +contextual; omega))
    iterate 2 refine op1 tok ?_ (hv:=by first | with_reducible exact True.intro | (simp [h33]; done) | omega | simp | (simp +contextual; omega))
    refine qA (rgz [] [[],[],[0,1,5,6,7,8,9,10]] ?_)
    iterate 3 refine op1 tok ?_
    refine qA ?_
    exact ⟨k+1,by omega,by omega,qB (by simp [hsn]),rfl,by simp [hsn],by simp [hsn]⟩
   intro h33
   try simp at h33
   have hkk:k=out.length:=by omega
   subst hkk
   simp only [List.take_length]
   refine AW.exit ?_
   simp
   refine rgn [] [[],[0,1,5,6,7,8,46]] ?_
   iterate 2 refine op1 tok ?_
   refine qA (cnd ?_ ?_)
   ·intro h46
    try simp at h46
    have had:qGF out s=out++[s]:=by unfold qGF; rw [if_neg h46]
    rw [had] at hstep hkay
    refine rgz [.str s] [[],[],[],[0,1,6,7,50],[0,1,5,6,7]] ?_
    iterate 5 refine op1 tok ?_
    refine qA (rgz [] [[],[],[0,1,5,6,7]] ?_)
    iterate 3 refine op1 tok ?_
    refine qA ?_
    exact ⟨i+1,out++[s],⟨by omega,hstep,by simp; omega,hkay⟩,by omega,qB (by simp),rfl,by simp,by simp⟩
   intro h46
   try simp at h46
   have had:qGF out s=out:=by unfold qGF; rw [if_pos h46]
   rw [had] at hstep hkay
   refine AW.skip (rgz [] [[],[],[0,1,5,6,7]] ?_)
   iterate 3 refine op1 tok ?_
   refine qA ?_
   exact ⟨i+1,out,⟨by omega,hstep,by omega,hkay⟩,by omega,qB (by simp),rfl,by simp,by simp⟩
 intro h15
 try simp at h15
 have hn2:qBM l many=out:=by rw [hn]; exact qPQ (by omega) _ _
 refine AW.exit ?_
 simp
 refine rgn [] [[],[4]] ?_
 iterate 2 refine op1 tok ?_
 refine qA ?_
 exact AW.ret (qG (k:=by simp [hn2]))
def zU (v:Val):List Val:=(qR v.keys).map (xE v)
theorem qCH {ks:List (List UInt8)} {s:List UInt8}:s∈qR ks↔s∈ks:=(List.mergeSort_perm ks _).mem_iff
theorem qVN (ks:List (List UInt8)):AX Tryz.prog G 68 [.p (.sl 1 (ks.map PD.str))] [] (.func (.func 99) [] [.ptr 901 0]) [] [(901,.vars 27 [.p (.sl 1 (ks.map PD.str))])]:=by
 refine AX.introU tok 900 Tryz.func68 (by kernel_rfl) rfl rfl ?_
 simp only [Tryz.f68,qH,List.map_cons,List.map_nil]
 refine rgn [] [[],[1]] ?_
 iterate 2 refine op1 tok ?_
 refine qA (rgn [] [[],[2]] ?_)
 iterate 2 refine op1 tok ?_
 refine qA ?_
 exact AW.ret uU
theorem qII (v:Val) (hl:v.keys.length≤v.kids.length) (hn:v.keys.length≤1000000):AFn Tryz.prog G 126 [v.enc] (.tup [.sl 1 ((qR v.keys).map PD.str),.sl 9 ((zU v).map Val.enc)]):=by
 refine AFn.introU tok Tryz.func126 (by kernel_rfl) rfl rfl ?_
 simp only [Tryz.f126,qH,List.map_cons,List.map_nil]
 have hsl:=jQ v.keys
 have hix:=zDD (G:=G) v.keys
 refine rgn [] [[],[],[1]] ?_
 iterate 3 refine op1 tok ?_
 refine qA (rgn [] [[],[]] ?_)
 iterate 2 refine op1 tok ?_
 refine zX ?_
 refine qF.stepK [1,10] (uC rfl (qVN v.keys) (by simp)) (by conv=>lhs; simp) rfl ?_
 refine qF.stepK [1,11] (uC rfl (qVX 901 v.keys (by omega)) (by simp)) (by conv=>lhs; simp) rfl ?_
 refine qF.run [[1,4]] ?_
 refine op1 tok ?_
 refine qA (rgn [] [[]] ?_)
 refine op1 tok ?_
 refine qA (AW.seq (rgn [] [[],[],[]] ?_))
 iterate 3 refine op1 tok ?_
 refine qA (AW.block ?_)
 refine AW.beginE 5 5 31 9 (by simp) (by simp) (by conv=>lhs; simp) ?_
 refine AW.loop (α:=Nat) (fun k=>k≤v.keys.length) (fun k=>⟨qS 32 [(1,.ptr 1 0),(4,.p (.sl 1 ((qR v.keys).map PD.str))),(5,.ms 5),(12,.p (.sl 1 ((qR v.keys).map PD.str))),(13,.p (.int .i64 v.keys.length)),(14,.p (.int .i64 k))],[],[(1,.vars 31 v.cells),(5,.row 31 9 (((zU v).take k).map Val.enc))],0⟩) (fun k=>v.keys.length-k) (0) (by omega) ⟨qB (by simp [hsl]),rfl,by simp,by simp⟩ ?_
 rintro k hk
 refine rgn [] [[]] ?_
 refine op1 tok ?_
 refine qA (AW.seq (cnd ?_ ?_))
 ·intro h15
  try simp at h15
  obtain ⟨s,hs⟩:∃ s,(qR v.keys)[k]?=some s:=⟨(qR v.keys)[k]'(by omega),by simp [show k<(qR v.keys).length by omega]⟩
  have hm:s∈v.keys:=qCH.1 (List.mem_of_getElem? hs)
  have hkid:=qFR hl hm
  have hi:=hix s
  unfold qXE at hi
  rw [if_pos hm] at hi
  refine AW.skip (AW.seq (AW.block ?_))
  have hks:(zU v)[k]?=some (xE v s):=by simp [zU,hs]
  generalize hkv:zU v=kv at *
  have hkl:(kv.take k).length≤k:=List.length_take_le _ _
  refine rgn [.str s] [[],[],[1,4,5,7,12,13,14]] ?_
  iterate 3 refine op1 tok ?_ (hv:=by first | with_reducible exact True.intro | (simp [hs]; done) | omega | simp | (simp +contextual; omega))
  refine qA ?_
  refine AW.runDrawK tok mixed [1,4,5,12,13,14] 11 [[5],[1],[19],[1],[21],[7],[22,23],[20,24],[25],[26],[18,27]] [.nilp,.int .i64 (v.keys.idxOf s),(xE v s).enc,(xE v s).enc] [] (by kernel_rfl) (by intro C; conv=>lhs; simp) (by (simp [hkid]; exact ⟨hi,by omega⟩)) (by simp [Sm.sum,Sm.foot,Sm.tch,Sm.refs]; kernel_rfl) (by intro C; conv=>lhs; simp) (by first | with_reducible exact True.intro | omega | simp | (simp +contextual; omega)) ?_
  refine AW.renE 28 5 (by simp) (by conv=>lhs; simp) ?_
  refine rgz [] [[],[1,4,5,12,13,14]] ?_
  iterate 2 refine op1 tok ?_
  refine qA ?_
  exact ⟨k+1,by omega,by omega,qB (by simp [List.take_add_one,hks]),rfl,by simp [List.take_add_one,hks],by simp [List.take_add_one,hks]⟩
 intro h15
 try simp at h15
 have hkl:(zU v).length=v.keys.length:=by simp [zU,hsl]
 refine AW.exit ?_
 simp
 refine AW.freezeE 5 (by conv=>lhs; simp) ?_
 refine rgn [] [[],[],[],[2,3]] ?_
 iterate 4 refine op1 tok ?_
 refine qA ?_
 exact AW.ret (qG (k:=by simp; rw [List.take_of_length_le (by simp; omega)]))
def zY:Nat→Val→Val→Int
 | 0,_,_=>0
 | f+1,a,b=>if a.kind≠b.kind then wX a.kind b.kind else if a.kind=4 then xU a.num b.num else if a.kind=5 then Lib.compareBytes a.text b.text else if a.kind=6 then zA (zY f) a.kids b.kids
  else if a.kind=8 then wX a.code b.code
  else if a.kind=7 then (if zA zT (qR a.keys) (qR b.keys)≠0 then zA zT (qR a.keys) (qR b.keys) else zA (zY f) (zU a) (zU b)) else 0
theorem jR {v x:Val} (hl:v.keys.length≤v.kids.length) (h:x∈zU v):x∈v.kids:=by
 obtain ⟨s,hs,rfl⟩:=List.mem_map.1 h
 exact List.mem_of_getElem? (qFR hl (qCH.1 hs))
theorem qQU (f:Nat) (a b:Val) (ha:zC a=true) (hb:zC b=true) (ih:∀ x∈a.kids, ∀ y∈b.kids,AFn Tryz.prog G 83 [x.enc,y.enc] (.int .i64 (zY f x y))):AFn Tryz.prog G 83 [a.enc,b.enc] (.int .i64 (zY (f+1) a b)):=by
 refine AFn.introU tok Tryz.func83 (by kernel_rfl) rfl rfl ?_
 simp only [Tryz.f83,qH,List.map_cons,List.map_nil]
 have hki:=zDM (G:=G) a.kind b.kind
 have hce:=zDN (G:=G) a.code b.code
 have hst:=qTR (G:=G) a.text b.text
 refine rgn [] [[],[],[2,3]] ?_
 iterate 3 refine op1 tok ?_
 refine qA (AW.seq (rgn [] [[],[],[],[],[2,3,13]] ?_))
 iterate 5 refine op1 tok ?_
 refine qA (cnd ?_ ?_)
 ·intro h13
  try simp at h13
  have hR:zY (f+1) a b=wX a.kind b.kind:=by simp only [zY]; rw [if_pos h13]
  refine rgn [.nilp,.int .i64 (wX a.kind b.kind)] [[],[],[],[15,17],[],[4]] ?_
  iterate 6 refine oq1 tok hki ?_
  refine qA ?_
  exact AW.ret (qG (k:=by simp [hR]))
 intro h13
 try simp at h13
 have hkd:¬ a.kind≠b.kind:=by simpa using h13
 refine AW.skip (AW.seq (rgn [] [[],[2,3,20]] ?_))
 iterate 2 refine op1 tok ?_
 refine qA (AW.block (rgn [] [[],[2,3,20,21]] ?_))
 iterate 2 refine op1 tok ?_
 refine qA (cnd ?_ ?_)
 ·intro h21
  try simp at h21
  have hR:zY (f+1) a b=xU a.num b.num:=by simp only [zY]; rw [if_neg hkd,if_pos h21]
  have hnum:=zDO (G:=G) a.num b.num (wM (qCP ha h21)).1 (wM (qCP hb (by omega))).1
  refine rgn [.nilp,.int .i64 (xU a.num b.num)] [[],[],[],[24,26],[],[4]] ?_
  iterate 6 refine op1 tok ?_ (hv:=by first | with_reducible exact True.intro | ((simp at hnum ⊢; exact hnum); done) | omega | simp | (simp +contextual; omega))
  refine qA ?_
  exact AW.ret (qG (k:=by simp [hR]))
 intro h21
 try simp at h21
 refine rgn [] [[],[2,3,20,28]] ?_
 iterate 2 refine op1 tok ?_
 refine qA (cnd ?_ ?_)
 ·intro h28
  try simp at h28
  have hR:zY (f+1) a b=Lib.compareBytes a.text b.text:=by simp only [zY]; rw [if_neg hkd,if_neg h21,if_pos h28]
  refine rgn [.nilp,.int .i64 (Lib.compareBytes a.text b.text)] [[],[],[],[31,33],[],[4]] ?_
  iterate 6 refine oq1 tok hst ?_
  refine qA ?_
  exact AW.ret (qG (k:=by simp [hR]))
 intro h28
 try simp at h28
 refine rgn [] [[],[2,3,20,35]] ?_
 iterate 2 refine op1 tok ?_
 refine qA (cnd ?_ ?_)
 ·intro h35
  try simp at h35
  have hR:zY (f+1) a b=zA (zY f) a.kids b.kids:=by simp only [zY]; rw [if_neg hkd,if_neg h21,if_neg h28,if_pos h35]
  have hcl:=qQV (G:=G) a.kids b.kids 83 (zY f) ih
  refine rgn [.nilp,.int .i64 (zA (zY f) a.kids b.kids)] [[],[],[],[38,40],[],[4]] ?_
  iterate 6 refine oq1 tok hcl ?_
  refine qA ?_
  exact AW.ret (qG (k:=by simp [hR]))
 intro h35
 try simp at h35
 refine rgn [] [[],[2,3,20,42]] ?_
 iterate 2 refine op1 tok ?_
 refine qA (cnd ?_ ?_)
 ·intro h42
  try simp at h42
  have hR:zY (f+1) a b=wX a.code b.code:=by simp only [zY]; rw [if_neg hkd,if_neg h21,if_neg h28,if_neg h35,if_pos h42]
  refine rgn [.nilp,.int .i64 (wX a.code b.code)] [[],[],[],[45,47],[],[4]] ?_
  iterate 6 refine oq1 tok hce ?_
  refine qA ?_
  exact AW.ret (qG (k:=by simp [hR]))
 intro h42
 try simp at h42
 refine rgn [] [[],[2,3,49]] ?_
 iterate 2 refine op1 tok ?_
 refine qA (cnd ?_ ?_)
 ·intro h49
  try simp at h49
  have hR:zY (f+1) a b=(if zA zT (qR a.keys) (qR b.keys)≠0 then zA zT (qR a.keys) (qR b.keys) else zA (zY f) (zU a) (zU b)):=by simp only [zY]; rw [if_neg hkd,if_neg h21,if_neg h28,if_neg h35,if_neg h42,if_pos h49]
  have hoa:=vW ha h49
  have hob:=vW hb (by omega)
  have hsa:=qII (G:=G) a (by omega) (by omega)
  have hsb:=qII (G:=G) b (by omega) (by omega)
  have hcs:=zAT (G:=G) (qR a.keys) (qR b.keys)
  have hcl:=qQV (G:=G) (zU a) (zU b) 83 (zY f) fun x hx y hy=>ih x (jR (by omega) hx) y (jR (by omega) hy)
  have hor:=zFG (G:=G) (zA zT (qR a.keys) (qR b.keys)) (zA (zY f) (zU a) (zU b))
  rw [← hR] at hor
  refine rgn [.nilp,.tup [.sl 1 ((qR a.keys).map PD.str),.sl 9 ((zU a).map Val.enc)]] [[],[],[],[],[3,54,55],[],[3,5,6]] ?_
  iterate 7 refine op1 tok ?_ (hv:=by first | with_reducible exact True.intro | ((simp at hsa ⊢; exact hsa); done) | omega | simp | (simp +contextual; omega))
  refine qA (rgn [.nilp,.tup [.sl 1 ((qR b.keys).map PD.str),.sl 9 ((zU b).map Val.enc)]] [[],[],[],[],[5,6,59,60],[],[5,6,7,8]] ?_)
  iterate 7 refine op1 tok ?_ (hv:=by first | with_reducible exact True.intro | ((simp at hsb ⊢; exact hsb); done) | omega | simp | (simp +contextual; omega))
  refine qA (rgn [.nilp,.int .i64 (zA zT (qR a.keys) (qR b.keys)),.nilp,.int .i64 (zA (zY f) (zU a) (zU b)),.int .i64 (zA zT (qR a.keys) (qR b.keys)),.int .i64 (zA (zY f) (zU a) (zU b)),.nilp,.int .i64 (zY (f+1) a b)] [[],[],[6,8,63],[],[],[63,66],[],[],[4]] ?_)
  iterate 9 refine oq1 tok (ai hcs (ai hcl hor)) ?_
  exact qA (AW.ret qG)
 intro h49
 try simp at h49
 have hR:zY (f+1) a b=0:=by simp only [zY]; rw [if_neg hkd,if_neg h21,if_neg h28,if_neg h35,if_neg h42,if_neg h49]
 refine AW.skip (rgn [] [[]] ?_)
 refine op1 tok ?_
 refine qA ?_
 exact AW.ret (qG (k:=by simp [hR]))
theorem qVE:∀ (f:Nat) (a b:Val),zC a=true→zC b=true→Val.sz a≤f→AFn Tryz.prog G 83 [a.enc,b.enc] (.int .i64 (zY (f+1) a b))
 | 0,a,b,ha,hb,h=>qQU 0 a b ha hb fun x hx=>by have:=Val.sz_kid hx; omega
 | f+1,a,b,ha,hb,h=>qQU (f+1) a b ha hb fun x hx y hy=>qVE f x y (kO ha hx) (kO hb hy) (by have:=Val.sz_kid hx; omega)
def zD (a b:Val):Int:=zY (Val.sz a+1) a b
theorem qEU (a b:Val) (ha:zC a=true) (hb:zC b=true):AFn Tryz.prog G 83 [a.enc,b.enc] (.int .i64 (zD a b)):=qVE _ a b ha hb (Nat.le_refl _)
structure Ord {α:Type} (p:α→α→Int) (S:α→Prop):Prop where
 anti:∀ x y,S x→S y→p x y = - p y x
 tr:∀ x y z,S x→S y→S z→p x y≤0→p y z≤0→p x z≤0
theorem Ord.refl {α:Type} {p:α→α→Int} {S:α→Prop} (h:Ord p S) {x:α} (hx:S x):p x x=0:=by have:=h.anti x x hx hx; omega
theorem Ord.lt_le {α:Type} {p:α→α→Int} {S:α→Prop} (h:Ord p S) {x y z:α} (hx:S x) (hy:S y) (hz:S z) (h1:p x y<0) (h2:p y z≤0):p x z<0:=by
 have h3:=h.tr x y z hx hy hz (by omega) h2
 by_cases h4:p x z=0
 ·have a1:=h.anti x z hx hz
  have a2:=h.anti x y hx hy
  have:=h.tr y z x hy hz hx h2 (by omega)
  omega
 omega
theorem Ord.le_lt {α:Type} {p:α→α→Int} {S:α→Prop} (h:Ord p S) {x y z:α} (hx:S x) (hy:S y) (hz:S z) (h1:p x y≤0) (h2:p y z<0):p x z<0:=by
 have h3:=h.tr x y z hx hy hz h1 (by omega)
 by_cases h4:p x z=0
 ·have a1:=h.anti x z hx hz
  have a2:=h.anti y z hy hz
  have:=h.tr z x y hz hx hy (by omega) h1
  omega
 omega
theorem Ord.eq_eq {α:Type} {p:α→α→Int} {S:α→Prop} (h:Ord p S) {x y z:α} (hx:S x) (hy:S y) (hz:S z) (h1:p x y=0) (h2:p y z=0):p x z=0:=by
 have a1:=h.anti x y hx hy
 have a2:=h.anti y z hy hz
 have a3:=h.anti x z hx hz
 have:=h.tr x y z hx hy hz (by omega) (by omega)
 have:=h.tr z y x hz hy hx (by omega) (by omega)
 omega
theorem Ord.then {α:Type} {p q:α→α→Int} {S:α→Prop} (hp:Ord p S) (hq:Ord q S):Ord (fun x y=>if p x y≠0 then p x y else q x y) S:=by
 refine ⟨fun x y hx hy => ?_,fun x y z hx hy hz h1 h2 => ?_⟩
 ·have a1:=hp.anti x y hx hy
  have a2:=hq.anti x y hx hy
  by_cases h:p x y=0
  ·rw [if_neg (by omega),if_neg (by omega)]; exact a2
  rw [if_pos h,if_pos (by omega)]; exact a1
 by_cases e1:p x y=0
 ·rw [if_neg (by omega)] at h1
  by_cases e2:p y z=0
  ·rw [if_neg (by omega)] at h2
   rw [if_neg (by have:=hp.eq_eq hx hy hz e1 e2; omega)]
   exact hq.tr x y z hx hy hz h1 h2
  rw [if_pos e2] at h2
  have:=hp.le_lt hx hy hz (by omega) (show p y z<0 by omega)
  rw [if_pos (by omega)]; omega
 rw [if_pos e1] at h1
 by_cases e2:p y z=0
 ·have:=hp.lt_le hx hy hz (show p x y<0 by omega) (by omega)
  rw [if_pos (by omega)]; omega
 rw [if_pos e2] at h2
 have:=hp.lt_le hx hy hz (show p x y<0 by omega) h2
 rw [if_pos (by omega)]; omega
theorem Ord.of_key {α:Type} {p:α→α→Int} {S:α→Prop} (k:α→Int) (h:∀ x y,S x→S y→p x y=sgn (k x-k y)):Ord p S:=by
 refine ⟨fun x y hx hy => ?_,fun x y z hx hy hz h1 h2 => ?_⟩
 ·rw [h x y hx hy,h y x hy hx]; unfold sgn; (repeat' split) <;> omega
 rw [h x y hx hy] at h1; rw [h y z hy hz] at h2; rw [h x z hx hz]
 have e1 : k x ≤ k y := by unfold sgn at h1; split at h1; · omega
                           ·split at h1 <;> omega
 have e2 : k y ≤ k z := by unfold sgn at h2; split at h2; · omega
                           ·split at h2 <;> omega
 unfold sgn; split; · omega
 split <;> omega
theorem qJT (a b:Int):wX a b=sgn (a-b):=by unfold wX sgn; (repeat' split) <;> omega
theorem Ord.map {α β:Type} {p:β→β→Int} {S:β→Prop} (h:Ord p S) (f:α→β) {S':α→Prop} (hS:∀ x,S' x→S (f x)):Ord (fun x y=>p (f x) (f y)) S' :=
 ⟨fun x y hx hy=>h.anti _ _ (hS x hx) (hS y hy),fun x y z hx hy hz=>h.tr _ _ _ (hS x hx) (hS y hy) (hS z hz)⟩
theorem Ord.list {α:Type} {p:α→α→Int} {S:α→Prop} (h:Ord p S):Ord (zA p) (fun l=>∀ x∈l,S x):=by
 constructor
 ·intro l
  induction l with
  | nil=>intro m _ _; cases m <;> simp [zA]
  | cons x l ih =>
   intro m hl hm
   cases m with
   | nil=>simp [zA]
   | cons y m =>
    simp only [zA]
    have a:=h.anti x y (hl x (by simp)) (hm y (by simp))
    have:=ih m (fun z hz=>hl z (by simp [hz])) (fun z hz=>hm z (by simp [hz]))
    by_cases e:p x y=0
    ·rw [if_neg (by omega),if_neg (by omega)]; exact this
    rw [if_pos e,if_pos (by omega)]; exact a
 intro l
 induction l with
 | nil=>intro m n _ _ _ _ _; cases n <;> simp [zA]
 | cons x l ih =>
  intro m n hl hm hn h1 h2
  cases m with
  | nil=>simp [zA] at h1
  | cons y m =>
   cases n with
   | nil=>simp [zA] at h2
   | cons z n =>
    have sx:=hl x (by simp); have sy:=hm y (by simp); have sz:=hn z (by simp)
    simp only [zA] at h1 h2 ⊢
    by_cases e1:p x y=0
    ·rw [if_neg (by omega)] at h1
     by_cases e2:p y z=0
     ·rw [if_neg (by omega)] at h2
      rw [if_neg (by have:=h.eq_eq sx sy sz e1 e2; omega)]
      exact ih m n (fun w hw=>hl w (by simp [hw])) (fun w hw=>hm w (by simp [hw])) (fun w hw=>hn w (by simp [hw])) h1 h2
     rw [if_pos e2] at h2
     have:=h.le_lt sx sy sz (by omega) (show p y z<0 by omega)
     rw [if_pos (by omega)]; omega
    rw [if_pos e1] at h1
    by_cases e2:p y z=0
    ·have:=h.lt_le sx sy sz (show p x y<0 by omega) (by omega)
     rw [if_pos (by omega)]; omega
    rw [if_pos e2] at h2
    have:=h.lt_le sx sy sz (show p x y<0 by omega) h2
    rw [if_pos (by omega)]; omega
def qAR (a b:List UInt8):Int:=zA (fun x y:UInt8=>wX x.toNat y.toNat) a b
theorem qJZ:Ord qAR (fun _=>True) :=
 let h:=(Ord.of_key (p:=fun x y:UInt8=>wX x.toNat y.toNat) (S:=fun _=>True) (fun x=>(x.toNat:Int)) fun x y _ _=>qJT _ _).list
 ⟨fun x y _ _=>h.anti x y (fun _ _=>trivial) (fun _ _=>trivial),fun x y z _ _ _=>h.tr x y z (fun _ _=>trivial) (fun _ _=>trivial) (fun _ _=>trivial)⟩
theorem qHD (a b:UInt8) (al bs:List UInt8):qAR (a::al) (b::bs)=if wX a.toNat b.toNat≠0 then wX a.toNat b.toNat else qAR al bs:=rfl
theorem qHQ {a b:Int} (h:a<b):wX a b = -1:=if_pos h
theorem qHR {a b:Int} (h:b<a):wX a b=1:=by unfold wX; rw [if_neg (by omega),if_pos h]
theorem uY (a:Int):wX a a=0:=by unfold wX; rw [if_neg (by omega),if_neg (by omega)]
theorem xO:∀ a b:List UInt8,Lib.compareBytes a b=qAR a b
 | [],[]=>rfl
 | [],_::_=>rfl
 | _::_,[]=>rfl
 | a::al,b::bs=>by
  simp only [Lib.compareBytes,qHD,UInt8.lt_iff_toNat_lt]
  by_cases h1:a.toNat<b.toNat
  ·rw [if_pos h1,qHQ (by omega)]; simp
  by_cases h2:b.toNat<a.toNat
  ·rw [if_neg h1,if_pos h2,qHR (by omega)]; simp
  rw [if_neg h1,if_neg h2,show a.toNat=b.toNat by omega,uY]; simpa using xO al bs
theorem qNY:∀ a b:List UInt8,zT a b=qAR a b
 | [],[]=>rfl
 | [],b::bs=>by simp [zT,Op.bytesLess,qAR,zA]
 | a::al,[]=>by simp [zT,Op.bytesLess,qAR,zA]
 | a::al,b::bs=>by
  have ih:=qNY al bs
  rw [qHD,← ih]
  by_cases h1:a.toNat<b.toNat
  ·rw [qHQ (by omega)]; simp [zT,Op.bytesLess,UInt8.lt_iff_toNat_lt,h1]
  by_cases h2:b.toNat<a.toNat
  ·have hne:a≠b:=by rintro rfl; omega
   rw [qHR (by omega)]; simp [zT,Op.bytesLess,UInt8.lt_iff_toNat_lt,h1,hne]
  have he:a=b:=UInt8.toNat_inj.1 (by omega)
  subst he
  rw [uY]; simp [zT,Op.bytesLess]
theorem qBV:Ord zT (fun _=>True):=by
 rw [show zT=qAR from funext fun a=>funext fun b=>qNY a b]; exact qJZ
theorem qQS:Ord Lib.compareBytes (fun _=>True):=by
 rw [show Lib.compareBytes=qAR from funext fun a=>funext fun b=>xO a b]; exact qJZ
theorem zAV:Ord xU (fun d=>zP d=true):=Ord.of_key qD fun x y hx hy=>qGC hx hy
def xI (f:Nat) (k:Int) (a b:Val):Int :=
 if k=4 then xU a.num b.num else if k=5 then Lib.compareBytes a.text b.text else if k=6 then zA (zY f) a.kids b.kids
 else if k=8 then wX a.code b.code
 else if k=7 then (if zA zT (qR a.keys) (qR b.keys)≠0 then zA zT (qR a.keys) (qR b.keys) else zA (zY f) (zU a) (zU b)) else 0
theorem vA (f:Nat) (a b:Val):zY (f+1) a b=if wX a.kind b.kind≠0 then wX a.kind b.kind else xI f a.kind a b:=by
 simp only [zY,xI]
 by_cases h:a.kind=b.kind
 ·rw [if_neg (by simpa using h),h,uY]; simp
 ·rw [if_pos h, if_pos (by unfold wX; split; · omega
                           ·split <;> omega)]
theorem zBA {f:Nat} (ih:Ord (zY f) (fun v=>zC v=true)) (k:Int):Ord (xI f k) (fun v=>zC v=true∧v.kind=k):=by
 by_cases h4:k=4
 ·have:xI f k=fun a b=>xU a.num b.num:=by funext a b; simp [xI,h4]
  rw [this]; exact zAV.map Val.num fun x hx=>qCP hx.1 (by omega)
 by_cases h5:k=5
 ·have:xI f k=fun a b=>Lib.compareBytes a.text b.text:=by funext a b; simp [xI,h5]
  rw [this]; exact qQS.map Val.text fun x hx=>trivial
 by_cases h6:k=6
 ·have:xI f k=fun a b=>zA (zY f) a.kids b.kids:=by funext a b; simp [xI,h6]
  rw [this]; exact ih.list.map Val.kids fun x hx y hy=>kO hx.1 hy
 by_cases h8:k=8
 ·have:xI f k=fun a b=>wX a.code b.code:=by funext a b; simp [xI,h8]
  rw [this]; exact Ord.of_key Val.code fun x y _ _=>qJT _ _
 by_cases h7:k=7
 ·have:xI f k=fun a b=>if zA zT (qR a.keys) (qR b.keys)≠0 then zA zT (qR a.keys) (qR b.keys) else zA (zY f) (zU a) (zU b):=by funext a b; simp [xI,h7]
  rw [this]
  refine Ord.then (p:=fun a b:Val=>zA zT (qR a.keys) (qR b.keys)) (q:=fun a b=>zA (zY f) (zU a) (zU b)) ?_ ?_
  ·exact qBV.list.map (fun v:Val=>qR v.keys) fun x hx y hy=>trivial
  exact ih.list.map zU fun x hx y hy=>kO hx.1 (jR (by have:=vW hx.1 (by omega); omega) hy)
 have:xI f k=fun a b=>0:=by funext a b; simp [xI,h4,h5,h6,h7,h8]
 rw [this]; exact ⟨fun _ _ _ _=>by simp,fun _ _ _ _ _ _ _ _=>by simp⟩
theorem uX {a b : Int} (h : wX a b = 0) : a = b := by unfold wX at h; split at h; · omega
                                                      ·split at h <;> omega
theorem qJU:∀ f,Ord (zY f) (fun v=>zC v=true)
 | 0=>⟨fun _ _ _ _=>by simp [zY],fun _ _ _ _ _ _ _ _=>by simp [zY]⟩
 | f+1=>by
  have ihb:=zBA (qJU f)
  have hk:Ord (fun a b:Val=>wX a.kind b.kind) (fun v=>zC v=true):=Ord.of_key Val.kind fun x y _ _=>qJT _ _
  refine ⟨fun x y hx hy => ?_,fun x y z hx hy hz h1 h2 => ?_⟩
  ·rw [vA,vA]
   have a1:=hk.anti x y hx hy
   by_cases e:wX x.kind y.kind=0
   ·have he:=uX e
    rw [if_neg (by omega),if_neg (by omega),he]
    exact (ihb y.kind).anti x y ⟨hx,he⟩ ⟨hy,rfl⟩
   rw [if_pos e,if_pos (by omega)]; exact a1
  rw [vA] at h1 h2 ⊢
  by_cases e1:wX x.kind y.kind=0
  ·rw [if_neg (by omega)] at h1
   by_cases e2:wX y.kind z.kind=0
   ·rw [if_neg (by omega)] at h2
    have:=hk.eq_eq hx hy hz e1 e2
    rw [if_neg (by omega)]
    have k1:=uX e1
    have k2:=uX e2
    rw [← k1] at h2
    exact (ihb x.kind).tr x y z ⟨hx,rfl⟩ ⟨hy,k1.symm⟩ ⟨hz,by omega⟩ h1 h2
   rw [if_pos e2] at h2
   have:=hk.le_lt hx hy hz (by show wX x.kind y.kind≤0; omega) (show wX y.kind z.kind<0 by omega)
   rw [if_pos (by omega)]; omega
  rw [if_pos e1] at h1
  have e3:wX y.kind z.kind≤0:=by
   by_cases e2:wX y.kind z.kind=0
   ·omega
   rw [if_pos e2] at h2; exact h2
  have:=hk.lt_le hx hy hz (show wX x.kind y.kind<0 by omega) e3
  rw [if_pos (by omega)]; omega
theorem qEY (v:Val):zZ v = .mk v.kind 0 v.num v.text v.keys (v.kids.map zZ) v.code:=by
 unfold zZ; rw [qHN]; rfl
theorem qXV (v:Val):zZ (zZ v)=zZ v:=by
 induction v using Val.induct with
 | h v ih =>
  refine Val.ext ?_ ?_ ?_ ?_ ?_ ?_ ?_ <;> simp
  exact fun k hk=>ih k hk
theorem qDN {α:Type} {p q:α→α→Int}:∀ {l m:List α},(∀ x∈l, ∀ y∈m,p x y=q x y)→zA p l m=zA q l m
 | [],[],_=>rfl
 | [],_::_,_=>rfl
 | _::_,[],_=>rfl
 | x::l,y::m,h=>by
  simp only [zA]
  rw [h x (by simp) y (by simp),qDN (fun a ha b hb=>h a (by simp [ha]) b (by simp [hb]))]
theorem qJS {α β:Type} {p:β→β→Int} (g:α→β):∀ {l m:List α},zA p (l.map g) (m.map g)=zA (fun x y=>p (g x) (g y)) l m
 | [],[]=>rfl
 | [],_::_=>rfl
 | _::_,[]=>rfl
 | x::l,y::m=>by simp only [List.map_cons,zA,qJS g]
theorem qMH:∀ (f g:Nat) (a b:Val),zC a=true→zC b=true→Val.sz a<f→Val.sz a<g→zY f a b=zY g a b
 | 0,_,a,_,_,_,h,_=>by omega
 | _+1,0,a,_,_,_,_,h=>by omega
 | f+1,g+1,a,b,ha,hb,hf,hg=>by
  have key:∀ l m:List Val,(∀ x∈l,x∈a.kids)→(∀ y∈m,y∈b.kids)→zA (zY f) l m=zA (zY g) l m:=fun l m hl hm=>qDN fun x hx y hy=>by
   have:=Val.sz_kid (hl x hx)
   exact qMH f g x y (kO ha (hl x hx)) (kO hb (hm y hy)) (by omega) (by omega)
  rw [vA,vA]
  by_cases hk:wX a.kind b.kind=0
  ·rw [if_neg (by omega),if_neg (by omega)]
   have hkk:=uX hk
   unfold xI
   rw [key a.kids b.kids (fun _ h=>h) (fun _ h=>h)]
   by_cases h7:a.kind=7
   ·rw [key (zU a) (zU b) (fun x hx=>jR (by have:=vW ha h7; omega) hx) (fun y hy=>jR (by have:=vW hb (by omega); omega) hy)]
   by_cases h4:a.kind=4
   ·simp [h4]
   by_cases h5:a.kind=5
   ·simp [h5]
   by_cases h6:a.kind=6
   ·simp [h6]
   by_cases h8:a.kind=8
   ·simp [h8]
   simp [h4,h5,h6,h7,h8]
  rw [if_pos hk,if_pos hk]
theorem jT {a b:Val} (ha:zC a=true) (hb:zC b=true) {n:Nat} (h:Val.sz a<n):zD a b=zY n a b:=qMH _ _ a b ha hb (by omega) h
theorem qZ:Ord zD (fun v=>zC v=true):=by
 refine ⟨fun x y hx hy => ?_,fun x y z hx hy hz h1 h2 => ?_⟩
 ·rw [jT (n:=Val.sz x+Val.sz y+1) hx hy (by omega),jT (n:=Val.sz x+Val.sz y+1) hy hx (by omega)]
  exact (qJU _).anti x y hx hy
 rw [jT (n:=Val.sz x+Val.sz y+1) hx hy (by omega)] at h1
 rw [jT (n:=Val.sz x+Val.sz y+1) hy hz (by omega)] at h2
 rw [jT (n:=Val.sz x+Val.sz y+1) hx hz (by omega)]
 exact (qJU _).tr x y z hx hy hz h1 h2
theorem qXU:zZ qGS=qGS:=by rw [qEY]; rfl
theorem qSR (v:Val) (s:List UInt8):xE (zZ v) s=zZ (xE v s):=by
 unfold xE
 rw [qEY v]
 simp only [Val.kids_mk,Val.keys_mk,List.getD_eq_getElem?_getD,List.getElem?_map]
 cases v.kids[v.keys.idxOf s]? with
 | none=>simp [qXU]
 | some x=>rfl
theorem qSN (v:Val):zU (zZ v)=(zU v).map zZ:=by
 have:(zZ v).keys=v.keys:=by rw [qEY]; rfl
 unfold zU
 rw [this,List.map_map]
 exact List.map_congr_left fun s _=>qSR v s
theorem qGB:∀ (f:Nat) (a b:Val),zY f (zZ a) (zZ b)=zY f a b
 | 0,_,_=>rfl
 | f+1,a,b=>by
  have hl:∀ l m:List Val,zA (zY f) (l.map zZ) (m.map zZ)=zA (zY f) l m:=fun l m=>by
   rw [qJS]; exact qDN fun x _ y _=>qGB f x y
  have e:∀ v:Val,(zZ v).kind=v.kind∧(zZ v).num=v.num∧(zZ v).text=v.text∧(zZ v).keys=v.keys∧(zZ v).kids=v.kids.map zZ∧(zZ v).code=v.code:=fun v=>by
   rw [qEY]; exact ⟨rfl,rfl,rfl,rfl,rfl,rfl⟩
  obtain ⟨a1,a2,a3,a4,a5,a6⟩:=e a
  obtain ⟨b1,b2,b3,b4,b5,b6⟩:=e b
  simp only [zY,a1,a2,a3,a4,a5,a6,b1,b2,b3,b4,b5,b6,qSN,hl]
theorem qJV (f:Nat) (a b:Val):zY f (zZ a) b=zY f a b:=by
 rw [← qGB f (zZ a) b,qXV,qGB]
def wD (code m:Int):Val := .mk 8 m dc0 [] [] [] code
def qSG (r:Dc × Int) (m:Int):Val:=if r.2=0 then .mk 4 m r.1 [] [] [] 0 else wD r.2 m
def qMU (b:Bool) (m:Int):Val := .mk (if b=true then 3 else 2) m dc0 [] [] [] 0
def wO (c:UInt8):List UInt8→List (List UInt8)
 | []=>[[]]
 | b::r=>if b=c then []::wO c r else match wO c r with
  | []=>[[b]]
  | h::t=>(b::h)::t
theorem qVW (c:UInt8):∀ s,wO c s≠[]
 | []=>by simp [wO]
 | b::r=>by
  simp only [wO]
  split
  ·simp
  split <;> simp
theorem qIH (c:UInt8):∀ s,(wO c s).length=s.count c+1
 | []=>by simp [wO]
 | b::r=>by
  have ih:=qIH c r
  simp only [wO]
  split
  ·rename_i h; subst h; simp [ih]
  rename_i h
  rw [List.count_cons_of_ne h,← ih]
  split
  ·rename_i h2; exact absurd h2 (qVW c r)
  rename_i h2; rw [h2]; simp
theorem qLA {c:UInt8}:∀ {s},c ∉ s→wO c s=[s]
 | [],_=>rfl
 | b::r,h=>by
  simp only [List.mem_cons,not_or] at h
  simp only [wO,qLA h.2]
  rw [if_neg (fun e=>h.1 e.symm)]
theorem qLB {c:UInt8}:∀ {a r:List UInt8},c ∉ a→wO c (a++c::r)=a::wO c r
 | [],r,_=>by simp [wO]
 | b::a,r,h=>by
  simp only [List.mem_cons,not_or] at h
  simp only [List.cons_append,wO]
  rw [if_neg (fun e=>h.1 e.symm),qLB h.2]
theorem qMA {c:UInt8}:∀ {a r:List UInt8},c ∉ a→Lib.indexByte (a++c::r) c=a.length
 | [],r,_=>by simp [Lib.indexByte]
 | b::a,r,h=>by
  simp only [List.mem_cons,not_or] at h
  have ih:=qMA (r:=r) h.2
  simp only [List.cons_append,Lib.indexByte]
  rw [if_neg (by intro e; exact h.1 (eq_of_beq e).symm),ih,List.length_cons,if_neg (by intro e; have:=eq_of_beq e; omega)]
  omega
theorem qWQ {c:UInt8} {s:List UInt8} (h:c∈s):∃ a r,s=a++c::r∧c ∉ a:=by
 induction s with
 | nil=>cases h
 | cons b s ih =>
  by_cases e:b=c
  ·subst e; exact ⟨[],s,rfl,by simp⟩
  obtain ⟨a,r,rfl,hn⟩:=ih (by rcases List.mem_cons.1 h with h | h; exact absurd h.symm e; exact h)
  exact ⟨b::a,r,rfl,by simp only [List.mem_cons,not_or]; exact ⟨fun h=>e h.symm,hn⟩⟩
theorem zAR {c:UInt8} {a r:List UInt8} (h:c ∉ a):(a++c::r).count c=r.count c+1:=by
 rw [List.count_append,List.count_cons_self,List.count_eq_zero.2 h]; omega
def xT (u:Nat):List UInt8:=if h:u=0 then [] else xT (u / 10)++[UInt8.ofNat (48+u % 10)]
termination_by u
decreasing_by omega
theorem uW:xT 0=[]:=by rw [xT]; simp
theorem qJO {u:Nat} (h:0<u):xT u=xT (u / 10)++[UInt8.ofNat (48+u % 10)]:=by rw [xT]; rw [dif_neg (by omega)]
theorem qJP:∀ k u:Nat,u<10 ^ k→(xT u).length≤k
 | 0,u,h=>by
  have:u=0:=by simpa using h
  subst this; rw [uW]; simp
 | k+1,u,h=>by
  rcases Nat.eq_zero_or_pos u with h0 | h0
  ·subst h0; rw [uW]; simp
  rw [qJO h0,List.length_append,List.length_singleton]
  have:=qJP k (u / 10) (by rw [Nat.pow_succ] at h; omega)
  omega
def qJJ (n:Int):Dc:=(yF (decide (n<0)) (xT n.natAbs) 0).1
def qKM (l:List UInt8) (k:Nat):List UInt8:=(List.range l.length).map fun i=>if i<k∨l.length-k≤i then l.getD (l.length-1-i) 0 else l.getD i 0
theorem uM (l:List UInt8) (k:Nat):(qKM l k).length=l.length:=by simp [qKM]
theorem uN (l:List UInt8) (k:Nat) {i:Nat} (h:i<l.length):(qKM l k)[i]?=some (if i<k∨l.length-k≤i then l.getD (l.length-1-i) 0 else l.getD i 0):=by
 simp [qKM,h]
theorem qBZ (L:List UInt8) (i:Nat) (b:UInt8):(zM L).set i (.int .u8 b.toNat)=zM (L.set i b):=by unfold zM; rw [List.map_set]
theorem qWE (l:List UInt8):qKM l 0=l:=by
 apply List.ext_getElem?
 intro i
 by_cases h:i<l.length
 ·rw [uN l 0 h,if_neg (by omega),List.getD_eq_getElem?_getD,List.getElem?_eq_getElem h]; rfl
 rw [List.getElem?_eq_none (by rw [uM]; omega),List.getElem?_eq_none (by omega)]
theorem qYY (l:List UInt8) {k:Nat} (h:l.length≤2 * k+1):qKM l k=l.reverse:=by
 apply List.ext_getElem?
 intro i
 by_cases hi:i<l.length
 ·rw [uN l k hi,List.getElem?_reverse hi]
  have h1:l[l.length-1-i]?=some (l[l.length-1-i]'(by omega)):=List.getElem?_eq_getElem _
  rw [h1]
  congr 1
  split
  ·rw [List.getD_eq_getElem?_getD,h1]; rfl
  have h2:l[i]?=some (l[l.length-1-i]'(by omega)):=by rw [← h1]; congr 1; omega
  rw [List.getD_eq_getElem?_getD,h2]; rfl
 rw [List.getElem?_eq_none (by rw [uM]; omega),List.getElem?_eq_none (by rw [List.length_reverse]; omega)]
theorem qWF (l:List UInt8) {k:Nat} (h:2 * k+1<l.length):((qKM l k).set k (l.getD (l.length-1-k) 0)).set (l.length-1-k) (l.getD k 0)=qKM l (k+1):=by
 apply List.ext_getElem?
 intro i
 by_cases hi:i<l.length
 ·rw [uN l (k+1) hi,List.getElem?_set,List.getElem?_set]
  simp only [List.length_set,uM]
  by_cases h1:l.length-1-k=i
  ·subst h1
   rw [if_pos rfl,if_pos (by omega),if_pos (.inr (by omega)),show l.length-1-(l.length-1-k)=k by omega]
  rw [if_neg h1]
  by_cases h2:k=i
  ·subst h2
   rw [if_pos rfl,if_pos (by omega),if_pos (.inl (by omega))]
  rw [if_neg h2,uN l k hi]
  congr 1
  by_cases h3:i<k∨l.length-k≤i
  ·rw [if_pos h3,if_pos (by omega)]
  rw [if_neg h3,if_neg (by omega)]
 rw [List.getElem?_eq_none (by simp [uM]; omega),List.getElem?_eq_none (by rw [uM]; omega)]
theorem zAM (u:Nat):(xT u).all zJ=true:=by
 induction u using Nat.strongRecOn with
 | _ u ih =>
  rcases Nat.eq_zero_or_pos u with h | h
  ·subst h; rw [uW]; rfl
  rw [qJO h,List.all_append,ih (u / 10) (by omega)]
  have:zJ (UInt8.ofNat (48+u % 10))=true:=by
   rw [wR,UInt8.toNat_ofNat']; omega
  rw [List.all_cons,this]; rfl
theorem qMX (s:List UInt8) (h:qV s≠[]):qM (qV s) 0≠48:=by
 unfold qV at h ⊢
 have:=List.head?_dropWhile_not (fun b:UInt8=>b == 48) s
 cases hs:s.dropWhile (fun b=>b == 48) with
 | nil=>exact absurd hs h
 | cons b r =>
  rw [hs] at this
  simp only [List.head?_cons] at this
  have hb:¬ b=48:=by simpa using this
  unfold qM
  simp only [List.getD_cons_zero]
  intro e
  exact hb (UInt8.toNat_inj.1 (by show b.toNat=48; omega))
theorem qZY {n:Int} (h0 : -9223372036854775808≤n) (h1:n≤9223372036854775807):zP (qJJ n)=true:=by
 have hl:=qJP 20 n.natAbs (by omega)
 have hd:=zAM n.natAbs
 have hsl:(qV (xT n.natAbs)).length≤20:=Nat.le_trans (List.dropWhile_sublist _).length_le hl
 have hsd:(qV (xT n.natAbs)).all zJ=true:=by
  rw [List.all_eq_true] at hd ⊢
  exact fun b hb=>hd b ((List.dropWhile_sublist _).subset hb)
 have hh:=qMX (xT n.natAbs)
 have e:qJJ n=if qV (xT n.natAbs)=[] then ⟨false,[48],0⟩ else ⟨decide (n<0),qV (xT n.natAbs),0⟩:=by
  have ht:wZ (qV (xT n.natAbs)) 0=(qV (xT n.natAbs),0):=rfl
  unfold qJJ yF
  rw [ht]
  by_cases h:qV (xT n.natAbs)=[]
  ·rw [if_pos h,if_pos h]
  rw [if_neg h,if_neg h,if_neg (by simp only; omega)]; rfl
 rw [e]
 generalize qV (xT n.natAbs)=s at *
 split
 ·decide
 rename_i hne
 have hpos:0<s.length:=List.length_pos_iff.2 hne
 have h48:¬ s=[48]:=by
  intro he; exact hh hne (by rw [he]; rfl)
 unfold zP
 simp only
 rw [if_neg h48,hsd]
 have:=hh hne
 simp [this]; omega
def qPN (m:Int):Val := .mk 1 m dc0 [] [] [] 0
def kG (s:List UInt8) (m:Int):Val:=if 4096<s.length then wD 3 m else .mk 5 m dc0 s [] [] 0
def qAY (l:List Val) (m:Int):Val:=if 200<l.length then wD 3 m else .mk 6 m dc0 [] [] l 0
def zFI (n:Int) (m:Int):Val:=qSG (qJJ n,0) m
end Go.Proofs.YtgcbapchinideaaGreatDoor
namespace Go.Proofs.YtgcbapchinideaaGreatDoor.Sy
open Go
section
variable {P:Program} {T:Tab} {G:qK} {Q:Exit→St→Prop} {st st':St}
theorem Rel.freezeAll {c:Ctx} {μ:Mu} {tmps:Array Value} {w:World}:∀ (ids:List Nat) {M:qT} {st:St},Rel c M μ st tmps w→∃ M',Rel c M' μ (freezeAll st ids) tmps w
 | [],M,_,r=>⟨M,r⟩
 | i::l,M,st,r=>by
  obtain ⟨M1,r1⟩:=r.freeze i
  exact Rel.freezeAll l r1
end
section
variable {P:Program} {T:Tab} {G:qK}
theorem AX.ren {f:FuncId} {xs:List V} {H:List (Nat × Box)} {r:V} {ps:List Nat} {H':List (Nat × Box)} (i j:Nat) (h:AX P G f xs H r ps H') (hf:(⟨[r],ps,H',0⟩:St).fresh j=true):AX P G f xs H (r.ren i j) (ps.filter (· != i)) (qIQ i j H'):=by
 refine ⟨h.1,fun M μ w vs hg rel=>(h.2 M μ w vs hg rel).mono ?_⟩
 rintro e w' ⟨v,M',μ',rfl,r'⟩
 have:=r'.ren (i:=i) hf
 exact ⟨v,M',_,rfl,by simpa only [St.ren,V.renL] using this⟩
end
section
variable {P:Program} {T:Tab} {G:qK} {Q:Exit→St→Prop} {l:List Oper} {m:Nat} {tss:List (List Nat)} {sms:List Sm}
inductive DRun (P:Program) (G:qK) (st0:St):List Oper→List (List Nat)→St→List Sm→St→Prop
 | nil {tss:List (List Nat)} {st:St}:(st.H.map (·.1)).Nodup→DRun P G st0 [] tss st [] st
 | one {o : Oper} {rest : List Oper} {ts : List Nat} {tss : List (List Nat)} {st st2 : St} {s : Sm} {zs : List Sm} : o.guard = none → (st.H.map (·.1)).Nodup → Facts st0 s → (∀ p ∈ s.H, p ∈ st.H) →
   (∀ c M μ st' tmps w R K,kZ G c→Rel c M μ st' tmps w→yE st'.tmps (wE st.tmps ts)→(∀ id bx,(id,bx)∈s.H→(id,bx)∈st'.H)→(∀ n∈s.new,({ st' with H:=zI (s.H.map (·.1)) st'.H }:St).fresh n=true) →
    (∀ u w' M' μ' H2,Rel c M' μ' { st' with H:=H2 } tmps w'→RV M' μ' u s.x→(∀ p,p∈H2↔p∈s.H'∨(p∈st'.H∧p.1 ∉ s.H.map (·.1)))→K (Act.put ⟨tmps,[]⟩ o.dst u) w')→o.wp P ⟨tmps,[]⟩ w K R) →
   DRun P G st0 rest tss (st.after o.dst s) zs st2→DRun P G st0 (o::rest) (ts::tss) st (s::zs) st2
theorem DRun.len {st0:St} {rest:List Oper} {ts:List (List Nat)} {st st2:St} {zs:List Sm} (h:DRun P G st0 rest ts st zs st2):zs.length=rest.length:=by
 induction h with
 | nil=>rfl
 | one _ _ _ _ _ _ ih=>simp [ih]
theorem DRun.told (hchk : zO l m tss = true) (hconf : xG l m (sms.map Sm.sum) = true) {st0 : St} {rest : List Oper} {ts : List (List Nat)} {st st2 : St} {zs : List Sm} (h : DRun P G st0 rest ts st zs st2) : ∀ k : Nat,
  rest=(l.take m).drop k→ts=tss.drop k→zs=sms.drop k→k≤m→sms.length=m→st.pins=st0.pins→st.base=st0.base→DoneD l m sms st0 (fun j=>decide (j<k)) st.tmps st.H →
  (∀ i,k≤i→i<m→Told P G l m sms st0 i)∧st2.pins=st0.pins∧st2.base=st0.base∧DoneD l m sms st0 (fun j=>decide (j<m)) st2.tmps st2.H∧(st2.H.map (·.1)).Nodup:=by
 induction h with
 | @nil ts st hnd =>
  intro k hr _ hz hk hxl hp hb D
  have hkm:k=m:=by
   have h3:(List.drop k (List.take m l)).length=0:=by rw [← hr]; rfl
   have:=qAB hchk
   simp at h3
   omega
  subst hkm
  exact ⟨fun i h1 h2=>by omega,hp,hb,D,hnd⟩
 | @one o rest t1 tss1 st st2 s zs hgd hnd F hsub hgo _ ih =>
  intro k hr hts hz hk hxl hp hb D
  have hkm:k<m:=by
   have h3:(List.drop k (List.take m l)).length=rest.length+1:=by rw [← hr]; rfl
   simp at h3
   omega
  obtain ⟨o',ho',htk,hsep⟩:=jM hchk hkm
  have hoo:o=o':=by
   have h3:(List.drop k (List.take m l))[0]?=some o:=by rw [← hr]; rfl
   rw [List.getElem?_drop,List.getElem?_take,Nat.add_zero,if_pos hkm,ho'] at h3
   cases h3; rfl
  subst hoo
  have hrest:rest=(l.take m).drop (k+1):=by
   have:=congrArg (List.drop 1) hr
   simpa [List.drop_drop,Nat.add_comm] using this
  have ht1:t1=o.looksAt l.toArray:=by
   have h3:(List.drop k tss)[0]?=some t1:=by rw [← hts]; rfl
   rw [List.getElem?_drop,Nat.add_zero,htk] at h3
   cases h3; rfl
  have hts1:tss1=tss.drop (k+1):=by
   have:=congrArg (List.drop 1) hts
   simpa [List.drop_drop,Nat.add_comm] using this
  have hdk:wU l k=o.dst:=by simp [wU,ho']
  have hxk:sms[k]?=some s:=by
   have h3:(List.drop k sms)[0]?=some s:=by rw [← hz]; rfl
   rw [List.getElem?_drop,Nat.add_zero] at h3; exact h3
  have hz':zs=sms.drop (k+1):=by
   have:=congrArg (List.drop 1) hz
   simpa [List.drop_drop,Nat.add_comm] using this
  have D':DoneD l m sms st0 (fun j=>decide (j<k+1)) (st.after o.dst s).tmps (st.after o.dst s).H:=by
   have:=D.go hchk hconf (DC.below hchk k) (L':=fun j=>decide (j<k+1)) hkm hdk hxk (by simp) F (fun j=>by
    by_cases h1:j<k
    ·simp [h1,show j<k+1 by omega]
    by_cases h2:j=k
    ·simp [h2]
    simp [h1,h2,show ¬ j<k+1 by omega]) hsub hnd (H2:=s.H'++zI (s.H.map (·.1)) st.H) (fun p=>by rw [List.mem_append,yI])
   have e1:(st.after o.dst s).tmps=qKN st.tmps o.dst s.x:=by cases hq:o.dst <;> rfl
   rw [e1]; exact this
  have e2:(st.after o.dst s).pins=st.pins:=by cases hq:o.dst <;> rfl
  have e3:(st.after o.dst s).base=st.base:=by cases hq:o.dst <;> rfl
  obtain ⟨h1,h2,h3⟩:=ih (k+1) hrest hts1 hz' hkm hxl (e2.trans hp) (e3.trans hb) D'
  refine ⟨fun i hi1 hi2 => ?_,h2,h3⟩
  rcases Nat.eq_or_lt_of_le hi1 with e | e
  ·subst e
   subst ht1
   exact ⟨o,s,st.tmps,st.H,ho',hxk,D,F,hsub,qGZ ho' hgd hgo⟩
  exact h1 i e hi2
theorem AW.runDraw1 (hmix : P.follows .mixedOrders = true) (m : Nat) (tss : List (List Nat)) {id : Nat} {st st1 : St} {sms : List Sm} (hchk : zO l m tss = true)
  (h1:DRun P G st (l.take m) tss st sms st1) (hconf:xG l m (sms.map Sm.sum)=true) (hlate:qX P G l.toArray Q (l.drop m) st1) :
  AW P G (.region id l.toArray true) Q st:=by
 intro c M μ tmps w hg r
 refine wp_region_any hmix ?_
 have hml:=qAB hchk
 have hxl:sms.length=m:=by
  rw [h1.len]; simp; omega
 obtain ⟨hgo,hp2,_,D2,hnd2⟩:=h1.told hchk hconf 0 (by simp) (by simp) (by simp) (Nat.zero_le _) hxl rfl rfl (DoneD.put0 st)
 have hsize:l.toArray.size=l.length:=by simp
 refine qJM hchk hconf st (fun i hi=>hgo i (Nat.zero_le _) hi) st1 hp2 D2 hnd2 hlate hg _ _ _ M μ st.tmps st.H tmps _ rfl ?_ (by simp) (fun j _ hj=>by simp [Array.getD]) (fun j o _ h=>by simp [Array.getD] at h) ?_ (r.same ⟨rfl,rfl,rfl,Nat.le_refl _,fun _ _=>rfl⟩)
 ·rw [hsize]
  exact Nat.le_trans (List.length_filter_le _ _) (by simp)
 have:(fun j=>(Array.replicate l.toArray.size false).getD j false)=fun j=>decide (j<0):=by
  funext j; simp [Array.getD]
 rw [this]; exact DoneD.put0 st
def zB (P:Program) (G:qK) (st0:St) (l:List Oper) (tss:List (List Nat)) (st:St) (acc:uH) (K:uH→St→Prop):Prop:=∃ sms st1,DRun P G st0 l tss st sms st1∧K (acc++sms.map Sm.sum) st1
variable {K:uH→St→Prop} {st st' st0:St} {rest:List Oper} {ts:List Nat} {orc orc':List PD} {acc:uH} {o:Oper} {sm:zDU} {v:Know→Prop}
theorem zB.nil (hn:ndB st.H=true) (k:K acc st):zB P G st0 [] tss st acc K:=⟨_,_,.nil (wQ hn),by simpa using k⟩
theorem zB.one (hT : TOK P T) (h : ∀ C, qHB C T G st0 ts o st orc = some (v C, st', sm, orc')) (hv : v (kn P G)) (hgd : o.guard = none) (hn : ndB st.H = true) (k : zB P G st0 rest tss st' (acc ++ [sm]) K) :
  zB P G st0 (o::rest) (ts::tss) st acc K:=by
 have h1:=h (kn P G)
 unfold qHB at h1
 split at h1
 ·rename_i v1 s orc1 h2
  simp only [Option.some.injEq,Prod.mk.injEq] at h1
  obtain ⟨h3,rfl,rfl,rfl⟩:=h1
  obtain ⟨sms,st1,e,hk⟩:=k
  have S:=qAN hT (wQ hn) h2 (h3 ▸ hv)
  exact ⟨s::sms,st1,.one hgd (wQ hn) ⟨S.q,S.good,S.ps,S.new⟩ (fun p hp=>qCI st _ p (S.H p hp)) S.goes e,by simpa using hk⟩
 cases h1
theorem r1 (hT : TOK P T) (k : zB P G st0 rest tss st' (acc ++ [sm]) K) (h : ∀ C, qHB C T G st0 ts o st orc = some (v C, st', sm, orc') := by intro C; conv => lhs; simp) (hv : v (kn P G) := by first | with_reducible exact True.intro | omega | simp | (simp +contextual; omega)) (hgd : o.guard = none := by rfl) (hn : ndB st.H = true := by kernel_rfl) :
  zB P G st0 (o::rest) (ts::tss) st acc K:=zB.one hT h hv hgd hn k
theorem zB.call {x : Operand} {args : Array Operand} {tys : Array TypeId} {f : FuncId} {xs : List V} {H : List (Nat × Box)} {r : V} {ps : List Nat} {H' : List (Nat × Box)} (new : List Nat) (hc : AX P G f xs H r ps H') (ho : o.op = .call { callee := .value x, args := args, argTypes := tys }) (hgd : o.guard = none)
  (hcx:CX G ⟨wE st.tmps ts,H.map (·.1),H,st.base⟩ x args.toList f xs H r ps H') (hrest:(St.rest ⟨wE st.tmps ts,H.map (·.1),H,st.base⟩ H ps).H=[]) (hpins:∀ i∈ps,i∈(St.rest ⟨wE st.tmps ts,H.map (·.1),H,st.base⟩ H ps).pins)
  (hsub:∀ p∈H,p∈st.H) (hnew:∀ n∈new,st0.fresh n=true) (hky:∀ i,qI i H'=true→i∈H.map (·.1)∨i∈new) (hgood:∀ i∈V.ids r++kY H',i∈ps∨i∈new) (hn:ndB st.H=true) (hst:st.after o.dst ⟨r,H,H',ps,new,false⟩=st')
  (k:zB P G st0 rest tss st' (acc++[(Sm.mk r H H' ps new false).sum]) K):zB P G st0 (o::rest) (ts::tss) st acc K:=by
 subst hst
 obtain ⟨sms,st1,e,hk⟩:=k
 have hsn:(H.map (·.1)).Nodup:=hcx.2.2.2.2.1
 have y:=uC ho hc hcx
 refine ⟨⟨r,H,H',ps,new,false⟩::sms,st1,.one hgd (wQ hn) ⟨fun h=>absurd h (by simp),hgood,hky,hnew⟩ hsub (fun c M μ st' tmps w R K hG rel hle hbox hnw k => ?_) e,by simpa using hk⟩
 exact uT (s:=⟨r,H,H',ps,new,false⟩) (small:=⟨wE st.tmps ts,H.map (·.1),H,st.base⟩) (s':=({ St.rest (⟨wE st.tmps ts,H.map (·.1),H,st.base⟩:St) H ps with H:=H'++(St.rest (⟨wE st.tmps ts,H.map (·.1),H,st.base⟩:St) H ps).H }:St)) rfl hsn (by show H'=H'++_; rw [hrest,List.append_nil]) (fun i hi=>hpins i hi) hky hgood y c M μ st' tmps w R K hG rel hle hbox hnw k
theorem AW.drawR (hmix : P.follows .mixedOrders = true) (m : Nat) (tss : List (List Nat)) (orc2 : List PD) {id : Nat} {l : List Oper} (hchk : zO l m tss = true)
  (h:zB P G st (l.take m) tss st [] fun qOW st1=>xG l m qOW=true∧qF P G l.toArray Q (l.drop m) st1 orc2):AW P G (.region id l.toArray true) Q st:=by
 obtain ⟨sms,st1,e,hc,hl⟩:=h
 exact AW.runDraw1 hmix m tss hchk e (by simpa using hc) hl
theorem AW.seqDrawR (hmix : P.follows .mixedOrders = true) (m : Nat) (tss : List (List Nat)) (orc2 : List PD) {id : Nat} {l : List Oper} {b : Code} (hchk : zO l m tss = true)
  (h:zB P G st (l.take m) tss st [] fun qOW st1=>xG l m qOW=true∧qF P G l.toArray (andThen (AW P G b Q) Q) (l.drop m) st1 orc2):AW P G (.seq (.region id l.toArray true) b) Q st :=
 AW.seq (AW.drawR hmix m tss orc2 hchk h)
end
set_option linter.unusedSimpArgs false
set_option linter.unusedVariables false
section
variable {P:Program} {T:Tab} {G:qK} {l:List Oper} {tss:List (List Nat)} {K:uH→St→Prop} {st st' st0:St} {rest:List Oper} {ts:List Nat} {acc:uH} {o:Oper}
end
end Go.Proofs.YtgcbapchinideaaGreatDoor.Sy
namespace Go.Proofs.YtgcbapchinideaaGreatDoor
open Sy Go
set_option maxRecDepth 100000
set_option maxHeartbeats 4000000
set_option linter.unusedSimpArgs false
set_option linter.unusedVariables false
variable {G:qK}
theorem qYO (code m:Int):AFn Tryz.prog G 69 [.int .i64 code,.int .u64 m] ((wD code m).enc):=by
 refine AFn.introU tok Tryz.func69 (by kernel_rfl) rfl rfl ?_
 simp only [Tryz.f69,qH,List.map_cons,List.map_nil]
 have e:wD code m = .mk 8 m dc0 [] [] [] code:=rfl
 rw [e]
 refine rgn [] [[]] ?_
 refine op1 tok ?_
 refine qA (rgn [] [[],[],[4,7],[4]] ?_)
 iterate 4 refine op1 tok ?_
 refine qA ?_
 exact AW.ret (qG (k:=by simp [dc0]))
def uD (v:Val):Bool × Bool:=if v.kind=8 then (false,false) else if v.kind=1∨v.kind=2 then (false,true) else (true,true)
theorem qVR (v:Val):AFn Tryz.prog G 33 [v.enc] (.tup [.bool (uD v).1,.bool (uD v).2]):=by
 refine AFn.introU tok Tryz.func33 (by kernel_rfl) rfl rfl ?_
 simp only [Tryz.f33,qH,List.map_cons,List.map_nil]
 refine rgn [] [[],[],[1]] ?_
 iterate 3 refine op1 tok ?_
 refine qA (AW.seq (rgn [] [[],[5]] ?_))
 iterate 2 refine op1 tok ?_
 refine qA (AW.block (rgn [] [[],[5,6]] ?_))
 iterate 2 refine op1 tok ?_
 refine qA (cnd ?_ ?_)
 ·intro h6
  try simp at h6
  refine rgn [] [[],[]] ?_
  iterate 2 refine op1 tok ?_
  refine qA ?_
  exact AW.ret (qG (k:=by (first | (exfalso; omega) | (simp [uD, *]; done))))
 intro h6
 try simp at h6
 refine AW.seq (rgn [] [[],[5,8]] ?_)
 iterate 2 refine op1 tok ?_
 refine qA (cnd ?_ ?_)
 ·intro h8
  try simp at h8
  refine AW.skip (cnd ?_ ?_)
  ·intro h8
   try simp at h8
   refine rgn [] [[],[]] ?_
   iterate 2 refine op1 tok ?_
   refine qA ?_
   exact AW.ret (qG (k:=by (first | (exfalso; omega) | (simp [uD, *]; done))))
  intro h8
  try simp at h8
  refine AW.skip (rgn [] [[],[]] ?_)
  iterate 2 refine op1 tok ?_
  refine qA ?_
  exact AW.ret (qG (k:=by (first | (exfalso; omega) | (simp [uD, *]; done))))
 intro h8
 try simp at h8
 refine rgz [] [[],[8]] ?_
 iterate 2 refine op1 tok ?_
 refine qA (cnd ?_ ?_)
 ·intro h8
  try simp at h8
  refine rgn [] [[],[]] ?_
  iterate 2 refine op1 tok ?_
  refine qA ?_
  exact AW.ret (qG (k:=by (first | (exfalso; omega) | (simp [uD, *]; done))))
 intro h8
 try simp at h8
 refine AW.skip (rgn [] [[],[]] ?_)
 iterate 2 refine op1 tok ?_
 refine qA ?_
 exact AW.ret (qG (k:=by (first | (exfalso; omega) | (simp [uD, *]; done))))
structure Item where
 kind:Int
 many:Int
 mask:Int
 num:List UInt8
 text:List UInt8
 keys:List (List UInt8)
@[simp] def Item.enc (x:Item):PD := .agg [.int .i64 x.kind,.int .i64 x.many,.int .u64 x.mask,.str x.num,.str x.text,.sl 1 (x.keys.map PD.str)]
def wC (a:Int):Nat:=(a % 2 ^ 64).toNat &&& 7
theorem qEK (a:Int):wC a<8:=Nat.and_lt_two_pow _ (n:=3) (by decide)
theorem qLQ (a:Int):IntKind.i64.wrap (((a % 2 ^ IntKind.i64.bits).toNat &&& 7 % 2 ^ IntKind.i64.bits:Nat):Int)=(wC a:Int):=by
 have h:=qEK a
 have e:((a % 2 ^ IntKind.i64.bits).toNat &&& 7 % 2 ^ IntKind.i64.bits:Nat)=wC a:=rfl
 rw [e]
 simp [IntKind.wrap,IntKind.bits,IntKind.signed]; omega
def uF (s:List UInt8):Dc:=if (jX (kE s)).2=0 then (jX (kE s)).1 else ⟨false,[55],0⟩
def qQE (alone:List Val) (x:Item):Nat:=min (wC x.many) alone.length
def qU (alone:List Val) (x:Item):List Val:=if wC x.kind=5∨wC x.kind=6 then alone.drop (alone.length-qQE alone x) else []
def zH (alone:List Val) (x:Item):List Val:=if wC x.kind=5∨wC x.kind=6 then alone.take (alone.length-qQE alone x) else alone
def zS (alone:List Val) (x:Item):Val :=
 .mk (wC x.kind+1) x.mask (if wC x.kind=3 then uF x.num else dc0) (if wC x.kind=4 then uI x.text else [])
  (if wC x.kind=6 then qBM x.keys (qU alone x).length else []) (qU alone x) (if wC x.kind=7 then 40 else 0)
def xP (alone:List Val) (x:Item):List Val:=zH alone x++[zS alone x]
def qAV (l:List Item):List Val:=(l.take 80).foldl xP []
def jV (l:List Item):Val:=(qAV l).getLastD qGS
def jW (l:List Item) (k:Nat):List Val:=(l.take k).foldl xP []
theorem uB {l:List Item} {k:Nat} {x:Item} (h:l[k]?=some x):jW l (k+1)=xP (jW l k) x:=by
 unfold jW; rw [List.take_add_one,h]; simp
theorem qWZ (a:List Val) (x:Item):(xP a x).length≤a.length+1:=by
 unfold xP zH; split <;> simp <;> omega
theorem qDO (l:List Item):∀ k,(jW l k).length≤k
 | 0=>by simp [jW]
 | k+1=>by
  cases h:l[k]? with
  | none =>
   have h1:jW l (k+1)=jW l k:=by unfold jW; rw [List.take_add_one,h]; simp
   have:=qDO l k
   rw [h1]; omega
  | some x =>
   rw [uB h]
   have:=qWZ (jW l k) x
   have:=qDO l k
   omega
theorem zBR (l:List Item) (hl:∀ x∈l,x.keys.length≤140737488351232):AFn Tryz.prog G 10 [.sl 6 (l.map Item.enc)] ((jV l).enc):=by
 refine AFn.introU tok Tryz.func10 (by kernel_rfl) rfl rfl ?_
 simp only [Tryz.f10,qH,List.map_cons,List.map_nil]
 refine rgn [] [[]] ?_
 refine op1 tok ?_
 refine qA (rgn [] [[],[0,2,3]] ?_)
 iterate 2 refine op1 tok ?_
 refine qA (AW.seq (rgn [] [[]] ?_))
 refine op1 tok ?_
 refine qA (AW.block ?_)
 refine AW.loop (α:=Nat) (fun k=>k≤l.length∧k≤80) (fun k=>⟨qS 121 [(0,.p (.sl 6 (l.map Item.enc))),(2,.ptr 2 0),(3,.ms 11),(4,.p (.int .i64 k))],[],[(11,.row 31 9 ((jW l k).map Val.enc)),(2,.vars 31 [.p (.int .i64 0),.p (.int .u64 0),.p (.bool false),.p (.str []),.p (.int .i64 0),.p (.str []),.nilsl,.nilsl,.p (.int .i64 0)])],0⟩) (fun k=>l.length-k) (0) ⟨by omega,by omega⟩ ⟨qB (by simp),rfl,by simp [jW],by simp⟩ ?_
 rintro k ⟨hk,hk8⟩
 have hal:=qDO l k
 generalize haa:jW l k=alone at *
 refine AW.seq (rgn [] [[],[],[],[],[0,2,3,4,16],[],[],[0,2,3,4,19]] ?_)
 iterate 5 refine op1 tok ?_
 iterate 2 refine op2 tok ?_
 refine op1 tok ?_
 refine qA (cnd ?_ ?_)
 ·intro h19
  try simp at h19
  obtain ⟨x,hx⟩:∃ x,l[k]?=some x:=⟨l[k],by simp [h19.1]⟩
  have hsh:=qPD (G:=G) x.num
  have hpa:=zBN (G:=G) (kE x.num) (by have:=qDC x.num; omega)
  have hwo:=qTU (G:=G) x.text
  have h3k:=qEK x.kind
  have hxl:=hl x (List.mem_of_getElem? hx)
  refine AW.skip (AW.seq (AW.block (rgn [x.enc] [[],[],[],[],[0,2,3,4,26],[],[0,2,3,4,5]] ?_)))
  iterate 7 refine op1 tok ?_ (h:=by intro C; conv=>lhs; simp [qLQ]) (hv:=by first | with_reducible exact True.intro | (simp [hx]; done) | omega | simp | (simp +contextual; omega))
  refine qA (rgn [x.enc] [[],[],[],[],[0,2,3,4,29,32],[],[],[0,2,3,4,35],[],[0,2,3,4,6]] ?_)
  iterate 10 refine op1 tok ?_ (hv:=by first | with_reducible exact True.intro | (simp [hx]; done) | omega | simp | (simp +contextual; omega))
  refine qA ?_
  refine AW.join (α:=Unit) (fun _=>True) (fun a=>⟨qS 121 [(0,.p (.sl 6 (l.map Item.enc))),(2,.ptr 2 0),(3,.ms 11),(4,.p (.int .i64 k)),(6,.ptr 6 0)],[],[(11,.row 31 9 ((zH alone x).map Val.enc)),(2,.vars 31 [.p (.int .i64 0),.p (.int .u64 0),.p (.bool false),.p (.str []),.p (.int .i64 0),.p (.str []),.nilsl,.nilsl,.p (.int .i64 0)]),(6,.vars 31 [.p (.int .i64 (wC x.kind+1)),.p (.int .u64 x.mask),.p (.bool (zS alone x).num.neg),.p (.str (zS alone x).num.digits),.p (.int .i64 (zS alone x).num.scale),.p (.str (zS alone x).text),.p (.sl 1 []),.p (.sl 9 ((qU alone x).map Val.enc)),.p (.int .i64 (zS alone x).code)])],0⟩) ?_ ?_
  ·
   refine AW.seqRegionO [] ?_
   refine qF.fill 6 [none,none,none,none,none,none,some 1,some 9] (by conv=>lhs; simp) ?_
   refine qF.run [[],[0,2,3,4,6,37]] ?_
   iterate 2 refine op1 tok ?_
   refine qA (AW.block (rgn [] [[],[0,2,3,4,6,37,38]] ?_))
   iterate 2 refine op1 tok ?_
   refine qA (cnd ?_ ?_)
   ·intro h38
    try simp at h38
    have hq:wC x.kind=3:=by omega
    refine rgn [x.enc,.nilp,.str (kE x.num),.nilp,.tup [(jX (kE x.num)).1.enc,.int .i64 (jX (kE x.num)).2]] [[],[],[],[],[0,2,3,4,6,45],[],[],[],[],[0,2,3,4,6,48,49],[],[],[0,2,3,4,6,7,8]] ?_
    iterate 13 refine op1 tok ?_ (hv:=by first | with_reducible exact True.intro | (first | exact hsh | exact hpa | simp [hx]; done) | omega | simp | (simp +contextual; omega))
    refine qA (AW.seq (rgn [] [[],[0,2,3,4,6,7,51]] ?_))
    iterate 2 refine op1 tok ?_
    refine qA (cnd ?_ ?_)
    ·intro h51
     try simp at h51
     refine rgz [] [[],[0,2,3,4,6,7]] ?_
     iterate 2 refine op1 tok ?_
     refine qA (rgz [] [[],[],[0,2,3,4,6]] ?_)
     iterate 3 refine op1 tok ?_
     refine qA ?_
     exact ⟨(),trivial,qB (by simp [zH,zS,qU,uF,dc0,Val.num,Val.text,Val.code,Val.keys,Val.kids,hq,h51]),rfl,by simp [zH,zS,qU,uF,dc0,Val.num,Val.text,Val.code,Val.keys,Val.kids,hq,h51],by simp [zH,zS,qU,uF,dc0,Val.num,Val.text,Val.code,Val.keys,Val.kids,hq,h51]⟩
    intro h51
    try simp at h51
    refine AW.skip (rgz [] [[],[],[0,2,3,4,6]] ?_)
    iterate 3 refine op1 tok ?_
    refine qA ?_
    exact ⟨(),trivial,qB (by simp [zH,zS,qU,uF,dc0,Val.num,Val.text,Val.code,Val.keys,Val.kids,hq,h51]),rfl,by simp [zH,zS,qU,uF,dc0,Val.num,Val.text,Val.code,Val.keys,Val.kids,hq,h51],by simp [zH,zS,qU,uF,dc0,Val.num,Val.text,Val.code,Val.keys,Val.kids,hq,h51]⟩
   intro h38
   try simp at h38
   refine rgn [] [[],[0,2,3,4,6,37,55]] ?_
   iterate 2 refine op1 tok ?_
   refine qA (cnd ?_ ?_)
   ·intro h55
    try simp at h55
    have hq:wC x.kind=4:=by omega
    refine rgz [x.enc,.nilp,.str (uI x.text)] [[],[],[],[],[0,2,3,4,6,61],[],[],[0,2,3,4,6]] ?_
    iterate 8 refine op1 tok ?_ (hv:=by first | with_reducible exact True.intro | (first | exact hwo | simp [hx]; done) | omega | simp | (simp +contextual; omega))
    refine qA ?_
    exact ⟨(),trivial,qB (by simp [zH,zS,qU,uF,dc0,Val.num,Val.text,Val.code,Val.keys,Val.kids,hq]),rfl,by simp [zH,zS,qU,uF,dc0,Val.num,Val.text,Val.code,Val.keys,Val.kids,hq],by simp [zH,zS,qU,uF,dc0,Val.num,Val.text,Val.code,Val.keys,Val.kids,hq]⟩
   intro h55
   try simp at h55
   refine rgn [] [[],[0,2,3,4,6,37,64]] ?_
   iterate 2 refine op1 tok ?_
   refine qA (cnd ?_ ?_)
   ·intro h64
    try simp at h64
    have hq:wC x.kind=7:=by omega
    refine rgz [] [[],[0,2,3,4,6]] ?_
    iterate 2 refine op1 tok ?_
    refine qA ?_
    exact ⟨(),trivial,qB (by simp [zH,zS,qU,uF,dc0,Val.num,Val.text,Val.code,Val.keys,Val.kids,hq]),rfl,by simp [zH,zS,qU,uF,dc0,Val.num,Val.text,Val.code,Val.keys,Val.kids,hq],by simp [zH,zS,qU,uF,dc0,Val.num,Val.text,Val.code,Val.keys,Val.kids,hq]⟩
   intro h64
   try simp at h64
   refine AW.join (α:=Unit) (fun _=>True) (fun a=>⟨qS 121 [(0,.p (.sl 6 (l.map Item.enc))),(2,.ptr 2 0),(3,.ms 11),(4,.p (.int .i64 k)),(6,.ptr 6 0),(67,.p (.bool (decide (wC x.kind=5∨wC x.kind=6))))],[],[(11,.row 31 9 (alone.map Val.enc)),(2,.vars 31 [.p (.int .i64 0),.p (.int .u64 0),.p (.bool false),.p (.str []),.p (.int .i64 0),.p (.str []),.nilsl,.nilsl,.p (.int .i64 0)]),(6,.vars 31 [.p (.int .i64 (wC x.kind+1)),.p (.int .u64 x.mask),.p (.bool false),.p (.str []),.p (.int .i64 0),.p (.str []),.p (.sl 1 []),.p (.sl 9 []),.p (.int .i64 0)])],0⟩) ?_ ?_
   ·
    refine rgn [] [[],[0,2,3,4,6,37,67]] ?_
    iterate 2 refine op1 tok ?_
    refine qA (cnd ?_ ?_)
    ·intro h67
     try simp at h67
     refine AW.skip ?_
     exact ⟨(),trivial,qB (by simp [show (wC x.kind=5∨wC x.kind=6)=True from eq_true (by omega),h67]),rfl,by simp [show (wC x.kind=5∨wC x.kind=6)=True from eq_true (by omega),h67],by simp [show (wC x.kind=5∨wC x.kind=6)=True from eq_true (by omega),h67]⟩
    intro h67
    try simp at h67
    refine rgz [] [[],[0,2,3,4,6,67]] ?_
    iterate 2 refine op1 tok ?_
    refine qA ?_
    exact ⟨(),trivial,qB (by simp [show (wC x.kind=5∨wC x.kind=6)=(wC x.kind=6) from propext (by omega),show ((wC x.kind:Int)+1=7)=(wC x.kind=6) from propext (by omega)]),rfl,by simp [show (wC x.kind=5∨wC x.kind=6)=(wC x.kind=6) from propext (by omega),show ((wC x.kind:Int)+1=7)=(wC x.kind=6) from propext (by omega)],by simp [show (wC x.kind=5∨wC x.kind=6)=(wC x.kind=6) from propext (by omega),show ((wC x.kind:Int)+1=7)=(wC x.kind=6) from propext (by omega)]⟩
   ·
    rintro a hI
    refine cnd ?_ ?_
    ·intro h67
     try simp at h67
     have hmany:=qEK x.many
     have hkn:((alone.length:Int)-if alone.length<wC x.many then (alone.length:Int) else (wC x.many:Int)).toNat=alone.length-qQE alone x:=by unfold qQE; split <;> omega
     have hq3:¬ wC x.kind=3:=by omega
     have hq4:¬ wC x.kind=4:=by omega
     have hq7:¬ wC x.kind=7:=by omega
     refine rgn [x.enc] [[],[],[],[],[0,2,3,4,6,74],[],[],[],[0,2,3,4,6,78],[0,2,3,4,6,9]] ?_
     iterate 10 refine op1 tok ?_ (h:=by intro C; conv=>lhs; simp [qLQ]) (hv:=by first | with_reducible exact True.intro | (simp [hx]; done) | omega | simp | (simp +contextual; omega))
     refine qA (rgn [] [[],[],[],[0,2,3,4,6,82],[0,2,3,4,6,10]] ?_)
     iterate 5 refine op1 tok ?_
     refine qA ?_
     refine AW.seqRegionO [] ?_
     refine qF.freeze 11 (by conv=>lhs; simp) ?_
     refine qF.run [[],[],[],[],[0,2,3,4,6,10,87],[],[0,2,3,4,6,10]] ?_
     iterate 7 refine op1 tok ?_
     refine qA (rgz [] [[],[],[],[0,2,4,6,89,92],[]] ?_)
     iterate 5 refine op1 tok ?_
     refine zX ?_
     refine qF.take 89 11 (by conv=>lhs; simp) ?_
     refine qF.freeze 83 (by conv=>lhs; simp) ?_
     refine qF.run [[0,2,3,4,6]] ?_
     refine op1 tok ?_
     refine qA ?_
     exact ⟨(),trivial,qB (by simp [zH,zS,qU,uF,dc0,Val.num,Val.text,Val.code,Val.keys,Val.kids,hq3,hq4,hq7,hkn,h67,show List.take alone.length (alone.map Val.enc)=alone.map Val.enc from List.take_of_length_le (by simp)]),rfl,by simp [zH,zS,qU,uF,dc0,Val.num,Val.text,Val.code,Val.keys,Val.kids,hq3,hq4,hq7,hkn,h67,show List.take alone.length (alone.map Val.enc)=alone.map Val.enc from List.take_of_length_le (by simp)],by simp [zH,zS,qU,uF,dc0,Val.num,Val.text,Val.code,Val.keys,Val.kids,hq3,hq4,hq7,hkn,h67,show List.take alone.length (alone.map Val.enc)=alone.map Val.enc from List.take_of_length_le (by simp)]⟩
    intro h67
    try simp at h67
    have hq3:¬ wC x.kind=3:=by omega
    have hq4:¬ wC x.kind=4:=by omega
    have hq7:¬ wC x.kind=7:=by omega
    refine AW.skip ?_
    exact ⟨(),trivial,qB (by simp [zH,zS,qU,uF,dc0,Val.num,Val.text,Val.code,Val.keys,Val.kids,hq3,hq4,hq7,h67]),rfl,by simp [zH,zS,qU,uF,dc0,Val.num,Val.text,Val.code,Val.keys,Val.kids,hq3,hq4,hq7,h67],by simp [zH,zS,qU,uF,dc0,Val.num,Val.text,Val.code,Val.keys,Val.kids,hq3,hq4,hq7,h67]⟩
  ·
   rintro a hI
   refine AW.join (α:=Unit) (fun _=>True) (fun a=>⟨qS 121 [(0,.p (.sl 6 (l.map Item.enc))),(2,.ptr 2 0),(3,.ms 11),(4,.p (.int .i64 k)),(6,.ptr 6 0)],[],[(11,.row 31 9 ((zH alone x).map Val.enc)),(2,.vars 31 [.p (.int .i64 0),.p (.int .u64 0),.p (.bool false),.p (.str []),.p (.int .i64 0),.p (.str []),.nilsl,.nilsl,.p (.int .i64 0)]),(6,.vars 31 [.p (.int .i64 (zS alone x).kind),.p (.int .u64 (zS alone x).mask),.p (.bool (zS alone x).num.neg),.p (.str (zS alone x).num.digits),.p (.int .i64 (zS alone x).num.scale),.p (.str (zS alone x).text),.p (.sl 1 ((zS alone x).keys.map PD.str)),.p (.sl 9 ((zS alone x).kids.map Val.enc)),.p (.int .i64 (zS alone x).code)])],0⟩) ?_ ?_
   ·
    refine rgn [] [[],[],[0,2,3,4,6,96]] ?_
    iterate 3 refine op1 tok ?_
    refine qA (cnd ?_ ?_)
    ·intro h96
     try simp at h96
     have hq:wC x.kind=6:=by omega
     have hkl:(qU alone x).length≤100000:=by unfold qU; split <;> simp <;> omega
     have hna:=qZK (G:=G) x.keys (qU alone x).length hxl hkl
     refine AW.runDrawK tok mixed [0,2,3,4,6] 9 [[0],[4],[97,98],[99],[100],[6],[102],[103],[101,104]] [x.enc,.nilp,.sl 1 ((qBM x.keys (qU alone x).length).map PD.str)] [] (by kernel_rfl) (by intro C; conv=>lhs; simp) (by first | (simp [hx]; done) | (simp [hx]; exact hna)) (by simp [Sm.sum,Sm.foot,Sm.tch,Sm.refs]; kernel_rfl) (by intro C; conv=>lhs; simp) (by first | with_reducible exact True.intro | omega | simp | (simp +contextual; omega)) ?_
     exact ⟨(),trivial,qB (by simp [zS,Val.kind,Val.mask,Val.keys,Val.kids,hq]),rfl,by simp [zS,Val.kind,Val.mask,Val.keys,Val.kids,hq],by simp [zS,Val.kind,Val.mask,Val.keys,Val.kids,hq]⟩
    intro h96
    try simp at h96
    have hq:¬ wC x.kind=6:=by omega
    refine AW.skip ?_
    exact ⟨(),trivial,qB (by simp [zS,Val.kind,Val.mask,Val.keys,Val.kids,hq]),rfl,by simp [zS,Val.kind,Val.mask,Val.keys,Val.kids,hq],by simp [zS,Val.kind,Val.mask,Val.keys,Val.kids,hq]⟩
   ·
    rintro a hI
    have hrl:(zH alone x).length≤alone.length:=by unfold zH; split <;> simp <;> omega
    refine rgz [(zS alone x).enc] [[],[],[],[0,2,4,110],[0,2,3,4]] ?_
    iterate 5 refine op1 tok ?_ (hv:=by first | with_reducible exact True.intro | (first | (simp; done) | (simp; omega) | omega; done) | omega | simp | (simp +contextual; omega))
    refine qA (rgz [] [[],[],[0,2,3,4]] ?_)
    iterate 3 refine op1 tok ?_
    refine qA ?_
    exact ⟨k+1,⟨by omega,by omega⟩,by omega,qB (by simp [haa,uB hx,xP]),rfl,by simp [haa,uB hx,xP],by simp [haa,uB hx,xP]⟩
 intro h19
 try simp at h19
 have hfin:qAV l=alone:=by
  rw [← haa]; unfold qAV jW
  congr 1
  by_cases h:k=80
  ·rw [h]
  have hkl:k=l.length:=by omega
  rw [hkl,List.take_length,List.take_of_length_le (by omega)]
 refine AW.exit ?_
 simp
 refine AW.seq (rgn [] [[],[],[2,3,113]] ?_)
 iterate 3 refine op1 tok ?_
 refine qA (cnd ?_ ?_)
 ·intro h113
  try simp at h113
  have hB:jV l=qGS:=by simp [jV,hfin,h113]
  refine rgn [] [[],[2]] ?_
  iterate 2 refine op1 tok ?_
  refine qA ?_
  exact AW.ret (qG (k:=by simp [hB,qGS,dc0,Val.kind,Val.mask,Val.num,Val.text,Val.keys,Val.kids,Val.code]))
 intro h113
 try simp at h113
 have hlast:alone[alone.length-1]?=some (jV l):=by
  rw [jV,hfin,List.getLastD_eq_getLast?,List.getLast?_eq_getElem?]
  have:alone.length-1<alone.length:=by
   have:alone≠[]:=h113
   have:=List.length_pos_iff.2 this; omega
  simp [this]
 have hpos:0<alone.length:=List.length_pos_iff.2 h113
 refine AW.skip (rgn [(jV l).enc] [[],[],[],[],[2,119],[],[2]] ?_)
 iterate 7 refine op1 tok ?_ (hv:=by first | with_reducible exact True.intro | (simp [hlast]; done) | omega | simp | (simp +contextual; omega))
 exact qA (AW.ret qG)
theorem qSK {v : Val} (h1 : 1 ≤ v.kind ∧ v.kind ≤ 8 ∧ v.kids.length ≤ 200) (h2 : v.kind = 8 ↔ v.code ≠ 0) (h3 : v.kind = 4 → zP v.num = true) (h3' : v.kind ≠ 4 → v.num = dc0)
  (h4:v.kind=5→qBD v.text=true) (h4':v.kind≠5→v.text=[]) (h5:v.kind=7→v.keys.length=v.kids.length∧qLY v.keys=true) (h5':v.kind≠7→v.keys=[]) (h6:v.kids=[]∨v.kind=6∨v.kind=7)
  (h7:∀ k∈v.kids,zC k=true):zC v=true:=by
 rw [xQ]
 simp only [Bool.and_eq_true,qBK]
 refine ⟨⟨by simp [qAT]; omega,⟨⟨⟨⟨?_, ?_⟩, ?_⟩, ?_⟩, ?_⟩⟩,List.all_eq_true.2 h7⟩
 ·unfold qVD
  by_cases h:v.kind=8
  ·simp [h,h2.1 h]
  ·have : v.code = 0 := by by_cases hc : v.code = 0; · exact hc
                           ·exact (h (h2.2 hc)).elim
   simp [h,this]
 ·unfold qZG
  by_cases h:v.kind=4
  ·rw [if_pos h]; exact h3 h
  rw [if_neg h,h3' h]; simp [dc0]
 ·unfold qTX
  by_cases h:v.kind=5
  ·rw [if_pos h]; exact h4 h
  rw [if_neg h,h4' h]; simp
 ·unfold qFP
  by_cases h:v.kind=7
  ·rw [if_pos h,(h5 h).1,(h5 h).2]; simp
  rw [if_neg h,h5' h]; simp
 unfold qUV
 rcases h6 with h | h | h <;> simp [h]
theorem qRT {s:List UInt8} (h:s.all zJ=true):(qV s).all zJ=true:=by
 rw [List.all_eq_true] at h ⊢
 exact fun b hb=>h b ((List.dropWhile_sublist _).subset hb)
theorem qPA {s:List UInt8} (h:qV s≠[]):qM (qV s) 0≠48:=by
 induction s with
 | nil=>exact (h rfl).elim
 | cons b s ih =>
  by_cases hb:b=48
  ·have e:qV (b::s)=qV s:=by simp [qV,hb]
   rw [e] at h ⊢; exact ih h
  have e:qV (b::s)=b::s:=by simp [qV,hb]
  rw [e]
  intro h2
  simp [qM] at h2
  exact hb (UInt8.toNat_inj.1 (by show b.toNat=48; omega))
theorem qIB:∀ (k:Nat) (d:List UInt8),(∃ r,d=(wZ d k).1++r)∧((wZ d k).2=0∨(wZ d k).1.getLast?≠some 48)
 | 0,d=>⟨⟨[],by simp [wZ]⟩,.inl rfl⟩
 | k+1,d=>by
  simp only [wZ]
  split
  ·obtain ⟨⟨r,hr⟩,h2⟩:=qIB k d.dropLast
   refine ⟨⟨r++d.drop (d.length-1), ?_⟩,h2⟩
   have e:d.dropLast++d.drop (d.length-1)=d:=by rw [List.dropLast_eq_take,List.take_append_drop]
   rw [← List.append_assoc,← hr,e]
  rename_i h; exact ⟨⟨[],by simp⟩,.inr h⟩
theorem qGI {neg:Bool} {digits:List UInt8} {scale:Nat} (hd:digits.all zJ=true) (h:(yF neg digits scale).2=0):zP (yF neg digits scale).1=true:=by
 unfold yF at h ⊢
 simp only at h ⊢
 obtain ⟨⟨r,hr⟩,hl⟩:=qIB scale (qV digits)
 generalize wZ (qV digits) scale=x at *
 split
 ·decide +kernel
 rename_i hne
 rw [if_neg hne] at h
 split
 ·rename_i hb; rw [if_pos hb] at h; simp at h
 rename_i hb
 have hpos:0<x.1.length:=List.length_pos_iff.2 hne
 have hall:x.1.all zJ=true:=by
  have:=qRT hd
  rw [hr,List.all_append,Bool.and_eq_true] at this; exact this.1
 have hh:qM x.1 0≠48:=by
  have h1:=qPA (s:=digits) (by rw [hr]; simp [hne])
  rw [hr] at h1
  obtain ⟨c,d,hx⟩:∃ c d,x.1=c::d:=by
   cases hx:x.1 with
   | nil=>exact (hne hx).elim
   | cons c d=>exact ⟨c,d,rfl⟩
  rw [hx] at h1 ⊢
  simpa [qM] using h1
 rw [qXJ (by simp only []; omega) hall]
 simp only
 rw [if_neg (by intro e; rw [e] at hh; exact hh rfl)]
 have hlast:x.2=0∨qM x.1 (x.1.length-1)≠48:=hl.imp id fun h h2=>h ((qCA hpos).1 h2)
 simp [hh]
 exact hlast
theorem qRL (n:Nat):(zE n).all zJ=true:=List.all_eq_true.2 fun b hb=>by rw [(List.mem_replicate.1 hb).2]; rfl
theorem qWX {neg:Bool} {digits:List UInt8} {sc:Int} (hd:digits.all zJ=true) (h:(qEM neg digits sc).2=0):zP (qEM neg digits sc).1=true:=by
 unfold qEM at h ⊢
 split
 ·rename_i hs; rw [if_pos hs] at h; exact qGI (by rw [List.all_append,hd,qRL]; rfl) h
 rename_i hs; rw [if_neg hs] at h; exact qGI hd h
theorem qUE (s:List UInt8) (k:Nat):((s.take (k+zQ s k)).drop k).all zJ=true:=by
 have e:(s.take (k+zQ s k)).drop k=(s.drop k).takeWhile fun b=>vL b.toNat:=by
  rw [List.drop_take,show k+zQ s k-k=zQ s k by omega]
  unfold zQ
  have:∀ (l:List UInt8) (p:UInt8→Bool),l.take (l.takeWhile p).length=l.takeWhile p:=by
   intro l p
   induction l with
   | nil=>rfl
   | cons a l ih => rw [List.takeWhile_cons]; split
                    ·simp [ih]
                    rfl
  exact this _ _
 rw [e,List.all_eq_true]
 have:∀ (l:List UInt8) (p:UInt8→Bool) (b:UInt8),b∈l.takeWhile p→p b=true:=by
  intro l p b
  induction l with
  | nil=>intro h; simp at h
  | cons a l ih =>
   intro h
   rw [List.takeWhile_cons] at h
   split at h
   ·rename_i ha
    rcases List.mem_cons.1 h with rfl | h
    ·exact ha
    exact ih h
   simp at h
 exact fun b hb=>this _ _ b hb
theorem qLG {s:List UInt8} {neg:Bool} {digits:List UInt8} {scale:Nat} (hd:digits.all zJ=true):∀ o,(qBJ s neg digits scale o).2=0→zP (qBJ s neg digits scale o).1=true
 | none,h=>by simp [qBJ,uA] at h
 | some (k,up),h=>by
  simp only [qBJ] at h ⊢
  split
  ·rename_i hk; rw [if_pos hk] at h; exact qWX hd h
  rename_i hk; rw [if_neg hk] at h; simp [uA] at h
theorem qTP {s:List UInt8} (h:(jX s).2=0):zP (jX s).1=true:=by
 unfold jX at h ⊢
 split
 ·rename_i hb; rw [if_pos hb] at h; simp [uA] at h
 rename_i hb
 rw [if_neg hb] at h
 have hd:=qUE s (a0M s)
 revert h
 generalize (s.take (a0M s+zQ s (a0M s))).drop (a0M s)=d0 at *
 generalize a0M s+zQ s (a0M s)=k
 intro h
 unfold qEC at h ⊢
 split
 ·rename_i hp
  rw [if_pos hp] at h
  split
  ·rename_i hz; rw [if_pos hz] at h; simp [qOV,uA] at h
  rename_i hz
  rw [if_neg hz] at h
  exact qLG (by rw [List.all_append,hd,qUE]; rfl) _ h
 rename_i hp
 rw [if_neg hp] at h
 exact qLG hd _ h
theorem qOP (s:List UInt8):qBD (uI s)=true:=by
 have hl:=qKV s
 unfold qBD
 rw [qOQ]
 have:qBF (uI s)=true:=by
  unfold uI
  split
  ·assumption
  decide +kernel
 rw [this]; simp; omega
theorem qRO {n:Nat} (h:n≤4096) (hv:qBF (vJ n)=true):qBD (vJ n)=true:=by
 unfold qBD; rw [qOQ,hv]; simp [vJ]; omega
theorem qST:∀ n,n≤9→qBF (vJ n)=true:=by decide +kernel
theorem qSH {l:List (List UInt8)} {i many:Nat} (hi:i≤l.length+many) (hm:many≤8):qBD (kT l i)=true:=by
 unfold kT
 split
 ·exact qOP _
 exact qRO (by omega) (qST _ (by omega))
theorem qAH {l : List (List UInt8)} {many : Nat} (hm : many ≤ 8) : ∀ (f i : Nat) (out : List (List UInt8)), i + f = l.length + many + 1 → out.Nodup → (∀ s ∈ out, qBD s = true) → out.length ≤ many → (∀ t, 1 ≤ t → t + l.length ≤ i → vJ t ∈ out) →
  (jH l many f i out).Nodup∧(∀ s∈jH l many f i out,qBD s=true)∧(jH l many f i out).length=many
 | 0,i,out,hf,_,_,h3,h4=>by
  have:=qUW (out:=out) (n:=many+1) fun t h1 h2=>h4 t h1 (by omega)
  omega
 | f+1,i,out,hf,h1,h2,h3,h4=>by
  simp only [jH]
  split
  ·rename_i hlt
   have hw:=qSH (l:=l) (i:=i) (many:=many) (by omega) hm
   have hk:∀ t,1≤t→t+l.length≤i+1→vJ t∈qGF out (kT l i):=by
    intro t h5 h6
    by_cases h7:t+l.length≤i
    ·have:=h4 t h5 h7
     unfold qGF; split
     ·exact this
     simp [this]
    have:vJ t=kT l i:=by simp only [kT]; rw [dif_neg (by omega)]; congr 1; omega
    rw [this]; unfold qGF; split
    ·assumption
    simp
   unfold qGF at hk ⊢
   split at hk
   ·rename_i hin
    rw [if_pos hin]
    exact qAH hm f (i+1) out (by omega) h1 h2 h3 hk
   rename_i hin
   rw [if_neg hin]
   refine qAH hm f (i+1) (out++[kT l i]) (by omega) ?_ (fun s hs => ?_) (by simp; omega) hk
   ·rw [List.nodup_append]
    exact ⟨h1,by simp,by intro a ha b hb; simp at hb; subst hb; rintro rfl; exact hin ha⟩
   rcases List.mem_append.1 hs with h | h
   ·exact h2 s h
   simp at h; rw [h]; exact hw
  exact ⟨h1,h2,by omega⟩
theorem qSI {l:List (List UInt8)} {many:Nat} (hm:many≤8):qLY (qBM l many)=true∧(qBM l many).length=many:=by
 obtain ⟨h1,h2,h3⟩:=qAH (l:=l) hm (l.length+many+1) 0 [] (by omega) List.nodup_nil (by simp) (by simp) (by intro t h1 h2; omega)
 exact ⟨by unfold qLY; simp only [Bool.and_eq_true,List.all_eq_true,decide_eq_true_eq]; exact ⟨h2,h1⟩,h3⟩
theorem qZH (s:List UInt8):zP (uF s)=true:=by
 unfold uF
 split
 ·rename_i h; exact qTP h
 decide +kernel
theorem qEO (alone:List Val) (x:Item):(qU alone x).length≤8:=by
 have:=qEK x.many
 unfold qU qQE; split
 ·simp; omega
 simp
theorem qEN {alone:List Val} {x:Item} {k:Val} (h:k∈qU alone x):k∈alone:=by
 unfold qU at h; split at h
 ·exact List.mem_of_mem_drop h
 cases h
theorem qWY {alone:List Val} (x:Item) (ha:∀ v∈alone,zC v=true):zC (zS alone x)=true:=by
 have hk:=qEK x.kind
 have hn:=qSI (l:=x.keys) (qEO alone x)
 have hl:=qEO alone x
 have hkid:¬ (wC x.kind=5∨wC x.kind=6)→qU alone x=[]:=fun h=>by unfold qU; rw [if_neg h]
 have hmem:=fun k (hk:k∈qU alone x)=>ha k (qEN hk)
 unfold zS
 generalize qU alone x=kids at *
 refine qSK ?_ ?_ ?_ ?_ ?_ ?_ ?_ ?_ ?_ ?_ <;> simp only [Val.kind_mk,Val.num_mk,Val.text_mk,Val.keys_mk,Val.kids_mk,Val.code_mk]
 ·omega
 ·by_cases h:wC x.kind=7
  ·simp [h]
  simp [h]; omega
 ·intro h; rw [if_pos (by omega)]; exact qZH _
 ·intro h; rw [if_neg (by omega)]
 ·intro h; rw [if_pos (by omega)]; exact qOP _
 ·intro h; rw [if_neg (by omega)]
 ·intro h; rw [if_pos (by omega)]; exact ⟨hn.2,hn.1⟩
 ·intro h; rw [if_neg (by omega)]
 ·by_cases h:wC x.kind=5∨wC x.kind=6
  ·right; omega
  left; exact hkid h
 exact hmem
theorem qXR (l:List Item):zC (jV l)=true:=by
 have key:∀ (l:List Item) (alone:List Val),(∀ v∈alone,zC v=true)→∀ v∈l.foldl xP alone,zC v=true:=by
  intro l
  induction l with
  | nil=>exact fun alone h=>h
  | cons x l ih =>
   intro alone h
   refine ih _ fun v hv => ?_
   unfold xP at hv
   rcases List.mem_append.1 hv with hv | hv
   ·unfold zH at hv; split at hv
    ·exact h v (List.mem_of_mem_take hv)
    exact h v hv
   simp at hv; rw [hv]; exact qWY x h
 unfold jV
 rw [List.getLastD_eq_getLast?]
 cases hx:(qAV l).getLast? with
 | none=>decide +kernel
 | some v=>exact key _ [] (by simp) v (List.mem_of_getLast? hx)
theorem yD (code m:Int):AFn Tryz.prog G 34 [.agg [.int .u64 m],.int .i64 code] ((wD code m).enc):=by
 refine AFn.introU tok Tryz.func34 (by kernel_rfl) rfl rfl ?_
 simp only [Tryz.f34,qH,List.map_cons,List.map_nil]
 have hf:=qYO (G:=G) code m
 simp only [Val.enc_def] at hf
 refine rgn [] [[],[1,2,4]] ?_
 iterate 2 refine op1 tok ?_
 refine qA (rgn [.nilp,(wD code m).enc] [[],[],[],[4,8],[4]] ?_)
 iterate 5 refine oq1 tok hf ?_
 exact qA (AW.ret qG)
theorem qPS (m:Int):AFn Tryz.prog G 129 [.agg [.int .u64 m]] ((qPN m).enc):=by
 refine AFn.introU tok Tryz.func129 (by kernel_rfl) rfl rfl ?_
 simp only [Tryz.f129,qH,List.map_cons,List.map_nil]
 have e:qPN m = .mk 1 m dc0 [] [] [] 0:=rfl
 rw [e]
 refine rgn [] [[],[1,2]] ?_
 iterate 2 refine op1 tok ?_
 refine qA (rgn [] [[],[],[],[2]] ?_)
 iterate 4 refine op1 tok ?_
 refine qA ?_
 exact AW.ret (qG (k:=by simp [dc0]))
theorem qWO (x:Bool) (m:Int):AFn Tryz.prog G 35 [.agg [.int .u64 m],.bool x] ((qMU x m).enc):=by
 refine AFn.introU tok Tryz.func35 (by kernel_rfl) rfl rfl ?_
 simp only [Tryz.f35,qH,List.map_cons,List.map_nil]
 have e:qMU x m = .mk (if x=true then 3 else 2) m dc0 [] [] [] 0:=rfl
 rw [e]
 refine rgn [] [[],[1,2,4]] ?_
 iterate 2 refine op1 tok ?_
 refine qA (AW.seq (rgn [] [[2,4,5]] ?_))
 refine op1 tok ?_
 refine qA (cnd ?_ ?_)
 ·intro h5
  try simp at h5
  rw [if_pos h5]
  refine rgn [] [[],[],[],[4]] ?_
  iterate 4 refine op1 tok ?_
  refine qA ?_
  exact AW.ret (qG (k:=by simp [dc0]))
 intro h5
 try simp at h5
 rw [if_neg (by rw [h5]; simp)]
 refine AW.skip (rgn [] [[],[],[],[4]] ?_)
 iterate 4 refine op1 tok ?_
 refine qA ?_
 exact AW.ret (qG (k:=by simp [dc0]))
theorem qEG (s:List UInt8) (m:Int):AFn Tryz.prog G 36 [.agg [.int .u64 m],.str s] ((kG s m).enc):=by
 refine AFn.introU tok Tryz.func36 (by kernel_rfl) rfl rfl ?_
 simp only [Tryz.f36,qH,List.map_cons,List.map_nil]
 have hf:=yD (G:=G) 3 m
 have e:kG s m=if 4096<s.length then wD 3 m else .mk 5 m dc0 s [] [] 0:=rfl
 rw [e]
 simp only [Val.enc_def] at hf
 refine rgn [] [[],[1,2,4]] ?_
 iterate 2 refine op1 tok ?_
 refine qA (AW.seq (rgn [] [[],[],[1,2,4,7]] ?_))
 iterate 3 refine op1 tok ?_
 refine qA (cnd ?_ ?_)
 ·intro h7
  try simp at h7
  rw [if_pos (by omega)]
  refine rgn [.nilp,(wD 3 m).enc] [[],[],[4]] ?_
  iterate 3 refine oq1 tok hf ?_
  exact qA (AW.ret qG)
 intro h7
 try simp at h7
 rw [if_neg (by omega)]
 refine AW.skip (rgn [] [[],[],[],[4,13],[4]] ?_)
 iterate 5 refine op1 tok ?_
 refine qA ?_
 exact AW.ret (qG (k:=by simp [dc0]))
theorem qJA (r:Dc × Int) (m:Int):AFn Tryz.prog G 41 [.agg [.int .u64 m],r.1.enc,.int .i64 r.2] ((qSG r m).enc):=by
 refine AFn.introU tok Tryz.func41 (by kernel_rfl) rfl rfl ?_
 simp only [Tryz.f41,qH,List.map_cons,List.map_nil]
 have hf:=yD (G:=G) r.2 m
 have e:qSG r m=if r.2=0 then .mk 4 m r.1 [] [] [] 0 else wD r.2 m:=rfl
 rw [e]
 simp only [Val.enc_def] at hf
 refine rgn [] [[],[],[2,3,4,6]] ?_
 iterate 3 refine op1 tok ?_
 refine qA (AW.seq (rgn [] [[],[2,3,4,6,8]] ?_))
 iterate 2 refine op1 tok ?_
 refine qA (cnd ?_ ?_)
 ·intro h8
  try simp at h8
  rw [if_neg (by simpa using h8)]
  refine rgn [.nilp,(wD r.2 m).enc] [[],[],[6,11],[6]] ?_
  iterate 4 refine oq1 tok hf ?_
  exact qA (AW.ret qG)
 intro h8
 try simp at h8
 rw [if_pos (by simpa using h8)]
 refine AW.skip (rgn [] [[],[],[],[6,15],[6]] ?_)
 iterate 5 refine op1 tok ?_
 refine qA ?_
 exact AW.ret (qG (k:=by simp [dc0]))
theorem qEH (l:List Val) (m:Int) (hl:∀ v∈l,Few v) (hn:l.length≤1000000):AFn Tryz.prog G 40 [.agg [.int .u64 m],.sl 9 (l.map Val.enc)] ((qAY l m).enc):=by
 refine AFn.introU tok Tryz.func40 (by kernel_rfl) rfl rfl ?_
 simp only [Tryz.f40,qH,List.map_cons,List.map_nil]
 have hf:=yD (G:=G) 3 m
 have hc:=qMI (G:=G) (.mk 6 m dc0 [] [] l 0) (.mk (by simp) (by simpa using hn) (by simpa using hl))
 have e:qAY l m=if 200<l.length then wD 3 m else .mk 6 m dc0 [] [] l 0:=rfl
 rw [e]
 simp only [Val.enc_def] at hf hc
 refine rgn [] [[],[1,2,4]] ?_
 iterate 2 refine op1 tok ?_
 refine qA (AW.seq (rgn [] [[],[],[1,2,4,7]] ?_))
 iterate 3 refine op1 tok ?_
 refine qA (cnd ?_ ?_)
 ·intro h7
  try simp at h7
  rw [if_pos (by omega)]
  refine rgn [.nilp,(wD 3 m).enc] [[],[],[4]] ?_
  iterate 3 refine oq1 tok hf ?_
  exact qA (AW.ret qG)
 intro h7
 try simp at h7
 rw [if_neg (by omega)]
 refine AW.skip (rgn [.nilp,(Val.mk 6 m dc0 [] [] l 0).enc] [[],[],[],[4,13],[],[4]] ?_)
 iterate 6 refine op1 tok ?_ (hv:=by first | with_reducible exact True.intro | ((simp [dc0] at hc ⊢; exact hc); done) | omega | simp | (simp +contextual; omega))
 exact qA (AW.ret qG)
end Go.Proofs.YtgcbapchinideaaGreatDoor
namespace Go.Proofs.YtgcbapchinideaaGreatDoor.Sy
open Go
set_option linter.unusedSimpArgs false
set_option linter.unusedVariables false
section
variable {P:Program} {T:Tab} {G:qK} {st:St}
end
section
variable {P:Program} {T:Tab} {G:qK} {st:St}
end
section
variable {P:Program} {T:Tab} {G:qK} {Q:Exit→St→Prop} {st:St}
theorem RowOf.drop {M:qT} {sz:Nat} {es:List PD} {news:List Value} (h:RowOf M sz es news) (n:Nat):RowOf M sz (es.drop n) (news.drop (n * sz)) where
 len:=by rw [List.length_drop,List.length_drop,h.len,Nat.sub_mul]
 one:=fun u hu=>h.one u (List.mem_of_mem_drop hu)
 elem:=fun i e he=>h.elem (n+i) e (by rwa [List.getElem?_drop] at he)
 get:=fun i e j d u he hd hu=>by
  rw [List.getElem?_drop] at he hu
  exact h.get (n+i) e j d u he hd (by rw [← hu]; congr 1; rw [Nat.add_mul]; omega)
theorem zEN (hT : TOK P T) {o : Oper} {t el : TypeId} {x y : Operand} {p q : Prop} {id : Nat} {kd : IntKind} {z : Int} (n : Nat) (ho : o.op = .slice t x (some y) none none) (ht : wA T t = some (.sl el)) {ti : TI} (hti : T el = some ti)
  (h1:st.arg G x=(p,.ms id)) (hp:p) (h2:st.arg G y=(q,.p (.int kd z))) (hq:q) {e sz:Nat} {es:List PD} (hb:zW id st.H=some (.row e sz es)) (hsz:sz=ti.size) (hn:n<es.length) (hz:z=(n:Int)):qW P G o st (.tl id n sz) st:=by
 subst hz; subst hsz
 intro c M μ tmps w hg r
 have hd:=hT.sl ht
 obtain ⟨i,de,hi',_,_,hszi,_⟩:=hT.get hti
 have hso:∀ w:World,(sizeOf el).run P w = .ok ti.size w:=fun w=>by simp [sizeOf,typeInfo,hi',hszi]
 have e1:=qC hg r h1 hp
 have e2:=(qC hg r h2 hq).p_inv
 generalize hu1:Act.eval ⟨tmps,[]⟩ x=u1 at e1
 generalize hu2:Act.eval ⟨tmps,[]⟩ y=u2 at e2
 cases e1 with
 | ms hval hone =>
 cases e2 with
 | int _ _ =>
 rcases (r.box id _ (zG hb)).cells with ⟨rfl,h0,hv⟩ | ⟨b,cap,arr,h0,hv,hh,has,hlc,hcm,hone',hro⟩
 ·simp at hn
 rw [hv] at hval
 subst hval
 have hbd:=wJ (P:=P) (isSlice:=true) (len:=es.length) (cap:=cap) (lo:=some (.int kd n)) (hi:=none) (l:=n) (h:=es.length) (.inr ⟨kd,rfl⟩) (.inl ⟨rfl,rfl⟩) (by omega) (by omega) (by omega) w
 have er1:(execOp (Act.eval ⟨tmps,[]⟩) o).run P w = .ok (.value (.slice (some ⟨b,n * ti.size,none⟩) (es.length-n) (cap-n))) w:=by
  simp at hbd
  have hne2:¬ cap=n:=by omega
  have hadd:(⟨b,0,none⟩:Addr).add (n * ti.size)=⟨b,n * ti.size,none⟩:=by rw [jN]; simp
  simp [execOp,ho,hu1,hu2,Instr.sliceAt,Instr.slice,run_underlying hd,hbd,hso,hne2,hadd]
 rw [er1]
 exact ⟨M,μ,r,.tl hv hn hlc⟩
end
section
variable {P:Program} {T:Tab} {G:qK} {l:List Oper} {tss:List (List Nat)} {K:uH→St→Prop} {st st' st0:St} {rest:List Oper} {ts:List Nat} {acc:uH} {o:Oper}
theorem zB.y (Hs H' : List (Nat × Box)) (x : V) (q : Bool) (hgd : o.guard = none) (y : qW P G o ⟨wE st.tmps ts, Hs.map (·.1), Hs, st.base⟩ x ⟨wE st.tmps ts, Hs.map (·.1), H', st.base⟩) (hq : q = true → H' = Hs) (hsub : ∀ p ∈ Hs, p ∈ st.H)
  (hids:∀ i∈V.ids x++kY H',i∈Hs.map (·.1)) (hn:ndB st.H=true) (hns:ndB Hs=true) (hst:st.after o.dst ⟨x,Hs,H',Hs.map (·.1),[],q⟩=st') (k:zB P G st0 rest tss st' (acc++[(Sm.mk x Hs H' (Hs.map (·.1)) [] q).sum]) K):zB P G st0 (o::rest) (ts::tss) st acc K:=by
 subst hst
 obtain ⟨sms,st1,e,hk⟩:=k
 have hgood:∀ i∈V.ids x++kY H',i∈Hs.map (·.1)∨i∈([]:List Nat):=fun i hi => .inl (hids i hi)
 have hky:∀ i,qI i H'=true→i∈Hs.map (·.1)∨i∈([]:List Nat):=fun i hi => .inl (hids i (List.mem_append.2 (.inr (uS hi))))
 refine ⟨⟨x,Hs,H',Hs.map (·.1),[],q⟩::sms,st1,.one hgd (wQ hn) ⟨hq,hgood,hky,by simp⟩ hsub (fun c M μ st' tmps w R K hG rel hle hbox hnw k => ?_) e,by simpa using hk⟩
 exact uT (s:=⟨x,Hs,H',Hs.map (·.1),[],q⟩) (small:=⟨wE st.tmps ts,Hs.map (·.1),Hs,st.base⟩) (s':=⟨wE st.tmps ts,Hs.map (·.1),H',st.base⟩) rfl (wQ hns) rfl (fun i hi=>hi) hky hgood y c M μ st' tmps w R K hG rel hle hbox hnw k
end
section
variable {P:Program} {T:Tab} {G:qK} {Q:Exit→St→Prop} {st:St}
end
section
variable {P:Program} {T:Tab} {G:qK} {l:List Oper} {tss:List (List Nat)} {K:uH→St→Prop} {st st' st0:St} {rest:List Oper} {ts:List Nat} {acc:uH} {o:Oper}
end
section
variable {P:Program} {T:Tab} {G:qK} {o:Oper} {st st1 st':St} {x:V}
theorem AX.ofFn {f:FuncId} {al:List PD} {r:PD} {xs:List V} (h:AFn P G f al r) (hfit:V.fitsL [] xs al):AX P G f xs [] (.p r) [] []:=by
 refine ⟨h.1,fun M μ w vs hg rel => ?_⟩
 have hl:=V.fitsL_len hfit
 have hs:vs.size=al.length:=by have:=rel.slots.1; simp only at this; omega
 refine (h.2 M w vs hg rel.mem hs fun i u d hu hd => ?_).mono ?_
 ·have hi:i<xs.length:=by have:=(List.getElem?_eq_some_iff.1 hd).1; omega
  exact kX (rel.slots.2 i u _ hu (List.getElem?_eq_getElem hi)) (V.fitsL_get hfit (List.getElem?_eq_getElem hi) hd)
 rintro e w' ⟨v,M',rfl,hv,hmem,hM,hold,hbel⟩
 have r2:=rel.grows (Grows.of_below hbel) hM hmem hold
 refine ⟨v,M',μ,rfl,{ r2 with slots:=⟨by simp,fun i u y hu hy => ?_⟩ }⟩
 match i with
 | 0=>simp at hu hy; subst hu; subst hy; exact .p hv
 | i+1=>simp at hy
theorem AFn.of_AX {f:FuncId} {args:List PD} {k e sz:Nat} {es:List PD} (h:AX P G f (args.map .p) [] (.ms k) [] [(k,.row e sz es)]):AFn P G f args (.sl sz es):=by
 refine ⟨h.1,fun M w vs hg hmem hsz hrd=>(h.2 M (fun _=>default) w vs hg (Rel.plain _ hmem hsz hrd)).mono ?_⟩
 rintro e' w' ⟨v,M',μ',rfl,r1⟩
 obtain ⟨M2,r'⟩:=r1.freeze k
 have hno:∀ b, ¬ wY (fun _=>(default:Loc)) [] b:=fun b ⟨i,hi,_⟩=>by simp [qI] at hi
 have hv:=r'.slots.2 0 v (.p (.sl sz es)) (by simp) (by simp)
 cases hv with
 | p hv=>exact ⟨v,M2,rfl,hv,r'.mem,r'.ext,fun b o hb=>r'.old b o fun hm=>hm.elim (fun h=>by simp at h; omega) (hno b),⟨r'.below.os,r'.below.tape,r'.below.output,r'.below.size,fun j hj=>r'.below.block j fun hm=>hm.elim (fun h=>by simp at h; omega) (hno j)⟩⟩
theorem qW.freeze (id:Nat) (h:st.freeze id=st1) (y:qW P G o st1 x st'):qW P G o st x st':=fun c M μ tmps w hg rel=>by
 subst h
 obtain ⟨M1,r1⟩:=rel.freeze id
 exact y c M1 μ tmps w hg r1
theorem qW.plain {id e sz:Nat} {es:List PD} (y:qW P G o st (.ms id) { st with H:=(id,.row e sz es)::st.H }):qW P G o st (.p (.sl sz es)) st:=fun c M μ tmps w hg rel=>by
 have h:=y c M μ tmps w hg rel
 revert h
 generalize (execOp (Act.eval ⟨tmps,[]⟩) o).run P w=r0
 have key:∀ u w',(∃ M' μ',Rel c M' μ' { st with H:=(id,.row e sz es)::st.H } tmps w'∧RV M' μ' u (.ms id))→∃ M' μ',Rel c M' μ' st tmps w'∧RV M' μ' u (.p (.sl sz es)):=by
  rintro u w' ⟨M1,μ1,r,hu⟩
  have hm:(id,Box.row e sz es)∈({ st with H:=(id,.row e sz es)::st.H }:St).H:=List.mem_cons_self
  have hk:qI id ({ st with H:=(id,.row e sz es)::st.H }:St).H=true:=qE.2 ⟨_,hm⟩
  have hid:∀ i,qI i st.H=true→i≠id:=fun i hi he=>by
   subst he
   obtain ⟨b,hb⟩:=qE.1 hi
   have:=r.nodup
   simp only [List.map_cons,List.nodup_cons] at this
   exact this.1 (List.mem_map.2 ⟨_,hb,rfl⟩)
  have hup:∀ i,qI i st.H=true→qI i ({ st with H:=(id,.row e sz es)::st.H }:St).H=true:=fun i hi=>by
   obtain ⟨b,hb⟩:=qE.1 hi
   exact qE.2 ⟨b,List.mem_cons_of_mem _ hb⟩
  let M2:qT:=fun b o=>if (μ1 id).blk=some b then w'.cell? ⟨b,o,none⟩ else M1 b o
  have e1:∀ b o,(μ1 id).blk=some b→M2 b o=w'.cell? ⟨b,o,none⟩:=fun b o h=>if_pos h
  have e2:∀ b o,(μ1 id).blk≠some b→M2 b o=M1 b o:=fun b o h=>if_neg h
  have hM:∀ b o v,M1 b o=some v→M2 b o=some v:=by
   intro b o v hv
   by_cases h:(μ1 id).blk=some b
   ·rw [e1 b o h]; exact r.mem b o v hv
   rw [e2 b o h]; exact hv
  have hd:Rd M2 (μ1 id).val (.sl sz es):=qCK (r.box id _ hm) hM fun b h o v hv=>by rw [e1 b o h]; exact hv
  refine ⟨M2,μ1,⟨?_,fun b o v hv=>hM _ _ _ (r.ext b o v hv),fun b o hb => ?_,⟨r.slots.1,fun i u x hu hx=>(r.slots.2 i u x hu hx).mono hM fun _ _=>rfl⟩,r.pins,fun i bx hi=>(r.box i bx (List.mem_cons_of_mem _ hi)).mono hM rfl (fun _ _=>rfl) (fun _ _=>rfl), ?_,fun i j b hi hj=>r.inj i j b (hup i hi) (hup j hj),fun i b hi hib => ?_,r.size,r.below⟩, ?_⟩
  ·intro b o v hv
   by_cases h:(μ1 id).blk=some b
   ·rw [e1 b o h] at hv; exact hv
   rw [e2 b o h] at hv; exact r.mem b o v hv
  ·rw [e2 b o fun h=>hb (r.own id b hk h).1]; exact r.old b o hb
  ·have:=r.nodup
   simp only [List.map_cons,List.nodup_cons] at this
   exact this.2
  ·have h3:=r.own i b (hup i hi) hib
   exact ⟨h3.1,h3.2.1,fun o=>by rw [e2 b o fun h=>hid i hi (r.inj i id b (hup i hi) hk hib h)]; exact h3.2.2 o⟩
  cases hu with
  | ms h1 h2=>exact .p (h1 ▸ hd)
 intro h
 cases r0 with
 | halt x w'=>exact h.elim
 | ok n w' =>
  cases n <;> simp only [qTQ] at h ⊢
  case value v=>exact key _ _ h
  case skip=>exact key _ _ h
  case enter f args =>
   refine h.mono ?_
   rintro e w'' ⟨v,rfl,hn⟩
   exact ⟨v,rfl,key _ _ hn⟩
end
section
variable {P:Program} {T:Tab} {G:qK} {l:List Oper} {tss:List (List Nat)} {K:uH→St→Prop} {st st' st0:St} {rest:List Oper} {ts:List Nat} {acc:uH} {o:Oper}
end
section
variable {P:Program} {T:Tab} {G:qK} {Q:Exit→St→Prop}
def zEG (s s':St):Prop:=∀ c M μ tmps w,Rel c M μ s tmps w→Rel c M μ s' tmps w
theorem zEG.of {s s':St} (h:St.Le s s'):zEG s s':=fun _ _ _ _ _ r=>r.weaken h
variable {st:St}
end
set_option maxHeartbeats 4000000
section
variable {P:Program} {T:Tab} {G:qK} {Q:Exit→St→Prop}
theorem qAD (hT:TOK P T) {st:St} {o:Oper} {orc orc':List PD} {v:Prop} {x:V} (h:qIV T G st o.op orc=some (v,x,orc')) (hv:v):qW P G o st x st:=by
 intro c M μ tmps w hg r
 obtain ⟨u,e,hu⟩:=qGQ hT hg r h hv
 rw [e]
 exact ⟨M,μ,r,hu⟩
def dd (b:Bool) (v:V):V:=if b=true then v else .dead
@[simp] theorem zJW (v:V):dd true v=v:=rfl
@[simp] theorem zJT (v:V):dd false v = .dead:=rfl
end
section
variable {P:Program} {T:Tab} {G:qK} {st:St}
end
section
variable {P:Program} {G:qK} {st st' st0:St} {rest:List Oper} {ts:List Nat} {tss:List (List Nat)} {acc:uH} {o:Oper} {K:uH→St→Prop}
theorem zB.q (ids : List Nat) (x : V) (hgd : o.guard = none) (y : qW P G o ⟨wE st.tmps ts, ids, [], st.base⟩ x ⟨wE st.tmps ts, ids, [], st.base⟩) (hids : ∀ i ∈ V.ids x, i ∈ ids) (hn : ndB st.H = true)
  (hst:st.after o.dst ⟨x,[],[],ids,[],true⟩=st') (k:zB P G st0 rest tss st' (acc++[(Sm.mk x [] [] ids [] true).sum]) K):zB P G st0 (o::rest) (ts::tss) st acc K:=by
 subst hst
 obtain ⟨sms,st1,e,hk⟩:=k
 have hgood:∀ i∈V.ids x++kY ([]:List (Nat × Box)),i∈ids∨i∈([]:List Nat):=fun i hi => .inl (hids i (by simpa [kY] using hi))
 refine ⟨⟨x,[],[],ids,[],true⟩::sms,st1,.one hgd (wQ hn) ⟨fun _=>rfl,hgood,fun i hi=>by simp [qI] at hi,by simp⟩ (by simp) (fun c M μ st' tmps w R K hG rel hle hbox hnw k => ?_) e,by simpa using hk⟩
 exact uT (s:=⟨x,[],[],ids,[],true⟩) (small:=⟨wE st.tmps ts,ids,[],st.base⟩) (s':=⟨wE st.tmps ts,ids,[],st.base⟩) rfl (by simp) rfl (fun i hi=>hi) (fun i hi=>by simp [qI] at hi) hgood y c M μ st' tmps w R K hG rel hle hbox hnw k
end
section
variable {P:Program} {G:qK} {Q:Exit→St→Prop} {st:St}
end
end Go.Proofs.YtgcbapchinideaaGreatDoor.Sy
namespace Go.Proofs.YtgcbapchinideaaGreatDoor
open Sy Go
set_option maxRecDepth 100000
set_option maxHeartbeats 4000000
set_option linter.unusedSimpArgs false
set_option linter.unusedVariables false
variable {G:qK}
theorem zAI (s:List UInt8) (m:Int):Few (kG s m):=by
 unfold kG wD
 split <;> exact .mk (by simp) (by simp) (by simp)
theorem zCB (s:List UInt8):AX Tryz.prog G 36 [.agg [.p (.int .u64 0)],.p (.str s)] [] (.p (kG s 0).enc) [] [] :=
 AX.ofFn (qEG s 0) (by simp [V.fitsL,V.fits])
theorem zDG (ws:List (List UInt8)) (m:Int) (hn:ws.length≤1000000):AX Tryz.prog G 66 [.p (.agg [.int .u64 m]),.p (.sl 1 (ws.map PD.str)),.func (.func 36) [.agg [.p (.int .u64 0)]] []] [] (.agg (qAY (ws.map fun s=>kG s 0) m).cells) [] []:=by
 refine AX.introU tok 900 Tryz.func66 (by kernel_rfl) rfl rfl ?_
 simp only [Tryz.f66,qH,List.map_cons,List.map_nil]
 have hl:=qEH (G:=G) (ws.map fun s=>kG s 0) m (by simp [zAI]) (by simpa using hn)
 generalize hws:(ws.map fun s=>kG s 0)=vs at *
 have hvl:vs.length=ws.length:=by rw [← hws]; simp
 have hvg:∀ (k:Nat) s,ws[k]?=some s→vs[k]?=some (kG s 0):=fun k s h=>by rw [← hws,List.getElem?_map,h]; rfl
 simp only [Val.enc_def] at hl
 refine rgn [] [[],[1,2,3,6]] ?_
 iterate 2 refine op1 tok ?_
 refine qA (rgn [] [[]] ?_)
 refine op1 tok ?_
 refine qA (AW.seq (rgn [] [[],[],[2,3,6,7,10,11,12]] ?_))
 iterate 3 refine op1 tok ?_
 refine qA (AW.block ?_)
 refine AW.beginE 7 50 31 9 (by simp) (by simp) (by conv=>lhs; simp) ?_
 refine AW.loop (α:=Nat) (fun k=>k≤ws.length) (fun k=>⟨qS 26 [(2,.func (.func 36) [.agg [.p (.int .u64 0)]] []),(3,.ptr 903 0),(6,.ptr 906 0),(7,.ms 50),(10,.p (.sl 1 (ws.map PD.str))),(11,.p (.int .i64 ws.length)),(12,.p (.int .i64 k))],[],[(903,.vars 61 [.p (.int .u64 m)]),(906,.vars 31 [.p (.int .i64 0),.p (.int .u64 0),.p (.bool false),.p (.str []),.p (.int .i64 0),.p (.str []),.nilsl,.nilsl,.p (.int .i64 0)]),(50,.row 31 9 ((vs.map Val.enc).take k))],900⟩) (fun k=>ws.length-k) (0) (by omega) ⟨qB (by simp),rfl,by simp,by simp⟩ ?_
 rintro k hk
 refine rgn [] [[]] ?_
 refine op1 tok ?_
 refine qA (AW.seq (cnd ?_ ?_))
 ·intro h13
  try simp at h13
  obtain ⟨s,hs⟩:∃ s,ws[k]?=some s:=⟨ws[k]'(by omega),by simp [show k<ws.length by omega]⟩
  have hv:=hvg k s hs
  have hgp:(vs.map Val.enc)[k]?=some (kG s 0).enc:=by rw [List.getElem?_map,hv]; rfl
  have htk:(vs.map Val.enc).take k++[(kG s 0).enc]=(vs.map Val.enc).take (k+1):=by rw [List.take_add_one,hgp]; rfl
  have hw:=zCB (G:=G) s
  simp only [Val.enc_def] at htk hw
  refine AW.skip (AW.seq (AW.block (rgn [.str s] [[],[],[2,3,6,7,9,10,11,12]] ?_)))
  iterate 3 refine op1 tok ?_ (hv:=by first | with_reducible exact True.intro | ((simp [hs]); done) | omega | simp | (simp +contextual; omega))
  refine qA (rgz [(kG s 0).enc] [[],[],[]] ?_)
  iterate 3 refine op1 tok ?_
  refine zX ?_
  refine qF.stepK [2,3,6,10,11,12,16,19] (uC rfl hw (by simp)) (by conv=>lhs; simp) rfl ?_
  refine qF.run [[],[],[2,3,6,7,10,11,12]] ?_
  iterate 3 refine op1 tok ?_
  refine qA (rgz [] [[],[2,3,6,7,10,11,12]] ?_)
  iterate 2 refine op1 tok ?_
  refine qA ?_
  exact ⟨k+1,by omega,by omega,qB (by simp [htk]),rfl,by simp [htk],by simp [htk]⟩
 intro h13
 try simp at h13
 obtain rfl:k=ws.length:=by omega
 have hall:(vs.map Val.enc).take ws.length=vs.map Val.enc:=List.take_of_length_le (by simp [hvl])
 simp only [hall]
 refine AW.exit ?_
 simp
 refine rgn [.nilp,(qAY vs m).enc] [[]] ?_
 refine op1 tok ?_ (hv:=by first | with_reducible exact True.intro | (first | exact hl | (simp at hl ⊢; exact hl); done) | omega | simp | (simp +contextual; omega))
 refine zX ?_
 refine qF.freeze 50 (by conv=>lhs; simp) ?_
 refine qF.run [[],[6,25],[6]] ?_
 iterate 3 refine op1 tok ?_ (hv:=by first | with_reducible exact True.intro | (first | exact hl | (simp at hl ⊢; exact hl); done) | omega | simp | (simp +contextual; omega))
 refine qA ?_
 exact AW.ret uU
theorem zJS:qVI Tryz.prog 226 Extern.BytealgIndexByte.indexByte:=fun args w=>run_callFunc_extern Tryz.func226 (by kernel_rfl) (by kernel_rfl) (by kernel_rfl) (by kernel_rfl) args w
@[simp] theorem qKJ (s:List UInt8) (n:Int):AFn Tryz.prog G 198 [.str s,.int .u8 n] (.int .i64 (Lib.indexByte s n.toNat.toUInt8)):=by
 refine AFn.intro tok Tryz.func198 (by kernel_rfl) rfl ?_
 simp only [Tryz.f198,St.start]
 refine AW.seqRun tok [] (by intro C; conv=>lhs; simp) trivial ?_
 refine AW.seqRunX tok 2 [] [] rfl rfl (by intro C; conv=>lhs; simp) trivial (qOL (s:=s) (n:=n) (p:=True) (q:=True) (r:=True) zJS rfl (by simp) trivial (by simp) trivial (by simp) trivial) (by intro C; conv=>lhs; simp) trivial ?_
 exact AW.ret ⟨.inr rfl,_,_,by (conv=>lhs; simp),trivial,by simp⟩
@[simp] theorem zDX (s:List UInt8) (n:Int):AFn Tryz.prog G 155 [.str s,.int .u8 n] (.int .i64 (Lib.indexByte s n.toNat.toUInt8)):=by
 refine AFn.intro tok Tryz.func155 (by kernel_rfl) rfl ?_
 simp only [Tryz.f155,St.start]
 refine AW.seqRun tok [] (by intro C; conv=>lhs; simp) trivial ?_
 refine AW.seqRun tok [.tup [.str s,.int .u8 n],.int .i64 (Lib.indexByte s n.toNat.toUInt8)] (by intro C; conv=>lhs; simp) (by simp) ?_
 exact AW.ret ⟨.inr rfl,_,_,by (conv=>lhs; simp),trivial,by simp⟩
theorem zAE {s:List UInt8} {k:Nat} (h:k<s.length):s[k]?=some (s.getD k 0):=by simp [List.getD_eq_getElem?_getD,h]
theorem qHE (s:List UInt8) (c:UInt8):AFn Tryz.prog G 173 [.str s,.int .u8 c.toNat] (.str (s.dropWhile (fun b=>b == c))):=by
 refine AFn.introU tok Tryz.func173 (by kernel_rfl) rfl rfl ?_
 simp only [Tryz.f173,qH,List.map_cons,List.map_nil]
 refine rgn [] [[0,1]] ?_
 refine op1 tok ?_
 refine qA (AW.seq (AW.block ?_))
 refine AW.loop (α:=List UInt8) (fun r=>r.dropWhile (fun b=>b == c)=s.dropWhile (fun b=>b == c)) (fun r=>⟨qS 17 [(0,.p (.str r)),(1,.p (.int .u8 c.toNat))],[],[],0⟩) (fun r=>r.length) (s) rfl ⟨qB (by simp),rfl,by simp,by simp⟩ ?_
 rintro r hr
 have hix:0<r.length→r[0]?=some (r.getD 0 0):=fun h=>zAE h
 refine AW.seq (rgn [.int .u8 (r.getD 0 0).toNat] [[],[],[],[],[],[0,1,8,10],[],[],[0,1,13]] ?_)
 iterate 4 refine op1 tok ?_ (hv:=by first | with_reducible exact True.intro | (first | exact fun h=>⟨h,_,hix (by omega),rfl⟩ | simp; done) | omega | simp | (simp +contextual; omega))
 iterate 4 refine op2 tok ?_ (hv:=by first | with_reducible exact True.intro | (first | exact fun h=>⟨h,_,hix (by omega),rfl⟩ | simp; done) | omega | simp | (simp +contextual; omega))
 refine op1 tok ?_ (hv:=by first | with_reducible exact True.intro | (first | exact fun h=>⟨h,_,hix (by omega),rfl⟩ | simp; done) | omega | simp | (simp +contextual; omega))
 refine qA (cnd ?_ ?_)
 ·intro h13
  try simp at h13
  obtain ⟨b,r,rfl⟩:∃ b r',r=b::r':=by
   cases r with
   | nil=>simp at h13
   | cons b r=>exact ⟨b,r,rfl⟩
  have hb:b=c:=UInt8.toNat_inj.1 (by have:=h13.2; simp at this; omega)
  subst hb
  have hr2:List.dropWhile (fun b'=>b' == b) r=List.dropWhile (fun b'=>b' == b) s:=by rw [← hr]; simp
  refine AW.skip (AW.block (rgz [] [[],[],[0,1]] ?_))
  iterate 3 refine op1 tok ?_
  refine qA ?_
  exact ⟨r,hr2,by simp,qB (by simp),rfl,by simp,by simp⟩
 intro h13
 try simp at h13
 have hr3:s.dropWhile (fun b=>b == c)=r:=by
  rw [← hr]
  cases r with
  | nil=>rfl
  | cons b r =>
   have hb:b≠c:=by rintro rfl; simp at h13
   simp [hb]
 rw [hr3]
 refine AW.exit ?_
 simp
 refine rgn [] [[],[4]] ?_
 iterate 2 refine op1 tok ?_
 exact qA (AW.ret qG)
theorem qOY (s:List UInt8) (c:UInt8):(decide (1≤(s.length:Int)) && decide (List.drop (s.length-1) s=[c]))=decide (s.getLast?=some c):=by
 by_cases h:s=[]
 ·subst h; simp
 obtain ⟨a,b,rfl⟩:∃ a b,s=a++[b]:=⟨s.dropLast,s.getLast h,(List.dropLast_concat_getLast h).symm⟩
 rw [Bool.eq_iff_iff]
 simp
 intro _; omega
theorem qKK (s:List UInt8) (c:UInt8):AFn Tryz.prog G 104 [.str s,.str [c]] (.bool (decide (s.getLast?=some c))):=by
 refine AFn.introU tok Tryz.func104 (by kernel_rfl) rfl rfl ?_
 simp only [Tryz.f104,qH,List.map_cons,List.map_nil]
 refine AW.strFactU (i:=0) rfl (by decide) ?_
 intro hlen
 have hsuf:(decide (1≤(s.length:Int)) && decide (List.drop (s.length-1) s=[c]))=decide (s.getLast?=some c):=qOY s c
 refine rgn [] [[0,1]] ?_
 refine op1 tok ?_
 refine qA (rgn [] [[],[],[],[],[0,1,9],[],[],[],[],[],[1,10,11,13,15],[],[1,10,17],[],[],[20],[4]] ?_)
 iterate 6 refine op1 tok ?_
 iterate 9 refine op2 tok ?_
 iterate 2 refine op1 tok ?_
 refine qA ?_
 exact AW.ret (qG (k:=by simp [hsuf]))
theorem qOJ (s:List UInt8) (c:UInt8):AFn Tryz.prog G 73 [.str s,.str [c]] (.bool (decide (s.getLast?=some c))):=by
 refine AFn.introU tok Tryz.func73 (by kernel_rfl) rfl rfl ?_
 simp only [Tryz.f73,qH,List.map_cons,List.map_nil]
 refine rgn [] [[0,1]] ?_
 refine op1 tok ?_
 refine qA (rgn [.nilp,.bool (decide (s.getLast?=some c))] [[],[],[7],[4]] ?_)
 iterate 4 refine op1 tok ?_ (hv:=by first | with_reducible exact True.intro | (exact qKK s c; done) | omega | simp | (simp +contextual; omega))
 exact qA (AW.ret qG)
theorem qOH (s:List UInt8) (c:UInt8) (hc:c.toNat<128):AFn Tryz.prog G 136 [.str s,.str [c]] (.str (s.dropWhile (fun b=>b == c))):=by
 refine AFn.introU tok Tryz.func136 (by kernel_rfl) rfl rfl ?_
 simp only [Tryz.f136,qH,List.map_cons,List.map_nil]
 refine rgn [] [[0,1]] ?_
 refine op1 tok ?_
 refine qA (AW.seq (rgn [] [[],[],[],[],[],[0,1,12]] ?_))
 iterate 3 refine op1 tok ?_
 iterate 2 refine op2 tok ?_
 refine op1 tok ?_
 refine qA (cnd ?_ ?_)
 ·intro h12
  try simp at h12
  subst h12
  refine rgn [] [[],[4]] ?_
  iterate 2 refine op1 tok ?_
  exact qA (AW.ret qG)
 intro h12
 try simp at h12
 refine AW.skip (AW.seq (rgn [.int .u8 c.toNat] [[],[],[],[],[],[0,1,17,19],[],[0,1,21]] ?_))
 iterate 4 refine op1 tok ?_ (hv:=by first | with_reducible exact True.intro | (simp; done) | omega | simp | (simp +contextual; omega))
 iterate 3 refine op2 tok ?_ (hv:=by first | with_reducible exact True.intro | (simp; done) | omega | simp | (simp +contextual; omega))
 refine op1 tok ?_ (hv:=by first | with_reducible exact True.intro | (simp; done) | omega | simp | (simp +contextual; omega))
 refine qA (cnd ?_ ?_)
 ·intro h21
  try simp at h21
  refine rgn [.int .u8 c.toNat,.nilp,.str (s.dropWhile (fun b=>b == c))] [[],[],[],[25],[4]] ?_
  iterate 5 refine op1 tok ?_ (hv:=by first | with_reducible exact True.intro | (first | exact qHE s c | simp; done) | omega | simp | (simp +contextual; omega))
  exact qA (AW.ret qG)
 intro h21
 try simp at h21
 omega
theorem zDH (s:List UInt8):(qV s).length≤s.length:=(List.dropWhile_sublist _).length_le
theorem qUR (neg:Bool) (digits:List UInt8) (scale:Nat) (hd:digits.length≤10000000000) (hs:scale≤10000000000):AFn Tryz.prog G 95 [.bool neg,.str digits,.int .i64 scale] (.tup [(yF neg digits scale).1.enc,.int .i64 (yF neg digits scale).2]):=by
 refine AFn.introU tok Tryz.func95 (by kernel_rfl) rfl rfl ?_
 simp only [Tryz.f95,qH,List.map_cons,List.map_nil]
 have hstr:(qV digits).length≤digits.length:=zDH digits
 refine rgn [] [[],[0,1,2,6]] ?_
 iterate 2 refine op1 tok ?_
 refine qA (rgn [.nilp,.str (qV digits)] [[],[],[0,1,2,6]] ?_)
 iterate 3 refine op1 tok ?_ (hv:=by first | with_reducible exact True.intro | (exact qOH digits 48 (by decide); done) | omega | simp | (simp +contextual; omega))
 refine qA (AW.seq (AW.block ?_))
 refine AW.loop (α:=List UInt8 × Nat) (fun a=>wZ (qV digits) scale=wZ a.1 a.2∧a.2≤scale∧a.1.length≤digits.length) (fun a=>⟨qS 40 [(0,.p (.bool neg)),(1,.p (.str a.1)),(2,.p (.int .i64 a.2)),(6,.ptr 6 0)],[],[(6,.vars 26 [.p (.bool false),.p (.str []),.p (.int .i64 0)])],0⟩) (fun a=>a.2) ((qV digits,scale)) ⟨rfl,Nat.le_refl _,hstr⟩ ⟨qB (by simp),rfl,by simp,by simp⟩ ?_
 rintro ⟨d,k⟩ ⟨ht,hk,hdl⟩
 simp only at ht hk hdl
 have hsf:=qOJ (G:=G) d 48
 refine AW.seq (rgn [.nilp,.bool (decide (d.getLast?=some 48))] [[],[],[],[],[],[0,1,2,6,15]] ?_)
 iterate 3 refine op1 tok ?_ (hv:=by first | with_reducible exact True.intro | (first | exact fun h=>⟨h,hsf⟩ | simp; done) | omega | simp | (simp +contextual; omega))
 iterate 2 refine op2 tok ?_ (hv:=by first | with_reducible exact True.intro | (first | exact fun h=>⟨h,hsf⟩ | simp; done) | omega | simp | (simp +contextual; omega))
 refine op1 tok ?_ (hv:=by first | with_reducible exact True.intro | (first | exact fun h=>⟨h,hsf⟩ | simp; done) | omega | simp | (simp +contextual; omega))
 refine qA (cnd ?_ ?_)
 ·intro h15
  try simp at h15
  obtain ⟨k,rfl⟩:∃ k',k=k'+1:=⟨k-1,by omega⟩
  have hl:d.getLast?=some 48:=by simpa using h15.2
  have hpos:0<d.length:=by cases d with
   | nil=>simp at hl
   | cons=>simp
  have ht':wZ (qV digits) scale=wZ d.dropLast k:=by rw [ht]; simp only [wZ]; rw [if_pos hl]
  refine AW.skip (AW.block (rgz [] [[],[],[],[],[0,2,6,20],[],[],[],[0,1,2,6]] ?_))
  iterate 9 refine op1 tok ?_ (hv:=by first | with_reducible exact True.intro | (omega; done) | omega | simp | (simp +contextual; omega))
  refine qA ?_
  exact ⟨(d.dropLast,k),⟨ht',by simp only []; omega,by simp; omega⟩,by simp,qB (by simp [xV]),rfl,by simp [xV],by simp [xV]⟩
 intro h15
 try simp at h15
 have htl:wZ (qV digits) scale=(d,k):=by
  rw [ht]
  cases k with
  | zero=>rfl
  | succ k =>
   simp only [wZ]
   rw [if_neg]
   intro hl
   have:=h15 (by omega)
   simp [hl] at this
 have hN:yF neg digits scale=if d=[] then (⟨false,[48],0⟩,0) else if 60<d.length∨60<k then (⟨false,[],0⟩,3) else (⟨neg,d,k⟩,0):=by unfold yF; simp only [htl]
 rw [hN]
 refine AW.exit ?_
 simp
 refine AW.seq (AW.block (rgn [] [[],[],[0,1,2,6,23]] ?_))
 iterate 3 refine op1 tok ?_
 refine qA (cnd ?_ ?_)
 ·intro h23
  try simp at h23
  subst h23
  refine rgn [] [[],[],[6,7]] ?_
  iterate 3 refine op1 tok ?_
  exact qA (AW.ret qG)
 intro h23
 try simp at h23
 rw [if_neg h23]
 refine rgn [] [[],[],[],[],[],[0,1,2,6,31,33],[],[0,1,2,6,27]] ?_
 iterate 4 refine op1 tok ?_
 iterate 2 refine op2 tok ?_
 iterate 2 refine op1 tok ?_
 refine qA (cnd ?_ ?_)
 ·intro h27
  try simp at h27
  rw [if_pos (by omega)]
  refine rgn [] [[],[],[6,7]] ?_
  iterate 3 refine op1 tok ?_
  exact qA (AW.ret qG)
 intro h27
 try simp at h27
 rw [if_neg (by omega)]
 refine AW.skip (rgn [] [[],[],[],[6,39],[],[6,7]] ?_)
 iterate 6 refine op1 tok ?_
 exact qA (AW.ret qG)
theorem zCP (l:List UInt8) (hl:l.length≤1000000):AX Tryz.prog G 94 [.ms 90] [(90,.row 5 1 (zM l))] (.tuple []) [90] [(90,.row 5 1 (zM l.reverse))]:=by
 refine AX.introU tok 700 Tryz.func94 (by kernel_rfl) rfl rfl ?_
 simp only [Tryz.f94,qH,List.map_cons,List.map_nil]
 refine rgn [] [[],[],[],[],[0,2,3]] ?_
 iterate 5 refine op1 tok ?_
 refine qA (AW.block ?_)
 refine AW.loop (α:=Nat) (fun k=>k≤l.length) (fun k=>⟨qS 28 [(0,.ms 90),(2,.p (.int .i64 k)),(3,.p (.int .i64 ((l.length:Int)-1-k)))],[90],[(90,.row 5 1 (zM (qKM l k)))],700⟩) (fun k=>l.length-k) (0) (by omega) ⟨qB (by simp),rfl,by simp [qWE],by simp⟩ ?_
 rintro k hk
 have hlen:=uM l k
 refine AW.seq (rgn [] [[],[],[0,2,3,9]] ?_)
 iterate 3 refine op1 tok ?_
 refine qA (cnd ?_ ?_)
 ·intro h9
  try simp at h9
  have h2:2 * k+1<l.length:=by omega
  have g1:=uN l k (i:=k) (by omega)
  have g2:=uN l k (i:=l.length-1-k) (by omega)
  rw [if_neg (by omega)] at g1 g2
  have hst:=qWF l h2
  generalize l.getD k 0=x at *
  generalize l.getD (l.length-1-k) 0=y at *
  generalize qKM l k=R at *
  have hix:((l.length:Int)-1-k).toNat=l.length-1-k:=by omega
  have b1:(zM R)[k]?=some (.int .u8 x.toNat):=vN g1
  have b2:(zM R)[l.length-1-k]?=some (.int .u8 y.toNat):=vN g2
  have b3:((zM R).set k (.int .u8 y.toNat))[l.length-1-k]?=some (.int .u8 y.toNat):=by rw [List.getElem?_set_ne (by omega)]; exact b2
  refine AW.skip (AW.seq (AW.block ?_))
  refine AW.drawR mixed 14 [[0],[2],[0],[3],[0],[3],[18,19],[20],[0],[2],[22,23],[24],[14,15],[26,21]] [.int .u8 y.toNat,.int .u8 x.toNat] (by kernel_rfl) ?_
  iterate 2 refine zB.one tok (orc:=[]) (by intro C; conv=>lhs; simp) (by first | with_reducible exact True.intro | (first | (simp [b1,b2,hix,hlen]; done) | (simp [b1,b2,hix,hlen]; omega); done) | omega | simp | (simp +contextual; omega)) rfl (by kernel_rfl) ?_
  refine zB.q [90] (.ms 90) rfl (qAD tok (orc:=[]) (orc':=[]) (v:=True) (by conv=>lhs; simp) trivial) (by simp) (by kernel_rfl) (by conv=>lhs; simp) ?_
  iterate 4 refine zB.one tok (orc:=[]) (by intro C; conv=>lhs; simp) (by first | with_reducible exact True.intro | (first | (simp [b1,b2,hix,hlen]; done) | (simp [b1,b2,hix,hlen]; omega); done) | omega | simp | (simp +contextual; omega)) rfl (by kernel_rfl) ?_
  refine zB.one tok (orc:=[.int .u8 y.toNat]) (by intro C; conv=>lhs; simp) (by first | with_reducible exact True.intro | (first | (simp [b1,b2,hix,hlen]; done) | (simp [b1,b2,hix,hlen]; omega); done) | omega | simp | (simp +contextual; omega)) rfl (by kernel_rfl) ?_
  iterate 3 refine zB.one tok (orc:=[]) (by intro C; conv=>lhs; simp) (by first | with_reducible exact True.intro | (first | (simp [b1,b2,hix,hlen]; done) | (simp [b1,b2,hix,hlen]; omega); done) | omega | simp | (simp +contextual; omega)) rfl (by kernel_rfl) ?_
  refine zB.one tok (orc:=[.int .u8 x.toNat]) (by intro C; conv=>lhs; simp) (by first | with_reducible exact True.intro | (first | (simp [b1,b2,hix,hlen]; done) | (simp [b1,b2,hix,hlen]; omega); done) | omega | simp | (simp +contextual; omega)) rfl (by kernel_rfl) ?_
  refine zB.one tok (orc:=[]) (by intro C; conv=>lhs; simp) (by first | with_reducible exact True.intro | (first | (simp [b1,b2,hix,hlen]; done) | (simp [b1,b2,hix,hlen]; omega); done) | omega | simp | (simp +contextual; omega)) rfl (by kernel_rfl) ?_
  refine zB.one tok (orc:=[.int .u8 x.toNat,.int .u8 y.toNat]) (by intro C; conv=>lhs; simp) (by first | with_reducible exact True.intro | (first | (simp [b1,b2,hix,hlen]; done) | (simp [b1,b2,hix,hlen]; omega); done) | omega | simp | (simp +contextual; omega)) rfl (by kernel_rfl) ?_
  refine zB.nil (by kernel_rfl) ⟨by kernel_rfl, ?_⟩
  refine qF.run [[],[0,2,3]] ?_
  iterate 2 refine op1 tok ?_ (hv:=by first | with_reducible exact True.intro | (first | (simp [b3,hix,hlen]; done) | (simp [b3,hix,hlen]; omega); done) | omega | simp | (simp +contextual; omega))
  refine qA (rgz [] [[],[],[],[0,11,13],[],[0,2,3]] ?_)
  iterate 6 refine op1 tok ?_
  refine qA ?_
  exact ⟨k+1,by omega,by omega,qB (by simp [← hst,qBZ,show (l.length:Int)-1-k-1=l.length-1-(k+1) from by omega]),rfl,by simp [← hst,qBZ,show (l.length:Int)-1-k-1=l.length-1-(k+1) from by omega],by simp [← hst,qBZ,show (l.length:Int)-1-k-1=l.length-1-(k+1) from by omega]⟩
 intro h9
 try simp at h9
 have hall:=qYY l (k:=k) (by omega)
 rw [← hall]
 refine AW.exit ?_
 simp
 exact qCV
theorem qYC (n:Int) (h0 : -9223372036854775808≤n) (h1:n≤9223372036854775807):AFn Tryz.prog G 64 [.int .i64 n] ((qJJ n).enc):=by
 refine AFn.introU tok Tryz.func64 (by kernel_rfl) rfl rfl ?_
 simp only [Tryz.f64,qH,List.map_cons,List.map_nil]
 have hU:n.natAbs<10 ^ 20:=by omega
 have hdl:=qJP 20 n.natAbs hU
 have hmd:=qUR (G:=G) (decide (n<0)) (xT n.natAbs) 0 (by omega) (by omega)
 have hI:qJJ n=(yF (decide (n<0)) (xT n.natAbs) 0).1:=rfl
 rw [hI]
 generalize yF (decide (n<0)) (xT n.natAbs) 0=r1 at *
 obtain ⟨q1,e1⟩:=r1
 simp only [Dc.enc] at hmd
 refine rgn [] [[]] ?_
 refine op1 tok ?_
 refine qA (rgn [] [[],[],[0,2,3]] ?_)
 iterate 3 refine op1 tok ?_
 refine qA ?_
 refine AW.join (α:=Unit) (fun _=>True) (fun a=>⟨qS 35 [(0,.p (.int .i64 n)),(2,.ptr 2 0),(3,.p (.int .u64 (n.natAbs:Nat)))],[],[(2,.vars 26 [.p (.bool false),.p (.str []),.p (.int .i64 0)])],0⟩) ?_ ?_
 ·
  refine rgn [] [[],[0,2,3,10]] ?_
  iterate 2 refine op1 tok ?_
  refine qA (cnd ?_ ?_)
  ·intro h10
   try simp at h10
   have hw:IntKind.u64.wrap (-(IntKind.u64.wrap n))=(n.natAbs:Nat):=by simp [IntKind.wrap,IntKind.bits,IntKind.signed]; omega
   refine rgz [] [[],[],[0,2,3]] ?_
   iterate 3 refine op1 tok ?_
   refine qA ?_
   exact ⟨(),trivial,qB (by simp [hw]),rfl,by simp [hw],by simp [hw]⟩
  intro h10
  try simp at h10
  have hw:IntKind.u64.wrap n=(n.natAbs:Nat):=by simp [IntKind.wrap,IntKind.bits,IntKind.signed]; omega
  refine AW.skip ?_
  exact ⟨(),trivial,qB (by simp [hw]),rfl,by simp [hw],by simp [hw]⟩
 ·
  rintro a hI
  refine rgn [] [[]] ?_
  refine op1 tok ?_
  refine qA (AW.seq (AW.block ?_))
  refine AW.beginE 4 90 5 1 (by simp) (by simp) (by conv=>lhs; simp) ?_
  refine AW.loop (α:=Nat × List UInt8) (fun s=>xT n.natAbs=xT s.1++s.2.reverse∧s.1≤n.natAbs) (fun s=>⟨qS 35 [(0,.p (.int .i64 n)),(2,.ptr 2 0),(3,.p (.int .u64 (s.1:Nat))),(4,.ms 90)],[],[(2,.vars 26 [.p (.bool false),.p (.str []),.p (.int .i64 0)]),(90,.row 5 1 (zM s.2))],0⟩) (fun s=>s.1) ((n.natAbs,[])) ⟨by simp,Nat.le_refl _⟩ ⟨qB (by simp),rfl,by simp [zM],by simp⟩ ?_
  rintro ⟨u,l⟩ ⟨hu,hle⟩
  simp only at hu hle
  have hll:l.length≤20:=by have:=congrArg List.length hu; simp at this; omega
  refine AW.seq (rgn [] [[],[0,2,3,4,14]] ?_)
  iterate 2 refine op1 tok ?_
  refine qA (cnd ?_ ?_)
  ·intro h14
   try simp at h14
   have hup:0<u:=by omega
   rw [qJO hup,List.append_assoc] at hu
   have hd:u % 10<10:=Nat.mod_lt _ (by decide)
   have dm:(u:Int).tmod 10=((u % 10:Nat):Int):=(Int.ofNat_tmod u 10).symm
   have dc:IntKind.u8.wrap (IntKind.u64.wrap (48+(u:Int) % 10))=((UInt8.ofNat (48+u % 10)).toNat:Int):=by
    rw [show (UInt8.ofNat (48+u % 10)).toNat=48+u % 10 by rw [UInt8.toNat_ofNat']; omega,show (u:Int) % 10=((u % 10:Nat):Int) from rfl]
    simp [IntKind.wrap,IntKind.bits,IntKind.signed]; omega
   have dq:IntKind.u64.wrap ((u:Int) / 10)=((u / 10:Nat):Int):=by simp [IntKind.wrap,IntKind.bits,IntKind.signed]; omega
   generalize UInt8.ofNat (48+u % 10)=D at *
   refine AW.skip (AW.seq (AW.block (rgz [.int .u8 D.toNat] [[],[],[],[],[0,2,3,17,21],[],[],[0,2,3,4]] ?_)))
   iterate 8 refine op1 tok ?_ (h:=by intro C; conv=>lhs; simp [dm,dc]) (hv:=by first | with_reducible exact True.intro | ((simp [dm,dc]); done) | omega | simp | (simp +contextual; omega))
   refine qA (rgz [] [[],[],[0,2,3,4]] ?_)
   iterate 3 refine op1 tok ?_
   refine qA ?_
   exact ⟨(u / 10,l++[D]),⟨by simp only [List.reverse_append,List.reverse_singleton]; exact hu,by simp only; omega⟩,by simp only; omega,qB (by simp [dq,zM]),rfl,by simp [dq,zM],by simp [dq,zM]⟩
  intro h14
  try simp at h14
  obtain rfl:u=0:=by omega
  rw [uW,List.nil_append] at hu
  have hrv:=zCP (G:=G) l (by omega)
  rw [← hu] at hrv
  refine AW.exit ?_
  simp
  refine rgn [] [[]] ?_
  refine op1 tok ?_
  refine zX ?_
  refine qF.stepK [0,2,4] (uC rfl hrv (by simp)) (by conv=>lhs; simp) rfl ?_
  refine qF.nil ?_
  refine rgn [.str (xT n.natAbs),.nilp,.tup [q1.enc,.int .i64 e1]] [[],[],[],[2,28,30],[],[],[],[2,32,33],[],[],[2,5]] ?_
  iterate 11 refine oq1 tok hmd ?_
  refine qA (rgn [] [[],[2]] ?_)
  iterate 2 refine op1 tok ?_
  exact qA (AW.ret qG)
def qZP (runes:List UInt8→Nat) (v:Val) (m:Int):Val :=
 if v.kind=1 then zFI 0 m else if v.kind=5 then zFI (runes v.text) m else if v.kind=6∨v.kind=7 then zFI v.kids.length m
 else if v.kind=4 then .mk 4 m ⟨false,v.num.digits,v.num.scale⟩ [] [] [] 0 else wD 40 m
def qKP {α:Type} [DecidableEq α] (l:List α) (x:α):Int:=if x∈l then (l.idxOf x:Int) else -1
theorem zDF {α:Type} [DecidableEq α] {l:List α} {k:Nat} {x:α} (hk:k<l.length) (hx:l[k]?=some x) (hno:x ∉ l.take k):qKP l x=k:=by
 have hm:x∈l:=List.mem_of_getElem? hx
 unfold qKP; rw [if_pos hm]
 have:l.idxOf x=k:=by
  obtain ⟨h1,h2⟩:=List.getElem?_eq_some_iff.1 hx
  have h3:=List.take_append_drop k l
  rw [← h3,List.idxOf_append,if_neg hno,List.drop_eq_getElem_cons h1,h2,List.idxOf_cons_self]
  simp; omega
 rw [this]
theorem zDE {α:Type} [DecidableEq α] (l:List α) (x:α):0≤qKP l x↔x∈l:=by
 unfold qKP; split <;> simp [*]
theorem zAC (l:List Int) (s:Int):AFn Tryz.prog G 206 [.sl 1 (l.map (PD.int .i64)),.int .i64 s] (.int .i64 (qKP l s)):=by
 refine AFn.introU tok Tryz.func206 (by kernel_rfl) rfl rfl ?_
 simp only [Tryz.f206,qH,List.map_cons,List.map_nil]
 refine rgn [] [[0,1]] ?_
 refine op1 tok ?_
 refine qA (AW.seq (rgn [] [[],[],[0,1,7,8]] ?_))
 iterate 3 refine op1 tok ?_
 refine qA (AW.block ?_)
 refine AW.intFactU (i:=7) rfl (by decide) ?_; intro hlen; simp at hlen
 refine AW.loop (α:=Nat) (fun k=>k≤l.length∧s ∉ l.take k) (fun k=>⟨qS 19 [(0,.p (.sl 1 (l.map (PD.int .i64)))),(1,.p (.int .i64 s)),(7,.p (.int .i64 l.length)),(8,.p (.int .i64 k))],[],[],0⟩) (fun k=>l.length-k) (0) ⟨by omega,by simp⟩ ⟨qB (by simp),rfl,by simp,by simp⟩ ?_
 rintro k ⟨hk,hno⟩
 refine rgn [] [[]] ?_
 refine op1 tok ?_
 refine qA (AW.seq (cnd ?_ ?_))
 ·intro h9
  try simp at h9
  obtain ⟨x,hx⟩:∃ x,l[k]?=some x:=⟨l[k],by simp [h9]⟩
  refine AW.skip (AW.seq (AW.block (rgn [] [[],[0,1,5,7,8]] ?_)))
  iterate 2 refine op1 tok ?_
  refine qA (rgn [.int .i64 x] [[],[],[],[],[],[0,1,5,7,8,16]] ?_)
  iterate 6 refine op1 tok ?_ (hv:=by first | with_reducible exact True.intro | (simp [hx]; done) | omega | simp | (simp +contextual; omega))
  refine qA (cnd ?_ ?_)
  ·intro h16
   try simp at h16
   have hR:qKP l s=k:=zDF h9 (h16 ▸ hx) hno
   refine rgn [] [[],[4]] ?_
   iterate 2 refine op1 tok ?_
   refine qA ?_
   exact AW.ret (qG (k:=by simp [hR]))
  intro h16
  try simp at h16
  refine AW.skip (rgz [] [[],[0,1,7,8]] ?_)
  iterate 2 refine op1 tok ?_
  refine qA ?_
  exact ⟨k+1,⟨by omega,by rw [List.take_add_one,hx]; simp; exact ⟨hno,h16⟩⟩,by omega,qB (by simp),rfl,by simp,by simp⟩
 intro h9
 try simp at h9
 have hR:qKP l s = -1:=by rw [List.take_of_length_le h9] at hno; unfold qKP; rw [if_neg hno]
 refine AW.exit ?_
 simp
 refine rgn [] [[]] ?_
 refine op1 tok ?_
 refine qA ?_
 exact AW.ret (qG (k:=by simp [hR]))
theorem zAD (l:List Int) (s:Int):AFn Tryz.prog G 169 [.sl 1 (l.map (PD.int .i64)),.int .i64 s] (.bool (decide (s∈l))):=by
 refine AFn.introU tok Tryz.func169 (by kernel_rfl) rfl rfl ?_
 simp only [Tryz.f169,qH,List.map_cons,List.map_nil]
 have h1:=zAC (G:=G) l s
 have h2:decide (s∈l)=decide (0≤qKP l s):=decide_eq_decide.2 (zDE l s).symm
 rw [h2]
 generalize qKP l s=i at *
 refine rgn [] [[0,1]] ?_
 refine op1 tok ?_
 refine qA (rgn [.nilp,.int .i64 i] [[],[],[7],[],[4]] ?_)
 iterate 5 refine oq1 tok h1 ?_
 exact qA (AW.ret qG)
theorem qSW (l:List Val) (g:FuncId) (cs:List PD) (p:Val→Bool) (hg:∀ v∈l,AFn Tryz.prog G g [v.enc,.ref cs] (.bool (p v))):AFn Tryz.prog G 156 [.sl 9 (l.map Val.enc),.clo g [.ref cs]] (.int .i64 (match l.findIdx? p with | some i=>(i:Int) | none => -1)):=by
 refine AFn.introU tok Tryz.func156 (by kernel_rfl) rfl rfl ?_
 simp only [Tryz.f156,qH,List.map_cons,List.map_nil]
 refine rgn [] [[0,1]] ?_
 refine op1 tok ?_
 refine qA (AW.seq (rgn [] [[],[],[0,1,7,8]] ?_))
 iterate 3 refine op1 tok ?_
 refine qA (AW.block ?_)
 refine AW.intFactU (i:=7) rfl (by decide) ?_; intro hlen; simp at hlen
 refine AW.loop (α:=Nat) (fun k=>k≤l.length∧(l.take k).all (fun v => !p v)=true) (fun k=>⟨qS 19 [(0,.p (.sl 9 (l.map Val.enc))),(1,.p (.clo g [.ref cs])),(7,.p (.int .i64 l.length)),(8,.p (.int .i64 k))],[],[],0⟩) (fun k=>l.length-k) (0) ⟨by omega,rfl⟩ ⟨qB (by simp),rfl,by simp,by simp⟩ ?_
 rintro k ⟨hk,hall⟩
 refine rgn [] [[]] ?_
 refine op1 tok ?_
 refine qA (AW.seq (cnd ?_ ?_))
 ·intro h9
  try simp at h9
  obtain ⟨v,hv⟩:∃ v,l[k]?=some v:=⟨l[k],by simp [h9]⟩
  have hgv:=hg v (List.mem_of_getElem? hv)
  refine AW.skip (AW.seq (AW.block (rgn [] [[],[0,1,5,7,8]] ?_)))
  iterate 2 refine op1 tok ?_
  refine qA (rgn [v.enc,.nilp,.bool (p v)] [[],[],[],[],[],[0,1,5,7,8,16]] ?_)
  iterate 6 refine op1 tok ?_ (hv:=by first | with_reducible exact True.intro | (first | (simp [hv]; done) | (simp at hgv ⊢; exact hgv); done) | omega | simp | (simp +contextual; omega))
  refine qA (cnd ?_ ?_)
  ·intro h16
   try simp at h16
   have hf:l.findIdx? p=some k:=by
    rw [List.findIdx?_eq_some_iff_getElem]
    have h9':=h9
    refine ⟨h9, ?_,fun j hj => ?_⟩
    ·rw [List.getElem?_eq_getElem h9] at hv; cases hv; exact h16
    have:=List.all_eq_true.1 hall (l[j]'(by omega)) (List.mem_iff_getElem.2 ⟨j,by simp; omega,by simp⟩)
    simpa using this
   refine rgn [] [[],[4]] ?_
   iterate 2 refine op1 tok ?_
   refine qA ?_
   exact AW.ret (qG (k:=by simp [hf]))
  intro h16
  try simp at h16
  refine AW.skip (rgz [] [[],[0,1,7,8]] ?_)
  iterate 2 refine op1 tok ?_
  refine qA ?_
  exact ⟨k+1,⟨by omega,by rw [List.take_add_one,hv,List.all_append,hall]; simpa using h16⟩,by omega,qB (by simp),rfl,by simp,by simp⟩
 intro h9
 try simp at h9
 rw [List.take_of_length_le h9] at hall
 have hf:l.findIdx? p=none:=by
  rw [List.findIdx?_eq_none_iff]; intro x hx; simpa using List.all_eq_true.1 hall x hx
 refine AW.exit ?_
 simp
 refine rgn [] [[]] ?_
 refine op1 tok ?_
 refine qA ?_
 exact AW.ret (qG (k:=by simp [hf]))
theorem qKS (l:List Val) (g:FuncId) (cs:List PD) (p:Val→Bool) (hg:∀ v∈l,AFn Tryz.prog G g [v.enc,.ref cs] (.bool (p v))):AFn Tryz.prog G 113 [.sl 9 (l.map Val.enc),.clo g [.ref cs]] (.bool (l.any p)):=by
 refine AFn.introU tok Tryz.func113 (by kernel_rfl) rfl rfl ?_
 simp only [Tryz.f113,qH,List.map_cons,List.map_nil]
 have hi:=qSW l g cs p hg
 have ha:l.any p=decide (0≤(match l.findIdx? p with | some i=>(i:Int) | none => -1)):=by
  cases h:l.findIdx? p with
  | none=>simp; intro x hx; simpa using List.findIdx?_eq_none_iff.1 h x hx
  | some i =>
   obtain ⟨h1,h2,_⟩:=List.findIdx?_eq_some_iff_getElem.1 h
   simp; exact ⟨_,List.getElem_mem h1,h2⟩
 rw [ha]
 generalize (match l.findIdx? p with | some i=>(i:Int) | none => -1)=n at *
 refine rgn [] [[0,1]] ?_
 refine op1 tok ?_
 refine qA (rgn [.nilp,.int .i64 n] [[],[],[7],[],[4]] ?_)
 iterate 5 refine oq1 tok hi ?_
 exact qA (AW.ret qG)
section
end
open Go.Shelf Go.RowKit
section
variable {P:Program} {ρ:Ren}
end
@[simp] theorem zFQ (a s:List UInt8):zM (a++s)=zM a++s.map fun b => .int .u8 b.toNat:=by simp [zM]
@[simp] theorem zFP:zM []=[]:=rfl
theorem qJI:Builder.Extra Tryz.prog Tryz.lays156_ren where
 sizeBuilder:=by kernel_rfl
 liesBuilder:=by kernel_rfl
 t5:=Tryz.underlying5
 a5:=Tryz.isAgg5
 z5:=Tryz.sizeOf5
 v5:=Tryz.zeroValue5
 infoByte:=by kernel_rfl
 cellsByte:=by kernel_rfl
 sizeByte:=by kernel_rfl
 neB5:=by decide
def qXW (s:List UInt8):ByteArray:=⟨s.toArray⟩
theorem zDS {ba:ByteArray} {s:List UInt8} (h:ba.data.toList=s):ba=qXW s:=by
 subst h; rfl
theorem qRF (l:List (List UInt8)):(l.map qXW).map (·.data.toList)=l:=by
 rw [List.map_map]; conv=>rhs; rw [← List.map_id l]
 exact List.map_congr_left fun s _=>by simp [qXW]
theorem zDW (l:List (List UInt8)) (sep:List UInt8) (hN:l.length≤140737488355328) (h:(Lib.join l sep).length≤140737488355328):AFn Tryz.prog G 135 [.sl 1 (l.map PD.str),.str sep] (.str (Lib.join l sep)):=by
 refine AFn.of_calls (vY Tryz.func135 (by kernel_rfl) rfl) fun M w vs hg hmem hsz hrd => ?_
 obtain ⟨vl⟩:=vs
 match vl,hsz with
 | [u,v],_ =>
 have h1:=hrd 0 u _ rfl rfl
 have h2:=hrd 1 v _ rfl rfl
 cases h2 with
 | @str sb _ hsb hsl =>
 subst hsb
 cases h1 with
 | @sl a n c _ _ b o hn hnc hcm ha h5 h6 h7 =>
 rw [List.length_map] at hn
 have hml:(Lib.join l sb.data.toList).length≤maxLen:=by simp only [maxLen]; omega
 by_cases hk:l=[]
 ·subst hk; simp at hn; subst hn
  refine (Any.strings_Join_none Tryz.lays156 qJI a c sb w).mono ?_
  rintro e w' ⟨rfl,rfl⟩
  exact ⟨_,rfl,.str (by simp [Lib.join_nil]) (by simpa using hml),RowKit.Below.refl _ _⟩
 have hpos:0<l.length:=List.length_pos_iff.2 hk
 obtain rfl:=ha (by omega)
 have hcell:∀ j x,(l.map qXW)[j]?=some x→w.cell? ⟨b,o+j,none⟩=some (.string x):=fun j x hx=>by
  rw [List.getElem?_map,Option.map_eq_some_iff] at hx
  obtain ⟨s,hs,rfl⟩:=hx
  have hgt:(l.map PD.str)[j]?=some (.str s):=by rw [List.getElem?_map,hs]; rfl
  obtain ⟨u,hu,_⟩:=h6 j _ 0 hgt (by omega)
  have h8:=h7 j _ 0 _ u hgt rfl hu
  cases h8 with
  | @str ba _ hba hl =>
  have:=hmem _ _ _ hu
  simp only [Nat.mul_one,Nat.add_zero] at this
  rw [this,zDS hba]
 have hlt:b<w.heap.size:=by
  obtain ⟨x,r,rfl⟩:∃ x r,l=x::r:=by
   cases l with
   | nil=>exact (hk rfl).elim
   | cons x r=>exact ⟨x,r,rfl⟩
  exact yW (hcell 0 (qXW x) rfl)
 have hc:=Any.strings_Join Tryz.lays156 qJI b o c (l.map qXW) sb w hcell hlt (by rw [List.length_map]; exact hN) (by rw [List.length_map]; omega) (by rw [qRF]; exact h)
 rw [List.length_map,← hn] at hc
 refine hc.mono ?_
 rintro e w' ⟨rfl,hb⟩
 rw [qRF]
 exact ⟨_,rfl,.str (by simp) (by simpa using hml),hb⟩
def zJQ (c:Int):List UInt8:=if c<10 then [UInt8.ofNat (48+c.toNat)] else [UInt8.ofNat (48+c.toNat / 10),UInt8.ofNat (48+c.toNat % 10)]
def zLD:List (List UInt8)→List (List UInt8)→List (List UInt8):=List.zipWith fun k p=>qZB k++[58]++p
mutual
def qSE:Val→List UInt8
 | .mk k _ n t ks vs c=>if k=1 then zHG else if k=2 then zEV else if k=3 then zHF else if k=4 then zGG n else if k=5 then qZB t else if k=8 then 33::zJQ c else if k=7 then [123]++Lib.join (zLD ks (qNH vs)) [44]++[125] else [91]++Lib.join (qNH vs) [44]++[93]
def qNH:List Val→List (List UInt8)
 | []=>[]
 | v::vs=>qSE v::qNH vs
end
theorem qWR {v : Val} (h : zC v = true) (hc : v.kind ≠ 8) : v.code = 0 ∧ v.kids.length ≤ 200 ∧
  ((v.kind=1∧v.num=dc0∧v.text=[]∧v.keys=[]∧v.kids=[])∨(v.kind=2∧v.num=dc0∧v.text=[]∧v.keys=[]∧v.kids=[])∨(v.kind=3∧v.num=dc0∧v.text=[]∧v.keys=[]∧v.kids=[]) ∨
   (v.kind=4∧zP v.num=true∧v.text=[]∧v.keys=[]∧v.kids=[])∨(v.kind=5∧v.num=dc0∧qBD v.text=true∧v.keys=[]∧v.kids=[]) ∨
   (v.kind=6∧v.num=dc0∧v.text=[]∧v.keys=[])∨(v.kind=7∧v.num=dc0∧v.text=[]∧v.keys.length=v.kids.length∧qLY v.keys=true)):=by
 rw [xQ] at h
 simp only [Bool.and_eq_true,qAT,qBK,decide_eq_true_eq] at h
 obtain ⟨⟨⟨b1,b2,b3⟩,⟨⟨⟨⟨c1,c2⟩,c3⟩,c4⟩,c5⟩⟩,_⟩:=h
 have hcode:v.code=0:=by
  unfold qVD at c1
  simp [hc] at c1
  exact c1
 refine ⟨hcode,b3, ?_⟩
 unfold qZG at c2
 unfold qTX at c3
 unfold qFP at c4
 unfold qUV at c5
 have hnum:v.kind≠4→v.num=dc0:=fun h4=>by
  rw [if_neg h4] at c2
  simp only [decide_eq_true_eq] at c2
  exact Dc.ext' c2.1 c2.2.1 c2.2.2
 have htxt:v.kind≠5→v.text=[]:=fun h4=>by rw [if_neg h4] at c3; simpa using c3
 have hkey:v.kind≠7→v.keys=[]:=fun h4=>by rw [if_neg h4] at c4; simpa using c4
 have hkid:v.kind≠6→v.kind≠7→v.kids=[]:=fun h6 h7=>by simpa [h6,h7] using c5
 have hk:v.kind=1∨v.kind=2∨v.kind=3∨v.kind=4∨v.kind=5∨v.kind=6∨v.kind=7:=by omega
 rcases hk with k | k | k | k | k | k | k
 ·exact .inl ⟨k,hnum (by omega),htxt (by omega),hkey (by omega),hkid (by omega) (by omega)⟩
 ·exact .inr (.inl ⟨k,hnum (by omega),htxt (by omega),hkey (by omega),hkid (by omega) (by omega)⟩)
 ·exact .inr (.inr (.inl ⟨k,hnum (by omega),htxt (by omega),hkey (by omega),hkid (by omega) (by omega)⟩))
 ·rw [if_pos k] at c2
  exact .inr (.inr (.inr (.inl ⟨k,c2,htxt (by omega),hkey (by omega),hkid (by omega) (by omega)⟩)))
 ·rw [if_pos k] at c3
  exact .inr (.inr (.inr (.inr (.inl ⟨k,hnum (by omega),c3,hkey (by omega),hkid (by omega) (by omega)⟩))))
 ·exact .inr (.inr (.inr (.inr (.inr (.inl ⟨k,hnum (by omega),htxt (by omega),hkey (by omega)⟩)))))
 rw [if_pos k] at c4
 simp only [Bool.and_eq_true,decide_eq_true_eq] at c4
 exact .inr (.inr (.inr (.inr (.inr (.inr ⟨k,hnum (by omega),htxt (by omega),by omega,c4.2⟩)))))
theorem qOW (l:List Val) (h:∀ k∈l,(qSE k).length+25000≤50000 * Val.sz k):((l.map qSE).map List.length).sum+25000 * l.length≤50000 * Val.szL l:=by
 induction l with
 | nil=>simp
 | cons v l ih =>
  have h1:=h v (by simp)
  have h2:=ih fun k hk=>h k (by simp [hk])
  simp only [List.map_cons,List.sum_cons,List.length_cons,Val.szL]; omega
theorem qNV:∀ (x y:List UInt8),x.length=y.length→x.all zJ=true→y.all zJ=true→(Op.bytesLess x y=true↔zK x<zK y)
 | [],[],_,_,_=>by simp [Op.bytesLess]
 | [],_::_,h,_,_=>by simp at h
 | _::_,[],h,_,_=>by simp at h
 | a::x,b::y,h,hx,hy=>by
  simp only [List.all_cons,Bool.and_eq_true] at hx hy
  have hl:x.length=y.length:=by simpa using h
  have ih:=qNV x y hl hx.2 hy.2
  have da:=(wR a).1 hx.1
  have db:=(wR b).1 hy.1
  have lx:=vQ hx.2
  have ly:=vQ hy.2
  rw [kA,kA,hl]
  rw [hl] at lx
  simp only [Op.bytesLess,Bool.or_eq_true,Bool.and_eq_true,decide_eq_true_eq,beq_iff_eq,UInt8.lt_iff_toNat_lt,ih]
  by_cases h1:a.toNat<b.toNat
  ·have:=Nat.mul_le_mul_right (10 ^ y.length) (show a.toNat-48+1≤b.toNat-48 by omega)
   rw [Nat.add_mul,Nat.one_mul] at this
   exact ⟨fun _=>by omega,fun _ => .inl h1⟩
  by_cases h2:a=b
  ·subst h2
   exact ⟨fun h => by rcases h with h | h; · omega
                      ·omega,fun h => .inr ⟨rfl,by omega⟩⟩
  have h3:b.toNat<a.toNat:=by have:a.toNat≠b.toNat:=fun e=>h2 (UInt8.toNat_inj.1 e); omega
  have:=Nat.mul_le_mul_right (10 ^ y.length) (show b.toNat-48+1≤a.toNat-48 by omega)
  rw [Nat.add_mul,Nat.one_mul] at this
  exact ⟨fun h => by rcases h with h | h; · omega
                     ·exact (h2 h.1).elim,fun h=>by omega⟩
theorem qTF:∀ (x y:List UInt8),x.length=y.length→x.all zJ=true→y.all zJ=true→zK x=zK y→x=y
 | [],[],_,_,_,_=>rfl
 | [],_::_,h,_,_,_=>by simp at h
 | _::_,[],h,_,_,_=>by simp at h
 | a::x,b::y,h,hx,hy,he=>by
  simp only [List.all_cons,Bool.and_eq_true] at hx hy
  have hl:x.length=y.length:=by simpa using h
  have da:=(wR a).1 hx.1
  have db:=(wR b).1 hy.1
  have lx:=vQ hx.2
  have ly:=vQ hy.2
  rw [kA,kA,hl] at he
  rw [hl] at lx
  have hab:a.toNat=b.toNat:=by
   by_cases h1:a.toNat<b.toNat
   ·have:=Nat.mul_le_mul_right (10 ^ y.length) (show a.toNat-48+1≤b.toNat-48 by omega)
    rw [Nat.add_mul,Nat.one_mul] at this; omega
   by_cases h3:b.toNat<a.toNat
   ·have:=Nat.mul_le_mul_right (10 ^ y.length) (show b.toNat-48+1≤a.toNat-48 by omega)
    rw [Nat.add_mul,Nat.one_mul] at this; omega
   omega
  rw [hab] at he
  rw [UInt8.toNat_inj.1 hab,qTF x y hl hx.2 hy.2 (by omega)]
theorem qQC {x y:List UInt8} (hx:x.all zJ=true) (hy:y.all zJ=true) (lx:0<x.length) (ly:0<y.length) (h1:qM x 0≠48) (h2:qM y 0≠48) (h:zK x=zK y):x.length=y.length:=by
 have a1:=qBG hx lx h1
 have a2:=qBG hy ly h2
 have b1:=vQ hx
 have b2:=vQ hy
 by_cases h3:x.length<y.length
 ·have:=Nat.pow_le_pow_right (show 0<10 by omega) (show x.length≤y.length-1 by omega); omega
 by_cases h4:y.length<x.length
 ·have:=Nat.pow_le_pow_right (show 0<10 by omega) (show y.length≤x.length-1 by omega); omega
 omega
theorem qFQ {d:Dc} (h:zP d=true):(d.digits=[48]∧d.scale=0∧d.neg=false)∨(qM d.digits 0≠48∧(d.scale=0∨qM d.digits (d.digits.length-1)≠48)):=by
 unfold zP at h
 simp only [Bool.and_eq_true] at h
 obtain ⟨_,h3⟩:=h
 split at h3
 ·rename_i h4; simp at h3; exact .inl ⟨h4,h3.1,h3.2⟩
 simp at h3; exact .inr h3
theorem qZU {s:List UInt8} (h:0<s.length) (hd:s.all zJ=true):((zK s % 10:Nat):Int)=qM s (s.length-1)-48:=by
 obtain ⟨t,b,rfl⟩:∃ t b,s=t++[b]:=⟨s.dropLast,s.getLast (List.length_pos_iff.1 h),(List.dropLast_concat_getLast (List.length_pos_iff.1 h)).symm⟩
 rw [List.all_append] at hd
 simp at hd
 have db:=(wR b).1 hd.2
 rw [qFC]
 have:qM (t++[b]) ((t++[b]).length-1)=(b.toNat:Int):=by simp [qM]
 rw [this]; omega
theorem zFB {a b:Dc} (ha:zP a=true) (hb:zP b=true) (hq:qN a=qN b):a.digits=b.digits∧a.scale=b.scale:=by
 obtain ⟨⟨a1,a2,a3,a4⟩,a5,a6⟩:=wM ha
 obtain ⟨⟨b1,b2,b3,b4⟩,b5,b6⟩:=wM hb
 have la:0<a.digits.length:=by unfold zP at ha; simp at ha; omega
 have lb:0<b.digits.length:=by unfold zP at hb; simp at hb; omega
 have key:∀ a b:Dc,zP a=true→zP b=true→qN a=qN b→a.scale<b.scale→False:=by
  intro a b ha hb hq hlt
  obtain ⟨⟨a1,a2,a3,a4⟩,a5,a6⟩:=wM ha
  obtain ⟨⟨b1,b2,b3,b4⟩,b5,b6⟩:=wM hb
  have lb:0<b.digits.length:=by unfold zP at hb; simp at hb; omega
  rcases qFQ hb with h | h
  ·omega
  have hl:=h.2.resolve_left (by omega)
  unfold qN at hq
  have e:60-a.scale.toNat=((b.scale-a.scale).toNat-1)+1+(60-b.scale.toNat):=by omega
  rw [e,Nat.pow_add,← Nat.mul_assoc] at hq
  have hq':=Nat.eq_of_mul_eq_mul_right (Nat.pow_pos (n:=60-b.scale.toNat) (show 0<10 by omega)) hq
  have h10:zK b.digits % 10=0:=by rw [← hq',Nat.pow_succ,← Nat.mul_assoc]; exact Nat.mul_mod_left _ _
  have h11:=qZU lb b4
  rw [h10] at h11
  have hb':48≤qM b.digits (b.digits.length-1):=by
   obtain ⟨t,c,e⟩:∃ t c,b.digits=t++[c]:=⟨b.digits.dropLast,b.digits.getLast (List.length_pos_iff.1 lb),(List.dropLast_concat_getLast (List.length_pos_iff.1 lb)).symm⟩
   rw [e] at b4 ⊢
   rw [List.all_append] at b4
   simp at b4
   have:=(wR c).1 b4.2
   simp [qM]; omega
  omega
 have hs:a.scale=b.scale:=by
  by_cases h1:a.scale<b.scale
  ·exact (key a b ha hb hq h1).elim
  by_cases h2:b.scale<a.scale
  ·exact (key b a hb ha hq.symm h2).elim
  omega
 refine ⟨?_,hs⟩
 unfold qN at hq
 rw [hs] at hq
 have hv:=Nat.eq_of_mul_eq_mul_right (Nat.pow_pos (n:=60-b.scale.toNat) (show 0<10 by omega)) hq
 have hz:∀ d:Dc,zP d=true→0<d.digits.length→qM d.digits 0≠48→zK d.digits≠0:=fun d hd hl h0 h=>by
  have:=qBG (wM hd).1.2.2.2 hl h0
  have:=Nat.pow_pos (n:=d.digits.length-1) (show 0<10 by omega)
  omega
 have v0:zK [48]=0:=by simp [zK]
 rcases qFQ ha with h1 | h1 <;> rcases qFQ hb with h2 | h2
 ·rw [h1.1,h2.1]
 ·rw [h1.1,v0] at hv; exact (hz b hb lb h2.1 hv.symm).elim
 ·rw [h2.1,v0] at hv; exact (hz a ha la h1.1 hv).elim
 exact qTF _ _ (qQC a4 b4 la lb h1.1 h2.1 hv) a4 b4 hv
def jP (a b:Dc):List UInt8:=a.digits++zE (qY a b-a.scale).toNat
def jO (a b:Dc):List UInt8:=b.digits++zE (qY a b-b.scale).toNat
def alX (p q:List UInt8):List UInt8:=zE ((if p.length<q.length then (q.length:Int) else (p.length:Int))-p.length).toNat++p
def alY (p q:List UInt8):List UInt8:=zE ((if p.length<q.length then (q.length:Int) else (p.length:Int))-q.length).toNat++q
theorem zBG (p q:List UInt8):(alX p q).length=(alY p q).length:=by
 unfold alX alY zE; simp only [List.length_append,List.length_replicate]; split <;> omega
theorem qHT (n:Nat):(zE n).all zJ=true:=List.all_eq_true.2 fun b hb=>by rw [(List.mem_replicate.1 hb).2]; rfl
theorem zGF {p q:List UInt8} (hp:p.all zJ=true) (hq:q.all zJ=true):(alX p q).all zJ=true∧(alY p q).all zJ=true:=by
 unfold alX alY; rw [List.all_append,List.all_append,hp,hq,qHT,qHT]; exact ⟨rfl,rfl⟩
theorem zGE (p q:List UInt8):zK (alX p q)=zK p∧zK (alY p q)=zK q:=by
 unfold alX alY zE; rw [xC,xC,qCX,qCX]; simp
theorem qWW {a b:Dc} (ha:zP a=true) (hb:zP b=true):(Op.bytesLess (alX (jP a b) (jO a b)) (alY (jP a b) (jO a b))=true↔qN a<qN b)∧(Op.bytesLess (alY (jP a b) (jO a b)) (alX (jP a b) (jO a b))=true↔qN b<qN a):=by
 obtain ⟨⟨a1,a2,a3,a4⟩,a5,a6⟩:=wM ha
 obtain ⟨⟨b1,b2,b3,b4⟩,b5,b6⟩:=wM hb
 have hm1:a.scale≤qY a b:=by unfold qY; split <;> omega
 have hm2:b.scale≤qY a b:=by unfold qY; split <;> omega
 have hm3:qY a b≤60:=by unfold qY; split <;> omega
 have dx:(jP a b).all zJ=true:=jK a4 _
 have dy:(jO a b).all zJ=true:=jK b4 _
 have hal:=zGF dx dy
 have hv:=zGE (jP a b) (jO a b)
 have ea:qN a=zK (jP a b) * 10 ^ (60-(qY a b).toNat):=by
  unfold jP zE; rw [qDP,Nat.mul_assoc,← Nat.pow_add,show (qY a b-a.scale).toNat+(60-(qY a b).toNat)=60-a.scale.toNat by omega]; rfl
 have eb:qN b=zK (jO a b) * 10 ^ (60-(qY a b).toNat):=by
  unfold jO zE; rw [qDP,Nat.mul_assoc,← Nat.pow_add,show (qY a b-b.scale).toNat+(60-(qY a b).toNat)=60-b.scale.toNat by omega]; rfl
 have hp:=Nat.pow_pos (n:=60-(qY a b).toNat) (show 0<10 by omega)
 rw [qNV _ _ (zBG _ _) hal.1 hal.2,qNV _ _ (zBG _ _).symm hal.2 hal.1,hv.1,hv.2,ea,eb]
 exact ⟨(Nat.mul_lt_mul_right hp).symm,(Nat.mul_lt_mul_right hp).symm⟩
theorem qPI {a b : Dc} (ha : zP a = true) (hb : zP b = true) (hne : a ≠ b) :
  xU a b=if (if a.neg=b.neg then (if a.neg=true then Op.bytesLess (alY (jP a b) (jO a b)) (alX (jP a b) (jO a b)) else Op.bytesLess (alX (jP a b) (jO a b)) (alY (jP a b) (jO a b))) else a.neg)=true then -1 else 1:=by
 obtain ⟨l1,l2⟩:=qWW ha hb
 by_cases hn:a.neg=b.neg
 ·have hq:qN a≠qN b:=fun h=>by
   obtain ⟨h1,h2⟩:=zFB ha hb h
   exact hne (Dc.ext' hn h1 h2)
  rw [qGC ha hb,if_pos hn]
  unfold qD
  rw [← hn]
  cases a.neg with
  | true =>
   simp only [if_true]
   by_cases h:qN b<qN a
   ·rw [if_pos (l2.2 h)]; unfold sgn; rw [if_pos (by omega)]
   rw [if_neg (fun e=>h (l2.1 e))]; unfold sgn; rw [if_neg (by omega),if_neg (by omega)]
  | false =>
   simp only [Bool.false_eq_true,if_false]
   by_cases h:qN a<qN b
   ·rw [if_pos (l1.2 h)]; unfold sgn; rw [if_pos (by omega)]
   rw [if_neg (fun e=>h (l1.1 e))]; unfold sgn; rw [if_neg (by omega),if_neg (by omega)]
 unfold xU
 rw [if_neg hn,if_neg hn]
theorem qXM {a:Dc} (ha:zP a=true):xU a a=0:=by rw [qGC ha ha]; unfold sgn; rw [if_neg (by omega),if_pos (by omega)]
def qAQ:Nat→Nat→List UInt8
 | 0,_=>[]
 | w+1,v=>UInt8.ofNat (48+v / 10 ^ w % 10)::qAQ w v
theorem qES:∀ w v,(qAQ w v).length=w
 | 0,_=>rfl
 | w+1,v=>by simp [qAQ,qES w v]
theorem qAP {n:Nat} (h:n<10):(UInt8.ofNat (48+n)).toNat=48+n:=by rw [UInt8.toNat_ofNat']; omega
theorem qQN:∀ w v,(qAQ w v).all zJ=true
 | 0,_=>rfl
 | w+1,v=>by
  have h:v / 10 ^ w % 10<10:=Nat.mod_lt _ (by decide)
  simp only [qAQ,List.all_cons,qQN w v,Bool.and_true]
  rw [wR,qAP h]; omega
theorem qQM:∀ w v,zK (qAQ w v)=v % 10 ^ w
 | 0,v=>by simp [qAQ,zK,Nat.mod_one]
 | w+1,v=>by
  have h:v / 10 ^ w % 10<10:=Nat.mod_lt _ (by decide)
  simp only [qAQ]
  rw [kA,qQM w v,qES,qAP h,Nat.mod_pow_succ,Nat.mul_comm (10 ^ w)]
  rw [show 48+v / 10 ^ w % 10-48=v / 10 ^ w % 10 by omega]; omega
def vF (neg:Bool) (v scale:Nat):Dc × Int:=yF neg (Lib.decDigits v) scale
theorem zAQ (u:Nat):zK (Lib.decDigits u)=u:=by
 induction u using Nat.strongRecOn with
 | _ u ih =>
  rw [Lib.decDigits]
  split
  ·rename_i h
   simp only [zK,List.foldl_cons,List.foldl_nil,qAP h]; omega
  rename_i h
  rw [qFC,ih (u / 10) (by omega),qAP (Nat.mod_lt _ (by decide))]; omega
theorem qQQ (u:Nat):(Lib.decDigits u).all zJ=true:=by
 induction u using Nat.strongRecOn with
 | _ u ih =>
  rw [Lib.decDigits]
  split
  ·rename_i h
   simp only [List.all_cons,List.all_nil,Bool.and_true]
   rw [wR,qAP h]; omega
  rename_i h
  rw [List.all_append,ih (u / 10) (by omega)]
  simp only [List.all_cons,List.all_nil,Bool.and_true,Bool.true_and]
  rw [wR,qAP (Nat.mod_lt _ (by decide))]; omega
theorem qFJ:∀ s:List UInt8,zK (qV s)=zK s
 | []=>rfl
 | b::s=>by
  unfold qV
  rw [List.dropWhile_cons]
  by_cases h:b=48
  ·subst h
   simp only [beq_self_eq_true,if_true]
   have:=qFJ s
   unfold qV at this
   rw [this,kA]; simp
  rw [if_neg (by simpa using h)]
theorem qDB (s:List UInt8) (h:0<(qV s).length):qM (qV s) 0≠48:=by
 unfold qV at h ⊢
 have:=List.head?_dropWhile_not (fun b:UInt8=>b == 48) s
 cases hs:s.dropWhile (fun b=>b == 48) with
 | nil=>rw [hs] at h; simp at h
 | cons b r =>
  rw [hs] at this
  simp only [List.head?_cons] at this
  have hb:¬ b=48:=by simpa using this
  unfold qM
  simp only [List.getD_cons_zero]
  intro e
  exact hb (UInt8.toNat_inj.1 (by show b.toNat=48; omega))
theorem uK {s:List UInt8} (h:s.all zJ=true):(qV s).all zJ=true:=by
 rw [List.all_eq_true] at h ⊢
 exact fun b hb=>h b ((List.dropWhile_sublist _).subset hb)
theorem qYU {x y:List UInt8} (hx:x.all zJ=true) (hy:y.all zJ=true) (h:zK x=zK y):qV x=qV y:=by
 rw [← qFJ x,← qFJ y] at h
 have z:∀ s:List UInt8,s.all zJ=true→0<(qV s).length→zK (qV s)≠0:=fun s hs hl e=>by
  have:=qBG (uK hs) hl (qDB s hl)
  have:=Nat.pow_pos (n:=(qV s).length-1) (show 0<10 by omega)
  omega
 by_cases h1:0<(qV x).length
 ·by_cases h2:0<(qV y).length
  ·exact qTF _ _ (qQC (uK hx) (uK hy) h1 h2 (qDB x h1) (qDB y h2) h) (uK hx) (uK hy) h
  have e:qV y=[]:=List.length_eq_zero_iff.1 (by omega)
  rw [e] at h
  exact absurd h (z x hx h1)
 have e:qV x=[]:=List.length_eq_zero_iff.1 (by omega)
 by_cases h2:0<(qV y).length
 ·rw [e] at h
  exact absurd h.symm (z y hy h2)
 rw [e,List.length_eq_zero_iff.1 (show (qV y).length=0 by omega)]
theorem qZI (neg:Bool) {s:List UInt8} (h:s.all zJ=true) (sc:Nat):yF neg s sc=vF neg (zK s) sc:=by
 unfold vF yF
 rw [qYU h (qQQ (zK s)) (zAQ _).symm]
def kN (l m:List Nat):Nat→List Nat × Nat
 | 0=>([],0)
 | i+1=>((kN l m i).1++[(l.getD i 0+m.getD i 0+(kN l m i).2) % qJ],(l.getD i 0+m.getD i 0+(kN l m i).2) / qJ)
def qOF (l m:List Nat):List Nat:=wN ((kN l m (max l.length m.length)).1++[(kN l m (max l.length m.length)).2])
theorem vX {l:List Nat} (h:okL l) (i:Nat):l.getD i 0<qJ:=by
 rw [List.getD_eq_getElem?_getD]
 cases hi:l[i]? with
 | none=>simp [qJ]
 | some x=>exact h x (List.mem_of_getElem? hi)
theorem qDV {l:List Nat} (i:Nat):qL (l.take (i+1))=qL (l.take i)+qJ ^ i * l.getD i 0:=by
 by_cases h:i<l.length
 ·rw [qDA h,yX,List.length_take,Nat.min_eq_left (by omega)]
 rw [List.take_of_length_le (by omega),List.take_of_length_le (by omega)]
 simp [List.getD_eq_getElem?_getD,List.getElem?_eq_none (show l.length≤i by omega)]
theorem qCF (l m:List Nat):∀ i,(kN l m i).1.length=i
 | 0=>rfl
 | i+1=>by simp [kN,qCF l m i]
theorem qGG {l m:List Nat} (hl:okL l) (hm:okL m):∀ i,okL (kN l m i).1∧(kN l m i).2≤1∧qL (kN l m i).1+qJ ^ i * (kN l m i).2=qL (l.take i)+qL (m.take i)
 | 0=>⟨(by intro x hx; cases hx),by simp [kN],by simp [kN,qL]⟩
 | i+1=>by
  obtain ⟨h1,h2,h3⟩:=qGG hl hm i
  have hlen:=qCF l m i
  have a1:=vX hl i
  have a2:=vX hm i
  rw [qDV,qDV]
  simp only [kN]
  generalize kN l m i=A at *
  generalize l.getD i 0=x at *
  generalize m.getD i 0=y at *
  have hd:=Nat.div_add_mod (x+y+A.2) qJ
  have hb:0<qJ:=by decide
  refine ⟨?_, ?_, ?_⟩
  ·intro z hz
   rcases List.mem_append.1 hz with h | h
   ·exact h1 z h
   rw [List.mem_singleton.1 h]; exact Nat.mod_lt _ hb
  ·have:(x+y+A.2) / qJ<2:=(Nat.div_lt_iff_lt_mul hb).2 (by omega)
   omega
  rw [yX,hlen,Nat.pow_succ]
  have e:qJ ^ i * ((x+y+A.2) % qJ)+qJ ^ i * qJ * ((x+y+A.2) / qJ)=qJ ^ i * (x+y+A.2):=by
   rw [Nat.mul_assoc,← Nat.mul_add,Nat.add_comm,hd]
  have e2:qJ ^ i * (x+y+A.2)=qJ ^ i * x+qJ ^ i * y+qJ ^ i * A.2:=by rw [Nat.mul_add,Nat.mul_add]
  omega
theorem qYA {l m:List Nat} (hl:okL l) (hm:okL m):okL (qOF l m)∧qL (qOF l m)=qL l+qL m:=by
 obtain ⟨h1,h2,h3⟩:=qGG hl hm (max l.length m.length)
 have hlen:=qCF l m (max l.length m.length)
 unfold qOF
 refine ⟨qFG ?_, ?_⟩
 ·intro z hz
  rcases List.mem_append.1 hz with h | h
  ·exact h1 z h
  rw [List.mem_singleton.1 h]; unfold qJ; omega
 rw [qCY,yX,hlen,h3,List.take_of_length_le (by omega),List.take_of_length_le (by omega)]
theorem qIA (l:List Nat):(wN l).length≤l.length:=by
 unfold wN; rw [List.length_reverse]; have:=(List.dropWhile_sublist (fun x:Nat=>x == 0) (l:=l.reverse)).length_le; simpa using this
theorem zBI (l m:List Nat):(qOF l m).length≤max l.length m.length+1:=by
 unfold qOF
 have:=qIA ((kN l m (max l.length m.length)).1++[(kN l m (max l.length m.length)).2])
 rw [List.length_append,qCF] at this
 simpa using this
def jB (l m:List Nat):Nat→List Nat × Nat
 | 0=>([],0)
 | i+1=>((jB l m i).1++[(l.getD i 0+qJ-m.getD i 0-(jB l m i).2) % qJ],1-(l.getD i 0+qJ-m.getD i 0-(jB l m i).2) / qJ)
def qMW (l m:List Nat):List Nat:=wN (jB l m l.length).1
theorem qBH (l m:List Nat):∀ i,(jB l m i).1.length=i
 | 0=>rfl
 | i+1=>by simp [jB,qBH l m i]
theorem qFI {l m:List Nat} (hl:okL l) (hm:okL m):∀ i,okL (jB l m i).1∧(jB l m i).2≤1∧qL (jB l m i).1+qL (m.take i)=qL (l.take i)+qJ ^ i * (jB l m i).2
 | 0=>⟨(by intro x hx; cases hx),by simp [jB],by simp [jB,qL]⟩
 | i+1=>by
  obtain ⟨h1,h2,h3⟩:=qFI hl hm i
  have hlen:=qBH l m i
  have a1:=vX hl i
  have a2:=vX hm i
  rw [qDV,qDV]
  simp only [jB]
  generalize jB l m i=A at *
  generalize l.getD i 0=x at *
  generalize m.getD i 0=y at *
  generalize hz:x+qJ-y-A.2=z
  have hd:=Nat.div_add_mod z qJ
  have hb:0<qJ:=by decide
  have hq:z / qJ<2:=(Nat.div_lt_iff_lt_mul hb).2 (by omega)
  refine ⟨?_,Nat.sub_le _ _, ?_⟩
  ·intro w hw
   rcases List.mem_append.1 hw with h | h
   ·exact h1 w h
   rw [List.mem_singleton.1 h]; exact Nat.mod_lt _ hb
  rw [yX,hlen,Nat.pow_succ]
  have e:qJ ^ i * (z % qJ)+qJ ^ i * qJ * (z / qJ)=qJ ^ i * z:=by
   rw [Nat.mul_assoc,← Nat.mul_add,Nat.add_comm,hd]
  have e2:qJ ^ i * z+qJ ^ i * y+qJ ^ i * A.2=qJ ^ i * x+qJ ^ i * qJ:=by
   rw [← Nat.mul_add,← Nat.mul_add,← Nat.mul_add]; congr 1; omega
  have e3:qJ ^ i * qJ * (1-z / qJ)+qJ ^ i * qJ * (z / qJ)=qJ ^ i * qJ:=by
   rw [← Nat.mul_add]
   generalize z / qJ=q at *
   rw [show 1-q+q=1 by omega,Nat.mul_one]
  omega
theorem qKZ {l m:List Nat} (hl:okL l) (hm:okL m) (hlen:m.length≤l.length) (h:qL m≤qL l):okL (qMW l m)∧qL (qMW l m)=qL l-qL m:=by
 obtain ⟨h1,h2,h3⟩:=qFI hl hm l.length
 have hlt:=qBP h1
 rw [qBH] at hlt
 rw [List.take_of_length_le (Nat.le_refl _),List.take_of_length_le hlen] at h3
 have h0:(jB l m l.length).2=0:=by
  rcases Nat.eq_zero_or_pos (jB l m l.length).2 with h0 | h0
  ·exact h0
  have:(jB l m l.length).2=1:=by omega
  rw [this,Nat.mul_one] at h3; omega
 rw [h0,Nat.mul_zero] at h3
 unfold qMW
 exact ⟨qFG h1,by rw [qCY]; omega⟩
theorem qOZ (l m:List Nat):(qMW l m).length≤l.length:=by
 unfold qMW
 have:=qIA (jB l m l.length).1
 rwa [qBH] at this
end Go.Proofs.YtgcbapchinideaaGreatDoor
