import Derived.Test.YtbhhphabggcacaaGreatDoorK2
namespace Go.Proofs.YtbhhphabggcacaaGreatDoor
open Sy Go
set_option maxRecDepth 100000
set_option linter.unusedSimpArgs false
set_option linter.unusedVariables false
theorem qYG {c:UInt8} {p:UInt8→Bool} (h:p c=false):∀ s t:List UInt8,(s++c::t).takeWhile p=s.takeWhile p
 | [],t=>by simp [List.takeWhile_cons,h]
 | b::s,t=>by
  simp only [List.cons_append,List.takeWhile_cons]
  split
  ·rw [qYG h s t]
  rfl
theorem xT {c:UInt8} {p:UInt8→Bool} (h:p c=false) (s t:List UInt8):spn p (s++c::t)=spn p s:=by unfold spn; rw [qYG h]
theorem qOU {c:UInt8} {p:UInt8→Bool} (h:p c=false) (s t:List UInt8) {k:Nat} (hk:k≤s.length):spn p ((s++c::t).drop k)=spn p (s.drop k):=by
 rw [List.drop_append_of_le_length hk,xT h]
theorem qBE (s t:List UInt8) {k:Nat} (hk:k≤s.length):(s++t).take k=s.take k:=List.take_append_of_le_length hk
theorem qAP {c:UInt8} {w:List UInt8} (h:c ∉ w) (s t:List UInt8):qY (s++c::t) w=qY s w:=by
 unfold qY
 by_cases hl:w.length≤s.length
 ·rw [qBE s _ hl]
  have:decide (w.length≤(s++c::t).length)=true:=by simp; omega
  rw [this,decide_eq_true hl]
 rw [decide_eq_false hl,Bool.false_and]
 by_cases hl2:w.length≤(s++c::t).length
 ·rw [decide_eq_true hl2,Bool.true_and]
  refine decide_eq_false fun e=>h ?_
  rw [← e,List.take_append]
  refine List.mem_append.2 (.inr ?_)
  obtain ⟨j,hj⟩:∃ j,w.length-s.length=j+1:=⟨w.length-s.length-1,by omega⟩
  rw [hj]; simp
 rw [decide_eq_false hl2,Bool.false_and]
theorem qEO (s t:List UInt8) {k:Nat} (hk:k<s.length):(s++t).getD k 0=s.getD k 0:=by
 rw [List.getD_eq_getElem?_getD,List.getD_eq_getElem?_getD,List.getElem?_append_left hk]
theorem qMW (c:UInt8) (s t:List UInt8):(s++c::t).getD s.length 0=c:=by
 rw [List.getD_eq_getElem?_getD,List.getElem?_append_right (Nat.le_refl _),Nat.sub_self]; rfl
def xU:List UInt8:=[9,32,40,41,44,58,59,91,93,125]
theorem qWK:∀ c∈xU,kD c=false:=by decide
theorem zMZ:∀ c∈xU,qIJ c=false:=by decide
theorem qLI:∀ c∈xU,qF c=false:=by decide
theorem zKD:∀ c∈xU, ∀ w∈xA,c ∉ w:=by decide
theorem zNA:∀ c∈xU,c ∉ ([34]:List UInt8):=by decide
theorem zNB:∀ c∈xU,c ∉ ([46]:List UInt8):=by decide
theorem zNC:∀ c∈xU, ¬ (c=43∨c=45):=by decide
theorem zPN:∀ c∈xU,c≠101∧c≠69:=by decide
theorem zHC:∀ c∈xU, ¬ (c=34∨kD c=true):=by decide
theorem qKO {c:UInt8} (hc:c∈xU) (s t:List UInt8):xS (s++c::t)=xS s:=by
 unfold xS
 rw [xT (qWK c hc),xT (zMZ c hc),qBE s _ (jY _ _)]
theorem qLK {c:UInt8} (hc:c∈xU) {s:List UInt8} (hs:s≠[]) (t:List UInt8):vJ (s++c::t)=vJ s:=by
 have h1:∀ w∈xA,qY (s++c::t) w=qY s w:=fun w hw=>qAP (zKD c hc w hw) s t
 have h2:xA.find? (fun w=>qY (s++c::t) w)=xA.find? (fun w=>qY s w):=by
  simp only [xA,List.find?_cons,List.find?_nil]
  rw [h1 _ (by decide),h1 _ (by decide),h1 _ (by decide),h1 _ (by decide)]
 have h3:min 1 (spn qFX (s++c::t))=min 1 (spn qFX s)∧min 1 (spn qFX s)≤s.length:=by
  cases s with
  | nil=>exact absurd rfl hs
  | cons b s =>
   unfold spn
   simp only [List.cons_append,List.takeWhile_cons]
   split
   ·simp only [List.length_cons]; omega
   simp
 unfold vJ
 rw [h2,h3.1,qBE s _ h3.2]
theorem qXB {c:UInt8} (hc:c∈xU) (s t:List UInt8) {n:Nat} (hn:n≤s.length):vL (s++c::t) n=vL s n:=by
 unfold vL
 rw [List.drop_append_of_le_length hn,qAP (zNB c hc)]
 by_cases hp:qY (s.drop n) [46]=true
 ·have:=qIM hp
  simp only [List.length_drop,List.length_singleton] at this
  rw [qOU (qLI c hc) s t (by omega)]
 rw [if_neg fun h=>hp h.1,if_neg fun h=>hp h.1]
theorem qXE {c:UInt8} (hc:c∈xU) (s t:List UInt8) {n:Nat} (hn:n<s.length):qJR (s++c::t) n=qJR s n:=by
 have hm:(if n+1<(s++c::t).length∧((s++c::t).getD (n+1) 0=43∨(s++c::t).getD (n+1) 0=45) then n+1+1 else n+1)=(if n+1<s.length∧(s.getD (n+1) 0=43∨s.getD (n+1) 0=45) then n+1+1 else n+1):=by
  by_cases h:n+1<s.length
  ·rw [qEO s _ h]
   have:n+1<(s++c::t).length:=by simp; omega
   simp only [h,this,true_and]
  have e:n+1=s.length:=by omega
  rw [e,qMW]
  rw [if_neg (fun h=>zNC c hc h.2),if_neg (by rintro ⟨h, -⟩; omega)]
 unfold qJR
 simp only
 rw [hm]
 have hle:(if n+1<s.length∧(s.getD (n+1) 0=43∨s.getD (n+1) 0=45) then n+1+1 else n+1)≤s.length:=by split <;> omega
 generalize (if n+1<s.length∧(s.getD (n+1) 0=43∨s.getD (n+1) 0=45) then n+1+1 else n+1)=m at *
 rw [qOU (qLI c hc) s t hle]
theorem qPI {c:UInt8} (hc:c∈xU) (s t:List UInt8):qAV (s++c::t)=qAV s:=by
 have h1:=qMX s (jY qF s)
 unfold qAV
 simp only
 rw [xT (qLI c hc),qXB hc s t (jY qF s)]
 generalize vL s (spn qF s)=n at *
 by_cases h:n=s.length
 ·subst h
  rw [qMW,if_pos (.inr (zPN c hc)),if_pos (.inl rfl)]
 rw [qEO s _ (by omega),qXE hc s t (by omega)]
 have h2:¬ n=(s++c::t).length:=by simp; omega
 simp only [h,h2,false_or]
theorem qMJ {c:UInt8} (hc:c∈xU) {s:List UInt8} (hs:s≠[]) (t:List UInt8):wM (s++c::t)=wM s:=by
 have hp:=List.length_pos_iff.2 hs
 unfold wM
 rw [qEO s _ hp]
 by_cases h:1<s.length
 ·rw [qEO s _ h]
  have:1<(s++c::t).length:=by simp; omega
  simp only [h,this,true_and]
 have e:s.length=1:=by omega
 have h9:(s++c::t).getD 1 0=c:=by have:=qMW c s t; rwa [e] at this
 rw [h9]
 split
 ·rfl
 rw [if_neg (fun h=>zHC c hc h.2.2),if_neg (by rintro ⟨-, h, -⟩; omega)]
end Go.Proofs.YtbhhphabggcacaaGreatDoor
