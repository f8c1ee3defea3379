import Derived.Test.YtgcbapchinideaaGreatDoorSRefDecLaw
import Derived.Lib.ItoaLen
namespace Go.Proofs.YtgcbapchinideaaGreatDoor
open Sy Go
set_option maxRecDepth 100000
set_option linter.unusedSimpArgs false
set_option linter.unusedVariables false
def xW:Nat→Nat→List UInt8
 | 0,_=>[]
 | w+1,v=>UInt8.ofNat (48+v / 10 ^ w % 10)::xW w v
theorem qBL:∀ w v,(xW w v).length=w
 | 0,_=>rfl
 | w+1,v=>by simp [xW,qBL w v]
theorem xV {n:Nat} (h:n<10):(UInt8.ofNat (48+n)).toNat=48+n:=by rw [UInt8.toNat_ofNat']; omega
theorem qLV:∀ w v,(xW w v).all zB=true
 | 0,_=>rfl
 | w+1,v=>by
  have h:v / 10 ^ w % 10<10:=Nat.mod_lt _ (by decide)
  simp only [xW,List.all_cons,qLV w v,Bool.and_true]
  rw [wC,xV h]; omega
theorem qLU:∀ w v,zF (xW w v)=v % 10 ^ w
 | 0,v=>by simp [xW,zF,Nat.mod_one]
 | w+1,v=>by
  have h:v / 10 ^ w % 10<10:=Nat.mod_lt _ (by decide)
  simp only [xW]
  rw [yR,qLU w v,qBL,xV h,Nat.mod_pow_succ,Nat.mul_comm (10 ^ w)]
  rw [show 48+v / 10 ^ w % 10-48=v / 10 ^ w % 10 by omega]; omega
def kY (neg:Bool) (v scale:Nat):Dc × Int:=jF neg (Lib.decDigits v) scale
theorem qUE (u:Nat):zF (Lib.decDigits u)=u:=by
 induction u using Nat.strongRecOn with
 | _ u ih =>
  rw [Lib.decDigits]
  split
  ·rename_i h
   simp only [zF,List.foldl_cons,List.foldl_nil,xV h]; omega
  rename_i h
  rw [qGU,ih (u / 10) (by omega),xV (Nat.mod_lt _ (by decide))]; omega
theorem qLY (u:Nat):(Lib.decDigits u).all zB=true:=by
 induction u using Nat.strongRecOn with
 | _ u ih =>
  rw [Lib.decDigits]
  split
  ·rename_i h
   simp only [List.all_cons,List.all_nil,Bool.and_true]
   rw [wC,xV h]; omega
  rename_i h
  rw [List.all_append,ih (u / 10) (by omega)]
  simp only [List.all_cons,List.all_nil,Bool.and_true,Bool.true_and]
  rw [wC,xV (Nat.mod_lt _ (by decide))]; omega
theorem qCA:∀ s:List UInt8,zF (qT s)=zF s
 | []=>rfl
 | b::s=>by
  unfold qT
  rw [List.dropWhile_cons]
  by_cases h:b=48
  ·subst h
   simp only [beq_self_eq_true,if_true]
   have:=qCA s
   unfold qT at this
   rw [this,yR]; simp
  rw [if_neg (by simpa using h)]
theorem qAE (s:List UInt8) (h:0<(qT s).length):zR (qT s) 0≠48:=by
 unfold qT at h ⊢
 have:=List.head?_dropWhile_not (fun b:UInt8=>b == 48) s
 cases hs:s.dropWhile (fun b=>b == 48) with
 | nil=>rw [hs] at h; simp at h
 | cons b r =>
  rw [hs] at this
  simp only [List.head?_cons] at this
  have hb:¬ b=48:=by simpa using this
  unfold zR
  simp only [List.getD_cons_zero]
  intro e
  exact hb (UInt8.toNat_inj.1 (by show b.toNat=48; omega))
theorem jW {s:List UInt8} (h:s.all zB=true):(qT s).all zB=true:=by
 rw [List.all_eq_true] at h ⊢
 exact fun b hb=>h b ((List.dropWhile_sublist _).subset hb)
theorem qSK {x y:List UInt8} (hx:x.all zB=true) (hy:y.all zB=true) (h:zF x=zF y):qT x=qT y:=by
 rw [← qCA x,← qCA y] at h
 have z:∀ s:List UInt8,s.all zB=true→0<(qT s).length→zF (qT s)≠0:=fun s hs hl e=>by
  have:=qDZ (jW hs) hl (qAE s hl)
  have:=Nat.pow_pos (n:=(qT s).length-1) (show 0<10 by omega)
  omega
 by_cases h1:0<(qT x).length
 ·by_cases h2:0<(qT y).length
  ·exact qUB _ _ (qTE (jW hx) (jW hy) h1 h2 (qAE x h1) (qAE y h2) h) (jW hx) (jW hy) h
  have e:qT y=[]:=List.length_eq_zero_iff.1 (by omega)
  rw [e] at h
  exact absurd h (z x hx h1)
 have e:qT x=[]:=List.length_eq_zero_iff.1 (by omega)
 by_cases h2:0<(qT y).length
 ·rw [e] at h
  exact absurd h.symm (z y hy h2)
 rw [e,List.length_eq_zero_iff.1 (show (qT y).length=0 by omega)]
theorem qSV (neg:Bool) {s:List UInt8} (h:s.all zB=true) (sc:Nat):jF neg s sc=kY neg (zF s) sc:=by
 unfold kY jF
 rw [qSK h (qLY (zF s)) (qUE _).symm]
def yJ (l m:List Nat):Nat→List Nat × Nat
 | 0=>([],0)
 | i+1=>((yJ l m i).1++[(l.getD i 0+m.getD i 0+(yJ l m i).2) % qI],(l.getD i 0+m.getD i 0+(yJ l m i).2) / qI)
def qJL (l m:List Nat):List Nat:=zQ ((yJ l m (max l.length m.length)).1++[(yJ l m (max l.length m.length)).2])
theorem jP {l:List Nat} (h:okL l) (i:Nat):l.getD i 0<qI:=by
 rw [List.getD_eq_getElem?_getD]
 cases hi:l[i]? with
 | none=>simp [qI]
 | some x=>exact h x (List.mem_of_getElem? hi)
theorem qAX {l:List Nat} (i:Nat):qL (l.take (i+1))=qL (l.take i)+qI ^ i * l.getD i 0:=by
 by_cases h:i<l.length
 ·rw [qAD h,wT,List.length_take,Nat.min_eq_left (by omega)]
 rw [List.take_of_length_le (by omega),List.take_of_length_le (by omega)]
 simp [List.getD_eq_getElem?_getD,List.getElem?_eq_none (show l.length≤i by omega)]
theorem uH (l m:List Nat):∀ i,(yJ l m i).1.length=i
 | 0=>rfl
 | i+1=>by simp [yJ,uH l m i]
theorem qCT {l m:List Nat} (hl:okL l) (hm:okL m):∀ i,okL (yJ l m i).1∧(yJ l m i).2≤1∧qL (yJ l m i).1+qI ^ i * (yJ l m i).2=qL (l.take i)+qL (m.take i)
 | 0=>⟨(by intro x hx; cases hx),by simp [yJ],by simp [yJ,qL]⟩
 | i+1=>by
  obtain ⟨h1,h2,h3⟩:=qCT hl hm i
  have hlen:=uH l m i
  have a1:=jP hl i
  have a2:=jP hm i
  rw [qAX,qAX]
  simp only [yJ]
  generalize yJ l m i=A at *
  generalize l.getD i 0=x at *
  generalize m.getD i 0=y at *
  have hd:=Nat.div_add_mod (x+y+A.2) qI
  have hb:0<qI:=by decide
  refine ⟨?_, ?_, ?_⟩
  ·intro z hz
   rcases List.mem_append.1 hz with h | h
   ·exact h1 z h
   rw [List.mem_singleton.1 h]; exact Nat.mod_lt _ hb
  ·have:(x+y+A.2) / qI<2:=(Nat.div_lt_iff_lt_mul hb).2 (by omega)
   omega
  rw [wT,hlen,Nat.pow_succ]
  have e:qI ^ i * ((x+y+A.2) % qI)+qI ^ i * qI * ((x+y+A.2) / qI)=qI ^ i * (x+y+A.2):=by
   rw [Nat.mul_assoc,← Nat.mul_add,Nat.add_comm,hd]
  have e2:qI ^ i * (x+y+A.2)=qI ^ i * x+qI ^ i * y+qI ^ i * A.2:=by rw [Nat.mul_add,Nat.mul_add]
  omega
theorem qRR {l m:List Nat} (hl:okL l) (hm:okL m):okL (qJL l m)∧qL (qJL l m)=qL l+qL m:=by
 obtain ⟨h1,h2,h3⟩:=qCT hl hm (max l.length m.length)
 have hlen:=uH l m (max l.length m.length)
 unfold qJL
 refine ⟨qBW ?_, ?_⟩
 ·intro z hz
  rcases List.mem_append.1 hz with h | h
  ·exact h1 z h
  rw [List.mem_singleton.1 h]; unfold qI; omega
 rw [qAB,wT,hlen,h3,List.take_of_length_le (by omega),List.take_of_length_le (by omega)]
theorem qEF (l:List Nat):(zQ l).length≤l.length:=by
 unfold zQ; rw [List.length_reverse]; have:=(List.dropWhile_sublist (fun x:Nat=>x == 0) (l:=l.reverse)).length_le; simpa using this
theorem qUR (l m:List Nat):(qJL l m).length≤max l.length m.length+1:=by
 unfold qJL
 have:=qEF ((yJ l m (max l.length m.length)).1++[(yJ l m (max l.length m.length)).2])
 rw [List.length_append,uH] at this
 simpa using this
def yV (l m:List Nat):Nat→List Nat × Nat
 | 0=>([],0)
 | i+1=>((yV l m i).1++[(l.getD i 0+qI-m.getD i 0-(yV l m i).2) % qI],1-(l.getD i 0+qI-m.getD i 0-(yV l m i).2) / qI)
def qIK (l m:List Nat):List Nat:=zQ (yV l m l.length).1
theorem vL (l m:List Nat):∀ i,(yV l m i).1.length=i
 | 0=>rfl
 | i+1=>by simp [yV,vL l m i]
theorem qBZ {l m:List Nat} (hl:okL l) (hm:okL m):∀ i,okL (yV l m i).1∧(yV l m i).2≤1∧qL (yV l m i).1+qL (m.take i)=qL (l.take i)+qI ^ i * (yV l m i).2
 | 0=>⟨(by intro x hx; cases hx),by simp [yV],by simp [yV,qL]⟩
 | i+1=>by
  obtain ⟨h1,h2,h3⟩:=qBZ hl hm i
  have hlen:=vL l m i
  have a1:=jP hl i
  have a2:=jP hm i
  rw [qAX,qAX]
  simp only [yV]
  generalize yV l m i=A at *
  generalize l.getD i 0=x at *
  generalize m.getD i 0=y at *
  generalize hz:x+qI-y-A.2=z
  have hd:=Nat.div_add_mod z qI
  have hb:0<qI:=by decide
  have hq:z / qI<2:=(Nat.div_lt_iff_lt_mul hb).2 (by omega)
  refine ⟨?_,Nat.sub_le _ _, ?_⟩
  ·intro w hw
   rcases List.mem_append.1 hw with h | h
   ·exact h1 w h
   rw [List.mem_singleton.1 h]; exact Nat.mod_lt _ hb
  rw [wT,hlen,Nat.pow_succ]
  have e:qI ^ i * (z % qI)+qI ^ i * qI * (z / qI)=qI ^ i * z:=by
   rw [Nat.mul_assoc,← Nat.mul_add,Nat.add_comm,hd]
  have e2:qI ^ i * z+qI ^ i * y+qI ^ i * A.2=qI ^ i * x+qI ^ i * qI:=by
   rw [← Nat.mul_add,← Nat.mul_add,← Nat.mul_add]; congr 1; omega
  have e3:qI ^ i * qI * (1-z / qI)+qI ^ i * qI * (z / qI)=qI ^ i * qI:=by
   rw [← Nat.mul_add]
   generalize z / qI=q at *
   rw [show 1-q+q=1 by omega,Nat.mul_one]
  omega
theorem qGW {l m:List Nat} (hl:okL l) (hm:okL m) (hlen:m.length≤l.length) (h:qL m≤qL l):okL (qIK l m)∧qL (qIK l m)=qL l-qL m:=by
 obtain ⟨h1,h2,h3⟩:=qBZ hl hm l.length
 have hlt:=vT h1
 rw [vL] at hlt
 rw [List.take_of_length_le (Nat.le_refl _),List.take_of_length_le hlen] at h3
 have h0:(yV l m l.length).2=0:=by
  rcases Nat.eq_zero_or_pos (yV l m l.length).2 with h0 | h0
  ·exact h0
  have:(yV l m l.length).2=1:=by omega
  rw [this,Nat.mul_one] at h3; omega
 rw [h0,Nat.mul_zero] at h3
 unfold qIK
 exact ⟨qBW h1,by rw [qAB]; omega⟩
theorem qKD (l m:List Nat):(qIK l m).length≤l.length:=by
 unfold qIK
 have:=qEF (yV l m l.length).1
 rwa [vL] at this
end Go.Proofs.YtgcbapchinideaaGreatDoor
