import Derived.Test.YtgcbapchinideaaGreatDoorSRefDecLaw
import Derived.Lib.ItoaLen
namespace Go.Proofs.YtgcbapchinideaaGreatDoor
open Sy Go
set_option maxRecDepth 100000
set_option linter.unusedSimpArgs false
set_option linter.unusedVariables false
def vM:Nat→Nat→List UInt8
 | 0,_=>[]
 | w+1,v=>UInt8.ofNat (48+v / 10 ^ w % 10)::vM w v
theorem qBX:∀ w v,(vM w v).length=w
 | 0,_=>rfl
 | w+1,v=>by simp [vM,qBX w v]
theorem vL {n:Nat} (h:n<10):(UInt8.ofNat (48+n)).toNat=48+n:=by rw [UInt8.toNat_ofNat']; omega
theorem qLG:∀ w v,(vM w v).all zA=true
 | 0,_=>rfl
 | w+1,v=>by
  have h:v / 10 ^ w % 10<10:=Nat.mod_lt _ (by decide)
  simp only [vM,List.all_cons,qLG w v,Bool.and_true]
  rw [wK,vL h]; omega
theorem qLF:∀ w v,zH (vM w v)=v % 10 ^ w
 | 0,v=>by simp [vM,zH,Nat.mod_one]
 | w+1,v=>by
  have h:v / 10 ^ w % 10<10:=Nat.mod_lt _ (by decide)
  simp only [vM]
  rw [yT,qLF w v,qBX,vL h,Nat.mod_pow_succ,Nat.mul_comm (10 ^ w)]
  rw [show 48+v / 10 ^ w % 10-48=v / 10 ^ w % 10 by omega]; omega
def jH (neg:Bool) (v scale:Nat):Dc × Int:=wM neg (Lib.decDigits v) scale
theorem qTF (u:Nat):zH (Lib.decDigits u)=u:=by
 induction u using Nat.strongRecOn with
 | _ u ih =>
  rw [Lib.decDigits]
  split
  ·rename_i h
   simp only [zH,List.foldl_cons,List.foldl_nil,vL h]; omega
  rename_i h
  rw [qGL,ih (u / 10) (by omega),vL (Nat.mod_lt _ (by decide))]; omega
theorem qLK (u:Nat):(Lib.decDigits u).all zA=true:=by
 induction u using Nat.strongRecOn with
 | _ u ih =>
  rw [Lib.decDigits]
  split
  ·rename_i h
   simp only [List.all_cons,List.all_nil,Bool.and_true]
   rw [wK,vL h]; omega
  rename_i h
  rw [List.all_append,ih (u / 10) (by omega)]
  simp only [List.all_cons,List.all_nil,Bool.and_true,Bool.true_and]
  rw [wK,vL (Nat.mod_lt _ (by decide))]; omega
theorem qCG:∀ s:List UInt8,zH (qP s)=zH s
 | []=>rfl
 | b::s=>by
  unfold qP
  rw [List.dropWhile_cons]
  by_cases h:b=48
  ·subst h
   simp only [beq_self_eq_true,if_true]
   have:=qCG s
   unfold qP at this
   rw [this,yT]; simp
  rw [if_neg (by simpa using h)]
theorem qAM (s:List UInt8) (h:0<(qP s).length):qO (qP s) 0≠48:=by
 unfold qP at h ⊢
 have:=List.head?_dropWhile_not (fun b:UInt8=>b == 48) s
 cases hs:s.dropWhile (fun b=>b == 48) with
 | nil=>rw [hs] at h; simp at h
 | cons b r =>
  rw [hs] at this
  simp only [List.head?_cons] at this
  have hb:¬ b=48:=by simpa using this
  unfold qO
  simp only [List.getD_cons_zero]
  intro e
  exact hb (UInt8.toNat_inj.1 (by show b.toNat=48; omega))
theorem xM {s:List UInt8} (h:s.all zA=true):(qP s).all zA=true:=by
 rw [List.all_eq_true] at h ⊢
 exact fun b hb=>h b ((List.dropWhile_sublist _).subset hb)
theorem qRL {x y:List UInt8} (hx:x.all zA=true) (hy:y.all zA=true) (h:zH x=zH y):qP x=qP y:=by
 rw [← qCG x,← qCG y] at h
 have z:∀ s:List UInt8,s.all zA=true→0<(qP s).length→zH (qP s)≠0:=fun s hs hl e=>by
  have:=qEF (xM hs) hl (qAM s hl)
  have:=Nat.pow_pos (n:=(qP s).length-1) (show 0<10 by omega)
  omega
 by_cases h1:0<(qP x).length
 ·by_cases h2:0<(qP y).length
  ·exact qTD _ _ (qSG (xM hx) (xM hy) h1 h2 (qAM x h1) (qAM y h2) h) (xM hx) (xM hy) h
  have e:qP y=[]:=List.length_eq_zero_iff.1 (by omega)
  rw [e] at h
  exact absurd h (z x hx h1)
 have e:qP x=[]:=List.length_eq_zero_iff.1 (by omega)
 by_cases h2:0<(qP y).length
 ·rw [e] at h
  exact absurd h.symm (z y hy h2)
 rw [e,List.length_eq_zero_iff.1 (show (qP y).length=0 by omega)]
theorem qRX (neg:Bool) {s:List UInt8} (h:s.all zA=true) (sc:Nat):wM neg s sc=jH neg (zH s) sc:=by
 unfold jH wM
 rw [qRL h (qLK (zH s)) (qTF _).symm]
def yJ (l m:List Nat):Nat→List Nat × Nat
 | 0=>([],0)
 | i+1=>((yJ l m i).1++[(l.getD i 0+m.getD i 0+(yJ l m i).2) % qF],(l.getD i 0+m.getD i 0+(yJ l m i).2) / qF)
def qJF (l m:List Nat):List Nat:=zS ((yJ l m (max l.length m.length)).1++[(yJ l m (max l.length m.length)).2])
theorem jZ {l:List Nat} (h:okL l) (i:Nat):l.getD i 0<qF:=by
 rw [List.getD_eq_getElem?_getD]
 cases hi:l[i]? with
 | none=>simp [qF]
 | some x=>exact h x (List.mem_of_getElem? hi)
theorem qBE {l:List Nat} (i:Nat):qJ (l.take (i+1))=qJ (l.take i)+qF ^ i * l.getD i 0:=by
 by_cases h:i<l.length
 ·rw [qAL h,wX,List.length_take,Nat.min_eq_left (by omega)]
 rw [List.take_of_length_le (by omega),List.take_of_length_le (by omega)]
 simp [List.getD_eq_getElem?_getD,List.getElem?_eq_none (show l.length≤i by omega)]
theorem uT (l m:List Nat):∀ i,(yJ l m i).1.length=i
 | 0=>rfl
 | i+1=>by simp [yJ,uT l m i]
theorem qCX {l m:List Nat} (hl:okL l) (hm:okL m):∀ i,okL (yJ l m i).1∧(yJ l m i).2≤1∧qJ (yJ l m i).1+qF ^ i * (yJ l m i).2=qJ (l.take i)+qJ (m.take i)
 | 0=>⟨(by intro x hx; cases hx),by simp [yJ],by simp [yJ,qJ]⟩
 | i+1=>by
  obtain ⟨h1,h2,h3⟩:=qCX hl hm i
  have hlen:=uT l m i
  have a1:=jZ hl i
  have a2:=jZ hm i
  rw [qBE,qBE]
  simp only [yJ]
  generalize yJ l m i=A at *
  generalize l.getD i 0=x at *
  generalize m.getD i 0=y at *
  have hd:=Nat.div_add_mod (x+y+A.2) qF
  have hb:0<qF:=by decide
  refine ⟨?_, ?_, ?_⟩
  ·intro z hz
   rcases List.mem_append.1 hz with h | h
   ·exact h1 z h
   rw [List.mem_singleton.1 h]; exact Nat.mod_lt _ hb
  ·have:(x+y+A.2) / qF<2:=(Nat.div_lt_iff_lt_mul hb).2 (by omega)
   omega
  rw [wX,hlen,Nat.pow_succ]
  have e:qF ^ i * ((x+y+A.2) % qF)+qF ^ i * qF * ((x+y+A.2) / qF)=qF ^ i * (x+y+A.2):=by
   rw [Nat.mul_assoc,← Nat.mul_add,Nat.add_comm,hd]
  have e2:qF ^ i * (x+y+A.2)=qF ^ i * x+qF ^ i * y+qF ^ i * A.2:=by rw [Nat.mul_add,Nat.mul_add]
  omega
theorem qQW {l m:List Nat} (hl:okL l) (hm:okL m):okL (qJF l m)∧qJ (qJF l m)=qJ l+qJ m:=by
 obtain ⟨h1,h2,h3⟩:=qCX hl hm (max l.length m.length)
 have hlen:=uT l m (max l.length m.length)
 unfold qJF
 refine ⟨qCD ?_, ?_⟩
 ·intro z hz
  rcases List.mem_append.1 hz with h | h
  ·exact h1 z h
  rw [List.mem_singleton.1 h]; unfold qF; omega
 rw [qAJ,wX,hlen,h3,List.take_of_length_le (by omega),List.take_of_length_le (by omega)]
theorem qEH (l:List Nat):(zS l).length≤l.length:=by
 unfold zS; rw [List.length_reverse]; have:=(List.dropWhile_sublist (fun x:Nat=>x == 0) (l:=l.reverse)).length_le; simpa using this
theorem qTQ (l m:List Nat):(qJF l m).length≤max l.length m.length+1:=by
 unfold qJF
 have:=qEH ((yJ l m (max l.length m.length)).1++[(yJ l m (max l.length m.length)).2])
 rw [List.length_append,uT] at this
 simpa using this
def kA (l m:List Nat):Nat→List Nat × Nat
 | 0=>([],0)
 | i+1=>((kA l m i).1++[(l.getD i 0+qF-m.getD i 0-(kA l m i).2) % qF],1-(l.getD i 0+qF-m.getD i 0-(kA l m i).2) / qF)
def qIB (l m:List Nat):List Nat:=zS (kA l m l.length).1
theorem vY (l m:List Nat):∀ i,(kA l m i).1.length=i
 | 0=>rfl
 | i+1=>by simp [kA,vY l m i]
theorem qCF {l m:List Nat} (hl:okL l) (hm:okL m):∀ i,okL (kA l m i).1∧(kA l m i).2≤1∧qJ (kA l m i).1+qJ (m.take i)=qJ (l.take i)+qF ^ i * (kA l m i).2
 | 0=>⟨(by intro x hx; cases hx),by simp [kA],by simp [kA,qJ]⟩
 | i+1=>by
  obtain ⟨h1,h2,h3⟩:=qCF hl hm i
  have hlen:=vY l m i
  have a1:=jZ hl i
  have a2:=jZ hm i
  rw [qBE,qBE]
  simp only [kA]
  generalize kA l m i=A at *
  generalize l.getD i 0=x at *
  generalize m.getD i 0=y at *
  generalize hz:x+qF-y-A.2=z
  have hd:=Nat.div_add_mod z qF
  have hb:0<qF:=by decide
  have hq:z / qF<2:=(Nat.div_lt_iff_lt_mul hb).2 (by omega)
  refine ⟨?_,Nat.sub_le _ _, ?_⟩
  ·intro w hw
   rcases List.mem_append.1 hw with h | h
   ·exact h1 w h
   rw [List.mem_singleton.1 h]; exact Nat.mod_lt _ hb
  rw [wX,hlen,Nat.pow_succ]
  have e:qF ^ i * (z % qF)+qF ^ i * qF * (z / qF)=qF ^ i * z:=by
   rw [Nat.mul_assoc,← Nat.mul_add,Nat.add_comm,hd]
  have e2:qF ^ i * z+qF ^ i * y+qF ^ i * A.2=qF ^ i * x+qF ^ i * qF:=by
   rw [← Nat.mul_add,← Nat.mul_add,← Nat.mul_add]; congr 1; omega
  have e3:qF ^ i * qF * (1-z / qF)+qF ^ i * qF * (z / qF)=qF ^ i * qF:=by
   rw [← Nat.mul_add]
   generalize z / qF=q at *
   rw [show 1-q+q=1 by omega,Nat.mul_one]
  omega
theorem qGO {l m:List Nat} (hl:okL l) (hm:okL m) (hlen:m.length≤l.length) (h:qJ m≤qJ l):okL (qIB l m)∧qJ (qIB l m)=qJ l-qJ m:=by
 obtain ⟨h1,h2,h3⟩:=qCF hl hm l.length
 have hlt:=uG h1
 rw [vY] at hlt
 rw [List.take_of_length_le (Nat.le_refl _),List.take_of_length_le hlen] at h3
 have h0:(kA l m l.length).2=0:=by
  rcases Nat.eq_zero_or_pos (kA l m l.length).2 with h0 | h0
  ·exact h0
  have:(kA l m l.length).2=1:=by omega
  rw [this,Nat.mul_one] at h3; omega
 rw [h0,Nat.mul_zero] at h3
 unfold qIB
 exact ⟨qCD h1,by rw [qAJ]; omega⟩
theorem qJW (l m:List Nat):(qIB l m).length≤l.length:=by
 unfold qIB
 have:=qEH (kA l m l.length).1
 rwa [vY] at this
end Go.Proofs.YtgcbapchinideaaGreatDoor
