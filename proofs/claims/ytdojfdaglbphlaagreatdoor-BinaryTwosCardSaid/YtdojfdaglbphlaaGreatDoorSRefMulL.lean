import Derived.Test.YtdojfdaglbphlaaGreatDoorSRefAddL
import Derived.Test.YtdojfdaglbphlaaGreatDoorSDecAddF
namespace Go.Proofs.YtdojfdaglbphlaaGreatDoor
open Sy Go
set_option maxRecDepth 100000
set_option linter.unusedSimpArgs false
set_option linter.unusedVariables false
def jZ (l:List Nat):Nat:=l.foldl (fun n x=>n * 10+x) 0
theorem qQF (l:List Nat):∀ n,l.foldl (fun n x=>n * 10+x) n=n * 10 ^ l.length+jZ l:=by
 unfold jZ
 induction l with
 | nil=>intro n; simp
 | cons x l ih =>
  intro n
  simp only [List.foldl_cons,List.length_cons]
  rw [ih (n * 10+x),ih (0 * 10+x),Nat.pow_succ,Nat.add_mul,Nat.add_mul,Nat.zero_mul,Nat.zero_add,Nat.mul_assoc,Nat.mul_comm 10,Nat.add_assoc]
theorem qDI (x:Nat) (l:List Nat):jZ (x::l)=x * 10 ^ l.length+jZ l:=by
 have:=qQF l x
 rw [← this]; unfold jZ; simp
theorem zAS (l m:List Nat):jZ (l++m)=jZ l * 10 ^ m.length+jZ m:=by
 rw [← qQF]; unfold jZ; rw [List.foldl_append]
theorem qQE:∀ n,jZ (List.replicate n 0)=0
 | 0=>rfl
 | n+1=>by rw [List.replicate_succ,qDI,qQE n]; simp
theorem zAR:∀ (l:List Nat) (j p:Nat),j<l.length→jZ (l.set j (l.getD j 0+p))=jZ l+p * 10 ^ (l.length-1-j)
 | [],j,p,h=>by simp at h
 | x::l,0,p,_=>by
  simp only [List.set_cons_zero,List.getD_cons_zero,qDI,List.length_cons,Nat.add_sub_cancel,Nat.sub_zero]
  rw [Nat.add_mul]; omega
 | x::l,j+1,p,h=>by
  simp only [List.length_cons] at h
  simp only [List.set_cons_succ,List.getD_cons_succ,qDI,List.length_cons,List.length_set]
  rw [zAR l j p (by omega),show l.length+1-1-(j+1)=l.length-1-j by omega]; omega
theorem zFV {M:Nat}:∀ l:List Nat,(∀ x∈l,x≤M)→jZ l≤M * 10 ^ l.length
 | [],_=>by simp [jZ]
 | x::l,h=>by
  have h1:=h x (by simp)
  have h2:=zFV l (fun y hy=>h y (by simp [hy]))
  rw [qDI,List.length_cons,Nat.pow_succ,← Nat.mul_assoc]
  have:=Nat.mul_le_mul_right (10 ^ l.length) h1
  omega
def qIA (l:List Nat) (w:Nat):Nat:=jZ (l.drop (l.length-w)) / 10 ^ w
theorem zJP (l:List Nat):qIA l 0=0:=by simp [qIA,jZ]
theorem zFW {M:Nat} {l:List Nat} (h:∀ x∈l,x≤M) {w:Nat} (hw:w≤l.length):qIA l w≤M:=by
 have h1:=zFV (l.drop (l.length-w)) (fun x hx=>h x (List.mem_of_mem_drop hx))
 rw [List.length_drop,show l.length-(l.length-w)=w by omega] at h1
 unfold qIA
 exact Nat.div_le_of_le_mul (by rw [Nat.mul_comm]; exact h1)
theorem zOI {l : List Nat} {w x : Nat} (hx : l[l.length - 1 - w]? = some x) (hw : w < l.length) :
  (x+qIA l w) % 10=jZ l / 10 ^ w % 10∧(x+qIA l w) / 10=qIA l (w+1):=by
 have hp:0<10 ^ w:=Nat.pow_pos (by decide)
 have hd:l.drop (l.length-(w+1))=x::l.drop (l.length-w):=by
  obtain ⟨hi,he⟩:=List.getElem?_eq_some_iff.1 hx
  rw [show l.length-(w+1)=l.length-1-w by omega,List.drop_eq_getElem_cons hi,he,show l.length-1-w+1=l.length-w by omega]
 have hS:jZ (l.drop (l.length-(w+1)))=x * 10 ^ w+jZ (l.drop (l.length-w)):=by
  rw [hd,qDI,List.length_drop,show l.length-(l.length-w)=w by omega]
 have hq:jZ (l.drop (l.length-(w+1))) / 10 ^ w=x+qIA l w:=by
  unfold qIA
  rw [hS,Nat.mul_comm,Nat.mul_add_div hp]
 have hV:jZ l=jZ (l.take (l.length-(w+1))) * 10 ^ (w+1)+jZ (l.drop (l.length-(w+1))):=by
  have:=zAS (l.take (l.length-(w+1))) (l.drop (l.length-(w+1)))
  rw [List.take_append_drop,List.length_drop,show l.length-(l.length-(w+1))=w+1 by omega] at this
  exact this
 constructor
 ·rw [hV,Nat.pow_succ,← hq,show jZ (l.take (l.length-(w+1))) * (10 ^ w * 10)=10 ^ w * (jZ (l.take (l.length-(w+1))) * 10) by rw [Nat.mul_comm (10 ^ w) 10,← Nat.mul_assoc,Nat.mul_comm],Nat.mul_add_div hp]
  omega
 rw [← hq]
 unfold qIA
 rw [Nat.div_div_eq_div_mul,Nat.pow_succ]
theorem zMQ {r : List Nat} {V0 d e Y p q k : Nat} (h : jZ r = V0 + d * 10 ^ p * (Y * 10 ^ (q + 1))) (hk : k < r.length) (hpq : r.length - 1 - k = p + q) :
  jZ (r.set k (r.getD k 0+d * e))=V0+d * 10 ^ p * ((Y * 10+e) * 10 ^ q):=by
 rw [zAR r k _ hk,h,hpq,Nat.add_assoc]
 congr 1
 rw [Nat.add_mul,Nat.mul_add,Nat.pow_succ,Nat.pow_add]
 congr 1
 ·rw [Nat.mul_assoc Y 10,Nat.mul_comm 10]
 ac_rfl
theorem zTB {r:List Nat} {M p k:Nat} (h:∀ x∈r,x≤M) (hp:p≤81):∀ x∈r.set k (r.getD k 0+p),x≤M+81:=fun x hx=>by
 rcases List.mem_or_eq_of_mem_set hx with h1 | h1
 ·have:=h x h1; omega
 have:r.getD k 0≤M:=by
  rw [List.getD_eq_getElem?_getD]
  cases hi:r[k]? with
  | none=>simp
  | some y=>exact h y (List.mem_of_getElem? hi)
 omega
end Go.Proofs.YtdojfdaglbphlaaGreatDoor
