import Derived.Test.YtdojfdaglbphlaaGreatDoorK4
namespace Go.Proofs.YtdojfdaglbphlaaGreatDoor
open Sy Go
set_option maxRecDepth 100000
set_option linter.unusedSimpArgs false
set_option linter.unusedVariables false
@[simp] def wN (n:Nat):PD := .int .i8 n
def rowN:Nat→Nat→List Nat
 | 0,_=>[]
 | w+1,v=>v / 10 ^ w % 10::rowN w v
theorem yZ:∀ n v,(rowN n v).length=n
 | 0,_=>rfl
 | n+1,v=>by simp [rowN,yZ n v]
theorem qCU:∀ {n k:Nat} (v:Nat),k<n→(rowN n v)[n-1-k]?=some (v / 10 ^ k % 10)
 | 0,k,v,h=>by omega
 | n+1,k,v,h=>by
  simp only [rowN]
  by_cases e:k=n
  ·subst e; simp
  rw [show n+1-1-k=(n-1-k)+1 by omega,List.getElem?_cons_succ]
  exact qCU v (by omega)
theorem zLN (n v:Nat):(zA n v).map dv=rowN n v:=by
 induction n with
 | zero=>rfl
 | succ n ih =>
  have h:v / 10 ^ n % 10<10:=Nat.mod_lt _ (by decide)
  simp only [zA,rowN,List.map_cons,ih,dv,kF h]
  congr 1
  omega
theorem zHQ (n:Nat):rowN n 0=List.replicate n 0:=by
 induction n with
 | zero=>rfl
 | succ n ih=>simp [rowN,ih,List.replicate_succ]
theorem qNU (n v:Nat):rowN n (v % 10 ^ n)=rowN n v:=by
 have h:∀ k m,k≤m→rowN k (v % 10 ^ m)=rowN k v:=by
  intro k
  induction k with
  | zero=>intros; rfl
  | succ k ih =>
   intro m hm
   simp only [rowN,ih m (by omega)]
   congr 1
   obtain ⟨d,rfl⟩:∃ d,m=k+(d+1):=⟨m-k-1,by omega⟩
   rw [Nat.pow_add,Nat.mod_mul_right_div_self,Nat.pow_succ,Nat.mul_comm (10 ^ d),Nat.mod_mul_right_mod]
 exact h n n (Nat.le_refl _)
theorem zLO (n v:Nat) (h:v<10 ^ n):((rowN n v).all fun x=>decide (x=0))=decide (v=0):=by
 induction n generalizing v with
 | zero=>simp at h; subst h; rfl
 | succ n ih =>
  have hp:0<10 ^ n:=Nat.pow_pos (by decide)
  have hq:v / 10 ^ n<10:=by rw [Nat.div_lt_iff_lt_mul hp,Nat.mul_comm,← Nat.pow_succ]; exact h
  simp only [rowN,List.all_cons,Nat.mod_eq_of_lt hq]
  rw [← qNU,ih (v % 10 ^ n) (Nat.mod_lt _ hp)]
  have hdm:=Nat.div_add_mod v (10 ^ n)
  by_cases h0:v=0
  ·subst h0; simp
  by_cases h1:v / 10 ^ n=0
  ·rw [h1] at hdm; simp at hdm; simp [h1,hdm]
  simp [h0,h1]
def qDV (n k v:Nat):List Nat:=List.replicate (n-k) 0++rowN k v
theorem zHR (n v:Nat):qDV n 0 v=List.replicate n 0:=by simp [qDV,rowN]
theorem zLS (n v:Nat):qDV n n v=rowN n v:=by simp [qDV]
theorem zLQ {n k:Nat} (v:Nat) (h:k≤n):(qDV n k v).length=n:=by simp [qDV,yZ]; omega
theorem zLR {n k:Nat} (v:Nat) (h:k<n):(qDV n k v)[n-1-k]?=some 0:=by
 unfold qDV
 rw [List.getElem?_append_left (by simp; omega),List.getElem?_replicate,if_pos (by omega)]
theorem zLP {n k:Nat} (v:Nat) (h:k<n):(qDV n k v).set (n-1-k) (v / 10 ^ k % 10)=qDV n (k+1) v:=by
 unfold qDV
 rw [show n-k=(n-(k+1))+1 by omega,List.replicate_succ',List.append_assoc,List.set_append_right _ _ (by simp; omega)]
 simp only [List.length_replicate]
 rw [show n-1-k-(n-(k+1))=0 by omega]
 rfl
theorem zCI (n v c:Nat) (hn:0<n) (hc:c<10):((rowN n v).drop 1++(rowN n v).drop (n-1)).set (n-1) c=rowN n (v * 10+c):=by
 apply List.ext_getElem?
 intro i
 have hl:((rowN n v).drop 1++(rowN n v).drop (n-1)).length=n:=by simp [yZ] <;> omega
 by_cases hi:i<n
 ·obtain ⟨k,hk,rfl⟩:∃ k,k<n∧i=n-1-k:=⟨n-1-i,by omega,by omega⟩
  rw [qCU _ hk,List.getElem?_set]
  by_cases h0:k=0
  ·subst h0
   rw [if_pos (by omega),if_pos (by omega)]
   simp <;> omega
  rw [if_neg (by omega),List.getElem?_append_left (by simp [yZ]; omega),List.getElem?_drop,show 1+(n-1-k)=n-1-(k-1) by omega,qCU _ (by omega)]
  obtain ⟨j,rfl⟩:∃ j,k=j+1:=⟨k-1,by omega⟩
  rw [Nat.pow_succ,Nat.mul_comm (10 ^ j),← Nat.div_div_eq_div_mul,show (v * 10+c) / 10=v by omega]
  rfl
 rw [List.getElem?_eq_none (by rw [List.length_set,hl]; omega),List.getElem?_eq_none (by rw [yZ]; omega)]
def qQL (a b k:Nat):Bool:=decide (a % 10 ^ k<b % 10 ^ k)
def qBJ (a b k:Nat):Nat:=if qQL a b k=true then 1 else 0
theorem zBD (a b:Nat):qBJ a b 0=0:=by simp [qBJ,qQL,Nat.mod_one]
theorem zBE (a b k:Nat):qQL a b (k+1)=decide (((a / 10 ^ k % 10:Nat):Int)-(b / 10 ^ k % 10:Nat)-qBJ a b k<0):=by
 have e:∀ x:Nat,x % 10 ^ (k+1)=x % 10 ^ k+10 ^ k * (x / 10 ^ k % 10):=fun x=>Nat.mod_pow_succ
 have hp:0<10 ^ k:=Nat.pow_pos (by decide)
 unfold qBJ qQL
 rw [e a,e b]
 have ha:=Nat.mod_lt a hp
 have hb:=Nat.mod_lt b hp
 generalize a / 10 ^ k % 10=x
 generalize b / 10 ^ k % 10=y
 generalize a % 10 ^ k=u at *
 generalize b % 10 ^ k=t at *
 generalize 10 ^ k=p at *
 rcases Nat.lt_trichotomy x y with h | h | h
 ·have:p * (x+1)≤p * y:=Nat.mul_le_mul_left _ h
  rw [Nat.mul_add,Nat.mul_one] at this
  have h1:u+p * x<t+p * y:=by omega
  simp only [h1,decide_true]
  symm; rw [decide_eq_true_iff]; split <;> omega
 ·subst h
  by_cases h2:u<t
  ·have h1:u+p * x<t+p * x:=by omega
   simp [h1,h2] <;> omega
  have h1:¬ u+p * x<t+p * x:=by omega
  simp [h1,h2]
 have:p * (y+1)≤p * x:=Nat.mul_le_mul_left _ h
 rw [Nat.mul_add,Nat.mul_one] at this
 have h1:¬ u+p * x<t+p * y:=by omega
 simp only [h1,decide_false]
 symm; rw [decide_eq_false_iff_not]; split <;> omega
theorem zAJ {n : Nat} (a b k : Nat) (hk : k < n) (hb : b < 10 ^ n) :
  (((a+10 ^ n-b) / 10 ^ k % 10:Nat):Int)=(if ((a / 10 ^ k % 10:Nat):Int)-(b / 10 ^ k % 10:Nat)-qBJ a b k<0 then ((a / 10 ^ k % 10:Nat):Int)-(b / 10 ^ k % 10:Nat)-qBJ a b k+10 else ((a / 10 ^ k % 10:Nat):Int)-(b / 10 ^ k % 10:Nat)-qBJ a b k):=by
 obtain ⟨d,rfl⟩:∃ d,n=k+(d+1):=⟨n-k-1,by omega⟩
 have hp:0<10 ^ k:=Nat.pow_pos (by decide)
 have e1:10 ^ (k+(d+1))=10 ^ k * (10 * 10 ^ d):=by rw [Nat.pow_add,Nat.pow_succ,Nat.mul_comm (10 ^ d)]
 rw [e1] at hb ⊢
 have da:=Nat.div_add_mod a (10 ^ k)
 have db:=Nat.div_add_mod b (10 ^ k)
 have ma:=Nat.mod_lt a hp
 have mb:=Nat.mod_lt b hp
 have hB:b / 10 ^ k<10 * 10 ^ d:=(Nat.div_lt_iff_lt_mul hp).2 (by rw [Nat.mul_comm]; exact hb)
 unfold qBJ qQL
 generalize a / 10 ^ k=A at *
 generalize b / 10 ^ k=B at *
 generalize a % 10 ^ k=a0 at *
 generalize b % 10 ^ k=b0 at *
 generalize 10 ^ d=M at *
 generalize 10 ^ k=p at *
 by_cases h:a0<b0
 ·have e2:(a+p * (10 * M)-b) / p=A+10 * M-B-1:=by
   rw [Nat.div_eq_iff hp]
   have h3:p * (A+10 * M-B-1)+p=p * (A+10 * M-B):=by rw [← Nat.mul_succ]; congr 1; omega
   have h4:p * (A+10 * M-B)+p * B=p * A+p * (10 * M):=by rw [← Nat.mul_add,← Nat.mul_add]; congr 1; omega
   have h5:(A+10 * M-B-1) * p=p * (A+10 * M-B-1):=Nat.mul_comm _ _
   constructor <;> omega
  rw [e2]
  simp only [h,decide_true,if_true]
  split <;> omega
 have e2:(a+p * (10 * M)-b) / p=A+10 * M-B:=by
  rw [Nat.div_eq_iff hp]
  have h4:p * (A+10 * M-B)+p * B=p * A+p * (10 * M):=by rw [← Nat.mul_add,← Nat.mul_add]; congr 1; omega
  have h5:(A+10 * M-B) * p=p * (A+10 * M-B):=Nat.mul_comm _ _
  constructor <;> omega
 rw [e2]
 simp only [h,decide_false]
 simp
 split <;> omega
theorem zRN {n a b:Nat} (ha:a<10 ^ n) (hb:b<10 ^ n):qQL a b n=decide (a<b):=by
 unfold qQL; rw [Nat.mod_eq_of_lt ha,Nat.mod_eq_of_lt hb]
theorem zRD {n a b:Nat} (h:b≤a):rowN n (a+10 ^ n-b)=rowN n (a-b):=by
 have e:∀ p:Nat,a+p-b=(a-b)+p:=fun p=>by omega
 rw [← qNU,e,Nat.add_mod_right,qNU]
end Go.Proofs.YtdojfdaglbphlaaGreatDoor
