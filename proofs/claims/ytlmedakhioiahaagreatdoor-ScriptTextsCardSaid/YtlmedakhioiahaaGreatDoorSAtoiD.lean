import Derived.Test.YtlmedakhioiahaaGreatDoorSAtoiN
import Derived.Test.YtlmedakhioiahaaGreatDoorK2
import Derived.Lib.AtoiTie
namespace Go.Proofs.YtlmedakhioiahaaGreatDoor
open Sy Go
set_option maxRecDepth 100000
set_option linter.unusedSimpArgs false
set_option linter.unusedVariables false
theorem qOK {d:Dc} (h:wM d=true):d.digits.all qJ=true:=by unfold wM at h; simp only [Bool.and_eq_true] at h; exact h.1.1
theorem qQJ {b:UInt8} (h:qJ b=true):Lib.digitVal b=some (b.toNat-48):=by
 rw [qAG] at h
 cases hd:Lib.digitVal b with
 | none=>rcases Lib.digitVal_none hd with h1 | h1 <;> omega
 | some d=>rw [(Lib.digitVal_eq hd).2.2]
theorem qIK:∀ (s:List UInt8) (acc:Nat),s.all qJ=true→Lib.decFrom acc s=some (acc * 10 ^ s.length+vC s)
 | [],acc,_=>by simp [Lib.decFrom,vC]
 | b::s,acc,h=>by
  simp only [List.all_cons,Bool.and_eq_true] at h
  simp only [Lib.decFrom,qQJ h.1]
  rw [qIK s _ h.2,qMW,List.length_cons,Nat.pow_succ,Nat.add_mul]
  congr 1
  rw [Nat.mul_comm (10 ^ s.length) 10,Nat.mul_assoc]; omega
theorem zDY {s:List UInt8} (h:s.all qJ=true) (h0:s≠[]) (hl:s.length≤17):uR s=(((vC s:Nat):Int),.noerr)∧uR (45::s)=(-((vC s:Nat):Int),.noerr):=by
 have hd:Lib.decNat s=some (vC s):=by
  unfold Lib.decNat
  rw [if_neg (by simpa using h0),qIK s 0 h]; simp
 constructor
 ·obtain ⟨b,r,rfl⟩:∃ b r,s=b::r:=by cases s with
   | nil=>exact absurd rfl h0
   | cons b r=>exact ⟨b,r,rfl⟩
  have hb:qJ b=true:=by simp only [List.all_cons,Bool.and_eq_true] at h; exact h.1
  rw [qAG] at hb
  have e:Lib.atoiAll (b::r) = .ok ((vC (b::r):Nat):Int):=by
   rw [Lib.atoiAll_short _ (by omega)]
   unfold Lib.atoi
   have h1:(b == 45)=false:=by rw [beq_eq_false_iff_ne]; rintro rfl; revert hb; decide
   have h2:(b == 43)=false:=by rw [beq_eq_false_iff_ne]; rintro rfl; revert hb; decide
   simp only [h1,h2,hd]; rfl
  unfold uR; rw [e]
 have e:Lib.atoiAll (45::s) = .ok (-((vC s:Nat):Int)):=by
  rw [Lib.atoiAll_short _ (by simp; omega)]
  unfold Lib.atoi
  simp only [beq_self_eq_true,if_true,hd]; rfl
 unfold uR; rw [e]
def kD (d:Dc):Int:=if d.neg=true then -((vC d.digits:Nat):Int) else (vC d.digits:Nat)
theorem qYG {d:Dc} (h:d.digits.all qJ=true) (hl:d.digits.length≤15) : -1000000000000000<kD d∧kD d<1000000000000000:=by
 have h1:=qWP h
 have h2:=Nat.pow_le_pow_right (n:=10) (by decide) hl
 unfold kD
 split <;> omega
def inB (n:Int):Bool:=decide (-1099511627776≤n) && decide (n≤1099511627776)
def kC (v:Val):Int × Bool:=if v.kind=4∧v.num.scale=0∧v.num.digits.length≤15 then (kD v.num,inB (kD v.num)) else (0,false)
theorem qLZ {d:Dc} (h:wM d=true) (hs:d.scale=0) (hl:d.digits.length≤15):uR (yW d)=(kD d,.noerr)∧uR d.digits=(((vC d.digits:Nat):Int),.noerr):=by
 have hm:=h
 unfold wM at hm
 simp only [Bool.and_eq_true,decide_eq_true_eq] at hm
 obtain ⟨⟨h1,h2⟩,_⟩:=hm
 have h0:d.digits≠[]:=fun e=>by rw [e] at h2; simp at h2
 have hpos:0<d.digits.length:=List.length_pos_iff.2 h0
 obtain ⟨a1,a2⟩:=zDY h1 h0 (by omega)
 refine ⟨?_,a1⟩
 have hp:yW d=(if d.neg=true then [45] else [])++d.digits:=by
  unfold yW kR zL
  rw [hs,show (0:Int).toNat+1-d.digits.length=0 by simp; omega]
  simp
 rw [hp]
 unfold kD
 split
 ·exact a2
 exact a1
end Go.Proofs.YtlmedakhioiahaaGreatDoor
