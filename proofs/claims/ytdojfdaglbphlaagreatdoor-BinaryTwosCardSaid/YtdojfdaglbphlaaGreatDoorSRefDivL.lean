import Derived.Test.YtdojfdaglbphlaaGreatDoorSRefDiv
namespace Go.Proofs.YtdojfdaglbphlaaGreatDoor
open Sy Go
set_option maxRecDepth 100000
set_option linter.unusedSimpArgs false
set_option linter.unusedVariables false
theorem zEZ {s:List UInt8} (h:s.all qH=true):noB s=decide (qE s=0):=by
 induction s with
 | nil=>rfl
 | cons b s ih =>
  simp only [List.all_cons,Bool.and_eq_true] at h
  have hb:=(zK b).1 h.1
  have hp:0<10 ^ s.length:=Nat.pow_pos (by decide)
  have e:noB (b::s)=(decide (b=48) && noB s):=rfl
  rw [e,ih h.2,wY]
  by_cases h0:b=48
  ·subst h0; simp
  have:b.toNat-48≠0:=fun e=>h0 (UInt8.toNat_inj.1 (by show b.toNat=48; omega))
  have:=Nat.mul_pos (show 0<b.toNat-48 by omega) hp
  have h1:¬ ((b.toNat-48) * 10 ^ s.length+qE s=0):=by omega
  simp only [h0,h1,decide_false,Bool.false_and]
theorem zNR {w Q:Nat} (h:Q<10 ^ w):qEG (zA w Q)+ndg Q=w:=by
 have h1:=qVQ (zT w Q)
 rw [← zAA,List.length_drop,zD,zZ,Nat.mod_eq_of_lt h] at h1
 have:=zNQ (zA w Q)
 rw [zD] at this
 omega
theorem qHZ (n Q:Nat):∀ a,zA (a+n) Q=zA a (Q / 10 ^ n)++zA n Q
 | 0=>by simp [zA]
 | a+1=>by
  rw [show a+1+n=(a+n)+1 by omega]
  simp only [zA]
  rw [qHZ n Q a,Nat.div_div_eq_div_mul,← Nat.pow_add,Nat.add_comm n a]; rfl
theorem zJL (n Q:Nat):zA (n+1) Q=UInt8.ofNat (48+Q / 10 ^ n % 10)::zA n Q:=rfl
theorem zJK (a H:Nat):(zA (a+1) H)[a]?=some (UInt8.ofNat (48+H % 10)):=by
 have:=qHZ 1 H a
 rw [this,List.getElem?_append_right (by rw [zD]; omega),zD,Nat.sub_self]
 simp [zA]
theorem zQP (n Q:Nat):noB (zA n Q)=decide (Q % 10 ^ n=0):=by rw [zEZ (zT _ _),zZ]
theorem zPR (d H l : Nat) (hd : d < 10) (m : Bool) :
  (if (decide (d=5) && (decide (l=0) && !m))=true then decide (H % 2=1) else decide (5≤d))=decide (5<d∨(d=5∧(m=true∨l≠0∨H % 2=1))):=by
 by_cases h5:d=5
 ·subst h5
  by_cases hl:l=0
  ·cases m
   ·simp [hl]
   simp [hl]
  simp [hl]
 have:(5<d)↔(5≤d):=by omega
 simp [h5,this]
end Go.Proofs.YtdojfdaglbphlaaGreatDoor
