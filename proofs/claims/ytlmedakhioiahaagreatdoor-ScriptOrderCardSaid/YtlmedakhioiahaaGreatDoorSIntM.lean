import Derived.Test.YtlmedakhioiahaaGreatDoorK1
namespace Go.Proofs.YtlmedakhioiahaaGreatDoor
open Sy Go
set_option maxRecDepth 100000
set_option linter.unusedSimpArgs false
set_option linter.unusedVariables false
theorem zER (u:Nat):(jE u).all qJ=true:=by
 induction u using Nat.strongRecOn with
 | _ u ih =>
  rcases Nat.eq_zero_or_pos u with h | h
  ·subst h; rw [qBB]; rfl
  rw [qGM h,List.all_append,ih (u / 10) (by omega)]
  have:qJ (UInt8.ofNat (48+u % 10))=true:=by
   rw [qAW,UInt8.toNat_ofNat']; omega
  rw [List.all_cons,this]; rfl
theorem qPV (s:List UInt8) (h:zB s≠[]):qN (zB s) 0≠48:=by
 unfold zB at h ⊢
 have:=List.head?_dropWhile_not (fun b:UInt8=>b == 48) s
 cases hs:s.dropWhile (fun b=>b == 48) with
 | nil=>exact absurd hs h
 | cons b r =>
  rw [hs] at this
  simp only [List.head?_cons] at this
  have hb:¬ b=48:=by simpa using this
  unfold qN
  simp only [List.getD_cons_zero]
  intro e
  exact hb (UInt8.toNat_inj.1 (by show b.toNat=48; omega))
theorem zEB {n:Int} (h0 : -9223372036854775808≤n) (h1:n≤9223372036854775807):wH (uM n)=true:=by
 have hl:=qCU 20 n.natAbs (by omega)
 have hd:=zER n.natAbs
 have hsl:(zB (jE n.natAbs)).length≤20:=Nat.le_trans (List.dropWhile_sublist _).length_le hl
 have hsd:(zB (jE n.natAbs)).all qJ=true:=by
  rw [List.all_eq_true] at hd ⊢
  exact fun b hb=>hd b ((List.dropWhile_sublist _).subset hb)
 have hh:=qPV (jE n.natAbs)
 have e:uM n=if zB (jE n.natAbs)=[] then ⟨false,[48],0⟩ else ⟨decide (n<0),zB (jE n.natAbs),0⟩:=by
  have ht:yB (zB (jE n.natAbs)) 0=(zB (jE n.natAbs),0):=rfl
  unfold uM wI
  rw [ht]
  by_cases h:zB (jE n.natAbs)=[]
  ·rw [if_pos h,if_pos h]
  rw [if_neg h,if_neg h,if_neg (by simp only; omega)]; rfl
 rw [e]
 generalize zB (jE n.natAbs)=s at *
 split
 ·decide
 rename_i hne
 have hpos:0<s.length:=List.length_pos_iff.2 hne
 have h48:¬ s=[48]:=by
  intro he; exact hh hne (by rw [he]; rfl)
 unfold wH
 simp only
 rw [if_neg h48,hsd]
 have:=hh hne
 simp [this]; omega
end Go.Proofs.YtlmedakhioiahaaGreatDoor
