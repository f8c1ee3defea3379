import Derived.Test.YtdojfdaglbphlaaGreatDoorSDivL
import Derived.Test.YtdojfdaglbphlaaGreatDoorSScaled
namespace Go.Proofs.YtdojfdaglbphlaaGreatDoor
open Sy Go
set_option maxRecDepth 100000
set_option linter.unusedSimpArgs false
set_option linter.unusedVariables false
def vG (neg:Bool) (v:Nat) (sc:Int):Dc × Int:=if sc<0 then zW neg (v * 10 ^ (-sc).toNat) 0 else zW neg v sc.toNat
theorem zLI {s:List UInt8} (h:s.all qH=true) (sc:Int):(scD s sc).all qH=true∧qE (scD s sc)=(if sc<0 then qE s * 10 ^ (-sc).toNat else qE s):=by
 unfold scD
 split
 ·exact ⟨wX h _,jA _ _⟩
 exact ⟨h,rfl⟩
theorem zLH {s:List UInt8} (h:s.all qH=true) (sc:Int):(scP s sc).all qH=true∧qE (scP s sc)=qE s∧sc<(scP s sc).length:=by
 unfold scP
 split
 ·refine ⟨?_, ?_, ?_⟩
  ·rw [List.all_append,h]; simp [qH,kX]
  ·rw [wP,jL]; simp
  simp; omega
 exact ⟨h,rfl,by omega⟩
theorem qDW (neg:Bool) {digits:List UInt8} (h:digits.all qH=true) (scale:Int):wO (qAI neg digits scale)=vG neg (qE digits) scale:=by
 unfold qAI
 obtain ⟨h1,v1⟩:=zLI h scale
 have hs0:0≤scS scale:=by unfold scS; split <;> omega
 obtain ⟨h2,v2,l2⟩:=zLH h1 (scS scale)
 generalize scP (scD digits scale) (scS scale)=d at *
 obtain ⟨s,hs⟩:∃ s:Nat,scS scale=s:=⟨(scS scale).toNat,by omega⟩
 rw [hs] at l2 ⊢
 unfold scT
 have hn:((d.length:Int)-s).toNat=d.length-s:=by omega
 rw [hn]
 have hw:(qQ (d.take (d.length-s))).all qH=true:=jT (qDM h2 _)
 have hR:(d.drop (d.length-s)).all qH=true:=qDN h2 _
 have hRl:(d.drop (d.length-s)).length=s:=by simp; omega
 have hWv:qE (scW (qQ (d.take (d.length-s))))=qE (d.take (d.length-s)):=by
  unfold scW
  split
  ·rename_i e; rw [← vE (d.take (d.length-s)),e]; rfl
  exact vE _
 have hWd:(scW (qQ (d.take (d.length-s)))).all qH=true:=by
  unfold scW; split
  ·rfl
  exact hw
 have hW0:scW (qQ (d.take (d.length-s)))≠[]:=by
  unfold scW; split
  ·simp
  assumption
 have hW1:(scW (qQ (d.take (d.length-s)))).length=1∨qW (scW (qQ (d.take (d.length-s)))) 0≠48:=by
  unfold scW; split
  ·exact .inl rfl
  rename_i e; exact .inr (uE _ (List.length_pos_iff.2 e))
 have hval:qE (scW (qQ (d.take (d.length-s)))++d.drop (d.length-s))=qE d:=by
  rw [wP,hWv,← wP,List.take_append_drop]
 generalize scW (qQ (d.take (d.length-s)))=W at *
 generalize d.drop (d.length-s)=R at *
 have hform:scF (scN neg W) R s=(if neg=true then [45] else [])++(W++if R=[] then [] else 46::R):=by
  unfold scF scN
  by_cases h0:R=[]
  ·subst h0
   simp at hRl
   rw [if_neg (by omega)]
   cases neg <;> simp
  have:0<R.length:=List.length_pos_iff.2 h0
  rw [if_pos (by omega),if_neg h0]
  cases neg <;> simp
 rw [hform,qYW neg W R hWd hR hW0 hW1,qOP neg (by rw [List.all_append,hWd,hR]; rfl),hval,v2,v1,hRl]
 unfold vG
 unfold scS at hs
 split
 ·rename_i hlt
  rw [if_pos hlt] at hs
  rw [show s=0 by omega]
 rename_i hlt
 rw [if_neg hlt] at hs
 rw [show s=scale.toNat by omega]
def wH (A B j:Nat):Nat:=A * 10 ^ j / B
def jC (A B j:Nat):Nat:=A * 10 ^ j % B
theorem qMO {B:Nat} (A j:Nat) (h:0<B):jC A B j<B:=Nat.mod_lt _ h
theorem qKI {A B:Nat} (hB:0<B) (j:Nat):wH A B (j+1)=wH A B j * 10+jC A B j * 10 / B∧jC A B (j+1)=jC A B j * 10 % B:=by
 unfold wH jC
 have e:A * 10 ^ (j+1)=A * 10 ^ j * 10:=by rw [Nat.pow_succ,Nat.mul_assoc]
 rw [e]
 generalize A * 10 ^ j=x
 have hd:=Nat.div_add_mod x B
 have e2:x * 10=x % B * 10+B * (x / B * 10):=by
  conv=>lhs; rw [← hd]
  rw [Nat.add_mul,Nat.mul_assoc]; omega
 constructor
 ·conv=>lhs; rw [e2]
  rw [Nat.add_mul_div_left _ _ hB]; omega
 conv=>lhs; rw [e2]
 rw [Nat.add_mul_mod_self_left]
theorem qGU (w Q q:Nat) (hq:q<10):zA (w+1) (Q * 10+q)=zA w Q++[UInt8.ofNat (48+q)]:=by
 refine qKX _ _ (by simp [zD]) (zT _ _) ?_ ?_
 ·rw [List.all_append,zT]
  simp only [List.all_cons,List.all_nil,Bool.and_true,Bool.true_and]
  rw [zK,kF hq]; omega
 rw [kN,zZ,zZ,kF hq,Nat.pow_succ,show 48+q-48=q by omega]
 have h1:(Q * 10+q) % 10=q:=by omega
 have h2:(Q * 10+q) / 10=Q:=by omega
 rw [Nat.mul_comm (10 ^ w) 10,Nat.mod_mul,h1,h2]; omega
def ndg (Q:Nat):Nat:=(qQ (Lib.decDigits Q)).length
theorem qVQ {s:List UInt8} (h:s.all qH=true):(qQ s).length=ndg (qE s):=by
 unfold ndg; rw [qYA h (qJK (qE s)) (qQD _).symm]
theorem zMO (Q k:Nat):ndg Q≤k↔Q<10 ^ k:=by
 unfold ndg
 have ha:=jT (qJK Q)
 have hv:qE (qQ (Lib.decDigits Q))=Q:=by rw [vE,qQD]
 have hh:=uE (Lib.decDigits Q)
 have h1:=wB ha
 generalize qQ (Lib.decDigits Q)=s at *
 rw [hv] at h1
 constructor
 ·intro h
  exact Nat.lt_of_lt_of_le h1 (Nat.pow_le_pow_right (by decide) h)
 intro h
 apply Nat.le_of_not_lt
 intro hk
 have h2:=uN ha (by omega) (hh (by omega))
 rw [hv] at h2
 have:10 ^ k≤10 ^ (s.length-1):=Nat.pow_le_pow_right (by decide) (by omega)
 omega
def qBU (A B j:Nat):Bool:=decide (jC A B j≠0) && decide (ndg (wH A B j)≤34)
def qRI (A B:Nat):Nat→Nat→Nat
 | 0,j=>j
 | f+1,j=>if qBU A B j=true then qRI A B f (j+1) else j
theorem qMW {A B:Nat}:∀ (f j J:Nat),(∀ i,j≤i→i<J→qBU A B i=true)→j≤J→J≤j+f→qBU A B J=false→qRI A B f j=J
 | 0,j,J,_,h1,h2,_=>by simp only [qRI]; omega
 | f+1,j,J,h,h1,h2,h3=>by
  simp only [qRI]
  by_cases e:j=J
  ·subst e; rw [h3]; simp
  rw [if_pos (h j (Nat.le_refl _) (by omega))]
  exact qMW f (j+1) J (fun i hi=>h i (by omega)) (by omega) (by omega) h3
theorem qZH {A B j:Nat} (hB0:0<B) (hB:B<10 ^ 60) (h:qBU A B j=true):j<100:=by
 simp only [qBU,Bool.and_eq_true,decide_eq_true_eq] at h
 obtain ⟨h1,h2⟩:=h
 rw [zMO] at h2
 apply Nat.lt_of_not_le
 intro hj
 have hA:0<A:=by
  rcases Nat.eq_zero_or_pos A with e | e
  ·subst e; simp [jC] at h1
  exact e
 have h3:10 ^ 94≤10 ^ j:=Nat.pow_le_pow_right (by decide) (by omega)
 have h4:10 ^ 94≤A * 10 ^ j:=Nat.le_trans h3 (Nat.le_mul_of_pos_left _ hA)
 have h5:10 ^ 34≤wH A B j:=by
  unfold wH
  rw [Nat.le_div_iff_mul_le hB0]
  refine Nat.le_trans (Nat.mul_le_mul_left _ (Nat.le_of_lt hB)) ?_
  rw [← Nat.pow_add]
  exact h4
 omega
def uC (Q:Nat) (m:Bool):Nat × Nat :=
 if ndg Q≤34 then (Q,0)
 else (if 5<Q / 10 ^ (ndg Q-35) % 10∨(Q / 10 ^ (ndg Q-35) % 10=5∧(m=true∨Q % 10 ^ (ndg Q-35)≠0∨Q / 10 ^ (ndg Q-34) % 2=1)) then Q / 10 ^ (ndg Q-34)+1 else Q / 10 ^ (ndg Q-34),ndg Q-34)
def qMJ (A B:Nat):Nat × Int:=((uC (wH A B (qRI A B 100 0)) (decide (jC A B (qRI A B 100 0)≠0))).1,(qRI A B 100 0:Int)-(uC (wH A B (qRI A B 100 0)) (decide (jC A B (qRI A B 100 0)≠0))).2)
def qBE (a b:Dc):Dc × Int:=if b.digits=[48] then (dc0,5) else vG (a.neg != b.neg) (qMJ (qE a.digits) (qE b.digits)).1 (a.scale-b.scale+(qMJ (qE a.digits) (qE b.digits)).2)
def qAX (a b:Dc):Dc × Int:=if b.digits=[48] then (dc0,5) else zW a.neg (qE (yI a (qX a b)) % qE (yI b (qX a b))) (qX a b).toNat
theorem zBX (k:Nat):qE (List.replicate k 57)+1=10 ^ k:=by
 induction k with
 | zero=>rfl
 | succ k ih =>
  rw [List.replicate_succ,wY,List.length_replicate,Nat.pow_succ]
  have:(57:UInt8).toNat-48=9:=rfl
  rw [this]; omega
theorem zJY {H : List UInt8} {n k : Nat} {b : UInt8} (hn : n + 1 + k = H.length) (hb : H[n]? = some b) (hd : qH b = true) (h9 : b ≠ 57) (hk : ∀ j, n < j → j < H.length → H[j]? = some 57) :
  qE (H.take n++(UInt8.ofNat (b.toNat+1))::List.replicate k 48)=qE H+1:=by
 have hn':n<H.length:=by omega
 have hdrop:H.drop (n+1)=List.replicate k 57:=by
  rw [List.eq_replicate_iff]
  refine ⟨by simp; omega,fun x hx => ?_⟩
  obtain ⟨j,hj⟩:=List.mem_iff_getElem?.1 hx
  rw [List.getElem?_drop] at hj
  have hl:=(List.getElem?_eq_some_iff.1 hj).1
  rw [hk (n+1+j) (by omega) hl] at hj
  cases hj; rfl
 have hH:H=H.take n++b::List.replicate k 57:=by
  rw [← hdrop]
  have:b::H.drop (n+1)=H.drop n:=by
   rw [List.drop_eq_getElem_cons hn']
   congr 1
   rw [List.getElem?_eq_getElem hn'] at hb
   cases hb; rfl
  rw [this,List.take_append_drop]
 have hbr:=(zK b).1 hd
 have hb57:b.toNat≠57:=fun e=>h9 (UInt8.toNat_inj.1 e)
 have hbn:(UInt8.ofNat (b.toNat+1)).toNat=b.toNat+1:=by rw [UInt8.toNat_ofNat']; omega
 conv=>rhs; rw [hH]
 rw [wP,wP,wY,wY,hbn,jL]
 simp only [List.length_cons,List.length_replicate]
 have:=zBX k
 rw [show b.toNat+1-48=b.toNat-48+1 by omega,Nat.add_mul]
 omega
end Go.Proofs.YtdojfdaglbphlaaGreatDoor
