import Derived.Test.YtlmedakhioiahaaGreatDoorK1
namespace Go.Proofs.YtlmedakhioiahaaGreatDoor
open Sy Go
set_option linter.unusedSimpArgs false
set_option linter.unusedVariables false
theorem qEP (b:UInt8) (n:Nat) (hn:n<256):((b.toNat:Int)=(n:Int))↔b=UInt8.ofNat n:=by
 constructor
 ·intro e; exact UInt8.toNat_inj.1 (by rw [UInt8.toNat_ofNat']; omega)
 rintro rfl; rw [UInt8.toNat_ofNat']; omega
theorem qKL (s:List UInt8) (k:Nat):zI s k=((s.drop k).takeWhile qJ).length:=rfl
theorem qGT (l:List UInt8):l=l.takeWhile qJ++l.dropWhile qJ:=(List.takeWhile_append_dropWhile).symm
theorem qWQ (s:List UInt8) (k:Nat):∀ i,i≤zI s k→upM s k i=(qAQ ((s.drop k).take i):Int)
 | 0,_=>by simp [upM,qAQ]
 | i+1,h=>by
  have hd:=vR (s:=s) (k:=k) (i:=i) (by omega)
  have hg:(s.drop k)[i]?=some (s.getD (k+i) 0):=by
   rw [List.getElem?_drop,List.getD_eq_getElem?_getD]
   have:k+i<s.length:=hd.1
   simp [List.getElem?_eq_getElem this]
  rw [upM,qWQ s k i (by omega),List.take_add_one,hg]
  simp only [Option.toList_some,qAQ,List.foldl_append,List.foldl_cons,List.foldl_nil]
  have hb:qQ s (k+i)=((s.getD (k+i) 0).toNat:Int):=rfl
  omega
theorem qHI {s:List UInt8} {k:Nat} {b:UInt8} {t:List UInt8} (h:s.drop k=b::t):s.drop (k+1)=t:=by
 rw [← List.drop_drop,h]; rfl
theorem qYM {s:List UInt8} {k:Nat}:s.drop (wN s k)=wU (s.drop k)∧(k<s.length∧qQ s k=45↔(s.drop k).head?=some 45):=by
 cases h:s.drop k with
 | nil =>
  have:¬ k<s.length:=by have:=List.drop_eq_nil_iff.1 h; omega
  refine ⟨?_,by simp; omega⟩
  unfold wN wU
  rw [if_neg (by omega),h]; simp
 | cons b t =>
  obtain ⟨h1,h2⟩:=uQ h
  have e45:qQ s k=45↔b=45:=by rw [h2]; exact qEP b 45 (by decide)
  have e43:qQ s k=43↔b=43:=by rw [h2]; exact qEP b 43 (by decide)
  refine ⟨?_,by simp [h1,e45]⟩
  unfold wN wU
  simp only [h1,e45,e43,true_and,List.head?_cons,Option.some.injEq,List.drop_succ_cons,List.drop_zero]
  split
  ·exact qHI h
  exact h
theorem qPH (s : List UInt8) (k : Nat) (hk : k ≤ s.length) (neg : Bool) (digits : List UInt8) (scale : Nat) :
  vH s neg digits scale (qBX s k)=match qAW (s.drop k) with
   | none=>kL
   | some up=>jP neg digits (scale-up):=by
 cases h:s.drop k with
 | nil =>
  have:¬ k<s.length:=by have:=List.drop_eq_nil_iff.1 h; omega
  simp only [qBX,qAW]
  rw [if_neg (by omega)]
  simp only [vH]
  rw [if_pos (by omega)]
 | cons b t =>
  obtain ⟨h1,h2⟩:=uQ h
  have e1:qQ s k=101↔b=101:=by rw [h2]; exact qEP b 101 (by decide)
  have e2:qQ s k=69↔b=69:=by rw [h2]; exact qEP b 69 (by decide)
  simp only [qBX,qAW,h1,true_and,e1,e2]
  by_cases hb:b=101∨b=69
  ·rw [if_pos hb,if_neg (show ¬ (b≠101∧b≠69) from fun h=>by rcases hb with hb | hb; exact h.1 hb; exact h.2 hb)]
   obtain ⟨sd,sh⟩:=qYM (s:=s) (k:=k+1)
   rw [qHI h] at sd sh
   have hrun:=qKL s (wN s (k+1))
   have hup:=qWQ s (wN s (k+1)) _ (Nat.le_refl _)
   rw [sd] at hrun hup
   have hsp:=qGT (wU t)
   have hlen:(s.drop (wN s (k+1))).length=(wU t).length:=by rw [sd]
   rw [List.length_drop] at hlen
   have hl2:=congrArg List.length hsp
   rw [List.length_append,← hrun] at hl2
   generalize wN s (k+1)=sg at *
   have htk:(wU t).take (zI s sg)=(wU t).takeWhile qJ:=by
    conv=>lhs; rw [hsp,hrun]
    exact List.take_left
   rw [htk] at hup
   rw [hup,← hrun]
   by_cases hD:zI s sg<1∨2<zI s sg
   ·rw [if_pos hD,if_pos (.inr hD)]
    rfl
   rw [if_neg hD]
   by_cases hE:(wU t).dropWhile qJ=[]
   ·rw [if_neg (show ¬ ((wU t).dropWhile qJ≠[]∨zI s sg<1∨2<zI s sg) from fun h=>h.elim (fun h=>h hE) hD)]
    rw [hE,List.length_nil] at hl2
    simp only [vH]
    rw [if_pos (show sg+zI s sg=s.length by omega)]
    simp only [sh]
   rw [if_pos (show (wU t).dropWhile qJ≠[]∨zI s sg<1∨2<zI s sg from .inl hE)]
   have:=List.length_pos_iff.2 hE
   simp only [vH]
   rw [if_neg (show ¬ sg+zI s sg=s.length by omega)]
  rw [if_neg hb,if_pos (show b≠101∧b≠69 from by simp only [not_or] at hb; exact hb)]
  simp only [vH]
  rw [if_neg (by omega)]
theorem zFC (s : List UInt8) (k : Nat) (hk : k ≤ s.length) (neg : Bool) (dg : List UInt8) :
  qFF s neg (qBJ s k dg)=match qBO (s.drop k) with
   | none=>kL
   | some (P,r)=>(match qAW r with
    | none=>kL
    | some up=>jP neg (dg++P) (P.length-up)):=by
 cases h:s.drop k with
 | nil =>
  have:¬ k<s.length:=by have:=List.drop_eq_nil_iff.1 h; omega
  simp only [qBJ,qBO]
  rw [if_neg (by omega),if_neg (by simp)]
  simp only [qFF]
  rw [qPH s k hk,h]
  simp
 | cons b t =>
  obtain ⟨h1,h2⟩:=uQ h
  have e1:qQ s k=46↔b=46:=by rw [h2]; exact qEP b 46 (by decide)
  simp only [qBJ,qBO,h1,true_and,e1,List.head?_cons,Option.some.injEq,List.drop_succ_cons,List.drop_zero]
  by_cases hb:b=46
  ·rw [if_pos hb,if_pos hb]
   have hd:=qHI h
   have hrun:=qKL s (k+1)
   rw [hd] at hrun
   have hsp:=qGT t
   have hin:=qFI s (k+1) (by omega)
   by_cases hP:t.takeWhile qJ=[]
   ·rw [if_pos hP,if_pos (by rw [hrun,hP]; rfl)]
    rfl
   rw [if_neg hP,if_neg (by rw [hrun]; have:=List.length_pos_iff.2 hP; omega)]
   simp only [qFF]
   rw [qPH s _ hin]
   have hd2:s.drop (k+1+zI s (k+1))=t.dropWhile qJ:=by
    rw [← List.drop_drop,hd,hrun]
    conv=>lhs; arg 2; rw [hsp]
    exact List.drop_left
   have ht2:(s.take (k+1+zI s (k+1))).drop (k+1)=t.takeWhile qJ:=by
    rw [List.drop_take,hd,show k+1+zI s (k+1)-(k+1)=(t.takeWhile qJ).length by omega]
    conv=>lhs; arg 2; rw [hsp]
    exact List.take_left
   rw [hd2,ht2,hrun]
  rw [if_neg hb,if_neg hb]
  simp only [qFF]
  rw [qPH s k hk,h]
  simp
theorem qSL (s:List UInt8):uA s=zW s:=by
 have hb:vY s=s.drop (a0M s)∧qSV s=jD s∧a0M s≤s.length:=by
  cases s with
  | nil=>exact ⟨rfl,rfl,by decide⟩
  | cons b t =>
   have:jD (b::t)=decide (b=45):=by
    unfold jD
    rw [show qQ (b::t) 0=(b.toNat:Int) from rfl]
    rw [Bool.eq_iff_iff]
    simp
    exact qEP b 45 (by decide)
   refine ⟨?_,by unfold qSV; rw [this]; simp,by unfold a0M; split <;> simp⟩
   unfold vY a0M
   rw [this]
   by_cases hb:b=45
   ·simp [hb]
   simp [hb]
 obtain ⟨h1,h2,h3⟩:=hb
 unfold uA zW
 rw [h1,h2]
 have hrun:=qKL s (a0M s)
 have hin:=qFI s (a0M s) h3
 have hsp:=qGT (s.drop (a0M s))
 have ht2:(s.take (a0M s+zI s (a0M s))).drop (a0M s)=(s.drop (a0M s)).takeWhile qJ:=by
  rw [List.drop_take,show a0M s+zI s (a0M s)-a0M s=((s.drop (a0M s)).takeWhile qJ).length by omega]
  conv=>lhs; arg 2; rw [hsp]
  exact List.take_left
 have hd2:s.drop (a0M s+zI s (a0M s))=(s.drop (a0M s)).dropWhile qJ:=by
  rw [← List.drop_drop,hrun]
  conv=>lhs; arg 2; rw [hsp]
  exact List.drop_left
 rw [zFC s _ hin,ht2,hd2]
 generalize hW:(s.drop (a0M s)).takeWhile qJ=W at *
 have hc:(zI s (a0M s)=0∨(1<zI s (a0M s)∧qQ s (a0M s)=48))↔(W=[]∨(1<W.length∧W.head?=some 48)):=by
  rw [hrun]
  cases W with
  | nil=>simp
  | cons b W =>
   have e:s.drop (a0M s)=b::(W++(s.drop (a0M s)).dropWhile qJ):=hsp
   obtain ⟨q1,q2⟩:=uQ e
   rw [q2]
   simp
   intro _
   exact qEP b 48 (by decide)
 by_cases hC:W=[]∨(1<W.length∧W.head?=some 48)
 ·rw [if_pos (hc.2 hC)]
  cases qBO ((s.drop (a0M s)).dropWhile qJ) with
  | none=>rfl
  | some q =>
   obtain ⟨P,r⟩:=q
   simp only
   cases qAW r with
   | none=>rfl
   | some up=>simp only [qQG]; rw [if_pos hC]
 rw [if_neg (fun h=>hC (hc.1 h))]
 cases qBO ((s.drop (a0M s)).dropWhile qJ) with
 | none=>rfl
 | some q =>
  obtain ⟨P,r⟩:=q
  simp only
  cases qAW r with
  | none=>rfl
  | some up=>simp only [qQG]; rw [if_neg hC]
end Go.Proofs.YtlmedakhioiahaaGreatDoor
