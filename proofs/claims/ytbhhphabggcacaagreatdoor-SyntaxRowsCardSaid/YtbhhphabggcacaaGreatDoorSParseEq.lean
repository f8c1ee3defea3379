import Derived.Test.YtbhhphabggcacaaGreatDoorK1
namespace Go.Proofs.YtbhhphabggcacaaGreatDoor
open Sy Go
set_option linter.unusedSimpArgs false
set_option linter.unusedVariables false
theorem qBY (b:UInt8) (n:Nat) (hn:n<256):((b.toNat:Int)=(n:Int))↔b=UInt8.ofNat n:=by
 constructor
 ·intro e; exact UInt8.toNat_inj.1 (by rw [UInt8.toNat_ofNat']; omega)
 rintro rfl; rw [UInt8.toNat_ofNat']; omega
theorem qFU (s:List UInt8) (k:Nat):wK s k=((s.drop k).takeWhile qI).length:=rfl
theorem qDE (l:List UInt8):l=l.takeWhile qI++l.dropWhile qI:=(List.takeWhile_append_dropWhile).symm
theorem qPG (s:List UInt8) (k:Nat):∀ i,i≤wK s k→upM s k i=(vQ ((s.drop k).take i):Int)
 | 0,_=>by simp [upM,vQ]
 | i+1,h=>by
  have hd:=qNS (s:=s) (k:=k) (i:=i) (by omega)
  have hg:(s.drop k)[i]?=some (s.getD (k+i) 0):=by
   rw [List.getElem?_drop,List.getD_eq_getElem?_getD]
   have:k+i<s.length:=hd.1
   simp [List.getElem?_eq_getElem this]
  rw [upM,qPG s k i (by omega),List.take_add_one,hg]
  simp only [Option.toList_some,vQ,List.foldl_append,List.foldl_cons,List.foldl_nil]
  have hb:zL s (k+i)=((s.getD (k+i) 0).toNat:Int):=rfl
  omega
theorem qDR {s:List UInt8} {k:Nat} {b:UInt8} {t:List UInt8} (h:s.drop k=b::t):s.drop (k+1)=t:=by
 rw [← List.drop_drop,h]; rfl
theorem qQX {s:List UInt8} {k:Nat}:s.drop (xC s k)=wF (s.drop k)∧(k<s.length∧zL s k=45↔(s.drop k).head?=some 45):=by
 cases h:s.drop k with
 | nil =>
  have:¬ k<s.length:=by have:=List.drop_eq_nil_iff.1 h; omega
  refine ⟨?_,by simp; omega⟩
  unfold xC wF
  rw [if_neg (by omega),h]; simp
 | cons b t =>
  obtain ⟨h1,h2⟩:=xS h
  have e45:zL s k=45↔b=45:=by rw [h2]; exact qBY b 45 (by decide)
  have e43:zL s k=43↔b=43:=by rw [h2]; exact qBY b 43 (by decide)
  refine ⟨?_,by simp [h1,e45]⟩
  unfold xC wF
  simp only [h1,e45,e43,true_and,List.head?_cons,Option.some.injEq,List.drop_succ_cons,List.drop_zero]
  split
  ·exact qDR h
  exact h
theorem qJM (s : List UInt8) (k : Nat) (hk : k ≤ s.length) (neg : Bool) (digits : List UInt8) (scale : Nat) :
  qBD s neg digits scale (qPR s k)=match vX (s.drop k) with
   | none=>jD
   | some up=>uK neg digits (scale-up):=by
 cases h:s.drop k with
 | nil =>
  have:¬ k<s.length:=by have:=List.drop_eq_nil_iff.1 h; omega
  simp only [qPR,vX]
  rw [if_neg (by omega)]
  simp only [qBD]
  rw [if_pos (by omega)]
 | cons b t =>
  obtain ⟨h1,h2⟩:=xS h
  have e1:zL s k=101↔b=101:=by rw [h2]; exact qBY b 101 (by decide)
  have e2:zL s k=69↔b=69:=by rw [h2]; exact qBY b 69 (by decide)
  simp only [qPR,vX,h1,true_and,e1,e2]
  by_cases hb:b=101∨b=69
  ·rw [if_pos hb,if_neg (show ¬ (b≠101∧b≠69) from fun h=>by rcases hb with hb | hb; exact h.1 hb; exact h.2 hb)]
   obtain ⟨sd,sh⟩:=qQX (s:=s) (k:=k+1)
   rw [qDR h] at sd sh
   have hrun:=qFU s (xC s (k+1))
   have hup:=qPG s (xC s (k+1)) _ (Nat.le_refl _)
   rw [sd] at hrun hup
   have hsp:=qDE (wF t)
   have hlen:(s.drop (xC s (k+1))).length=(wF t).length:=by rw [sd]
   rw [List.length_drop] at hlen
   have hl2:=congrArg List.length hsp
   rw [List.length_append,← hrun] at hl2
   generalize xC s (k+1)=sg at *
   have htk:(wF t).take (wK s sg)=(wF t).takeWhile qI:=by
    conv=>lhs; rw [hsp,hrun]
    exact List.take_left
   rw [htk] at hup
   rw [hup,← hrun]
   by_cases hD:wK s sg<1∨2<wK s sg
   ·rw [if_pos hD,if_pos (.inr hD)]
    rfl
   rw [if_neg hD]
   by_cases hE:(wF t).dropWhile qI=[]
   ·rw [if_neg (show ¬ ((wF t).dropWhile qI≠[]∨wK s sg<1∨2<wK s sg) from fun h=>h.elim (fun h=>h hE) hD)]
    rw [hE,List.length_nil] at hl2
    simp only [qBD]
    rw [if_pos (show sg+wK s sg=s.length by omega)]
    simp only [sh]
   rw [if_pos (show (wF t).dropWhile qI≠[]∨wK s sg<1∨2<wK s sg from .inl hE)]
   have:=List.length_pos_iff.2 hE
   simp only [qBD]
   rw [if_neg (show ¬ sg+wK s sg=s.length by omega)]
  rw [if_neg hb,if_pos (show b≠101∧b≠69 from by simp only [not_or] at hb; exact hb)]
  simp only [qBD]
  rw [if_neg (by omega)]
theorem qVX (s : List UInt8) (k : Nat) (hk : k ≤ s.length) (neg : Bool) (dg : List UInt8) :
  qHY s neg (qLT s k dg)=match uO (s.drop k) with
   | none=>jD
   | some (P,r)=>(match vX r with
    | none=>jD
    | some up=>uK neg (dg++P) (P.length-up)):=by
 cases h:s.drop k with
 | nil =>
  have:¬ k<s.length:=by have:=List.drop_eq_nil_iff.1 h; omega
  simp only [qLT,uO]
  rw [if_neg (by omega),if_neg (by simp)]
  simp only [qHY]
  rw [qJM s k hk,h]
  simp
 | cons b t =>
  obtain ⟨h1,h2⟩:=xS h
  have e1:zL s k=46↔b=46:=by rw [h2]; exact qBY b 46 (by decide)
  simp only [qLT,uO,h1,true_and,e1,List.head?_cons,Option.some.injEq,List.drop_succ_cons,List.drop_zero]
  by_cases hb:b=46
  ·rw [if_pos hb,if_pos hb]
   have hd:=qDR h
   have hrun:=qFU s (k+1)
   rw [hd] at hrun
   have hsp:=qDE t
   have hin:=qPO s (k+1) (by omega)
   by_cases hP:t.takeWhile qI=[]
   ·rw [if_pos hP,if_pos (by rw [hrun,hP]; rfl)]
    rfl
   rw [if_neg hP,if_neg (by rw [hrun]; have:=List.length_pos_iff.2 hP; omega)]
   simp only [qHY]
   rw [qJM s _ hin]
   have hd2:s.drop (k+1+wK s (k+1))=t.dropWhile qI:=by
    rw [← List.drop_drop,hd,hrun]
    conv=>lhs; arg 2; rw [hsp]
    exact List.drop_left
   have ht2:(s.take (k+1+wK s (k+1))).drop (k+1)=t.takeWhile qI:=by
    rw [List.drop_take,hd,show k+1+wK s (k+1)-(k+1)=(t.takeWhile qI).length by omega]
    conv=>lhs; arg 2; rw [hsp]
    exact List.take_left
   rw [hd2,ht2,hrun]
  rw [if_neg hb,if_neg hb]
  simp only [qHY]
  rw [qJM s k hk,h]
  simp
theorem qTG (s:List UInt8):qHD s=jQ s:=by
 have hb:xT s=s.drop (a0M s)∧qOC s=qTK s∧a0M s≤s.length:=by
  cases s with
  | nil=>exact ⟨rfl,rfl,by decide⟩
  | cons b t =>
   have:qTK (b::t)=decide (b=45):=by
    unfold qTK
    rw [show zL (b::t) 0=(b.toNat:Int) from rfl]
    rw [Bool.eq_iff_iff]
    simp
    exact qBY b 45 (by decide)
   refine ⟨?_,by unfold qOC; rw [this]; simp,by unfold a0M; split <;> simp⟩
   unfold xT a0M
   rw [this]
   by_cases hb:b=45
   ·simp [hb]
   simp [hb]
 obtain ⟨h1,h2,h3⟩:=hb
 unfold qHD jQ
 rw [h1,h2]
 have hrun:=qFU s (a0M s)
 have hin:=qPO s (a0M s) h3
 have hsp:=qDE (s.drop (a0M s))
 have ht2:(s.take (a0M s+wK s (a0M s))).drop (a0M s)=(s.drop (a0M s)).takeWhile qI:=by
  rw [List.drop_take,show a0M s+wK s (a0M s)-a0M s=((s.drop (a0M s)).takeWhile qI).length by omega]
  conv=>lhs; arg 2; rw [hsp]
  exact List.take_left
 have hd2:s.drop (a0M s+wK s (a0M s))=(s.drop (a0M s)).dropWhile qI:=by
  rw [← List.drop_drop,hrun]
  conv=>lhs; arg 2; rw [hsp]
  exact List.drop_left
 rw [qVX s _ hin,ht2,hd2]
 generalize hW:(s.drop (a0M s)).takeWhile qI=W at *
 have hc:(wK s (a0M s)=0∨(1<wK s (a0M s)∧zL s (a0M s)=48))↔(W=[]∨(1<W.length∧W.head?=some 48)):=by
  rw [hrun]
  cases W with
  | nil=>simp
  | cons b W =>
   have e:s.drop (a0M s)=b::(W++(s.drop (a0M s)).dropWhile qI):=hsp
   obtain ⟨q1,q2⟩:=xS e
   rw [q2]
   simp
   intro _
   exact qBY b 48 (by decide)
 by_cases hC:W=[]∨(1<W.length∧W.head?=some 48)
 ·rw [if_pos (hc.2 hC)]
  cases uO ((s.drop (a0M s)).dropWhile qI) with
  | none=>rfl
  | some q =>
   obtain ⟨P,r⟩:=q
   simp only
   cases vX r with
   | none=>rfl
   | some up=>simp only [qMT]; rw [if_pos hC]
 rw [if_neg (fun h=>hC (hc.1 h))]
 cases uO ((s.drop (a0M s)).dropWhile qI) with
 | none=>rfl
 | some q =>
  obtain ⟨P,r⟩:=q
  simp only
  cases vX r with
  | none=>rfl
  | some up=>simp only [qMT]; rw [if_neg hC]
end Go.Proofs.YtbhhphabggcacaaGreatDoor
