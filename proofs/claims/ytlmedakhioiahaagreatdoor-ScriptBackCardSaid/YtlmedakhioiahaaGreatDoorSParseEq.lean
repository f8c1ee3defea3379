import Derived.Test.YtlmedakhioiahaaGreatDoorK1
namespace Go.Proofs.YtlmedakhioiahaaGreatDoor
open Sy Go
set_option linter.unusedSimpArgs false
set_option linter.unusedVariables false
theorem qDE (b:UInt8) (n:Nat) (hn:n<256):((b.toNat:Int)=(n:Int))↔b=UInt8.ofNat n:=by
 constructor
 ·intro e; exact UInt8.toNat_inj.1 (by rw [UInt8.toNat_ofNat']; omega)
 rintro rfl; rw [UInt8.toNat_ofNat']; omega
theorem qIS (s:List UInt8) (k:Nat):wQ s k=((s.drop k).takeWhile qI).length:=rfl
theorem xN (l:List UInt8):l=l.takeWhile qI++l.dropWhile qI:=(List.takeWhile_append_dropWhile).symm
theorem qUZ (s:List UInt8) (k:Nat):∀ i,i≤wQ s k→upM s k i=(uO ((s.drop k).take i):Int)
 | 0,_=>by simp [upM,uO]
 | i+1,h=>by
  have hd:=qSW (s:=s) (k:=k) (i:=i) (by omega)
  have hg:(s.drop k)[i]?=some (s.getD (k+i) 0):=by
   rw [List.getElem?_drop,List.getD_eq_getElem?_getD]
   have:k+i<s.length:=hd.1
   simp [List.getElem?_eq_getElem this]
  rw [upM,qUZ s k i (by omega),List.take_add_one,hg]
  simp only [Option.toList_some,uO,List.foldl_append,List.foldl_cons,List.foldl_nil]
  have hb:qS s (k+i)=((s.getD (k+i) 0).toNat:Int):=rfl
  omega
theorem qGB {s:List UInt8} {k:Nat} {b:UInt8} {t:List UInt8} (h:s.drop k=b::t):s.drop (k+1)=t:=by
 rw [← List.drop_drop,h]; rfl
theorem qWR {s:List UInt8} {k:Nat}:s.drop (xQ s k)=zX (s.drop k)∧(k<s.length∧qS s k=45↔(s.drop k).head?=some 45):=by
 cases h:s.drop k with
 | nil =>
  have:¬ k<s.length:=by have:=List.drop_eq_nil_iff.1 h; omega
  refine ⟨?_,by simp; omega⟩
  unfold xQ zX
  rw [if_neg (by omega),h]; simp
 | cons b t =>
  obtain ⟨h1,h2⟩:=vO h
  have e45:qS s k=45↔b=45:=by rw [h2]; exact qDE b 45 (by decide)
  have e43:qS s k=43↔b=43:=by rw [h2]; exact qDE b 43 (by decide)
  refine ⟨?_,by simp [h1,e45]⟩
  unfold xQ zX
  simp only [h1,e45,e43,true_and,List.head?_cons,Option.some.injEq,List.drop_succ_cons,List.drop_zero]
  split
  ·exact qGB h
  exact h
theorem qNQ (s : List UInt8) (k : Nat) (hk : k ≤ s.length) (neg : Bool) (digits : List UInt8) (scale : Nat) :
  qCK s neg digits scale (qVQ s k)=match xY (s.drop k) with
   | none=>jN
   | some up=>xF neg digits (scale-up):=by
 cases h:s.drop k with
 | nil =>
  have:¬ k<s.length:=by have:=List.drop_eq_nil_iff.1 h; omega
  simp only [qVQ,xY]
  rw [if_neg (by omega)]
  simp only [qCK]
  rw [if_pos (by omega)]
 | cons b t =>
  obtain ⟨h1,h2⟩:=vO h
  have e1:qS s k=101↔b=101:=by rw [h2]; exact qDE b 101 (by decide)
  have e2:qS s k=69↔b=69:=by rw [h2]; exact qDE b 69 (by decide)
  simp only [qVQ,xY,h1,true_and,e1,e2]
  by_cases hb:b=101∨b=69
  ·rw [if_pos hb,if_neg (show ¬ (b≠101∧b≠69) from fun h=>by rcases hb with hb | hb; exact h.1 hb; exact h.2 hb)]
   obtain ⟨sd,sh⟩:=qWR (s:=s) (k:=k+1)
   rw [qGB h] at sd sh
   have hrun:=qIS s (xQ s (k+1))
   have hup:=qUZ s (xQ s (k+1)) _ (Nat.le_refl _)
   rw [sd] at hrun hup
   have hsp:=xN (zX t)
   have hlen:(s.drop (xQ s (k+1))).length=(zX t).length:=by rw [sd]
   rw [List.length_drop] at hlen
   have hl2:=congrArg List.length hsp
   rw [List.length_append,← hrun] at hl2
   generalize xQ s (k+1)=sg at *
   have htk:(zX t).take (wQ s sg)=(zX t).takeWhile qI:=by
    conv=>lhs; rw [hsp,hrun]
    exact List.take_left
   rw [htk] at hup
   rw [hup,← hrun]
   by_cases hD:wQ s sg<1∨2<wQ s sg
   ·rw [if_pos hD,if_pos (.inr hD)]
    rfl
   rw [if_neg hD]
   by_cases hE:(zX t).dropWhile qI=[]
   ·rw [if_neg (show ¬ ((zX t).dropWhile qI≠[]∨wQ s sg<1∨2<wQ s sg) from fun h=>h.elim (fun h=>h hE) hD)]
    rw [hE,List.length_nil] at hl2
    simp only [qCK]
    rw [if_pos (show sg+wQ s sg=s.length by omega)]
    simp only [sh]
   rw [if_pos (show (zX t).dropWhile qI≠[]∨wQ s sg<1∨2<wQ s sg from .inl hE)]
   have:=List.length_pos_iff.2 hE
   simp only [qCK]
   rw [if_neg (show ¬ sg+wQ s sg=s.length by omega)]
  rw [if_neg hb,if_pos (show b≠101∧b≠69 from by simp only [not_or] at hb; exact hb)]
  simp only [qCK]
  rw [if_neg (by omega)]
theorem zCY (s : List UInt8) (k : Nat) (hk : k ≤ s.length) (neg : Bool) (dg : List UInt8) :
  qLJ s neg (qQV s k dg)=match jY (s.drop k) with
   | none=>jN
   | some (P,r)=>(match xY r with
    | none=>jN
    | some up=>xF neg (dg++P) (P.length-up)):=by
 cases h:s.drop k with
 | nil =>
  have:¬ k<s.length:=by have:=List.drop_eq_nil_iff.1 h; omega
  simp only [qQV,jY]
  rw [if_neg (by omega),if_neg (by simp)]
  simp only [qLJ]
  rw [qNQ s k hk,h]
  simp
 | cons b t =>
  obtain ⟨h1,h2⟩:=vO h
  have e1:qS s k=46↔b=46:=by rw [h2]; exact qDE b 46 (by decide)
  simp only [qQV,jY,h1,true_and,e1,List.head?_cons,Option.some.injEq,List.drop_succ_cons,List.drop_zero]
  by_cases hb:b=46
  ·rw [if_pos hb,if_pos hb]
   have hd:=qGB h
   have hrun:=qIS s (k+1)
   rw [hd] at hrun
   have hsp:=xN t
   have hin:=qVO s (k+1) (by omega)
   by_cases hP:t.takeWhile qI=[]
   ·rw [if_pos hP,if_pos (by rw [hrun,hP]; rfl)]
    rfl
   rw [if_neg hP,if_neg (by rw [hrun]; have:=List.length_pos_iff.2 hP; omega)]
   simp only [qLJ]
   rw [qNQ s _ hin]
   have hd2:s.drop (k+1+wQ s (k+1))=t.dropWhile qI:=by
    rw [← List.drop_drop,hd,hrun]
    conv=>lhs; arg 2; rw [hsp]
    exact List.drop_left
   have ht2:(s.take (k+1+wQ s (k+1))).drop (k+1)=t.takeWhile qI:=by
    rw [List.drop_take,hd,show k+1+wQ s (k+1)-(k+1)=(t.takeWhile qI).length by omega]
    conv=>lhs; arg 2; rw [hsp]
    exact List.take_left
   rw [hd2,ht2,hrun]
  rw [if_neg hb,if_neg hb]
  simp only [qLJ]
  rw [qNQ s k hk,h]
  simp
theorem qZX (s:List UInt8):qKQ s=zW s:=by
 have hb:yJ s=s.drop (a0M s)∧qJG s=zAA s∧a0M s≤s.length:=by
  cases s with
  | nil=>exact ⟨rfl,rfl,by decide⟩
  | cons b t =>
   have:zAA (b::t)=decide (b=45):=by
    unfold zAA
    rw [show qS (b::t) 0=(b.toNat:Int) from rfl]
    rw [Bool.eq_iff_iff]
    simp
    exact qDE b 45 (by decide)
   refine ⟨?_,by unfold qJG; rw [this]; simp,by unfold a0M; split <;> simp⟩
   unfold yJ a0M
   rw [this]
   by_cases hb:b=45
   ·simp [hb]
   simp [hb]
 obtain ⟨h1,h2,h3⟩:=hb
 unfold qKQ zW
 rw [h1,h2]
 have hrun:=qIS s (a0M s)
 have hin:=qVO s (a0M s) h3
 have hsp:=xN (s.drop (a0M s))
 have ht2:(s.take (a0M s+wQ s (a0M s))).drop (a0M s)=(s.drop (a0M s)).takeWhile qI:=by
  rw [List.drop_take,show a0M s+wQ s (a0M s)-a0M s=((s.drop (a0M s)).takeWhile qI).length by omega]
  conv=>lhs; arg 2; rw [hsp]
  exact List.take_left
 have hd2:s.drop (a0M s+wQ s (a0M s))=(s.drop (a0M s)).dropWhile qI:=by
  rw [← List.drop_drop,hrun]
  conv=>lhs; arg 2; rw [hsp]
  exact List.drop_left
 rw [zCY s _ hin,ht2,hd2]
 generalize hW:(s.drop (a0M s)).takeWhile qI=W at *
 have hc:(wQ s (a0M s)=0∨(1<wQ s (a0M s)∧qS s (a0M s)=48))↔(W=[]∨(1<W.length∧W.head?=some 48)):=by
  rw [hrun]
  cases W with
  | nil=>simp
  | cons b W =>
   have e:s.drop (a0M s)=b::(W++(s.drop (a0M s)).dropWhile qI):=hsp
   obtain ⟨q1,q2⟩:=vO e
   rw [q2]
   simp
   intro _
   exact qDE b 48 (by decide)
 by_cases hC:W=[]∨(1<W.length∧W.head?=some 48)
 ·rw [if_pos (hc.2 hC)]
  cases jY ((s.drop (a0M s)).dropWhile qI) with
  | none=>rfl
  | some q =>
   obtain ⟨P,r⟩:=q
   simp only
   cases xY r with
   | none=>rfl
   | some up=>simp only [qJZ]; rw [if_pos hC]
 rw [if_neg (fun h=>hC (hc.1 h))]
 cases jY ((s.drop (a0M s)).dropWhile qI) with
 | none=>rfl
 | some q =>
  obtain ⟨P,r⟩:=q
  simp only
  cases xY r with
  | none=>rfl
  | some up=>simp only [qJZ]; rw [if_neg hC]
def qCM (b:UInt8):Bool:=qI b || b == 45 || b == 43 || b == 46 || b == 101 || b == 69
theorem qFB {l:List UInt8} (h:l.all qI=true):l.all qCM=true:=by
 rw [List.all_eq_true] at h ⊢
 intro b hb; simp [qCM,h b hb]
theorem qNI (l:List UInt8):(l.takeWhile qI).all qI=true:=by
 rw [List.all_eq_true]; intro b hb
 induction l with
 | nil=>cases hb
 | cons a l ih =>
  rw [List.takeWhile_cons] at hb
  split at hb
  ·rcases List.mem_cons.1 hb with rfl | hb
   ·assumption
   exact ih hb
  cases hb
theorem zED {r:List UInt8} {up:Int} (h:xY r=some up):r.all qCM=true:=by
 cases r with
 | nil=>rfl
 | cons b t =>
  simp only [xY] at h
  split at h
  ·cases h
  rename_i h1
  split at h
  ·cases h
  rename_i h2
  simp only [not_or] at h2
  have h20:(zX t).dropWhile qI=[]:=Classical.byContradiction h2.1
  have hs:=xN (zX t)
  rw [h20,List.append_nil] at hs
  have h3:(zX t).all qI=true:=by rw [hs]; exact qNI _
  have hb:qCM b=true:=by
   by_cases e:b=101
   ·subst e; rfl
   have:b=69:=by
    apply Classical.byContradiction
    intro e2; exact h1 ⟨e,e2⟩
   subst this; rfl
  have ht:t.all qCM=true:=by
   unfold zX at h3
   split at h3
   ·rename_i hh
    cases t with
    | nil=>rfl
    | cons c t =>
     simp only [List.head?_cons,Option.some.injEq,List.drop_succ_cons,List.drop_zero] at hh h3
     rw [List.all_cons,qFB h3]
     rcases hh with rfl | rfl <;> rfl
   exact qFB h3
  rw [List.all_cons,hb,ht]; rfl
theorem zAO {F P r:List UInt8} (h:jY F=some (P,r)) (hr:r.all qCM=true):F.all qCM=true:=by
 unfold jY at h
 split at h
 ·rename_i hh
  split at h
  ·cases h
  cases h
  cases F with
  | nil=>rfl
  | cons b F =>
   simp only [List.head?_cons,Option.some.injEq,List.drop_succ_cons,List.drop_zero] at hh hr ⊢
   subst hh
   rw [List.all_cons,xN F,List.all_append,hr,qFB (qNI F)]
   rfl
 cases h; exact hr
theorem qFO {s:List UInt8} (h:(zW s).2≠4):s.all qCM=true∧∃ b t,s=b::t∧(b=45∨qI b=true):=by
 unfold zW at h
 cases hf:jY ((yJ s).dropWhile qI) with
 | none=>rw [hf] at h; exact absurd rfl h
 | some q =>
  obtain ⟨P,r⟩:=q
  rw [hf] at h
  simp only at h
  cases he:xY r with
  | none=>rw [he] at h; exact absurd rfl h
  | some up =>
   rw [he] at h
   simp only [qJZ] at h
   split at h
   ·exact absurd rfl h
   rename_i hW
   simp only [not_or] at hW
   have h1:=zAO hf (zED he)
   have h2:(yJ s).all qCM=true:=by rw [xN (yJ s),List.all_append,h1,qFB (qNI _)]; rfl
   have h3:∃ b t,yJ s=b::t∧qI b=true:=by
    cases hb:yJ s with
    | nil=>rw [hb] at hW; exact absurd rfl hW.1
    | cons b t =>
     refine ⟨b,t,rfl, ?_⟩
     rw [hb,List.takeWhile_cons] at hW
     split at hW
     ·assumption
     exact absurd rfl hW.1
   cases s with
   | nil=>obtain ⟨b,t,e,_⟩:=h3; simp [yJ] at e
   | cons c s =>
    by_cases hc:c=45
    ·subst hc
     simp only [yJ,List.head?_cons,if_true,List.drop_succ_cons,List.drop_zero] at h2
     exact ⟨by rw [List.all_cons,h2]; rfl,_,_,rfl,.inl rfl⟩
    simp only [yJ,List.head?_cons,Option.some.injEq,hc,if_false] at h2 h3
    obtain ⟨b,t,e,hd⟩:=h3
    cases e
    exact ⟨h2,_,_,rfl,.inr hd⟩
end Go.Proofs.YtlmedakhioiahaaGreatDoor
