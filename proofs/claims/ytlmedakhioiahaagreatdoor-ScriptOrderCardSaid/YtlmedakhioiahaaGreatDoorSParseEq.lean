import Derived.Test.YtlmedakhioiahaaGreatDoorK1
namespace Go.Proofs.YtlmedakhioiahaaGreatDoor
open Sy Go
set_option linter.unusedSimpArgs false
set_option linter.unusedVariables false
theorem qFA (b:UInt8) (n:Nat) (hn:n<256):((b.toNat:Int)=(n:Int))↔b=UInt8.ofNat n:=by
 constructor
 ·intro e; exact UInt8.toNat_inj.1 (by rw [UInt8.toNat_ofNat']; omega)
 rintro rfl; rw [UInt8.toNat_ofNat']; omega
theorem qKX (s:List UInt8) (k:Nat):zM s k=((s.drop k).takeWhile qJ).length:=rfl
theorem vZ (l:List UInt8):l=l.takeWhile qJ++l.dropWhile qJ:=(List.takeWhile_append_dropWhile).symm
theorem qXW (s:List UInt8) (k:Nat):∀ i,i≤zM s k→upM s k i=(qBG ((s.drop k).take i):Int)
 | 0,_=>by simp [upM,qBG]
 | i+1,h=>by
  have hd:=uB (s:=s) (k:=k) (i:=i) (by omega)
  have hg:(s.drop k)[i]?=some (s.getD (k+i) 0):=by
   rw [List.getElem?_drop,List.getD_eq_getElem?_getD]
   have:k+i<s.length:=hd.1
   simp [List.getElem?_eq_getElem this]
  rw [upM,qXW s k i (by omega),List.take_add_one,hg]
  simp only [Option.toList_some,qBG,List.foldl_append,List.foldl_cons,List.foldl_nil]
  have hb:qN s (k+i)=((s.getD (k+i) 0).toNat:Int):=rfl
  omega
theorem qHX {s:List UInt8} {k:Nat} {b:UInt8} {t:List UInt8} (h:s.drop k=b::t):s.drop (k+1)=t:=by
 rw [← List.drop_drop,h]; rfl
theorem qZU {s:List UInt8} {k:Nat}:s.drop (wW s k)=wK (s.drop k)∧(k<s.length∧qN s k=45↔(s.drop k).head?=some 45):=by
 cases h:s.drop k with
 | nil =>
  have:¬ k<s.length:=by have:=List.drop_eq_nil_iff.1 h; omega
  refine ⟨?_,by simp; omega⟩
  unfold wW wK
  rw [if_neg (by omega),h]; simp
 | cons b t =>
  obtain ⟨h1,h2⟩:=qAC h
  have e45:qN s k=45↔b=45:=by rw [h2]; exact qFA b 45 (by decide)
  have e43:qN s k=43↔b=43:=by rw [h2]; exact qFA b 43 (by decide)
  refine ⟨?_,by simp [h1,e45]⟩
  unfold wW wK
  simp only [h1,e45,e43,true_and,List.head?_cons,Option.some.injEq,List.drop_succ_cons,List.drop_zero]
  split
  ·exact qHX h
  exact h
theorem qQB (s : List UInt8) (k : Nat) (hk : k ≤ s.length) (neg : Bool) (digits : List UInt8) (scale : Nat) :
  vQ s neg digits scale (qCI s k)=match uG (s.drop k) with
   | none=>kS
   | some up=>jN neg digits (scale-up):=by
 cases h:s.drop k with
 | nil =>
  have:¬ k<s.length:=by have:=List.drop_eq_nil_iff.1 h; omega
  simp only [qCI,uG]
  rw [if_neg (by omega)]
  simp only [vQ]
  rw [if_pos (by omega)]
 | cons b t =>
  obtain ⟨h1,h2⟩:=qAC h
  have e1:qN s k=101↔b=101:=by rw [h2]; exact qFA b 101 (by decide)
  have e2:qN s k=69↔b=69:=by rw [h2]; exact qFA b 69 (by decide)
  simp only [qCI,uG,h1,true_and,e1,e2]
  by_cases hb:b=101∨b=69
  ·rw [if_pos hb,if_neg (show ¬ (b≠101∧b≠69) from fun h=>by rcases hb with hb | hb; exact h.1 hb; exact h.2 hb)]
   obtain ⟨sd,sh⟩:=qZU (s:=s) (k:=k+1)
   rw [qHX h] at sd sh
   have hrun:=qKX s (wW s (k+1))
   have hup:=qXW s (wW s (k+1)) _ (Nat.le_refl _)
   rw [sd] at hrun hup
   have hsp:=vZ (wK t)
   have hlen:(s.drop (wW s (k+1))).length=(wK t).length:=by rw [sd]
   rw [List.length_drop] at hlen
   have hl2:=congrArg List.length hsp
   rw [List.length_append,← hrun] at hl2
   generalize wW s (k+1)=sg at *
   have htk:(wK t).take (zM s sg)=(wK t).takeWhile qJ:=by
    conv=>lhs; rw [hsp,hrun]
    exact List.take_left
   rw [htk] at hup
   rw [hup,← hrun]
   by_cases hD:zM s sg<1∨2<zM s sg
   ·rw [if_pos hD,if_pos (.inr hD)]
    rfl
   rw [if_neg hD]
   by_cases hE:(wK t).dropWhile qJ=[]
   ·rw [if_neg (show ¬ ((wK t).dropWhile qJ≠[]∨zM s sg<1∨2<zM s sg) from fun h=>h.elim (fun h=>h hE) hD)]
    rw [hE,List.length_nil] at hl2
    simp only [vQ]
    rw [if_pos (show sg+zM s sg=s.length by omega)]
    simp only [sh]
   rw [if_pos (show (wK t).dropWhile qJ≠[]∨zM s sg<1∨2<zM s sg from .inl hE)]
   have:=List.length_pos_iff.2 hE
   simp only [vQ]
   rw [if_neg (show ¬ sg+zM s sg=s.length by omega)]
  rw [if_neg hb,if_pos (show b≠101∧b≠69 from by simp only [not_or] at hb; exact hb)]
  simp only [vQ]
  rw [if_neg (by omega)]
theorem zGR (s : List UInt8) (k : Nat) (hk : k ≤ s.length) (neg : Bool) (dg : List UInt8) :
  qFQ s neg (qBX s k dg)=match vI (s.drop k) with
   | none=>kS
   | some (P,r)=>(match uG r with
    | none=>kS
    | some up=>jN neg (dg++P) (P.length-up)):=by
 cases h:s.drop k with
 | nil =>
  have:¬ k<s.length:=by have:=List.drop_eq_nil_iff.1 h; omega
  simp only [qBX,vI]
  rw [if_neg (by omega),if_neg (by simp)]
  simp only [qFQ]
  rw [qQB s k hk,h]
  simp
 | cons b t =>
  obtain ⟨h1,h2⟩:=qAC h
  have e1:qN s k=46↔b=46:=by rw [h2]; exact qFA b 46 (by decide)
  simp only [qBX,vI,h1,true_and,e1,List.head?_cons,Option.some.injEq,List.drop_succ_cons,List.drop_zero]
  by_cases hb:b=46
  ·rw [if_pos hb,if_pos hb]
   have hd:=qHX h
   have hrun:=qKX s (k+1)
   rw [hd] at hrun
   have hsp:=vZ t
   have hin:=qFT s (k+1) (by omega)
   by_cases hP:t.takeWhile qJ=[]
   ·rw [if_pos hP,if_pos (by rw [hrun,hP]; rfl)]
    rfl
   rw [if_neg hP,if_neg (by rw [hrun]; have:=List.length_pos_iff.2 hP; omega)]
   simp only [qFQ]
   rw [qQB s _ hin]
   have hd2:s.drop (k+1+zM s (k+1))=t.dropWhile qJ:=by
    rw [← List.drop_drop,hd,hrun]
    conv=>lhs; arg 2; rw [hsp]
    exact List.drop_left
   have ht2:(s.take (k+1+zM s (k+1))).drop (k+1)=t.takeWhile qJ:=by
    rw [List.drop_take,hd,show k+1+zM s (k+1)-(k+1)=(t.takeWhile qJ).length by omega]
    conv=>lhs; arg 2; rw [hsp]
    exact List.take_left
   rw [hd2,ht2,hrun]
  rw [if_neg hb,if_neg hb]
  simp only [qFQ]
  rw [qQB s k hk,h]
  simp
theorem qTK (s:List UInt8):uJ s=zJ s:=by
 have hb:yZ s=s.drop (a0M s)∧qLP s=jL s∧a0M s≤s.length:=by
  cases s with
  | nil=>exact ⟨rfl,rfl,by decide⟩
  | cons b t =>
   have:jL (b::t)=decide (b=45):=by
    unfold jL
    rw [show qN (b::t) 0=(b.toNat:Int) from rfl]
    rw [Bool.eq_iff_iff]
    simp
    exact qFA b 45 (by decide)
   refine ⟨?_,by unfold qLP; rw [this]; simp,by unfold a0M; split <;> simp⟩
   unfold yZ a0M
   rw [this]
   by_cases hb:b=45
   ·simp [hb]
   simp [hb]
 obtain ⟨h1,h2,h3⟩:=hb
 unfold uJ zJ
 rw [h1,h2]
 have hrun:=qKX s (a0M s)
 have hin:=qFT s (a0M s) h3
 have hsp:=vZ (s.drop (a0M s))
 have ht2:(s.take (a0M s+zM s (a0M s))).drop (a0M s)=(s.drop (a0M s)).takeWhile qJ:=by
  rw [List.drop_take,show a0M s+zM s (a0M s)-a0M s=((s.drop (a0M s)).takeWhile qJ).length by omega]
  conv=>lhs; arg 2; rw [hsp]
  exact List.take_left
 have hd2:s.drop (a0M s+zM s (a0M s))=(s.drop (a0M s)).dropWhile qJ:=by
  rw [← List.drop_drop,hrun]
  conv=>lhs; arg 2; rw [hsp]
  exact List.drop_left
 rw [zGR s _ hin,ht2,hd2]
 generalize hW:(s.drop (a0M s)).takeWhile qJ=W at *
 have hc:(zM s (a0M s)=0∨(1<zM s (a0M s)∧qN s (a0M s)=48))↔(W=[]∨(1<W.length∧W.head?=some 48)):=by
  rw [hrun]
  cases W with
  | nil=>simp
  | cons b W =>
   have e:s.drop (a0M s)=b::(W++(s.drop (a0M s)).dropWhile qJ):=hsp
   obtain ⟨q1,q2⟩:=qAC e
   rw [q2]
   simp
   intro _
   exact qFA b 48 (by decide)
 by_cases hC:W=[]∨(1<W.length∧W.head?=some 48)
 ·rw [if_pos (hc.2 hC)]
  cases vI ((s.drop (a0M s)).dropWhile qJ) with
  | none=>rfl
  | some q =>
   obtain ⟨P,r⟩:=q
   simp only
   cases uG r with
   | none=>rfl
   | some up=>simp only [qMF]; rw [if_pos hC]
 rw [if_neg (fun h=>hC (hc.1 h))]
 cases vI ((s.drop (a0M s)).dropWhile qJ) with
 | none=>rfl
 | some q =>
  obtain ⟨P,r⟩:=q
  simp only
  cases uG r with
  | none=>rfl
  | some up=>simp only [qMF]; rw [if_neg hC]
def qEE (b:UInt8):Bool:=qJ b || b == 45 || b == 43 || b == 46 || b == 101 || b == 69
theorem qGX {l:List UInt8} (h:l.all qJ=true):l.all qEE=true:=by
 rw [List.all_eq_true] at h ⊢
 intro b hb; simp [qEE,h b hb]
theorem qPQ (l:List UInt8):(l.takeWhile qJ).all qJ=true:=by
 rw [List.all_eq_true]; intro b hb
 induction l with
 | nil=>cases hb
 | cons a l ih =>
  rw [List.takeWhile_cons] at hb
  split at hb
  ·rcases List.mem_cons.1 hb with rfl | hb
   ·assumption
   exact ih hb
  cases hb
theorem zHW {r:List UInt8} {up:Int} (h:uG r=some up):r.all qEE=true:=by
 cases r with
 | nil=>rfl
 | cons b t =>
  simp only [uG] at h
  split at h
  ·cases h
  rename_i h1
  split at h
  ·cases h
  rename_i h2
  simp only [not_or] at h2
  have h20:(wK t).dropWhile qJ=[]:=Classical.byContradiction h2.1
  have hs:=vZ (wK t)
  rw [h20,List.append_nil] at hs
  have h3:(wK t).all qJ=true:=by rw [hs]; exact qPQ _
  have hb:qEE b=true:=by
   by_cases e:b=101
   ·subst e; rfl
   have:b=69:=by
    apply Classical.byContradiction
    intro e2; exact h1 ⟨e,e2⟩
   subst this; rfl
  have ht:t.all qEE=true:=by
   unfold wK at h3
   split at h3
   ·rename_i hh
    cases t with
    | nil=>rfl
    | cons c t =>
     simp only [List.head?_cons,Option.some.injEq,List.drop_succ_cons,List.drop_zero] at hh h3
     rw [List.all_cons,qGX h3]
     rcases hh with rfl | rfl <;> rfl
   exact qGX h3
  rw [List.all_cons,hb,ht]; rfl
theorem zEF {F P r:List UInt8} (h:vI F=some (P,r)) (hr:r.all qEE=true):F.all qEE=true:=by
 unfold vI at h
 split at h
 ·rename_i hh
  split at h
  ·cases h
  cases h
  cases F with
  | nil=>rfl
  | cons b F =>
   simp only [List.head?_cons,Option.some.injEq,List.drop_succ_cons,List.drop_zero] at hh hr ⊢
   subst hh
   rw [List.all_cons,vZ F,List.all_append,hr,qGX (qPQ F)]
   rfl
 cases h; exact hr
theorem qOD {s:List UInt8} (h:(zJ s).2≠4):s.all qEE=true∧∃ b t,s=b::t∧(b=45∨qJ b=true):=by
 unfold zJ at h
 cases hf:vI ((yZ s).dropWhile qJ) with
 | none=>rw [hf] at h; exact absurd rfl h
 | some q =>
  obtain ⟨P,r⟩:=q
  rw [hf] at h
  simp only at h
  cases he:uG r with
  | none=>rw [he] at h; exact absurd rfl h
  | some up =>
   rw [he] at h
   simp only [qMF] at h
   split at h
   ·exact absurd rfl h
   rename_i hW
   simp only [not_or] at hW
   have h1:=zEF hf (zHW he)
   have h2:(yZ s).all qEE=true:=by rw [vZ (yZ s),List.all_append,h1,qGX (qPQ _)]; rfl
   have h3:∃ b t,yZ s=b::t∧qJ b=true:=by
    cases hb:yZ s with
    | nil=>rw [hb] at hW; exact absurd rfl hW.1
    | cons b t =>
     refine ⟨b,t,rfl, ?_⟩
     rw [hb,List.takeWhile_cons] at hW
     split at hW
     ·assumption
     exact absurd rfl hW.1
   cases s with
   | nil=>obtain ⟨b,t,e,_⟩:=h3; simp [yZ] at e
   | cons c s =>
    by_cases hc:c=45
    ·subst hc
     simp only [yZ,List.head?_cons,if_true,List.drop_succ_cons,List.drop_zero] at h2
     exact ⟨by rw [List.all_cons,h2]; rfl,_,_,rfl,.inl rfl⟩
    simp only [yZ,List.head?_cons,Option.some.injEq,hc,if_false] at h2 h3
    obtain ⟨b,t,e,hd⟩:=h3
    cases e
    exact ⟨h2,_,_,rfl,.inr hd⟩
end Go.Proofs.YtlmedakhioiahaaGreatDoor
