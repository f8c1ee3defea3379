import Derived.Test.YtbhhphabggcacaaGreatDoorK1
import Derived.Test.YtbhhphabggcacaaGreatDoorSMayL
namespace Go.Proofs.YtbhhphabggcacaaGreatDoor
open Sy Go
set_option maxRecDepth 100000
set_option linter.unusedSimpArgs false
set_option linter.unusedVariables false
theorem qNO {s:List UInt8} (h:s.all qI=true):(yF s).all qI=true:=by
 rw [List.all_eq_true] at h ⊢
 exact fun b hb=>h b ((List.dropWhile_sublist _).subset hb)
theorem qLG {s:List UInt8} (h:yF s≠[]):zL (yF s) 0≠48:=by
 induction s with
 | nil=>exact (h rfl).elim
 | cons b s ih =>
  by_cases hb:b=48
  ·have e:yF (b::s)=yF s:=by simp [yF,hb]
   rw [e] at h ⊢; exact ih h
  have e:yF (b::s)=b::s:=by simp [yF,hb]
  rw [e]
  intro h2
  simp [zL] at h2
  exact hb (UInt8.toNat_inj.1 (by show b.toNat=48; omega))
theorem qFK:∀ (k:Nat) (d:List UInt8),(∃ r,d=(xB d k).1++r)∧((xB d k).2=0∨(xB d k).1.getLast?≠some 48)
 | 0,d=>⟨⟨[],by simp [xB]⟩,.inl rfl⟩
 | k+1,d=>by
  simp only [xB]
  split
  ·obtain ⟨⟨r,hr⟩,h2⟩:=qFK k d.dropLast
   refine ⟨⟨r++d.drop (d.length-1), ?_⟩,h2⟩
   have e:d.dropLast++d.drop (d.length-1)=d:=by rw [List.dropLast_eq_take,List.take_append_drop]
   rw [← List.append_assoc,← hr,e]
  rename_i h; exact ⟨⟨[],by simp⟩,.inr h⟩
theorem qJC {neg:Bool} {digits:List UInt8} {scale:Nat} (hd:digits.all qI=true) (h:(xL neg digits scale).2=0):vM (xL neg digits scale).1=true:=by
 unfold xL at h ⊢
 simp only at h ⊢
 obtain ⟨⟨r,hr⟩,hl⟩:=qFK scale (yF digits)
 generalize xB (yF digits) scale=x at *
 split
 ·decide +kernel
 rename_i hne
 rw [if_neg hne] at h
 split
 ·rename_i hb; rw [if_pos hb] at h; simp at h
 rename_i hb
 have hpos:0<x.1.length:=List.length_pos_iff.2 hne
 have hall:x.1.all qI=true:=by
  have:=qNO hd
  rw [hr,List.all_append,Bool.and_eq_true] at this; exact this.1
 have hh:zL x.1 0≠48:=by
  have h1:=qLG (s:=digits) (by rw [hr]; simp [hne])
  rw [hr] at h1
  obtain ⟨c,d,hx⟩:∃ c d,x.1=c::d:=by
   cases hx:x.1 with
   | nil=>exact (hne hx).elim
   | cons c d=>exact ⟨c,d,rfl⟩
  rw [hx] at h1 ⊢
  simpa [zL] using h1
 rw [qRW (by simp only []; omega) hall]
 simp only
 rw [if_neg (by intro e; rw [e] at hh; exact hh rfl)]
 have hlast:x.2=0∨zL x.1 (x.1.length-1)≠48:=hl.imp id fun h h2=>h ((qNB hpos).1 h2)
 simp [hh]
 exact hlast
theorem qNI (n:Nat):(yD n).all qI=true:=List.all_eq_true.2 fun b hb=>by rw [(List.mem_replicate.1 hb).2]; rfl
theorem qRM {neg:Bool} {digits:List UInt8} {sc:Int} (hd:digits.all qI=true) (h:(uK neg digits sc).2=0):vM (uK neg digits sc).1=true:=by
 unfold uK at h ⊢
 split
 ·rename_i hs; rw [if_pos hs] at h; exact qJC (by rw [List.all_append,hd,qNI]; rfl) h
 rename_i hs; rw [if_neg hs] at h; exact qJC hd h
theorem qPN (s:List UInt8) (k:Nat):((s.take (k+wK s k)).drop k).all qI=true:=by
 have e:(s.take (k+wK s k)).drop k=(s.drop k).takeWhile fun b=>vB b.toNat:=by
  rw [List.drop_take,show k+wK s k-k=wK s k by omega]
  unfold wK
  have:∀ (l:List UInt8) (p:UInt8→Bool),l.take (l.takeWhile p).length=l.takeWhile p:=by
   intro l p
   induction l with
   | nil=>rfl
   | cons a l ih => rw [List.takeWhile_cons]; split
                    ·simp [ih]
                    rfl
  exact this _ _
 rw [e,List.all_eq_true]
 have:∀ (l:List UInt8) (p:UInt8→Bool) (b:UInt8),b∈l.takeWhile p→p b=true:=by
  intro l p b
  induction l with
  | nil=>intro h; simp at h
  | cons a l ih =>
   intro h
   rw [List.takeWhile_cons] at h
   split at h
   ·rename_i ha
    rcases List.mem_cons.1 h with rfl | h
    ·exact ha
    exact ih h
   simp at h
 exact fun b hb=>this _ _ b hb
theorem qID {s:List UInt8} {neg:Bool} {digits:List UInt8} {scale:Nat} (hd:digits.all qI=true):∀ o,(qBD s neg digits scale o).2=0→vM (qBD s neg digits scale o).1=true
 | none,h=>by simp [qBD,jD] at h
 | some (k,up),h=>by
  simp only [qBD] at h ⊢
  split
  ·rename_i hk; rw [if_pos hk] at h; exact qRM hd h
  rename_i hk; rw [if_neg hk] at h; simp [jD] at h
theorem qOZ {s:List UInt8} (h:(qHD s).2=0):vM (qHD s).1=true:=by
 unfold qHD at h ⊢
 split
 ·rename_i hb; rw [if_pos hb] at h; simp [jD] at h
 rename_i hb
 rw [if_neg hb] at h
 have hd:=qPN s (a0M s)
 revert h
 generalize (s.take (a0M s+wK s (a0M s))).drop (a0M s)=d0 at *
 generalize a0M s+wK s (a0M s)=k
 intro h
 unfold qLT at h ⊢
 split
 ·rename_i hp
  rw [if_pos hp] at h
  split
  ·rename_i hz; rw [if_pos hz] at h; simp [qHY,jD] at h
  rename_i hz
  rw [if_neg hz] at h
  exact qID (by rw [List.all_append,hd,qPN]; rfl) _ h
 rename_i hp
 rw [if_neg hp] at h
 exact qID hd _ h
end Go.Proofs.YtbhhphabggcacaaGreatDoor
