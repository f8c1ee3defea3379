import Derived.Test.YtlmedakhioiahaaGreatDoorK1
import Derived.Test.YtlmedakhioiahaaGreatDoorK2
namespace Go.Proofs.YtlmedakhioiahaaGreatDoor
open Sy Go
set_option maxRecDepth 100000
set_option linter.unusedSimpArgs false
set_option linter.unusedVariables false
theorem qUM {s:List UInt8} (h:s.all qJ=true):(zS s).all qJ=true:=by
 rw [List.all_eq_true] at h ⊢
 exact fun b hb=>h b ((List.dropWhile_sublist _).subset hb)
theorem qRP {s:List UInt8} (h:zS s≠[]):qQ (zS s) 0≠48:=by
 induction s with
 | nil=>exact (h rfl).elim
 | cons b s ih =>
  by_cases hb:b=48
  ·have e:zS (b::s)=zS s:=by simp [zS,hb]
   rw [e] at h ⊢; exact ih h
  have e:zS (b::s)=b::s:=by simp [zS,hb]
  rw [e]
  intro h2
  simp [qQ] at h2
  exact hb (UInt8.toNat_inj.1 (by show b.toNat=48; omega))
theorem qJZ:∀ (k:Nat) (d:List UInt8),(∃ r,d=(yH d k).1++r)∧((yH d k).2=0∨(yH d k).1.getLast?≠some 48)
 | 0,d=>⟨⟨[],by simp [yH]⟩,.inl rfl⟩
 | k+1,d=>by
  simp only [yH]
  split
  ·obtain ⟨⟨r,hr⟩,h2⟩:=qJZ k d.dropLast
   refine ⟨⟨r++d.drop (d.length-1), ?_⟩,h2⟩
   have e:d.dropLast++d.drop (d.length-1)=d:=by rw [List.dropLast_eq_take,List.take_append_drop]
   rw [← List.append_assoc,← hr,e]
  rename_i h; exact ⟨⟨[],by simp⟩,.inr h⟩
theorem qOU {neg:Bool} {digits:List UInt8} {scale:Nat} (hd:digits.all qJ=true) (h:(wO neg digits scale).2=0):wM (wO neg digits scale).1=true:=by
 unfold wO at h ⊢
 simp only at h ⊢
 obtain ⟨⟨r,hr⟩,hl⟩:=qJZ scale (zS digits)
 generalize yH (zS digits) scale=x at *
 split
 ·decide +kernel
 rename_i hne
 rw [if_neg hne] at h
 split
 ·rename_i hb; rw [if_pos hb] at h; simp at h
 rename_i hb
 have hpos:0<x.1.length:=List.length_pos_iff.2 hne
 have hall:x.1.all qJ=true:=by
  have:=qUM hd
  rw [hr,List.all_append,Bool.and_eq_true] at this; exact this.1
 have hh:qQ x.1 0≠48:=by
  have h1:=qRP (s:=digits) (by rw [hr]; simp [hne])
  rw [hr] at h1
  obtain ⟨c,d,hx⟩:∃ c d,x.1=c::d:=by
   cases hx:x.1 with
   | nil=>exact (hne hx).elim
   | cons c d=>exact ⟨c,d,rfl⟩
  rw [hx] at h1 ⊢
  simpa [qQ] using h1
 rw [qOJ (by simp only []; omega) hall]
 simp only
 rw [if_neg (by intro e; rw [e] at hh; exact hh rfl)]
 have hlast:x.2=0∨qQ x.1 (x.1.length-1)≠48:=hl.imp id fun h h2=>h ((qCR hpos).1 h2)
 simp [hh]
 exact hlast
theorem qUF (n:Nat):(zL n).all qJ=true:=List.all_eq_true.2 fun b hb=>by rw [(List.mem_replicate.1 hb).2]; rfl
theorem qZN {neg:Bool} {digits:List UInt8} {sc:Int} (hd:digits.all qJ=true) (h:(jP neg digits sc).2=0):wM (jP neg digits sc).1=true:=by
 unfold jP at h ⊢
 split
 ·rename_i hs; rw [if_pos hs] at h; exact qOU (by rw [List.all_append,hd,qUF]; rfl) h
 rename_i hs; rw [if_neg hs] at h; exact qOU hd h
theorem qXD (s:List UInt8) (k:Nat):((s.take (k+zI s k)).drop k).all qJ=true:=by
 have e:(s.take (k+zI s k)).drop k=(s.drop k).takeWhile fun b=>yN b.toNat:=by
  rw [List.drop_take,show k+zI s k-k=zI s k by omega]
  unfold zI
  have:∀ (l:List UInt8) (p:UInt8→Bool),l.take (l.takeWhile p).length=l.takeWhile p:=by
   intro l p
   induction l with
   | nil=>rfl
   | cons a l ih => rw [List.takeWhile_cons]; split
                    ·simp [ih]
                    rfl
  exact this _ _
 rw [e,List.all_eq_true]
 have:∀ (l:List UInt8) (p:UInt8→Bool) (b:UInt8),b∈l.takeWhile p→p b=true:=by
  intro l p b
  induction l with
  | nil=>intro h; simp at h
  | cons a l ih =>
   intro h
   rw [List.takeWhile_cons] at h
   split at h
   ·rename_i ha
    rcases List.mem_cons.1 h with rfl | h
    ·exact ha
    exact ih h
   simp at h
 exact fun b hb=>this _ _ b hb
theorem qNE {s:List UInt8} {neg:Bool} {digits:List UInt8} {scale:Nat} (hd:digits.all qJ=true):∀ o,(vH s neg digits scale o).2=0→wM (vH s neg digits scale o).1=true
 | none,h=>by simp [vH,kL] at h
 | some (k,up),h=>by
  simp only [vH] at h ⊢
  split
  ·rename_i hk; rw [if_pos hk] at h; exact qZN hd h
  rename_i hk; rw [if_neg hk] at h; simp [kL] at h
theorem qWK {s:List UInt8} (h:(uA s).2=0):wM (uA s).1=true:=by
 unfold uA at h ⊢
 split
 ·rename_i hb; rw [if_pos hb] at h; simp [kL] at h
 rename_i hb
 rw [if_neg hb] at h
 have hd:=qXD s (a0M s)
 revert h
 generalize (s.take (a0M s+zI s (a0M s))).drop (a0M s)=d0 at *
 generalize a0M s+zI s (a0M s)=k
 intro h
 unfold qBJ at h ⊢
 split
 ·rename_i hp
  rw [if_pos hp] at h
  split
  ·rename_i hz; rw [if_pos hz] at h; simp [qFF,kL] at h
  rename_i hz
  rw [if_neg hz] at h
  exact qNE (by rw [List.all_append,hd,qXD]; rfl) _ h
 rename_i hp
 rw [if_neg hp] at h
 exact qNE hd _ h
end Go.Proofs.YtlmedakhioiahaaGreatDoor
