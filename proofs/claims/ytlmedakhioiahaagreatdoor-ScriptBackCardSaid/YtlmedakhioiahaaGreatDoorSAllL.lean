import Derived.Test.YtlmedakhioiahaaGreatDoorSBackL
import Derived.Test.YtlmedakhioiahaaGreatDoorSPoisL
import Derived.Test.YtlmedakhioiahaaGreatDoorK2
namespace Go.Proofs.YtlmedakhioiahaaGreatDoor
open Sy Go
set_option linter.unusedSimpArgs false
set_option linter.unusedVariables false
set_option maxRecDepth 100000
theorem zHC (b:UInt8):asF [32,9,10,13] b.toNat=wC b:=by
 have key:∀ k:Fin 256,asF [32,9,10,13] k.val=wC (UInt8.ofNat k.val):=by decide +kernel
 have:=key ⟨b.toNat,b.toNat_lt⟩
 simpa using this
theorem qUD (p:UInt8→Bool):∀ l:List UInt8,l.dropWhile p=[]↔l.all p=true
 | []=>by simp
 | b::l=>by
  rw [List.dropWhile_cons,List.all_cons]
  cases hb:p b with
  | true=>simp only [if_true,Bool.true_and]; exact qUD p l
  | false=>simp
theorem qVC (p:UInt8→Bool):∀ l:List UInt8,(l.takeWhile p).all p=true
 | []=>rfl
 | b::l=>by
  rw [List.takeWhile_cons]
  split
  ·rename_i h; rw [List.all_cons,h,qVC p l]; rfl
  rfl
theorem qZG (s:List UInt8):qGI s [32,9,10,13]=[]↔s.all wC=true:=by
 unfold qGI
 rw [qVD]
 unfold zG qCH
 have hf:(fun b:UInt8=>asF [32,9,10,13] b.toNat)=wC:=funext zHC
 rw [qUD,hf]
 constructor
 ·intro h
  have h1:s.reverse=s.reverse.takeWhile wC++s.reverse.dropWhile wC:=(List.takeWhile_append_dropWhile).symm
  rw [List.all_reverse] at h
  rw [← List.all_reverse,h1,List.all_append,qVC,h]; rfl
 intro h
 have:s.reverse.dropWhile wC=[]:=(qUD _ _).2 (by rw [List.all_reverse]; exact h)
 rw [this]; rfl
theorem qXG {s:List UInt8} (h:(kI s).2.2=0):1≤(kI s).2.1∧(kI s).2.1≤s.length:=by
 have hl:=(zAF (2 * s.length+2)).1 ⟨s,0,false,false,false⟩ 1
 have hM:kI s=if (qN (2 * s.length+2) ⟨s,0,false,false,false⟩ 1).1.bad=true then (zM,0,10) else if (qN (2 * s.length+2) ⟨s,0,false,false,false⟩ 1).1.deep=true then (zM,0,11) else if (qN (2 * s.length+2) ⟨s,0,false,false,false⟩ 1).1.big=true then (zM,0,3) else ((qN (2 * s.length+2) ⟨s,0,false,false,false⟩ 1).2,(s.length:Int)-(qN (2 * s.length+2) ⟨s,0,false,false,false⟩ 1).1.left.length,0):=rfl
 rw [hM] at h ⊢
 generalize qN (2 * s.length+2) ⟨s,0,false,false,false⟩ 1=r at *
 simp only at hl
 split at h
 ·exact absurd h (by decide)
 rename_i h1
 rw [if_neg h1]
 split at h
 ·exact absurd h (by decide)
 rename_i h2
 rw [if_neg h2]
 split at h
 ·exact absurd h (by decide)
 rename_i h3
 rw [if_neg h3]
 have:=hl.2 (by simpa using h1)
 simp only; omega
end Go.Proofs.YtlmedakhioiahaaGreatDoor
