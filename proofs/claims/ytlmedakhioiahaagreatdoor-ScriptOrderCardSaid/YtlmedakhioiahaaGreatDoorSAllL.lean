import Derived.Test.YtlmedakhioiahaaGreatDoorSBackL
import Derived.Test.YtlmedakhioiahaaGreatDoorSPoisL
import Derived.Test.YtlmedakhioiahaaGreatDoorK3
namespace Go.Proofs.YtlmedakhioiahaaGreatDoor
open Sy Go
set_option linter.unusedSimpArgs false
set_option linter.unusedVariables false
set_option maxRecDepth 100000
theorem zLD (b:UInt8):asF [32,9,10,13] b.toNat=wR b:=by
 have key:∀ k:Fin 256,asF [32,9,10,13] k.val=wR (UInt8.ofNat k.val):=by decide +kernel
 have:=key ⟨b.toNat,b.toNat_lt⟩
 simpa using this
theorem qXB (p:UInt8→Bool):∀ l:List UInt8,l.dropWhile p=[]↔l.all p=true
 | []=>by simp
 | b::l=>by
  rw [List.dropWhile_cons,List.all_cons]
  cases hb:p b with
  | true=>simp only [if_true,Bool.true_and]; exact qXB p l
  | false=>simp
theorem qYA (p:UInt8→Bool):∀ l:List UInt8,(l.takeWhile p).all p=true
 | []=>rfl
 | b::l=>by
  rw [List.takeWhile_cons]
  split
  ·rename_i h; rw [List.all_cons,h,qYA p l]; rfl
  rfl
theorem zCP (s:List UInt8):qIF s [32,9,10,13]=[]↔s.all wR=true:=by
 unfold qIF
 rw [qYB]
 unfold zO qEB
 have hf:(fun b:UInt8=>asF [32,9,10,13] b.toNat)=wR:=funext zLD
 rw [qXB,hf]
 constructor
 ·intro h
  have h1:s.reverse=s.reverse.takeWhile wR++s.reverse.dropWhile wR:=(List.takeWhile_append_dropWhile).symm
  rw [List.all_reverse] at h
  rw [← List.all_reverse,h1,List.all_append,qYA,h]; rfl
 intro h
 have:s.reverse.dropWhile wR=[]:=(qXB _ _).2 (by rw [List.all_reverse]; exact h)
 rw [this]; rfl
theorem zAL {s:List UInt8} (h:(kF s).2.2=0):1≤(kF s).2.1∧(kF s).2.1≤s.length:=by
 have hl:=(zDT (2 * s.length+2)).1 ⟨s,0,false,false,false⟩ 1
 have hM:kF s=if (qS (2 * s.length+2) ⟨s,0,false,false,false⟩ 1).1.bad=true then (zK,0,10) else if (qS (2 * s.length+2) ⟨s,0,false,false,false⟩ 1).1.deep=true then (zK,0,11) else if (qS (2 * s.length+2) ⟨s,0,false,false,false⟩ 1).1.big=true then (zK,0,3) else ((qS (2 * s.length+2) ⟨s,0,false,false,false⟩ 1).2,(s.length:Int)-(qS (2 * s.length+2) ⟨s,0,false,false,false⟩ 1).1.left.length,0):=rfl
 rw [hM] at h ⊢
 generalize qS (2 * s.length+2) ⟨s,0,false,false,false⟩ 1=r at *
 simp only at hl
 split at h
 ·exact absurd h (by decide)
 rename_i h1
 rw [if_neg h1]
 split at h
 ·exact absurd h (by decide)
 rename_i h2
 rw [if_neg h2]
 split at h
 ·exact absurd h (by decide)
 rename_i h3
 rw [if_neg h3]
 have:=hl.2 (by simpa using h1)
 simp only; omega
end Go.Proofs.YtlmedakhioiahaaGreatDoor
