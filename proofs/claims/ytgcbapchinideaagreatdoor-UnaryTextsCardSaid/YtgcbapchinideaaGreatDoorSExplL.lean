import Derived.Test.YtgcbapchinideaaGreatDoorSSplitU
import Derived.Lib.RuneCountTail
import Derived.Lib.MapLaws
namespace Go.Proofs.YtgcbapchinideaaGreatDoor
open Sy Go
set_option linter.unusedSimpArgs false
set_option linter.unusedVariables false
theorem qKL:Lib.runeCountL []=0:=rfl
theorem qFM (l:List UInt8) (h:l≠[]):1≤(Lib.decodeL l).2:=by
 have h0:0<l.length:=List.length_pos_iff.2 h
 exact Lib.decode_width_pos ⟨l.toArray⟩ 0 (by show 0<l.toArray.size; simpa using h0)
theorem qCD (l:List UInt8) (h:l≠[]):Lib.runeCountL l=1+Lib.runeCountL (l.drop (Lib.decodeL l).2):=by
 have h0:0<l.length:=List.length_pos_iff.2 h
 have hd:=qFM l h
 have hle:=Lib.decodeL_le l h
 generalize hw:(Lib.decodeL l).2=k at *
 have hsz:(⟨l.toArray⟩:ByteArray).size=l.length:=by show l.toArray.size=_; simp
 have e1:Lib.runeCountL l=Lib.runeCountFrom ⟨l.toArray⟩ l.length 0:=by
  unfold Lib.runeCountL Lib.runeCount; rw [hsz]
 have e2:Lib.runeCountL (l.drop k)=Lib.runeCountFrom ((⟨l.toArray⟩:ByteArray).extract k (⟨l.toArray⟩:ByteArray).size) (l.length-k) 0:=by
  have:((⟨l.toArray⟩:ByteArray).extract k (⟨l.toArray⟩:ByteArray).size).data.toList=l.drop k:=by rw [Lib.extract_to_end]
  rw [← this,Lib.runeCountL_eq]
  unfold Lib.runeCount; rw [Lib.tail_size,hsz]
 rw [e1,e2,Lib.tail_count]
 obtain ⟨f,hf⟩:∃ f,l.length=f+1:=⟨l.length-1,by omega⟩
 rw [hf]
 conv=>lhs; unfold Lib.runeCountFrom
 rw [hsz,if_pos h0]
 congr 1
 rw [Nat.zero_add,Nat.add_zero,show (Utf8.decode ⟨l.toArray⟩ 0).2=k from hw]
 exact Lib.fuel_enough _ _ _ _ (by rw [hsz]; omega) (by rw [hsz]; omega)
def kQ:Nat→List UInt8→List (List UInt8)
 | 0,_=>[]
 | 1,s=>[s]
 | n+2,s=>s.take (Lib.decodeL s).2::kQ (n+1) (s.drop (Lib.decodeL s).2)
def wL (s:List UInt8):List (List UInt8):=kQ (Lib.runeCountL s) s
theorem qHW:∀ n s,(kQ n s).length=n
 | 0,_=>rfl
 | 1,_=>rfl
 | n+2,s=>by simp only [kQ,List.length_cons,qHW (n+1)]
theorem qFI:∀ (n:Nat) (s:List UInt8),Lib.runeCountL s=n→(kQ n s).flatten=s∧∀ p∈kQ n s,p.length≤s.length
 | 0,s,h=>by
  by_cases hs:s=[]
  ·subst hs; simp [kQ]
  rw [qCD s hs] at h; omega
 | 1,s,h=>by simp [kQ]
 | n+2,s,h=>by
  have hs:s≠[]:=by rintro rfl; rw [qKL] at h; omega
  rw [qCD s hs] at h
  obtain ⟨h1,h2⟩:=qFI (n+1) (s.drop (Lib.decodeL s).2) (by omega)
  refine ⟨by simp only [kQ,List.flatten_cons,h1,List.take_append_drop],fun p hp => ?_⟩
  rcases List.mem_cons.1 hp with rfl | hp
  ·simp; omega
  have:=h2 p hp
  rw [List.length_drop] at this; omega
theorem qNX {n:Nat} (h:1<n) (s:List UInt8):kQ n s=s.take (Lib.decodeL s).2::kQ (n-1) (s.drop (Lib.decodeL s).2):=by
 obtain ⟨k,rfl⟩:∃ k,n=k+2:=⟨n-2,by omega⟩
 rfl
theorem qKK (s:List UInt8):Lib.join (wL s) []=s∧(wL s).length=Lib.runeCountL s∧∀ p∈wL s,p.length≤s.length:=by
 obtain ⟨h1,h2⟩:=qFI _ s rfl
 refine ⟨?_,qHW _ _,h2⟩
 unfold wL
 have hj:∀ l:List (List UInt8),Lib.join l []=l.flatten:=fun l=>by
  cases l with
  | nil=>rfl
  | cons x r=>rw [Lib.join_cons]; simp [Lib.joinTail]
 rw [hj,h1]
theorem qKN (s:List UInt8):Lib.runeCountL s≤s.length:=by
 have:=Lib.runeCount_le ⟨s.toArray⟩
 have hsz:(⟨s.toArray⟩:ByteArray).size=s.length:=by show s.toArray.size=_; simp
 rw [hsz] at this; exact this
end Go.Proofs.YtgcbapchinideaaGreatDoor
