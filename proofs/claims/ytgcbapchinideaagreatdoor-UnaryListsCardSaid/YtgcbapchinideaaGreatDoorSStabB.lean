import Derived.Test.YtgcbapchinideaaGreatDoorSSymM
namespace Go.Proofs.YtgcbapchinideaaGreatDoor
open Sy Go
set_option maxRecDepth 100000
set_option linter.unusedSimpArgs false
set_option linter.unusedVariables false
def kK (s:Nat):Nat→List Val→List Val
 | 0,_=>[]
 | k+1,l=>kK s k l++srt leV ((l.drop (s * k)).take s)
def qRC (s:Nat):Nat→List Val→List Val
 | 0,l=>srt leV l
 | f+1,l=>if l.length≤s then srt leV l else srt leV (l.take s)++qRC s f (l.drop s)
theorem qIW {s:Nat}:∀ (k:Nat) (l:List Val),s * k≤l.length→(kK s k l).length=s * k
 | 0,_,_=>by simp [kK]
 | k+1,l,h=>by
  rw [Nat.mul_succ] at h ⊢
  simp only [kK,List.length_append,jD,List.length_take,List.length_drop]
  rw [qIW k l (by omega)]; omega
theorem vO {s:Nat} {l:List Val} (h:l.length≤s):∀ f,qRC s f l=srt leV l
 | 0=>rfl
 | f+1=>by unfold qRC; rw [if_pos h]
theorem qML {s:Nat} (hs:0<s):∀ (f g:Nat) (l:List Val),l.length≤f→l.length≤g→qRC s f l=qRC s g l
 | 0,g,l,h,_=>by rw [vO (by omega),vO (by omega)]
 | f+1,0,l,_,h=>by rw [vO (by omega),vO (by omega)]
 | f+1,g+1,l,h1,h2=>by
  unfold qRC
  by_cases h:l.length≤s
  ·rw [if_pos h,if_pos h]
  rw [if_neg h,if_neg h,qML hs f g (l.drop s) (by rw [List.length_drop]; omega) (by rw [List.length_drop]; omega)]
def qBA (s:Nat) (l:List Val):List Val:=qRC s l.length l
theorem yJ {s:Nat} {l:List Val} (h:l.length≤s):qBA s l=srt leV l:=vO h _
theorem qCB {s:Nat} {l:List Val} (hs:0<s) (h:s<l.length):qBA s l=srt leV (l.take s)++qBA s (l.drop s):=by
 unfold qBA
 obtain ⟨f,hf⟩:∃ f,l.length=f+1:=⟨l.length-1,by omega⟩
 rw [hf]
 conv=>lhs; unfold qRC
 rw [if_neg (by omega),qML hs f (l.drop s).length (l.drop s) (by rw [List.length_drop]; omega) (Nat.le_refl _)]
theorem zBC {s:Nat} (hs:0<s) (l:List Val):(qBA s l).length=l.length:=by
 generalize hn:l.length=n
 induction n using Nat.strongRecOn generalizing l with
 | _ n ih =>
  by_cases h:l.length≤s
  ·rw [yJ h,jD,hn]
  rw [qCB hs (by omega),List.length_append,jD,ih (l.drop s).length (by rw [List.length_drop]; omega) _ rfl,List.length_take,List.length_drop]; omega
theorem zDQ {s:Nat} {l:List Val} (hs:0<s) (hm:yZ l) (h:2 * s≤l.length):qBA s l=srt leV (l.take s)++(srt leV ((l.drop s).take s)++(if 2 * s<l.length then qBA s (l.drop (2 * s)) else []))∧mrg leV (srt leV (l.take s)) (srt leV ((l.drop s).take s))=srt leV (l.take (2 * s)):=by
 refine ⟨?_, ?_⟩
 ·rw [qCB hs (by omega)]
  congr 1
  by_cases h2:2 * s<l.length
  ·rw [if_pos h2,qCB hs (by rw [List.length_drop]; omega),List.drop_drop,show s+s=2 * s by omega]
  rw [if_neg h2,List.append_nil,yJ (by rw [List.length_drop]; omega),List.take_of_length_le (by rw [List.length_drop]; omega)]
 have e:l.take (2 * s)=l.take s++(l.drop s).take s:=by
  rw [show 2 * s=s+s by omega,List.take_add]
 rw [e,qHJ xL _ _ (fun v hv=>hm v (List.mem_of_mem_take hv)) (fun v hv=>hm v (List.mem_of_mem_drop (List.mem_of_mem_take hv)))]
theorem zBB {s:Nat} {l:List Val} (hs:0<s) (hm:yZ l) (h1:s<l.length) (h2:l.length≤2 * s):qBA s l=srt leV (l.take s)++srt leV (l.drop s)∧mrg leV (srt leV (l.take s)) (srt leV (l.drop s))=srt leV l:=by
 refine ⟨?_, ?_⟩
 ·rw [qCB hs h1,yJ (by rw [List.length_drop]; omega)]
 have:=qHJ xL (l.take s) (l.drop s) (fun v hv=>hm v (List.mem_of_mem_take hv)) (fun v hv=>hm v (List.mem_of_mem_drop hv))
 rw [List.take_append_drop] at this
 exact this.symm
theorem qNI {s:Nat} (hs:0<s):∀ (k:Nat) (l:List Val),s * k≤l.length→qBA s l=if s * k<l.length∨k=0 then kK s k l++qBA s (l.drop (s * k)) else kK s k l
 | 0,l,_=>by simp [kK]
 | k+1,l,h=>by
  rw [Nat.mul_succ] at h
  rw [qNI hs k l (by omega),if_pos (.inl (by omega))]
  have hd:(l.drop (s * k)).length=l.length-s * k:=List.length_drop
  by_cases h2:s * (k+1)<l.length
  ·rw [if_pos (.inl h2),qCB hs (by rw [hd]; rw [Nat.mul_succ] at h2; omega),List.drop_drop,← Nat.mul_succ]
   simp only [kK,List.append_assoc]
  rw [if_neg (by omega)]
  rw [Nat.mul_succ] at h2
  rw [yJ (by omega)]
  simp only [kK]
  rw [List.take_of_length_le (by omega)]
end Go.Proofs.YtgcbapchinideaaGreatDoor
