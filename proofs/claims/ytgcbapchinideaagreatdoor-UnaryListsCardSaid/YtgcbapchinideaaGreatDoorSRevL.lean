import Derived.Test.YtgcbapchinideaaGreatDoorK1
namespace Go.Proofs.YtgcbapchinideaaGreatDoor
open Sy Go
set_option maxRecDepth 100000
set_option linter.unusedSimpArgs false
set_option linter.unusedVariables false
def qIN {α:Type} (d:α) (l:List α) (k:Nat):List α:=(List.range l.length).map fun i=>if i<k∨l.length-k≤i then l.getD (l.length-1-i) d else l.getD i d
theorem uO {α:Type} {d:α} (l:List α) (k:Nat):(qIN d l k).length=l.length:=by simp [qIN]
theorem uP {α:Type} {d:α} (l:List α) (k:Nat) {i:Nat} (h:i<l.length):(qIN d l k)[i]?=some (if i<k∨l.length-k≤i then l.getD (l.length-1-i) d else l.getD i d):=by
 simp [qIN,h]
theorem qWG {α:Type} {d:α} (l:List α):qIN d l 0=l:=by
 apply List.ext_getElem?
 intro i
 by_cases h:i<l.length
 ·rw [uP l 0 h,if_neg (by omega),List.getD_eq_getElem?_getD,List.getElem?_eq_getElem h]; rfl
 rw [List.getElem?_eq_none (by rw [uO]; omega),List.getElem?_eq_none (by omega)]
theorem qYZ {α:Type} {d:α} (l:List α) {k:Nat} (h:l.length≤2 * k+1):qIN d l k=l.reverse:=by
 apply List.ext_getElem?
 intro i
 by_cases hi:i<l.length
 ·rw [uP l k hi,List.getElem?_reverse hi]
  have h1:l[l.length-1-i]?=some (l[l.length-1-i]'(by omega)):=List.getElem?_eq_getElem _
  rw [h1]
  congr 1
  split
  ·rw [List.getD_eq_getElem?_getD,h1]; rfl
  have h2:l[i]?=some (l[l.length-1-i]'(by omega)):=by rw [← h1]; congr 1; omega
  rw [List.getD_eq_getElem?_getD,h2]; rfl
 rw [List.getElem?_eq_none (by rw [uO]; omega),List.getElem?_eq_none (by rw [List.length_reverse]; omega)]
theorem qWH {α:Type} {d:α} (l:List α) {k:Nat} (h:2 * k+1<l.length):((qIN d l k).set k (l.getD (l.length-1-k) d)).set (l.length-1-k) (l.getD k d)=qIN d l (k+1):=by
 apply List.ext_getElem?
 intro i
 by_cases hi:i<l.length
 ·rw [uP l (k+1) hi,List.getElem?_set,List.getElem?_set]
  simp only [List.length_set,uO]
  by_cases h1:l.length-1-k=i
  ·subst h1
   rw [if_pos rfl,if_pos (by omega),if_pos (.inr (by omega)),show l.length-1-(l.length-1-k)=k by omega]
  rw [if_neg h1]
  by_cases h2:k=i
  ·subst h2
   rw [if_pos rfl,if_pos (by omega),if_pos (.inl (by omega))]
  rw [if_neg h2,uP l k hi]
  congr 1
  by_cases h3:i<k∨l.length-k≤i
  ·rw [if_pos h3,if_pos (by omega)]
  rw [if_neg h3,if_neg (by omega)]
 rw [List.getElem?_eq_none (by simp [uO]; omega),List.getElem?_eq_none (by rw [uO]; omega)]
end Go.Proofs.YtgcbapchinideaaGreatDoor
