import Derived.Test.YtgcbapchinideaaGreatDoorK2
set_option linter.all false
namespace Go.Proofs.YtgcbapchinideaaGreatDoor
open Sy Go
set_option maxRecDepth 100000
def qSB {α:Type} (d:α) (l:List α) (k:Nat):List α:=(List.range l.length).map fun i=>if i<k\/l.length-k<=i then l.getD (l.length-1-i) d else l.getD i d
theorem qEK {α:Type} {d:α} (l:List α) (k:Nat):(qSB d l k).length=l.length:=by simp[qSB]
theorem qEL {α:Type} {d:α} (l:List α) (k:Nat) {i:Nat} (h:i<l.length):(qSB d l k)[i]?=some (if i<k\/l.length-k<=i then l.getD (l.length-1-i) d else l.getD i d):=by
 simp[qSB,h]
theorem zNY {α:Type} {d:α} (l:List α):qSB d l 0=l:=by
 apply dP;intro i;by_cases h:i<l.length
 ·rw[qEL l 0 h,bD (by omega),bJ,cI h];rfl
 rw[cL (by rw[qEK];omega),cL (by omega)]
theorem zSA {α:Type} {d:α} (l:List α) {k:Nat} (h:l.length<=2 * k+1):qSB d l k=l.reverse:=by
 apply dP;intro i;by_cases hi:i<l.length
 ·rw[qEL l k hi,List.getElem?_reverse hi];have h1:l[l.length-1-i]?=some (l[l.length-1-i]'(by omega)):=cI _;rw[h1];congr 1
  split
  ·rw[bJ,h1];rfl
  have h2:l[i]?=some (l[l.length-1-i]'(by omega)):=by rw[<-h1];congr 1;omega
  rw[bJ,h2];rfl
 rw[cL (by rw[qEK];omega),cL (by rw[gE];omega)]
theorem zNZ {α:Type} {d:α} (l:List α) {k:Nat} (h:2 * k+1<l.length):((qSB d l k).set k (l.getD (l.length-1-k) d)).set (l.length-1-k) (l.getD k d)=qSB d l (k+1):=by
 apply dP;intro i;by_cases hi:i<l.length
 ·rw[qEL l (k+1) hi,dO,dO];simp only[eO,qEK];by_cases h1:l.length-1-k=i
  ·subst h1;rw[bE rfl,bE (by omega),bE (.inr (by omega)),show l.length-1-(l.length-1-k)=k by omega]
  rw[bD h1];by_cases h2:k=i
  ·subst h2;rw[bE rfl,bE (by omega),bE (.inl (by omega))]
  rw[bD h2,qEL l k hi];congr 1
  by_cases h3:i<k\/l.length-k<=i
  ·rw[bE h3,bE (by omega)]
  rw[bD h3,bD (by omega)]
 rw[cL (by simp[qEK];omega),cL (by rw[qEK];omega)]
end Go.Proofs.YtgcbapchinideaaGreatDoor
