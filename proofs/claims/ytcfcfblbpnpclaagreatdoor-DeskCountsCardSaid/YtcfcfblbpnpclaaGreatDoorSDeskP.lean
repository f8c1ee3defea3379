import Derived.Test.YtcfcfblbpnpclaaGreatDoorSDeskL
namespace Go.Proofs.YtcfcfblbpnpclaaGreatDoor
open Sy Go
set_option linter.unusedSimpArgs false
set_option linter.unusedVariables false
def kH:List Int→Int
 | []=>0
 | n::l=>n+kH l
def kT (l:List Int):Int:=l.foldl wL 0
theorem vN (l:List Int) (n:Int):kH (l++[n])=kH l+n:=by
 induction l with
 | nil=>simp [kH]
 | cons a l ih=>simp only [List.cons_append,kH,ih]; omega
theorem qHR (l:List Int):kH l.reverse=kH l:=by
 induction l with
 | nil=>rfl
 | cons a l ih=>rw [List.reverse_cons,vN,ih]; simp only [kH]; omega
theorem qBU (l:List Int) (n:Int):kT (l++[n])=wL (kT l) n:=by simp [kT]
theorem qKI (a b:Int):a≤wL a b∧b≤wL a b∧(wL a b=a∨wL a b=b):=by
 unfold wL; split
 ·exact ⟨by omega,by omega,.inr rfl⟩
 exact ⟨by omega,by omega,.inl rfl⟩
theorem uV (l:List Int):0≤kT l∧(∀ n∈l,n≤kT l)∧(kT l=0∨kT l∈l):=by
 induction l using qAB with
 | nil=>exact ⟨by simp [kT],by simp,.inl rfl⟩
 | append_singleton l n ih =>
  obtain ⟨h1,h2,h3⟩:=ih
  obtain ⟨g1,g2,g3⟩:=qKI (kT l) n
  rw [qBU]
  refine ⟨by omega,fun x hx => ?_, ?_⟩
  ·rcases List.mem_append.1 hx with hx | hx
   ·have:=h2 x hx; omega
   rw [List.mem_singleton.1 hx]; exact g2
  rcases g3 with g | g
  ·rw [g]
   rcases h3 with h | h
   ·exact .inl h
   exact .inr (List.mem_append_left _ h)
  rw [g]; exact .inr (by simp)
theorem qHQ (l:List Int):kT l.reverse=kT l:=by
 obtain ⟨a1,a2,a3⟩:=uV l
 obtain ⟨b1,b2,b3⟩:=uV l.reverse
 have h1:kT l≤kT l.reverse:=by
  rcases a3 with h | h
  ·omega
  exact b2 _ (List.mem_reverse.2 h)
 have h2:kT l.reverse≤kT l:=by
  rcases b3 with h | h
  ·omega
  exact a2 _ (List.mem_reverse.1 h)
 omega
theorem uN:∀ {l:List Int},(∀ n∈l,0≤n∧n≤1073741823)→0≤kH l∧kH l≤1073741823 * l.length∧∀ n∈l,n≤kH l
 | [],_=>⟨by simp [kH],by simp [kH],by simp⟩
 | a::l,h=>by
  obtain ⟨h1,h2,h3⟩:=uN (l:=l) fun n hn=>h n (by simp [hn])
  have ha:=h a (by simp)
  refine ⟨by simp only [kH]; omega,by simp only [kH,List.length_cons]; omega,fun n hn => ?_⟩
  simp only [kH]
  rcases List.mem_cons.1 hn with rfl | hn
  ·omega
  have:=h3 n hn; omega
theorem qHP {l:List Int} (h:∀ n∈l,0≤n∧n≤1073741823):kT l≤kH l:=by
 obtain ⟨h1,_,h3⟩:=uN h
 obtain ⟨_,_,h4⟩:=uV l
 rcases h4 with h4 | h4
 ·omega
 exact h3 _ h4
def qBL (o:Outc):Prop:=(0≤o.docs∧o.docs≤1073741823)∧(0≤o.outs∧o.outs≤1073741823)∧(0≤o.charge∧o.charge≤1073741823)∧o.out.length≤600∧o.log.length≤600
theorem qBL.num {o:Outc} (h:qBL o) (k:Nat):0≤jL o k∧jL o k≤1073741823:=by
 obtain ⟨h1,h2,h3,h4,h5⟩:=h
 unfold jL
 split
 ·exact h1
 ·exact h2
 ·exact h3
 ·omega
 omega
theorem xQ (k:Nat) (l:List Outc) (h:∀ o∈l,qBL o) (hl:l.length≤20):qH k l=((l.length:Int),kH (l.map fun o=>jL o k),kT (l.map fun o=>jL o k)):=by
 induction l using qAB with
 | nil=>rfl
 | append_singleton l o ih =>
  have hs:∀ x∈l,qBL x:=fun x hx=>h x (List.mem_append_left _ hx)
  simp only [List.length_append,List.length_singleton] at hl
  have ih:=ih hs (by omega)
  have hn:=(h o (by simp)).num k
  obtain ⟨g1,g2,_⟩:=uN (l:=l.map fun o=>jL o k) (fun n hn=>by obtain ⟨x,hx,rfl⟩:=List.mem_map.1 hn; exact (hs x hx).num k)
  rw [List.length_map] at g2
  rw [xR,ih]
  unfold qL
  rw [if_neg (by simp only; omega),List.map_append,List.map_cons,List.map_nil,vN,qBU]
  simp
theorem qHG {l:List Outc} (h:∀ o∈l,qBL o) (hl:l.length≤20):wZ l.reverse=wZ l:=by
 have key:∀ k,qH k l.reverse=qH k l:=fun k=>by
  rw [xQ k l.reverse (fun o ho=>h o (List.mem_reverse.1 ho)) (by simpa using hl),xQ k l h hl,List.map_reverse,qHR,qHQ,List.length_reverse]
 unfold wZ
 simp only [key]
end Go.Proofs.YtcfcfblbpnpclaaGreatDoor
