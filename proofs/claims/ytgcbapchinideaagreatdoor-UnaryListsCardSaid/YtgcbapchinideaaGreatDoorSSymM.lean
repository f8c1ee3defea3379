import Derived.Test.YtgcbapchinideaaGreatDoorSRotR
namespace Go.Proofs.YtgcbapchinideaaGreatDoor
open Sy Go
set_option maxRecDepth 100000
set_option maxHeartbeats 4000000
set_option linter.unusedSimpArgs false
set_option linter.unusedVariables false
variable {G:qK}
abbrev yZ (l:List Val):Prop:=∀ v∈l,zC v=true
theorem qZF {B:List Val} {x:Val} {u:Nat} (hx:zC x=true) (hm:yZ B) (h1:∀ k y,k<u→B[k]?=some y→zD y x<0) (h2:∀ k y,u≤k→B[k]?=some y→¬ zD y x<0):mrg leV [x] B=B.take u++x::B.drop u:=by
 have e:=xX (le:=leV) (A1:=[]) (A2:=[x]) (B1:=B.take u) (B2:=B.drop u) (fun a ha=>by cases ha) (fun a ha b hb=>by
  obtain rfl:=List.mem_singleton.1 ha
  obtain ⟨i,hi⟩:=List.mem_iff_getElem?.1 hb
  rw [List.getElem?_take] at hi
  split at hi
  ·rename_i h
   exact qNQ (hm b (List.mem_of_getElem? hi)) hx (h1 i b h hi)
  cases hi)
 rw [List.nil_append,List.take_append_drop,yH] at e
 rw [e]
 congr 1
 have hle:∀ b∈B.drop u,leV x b=true:=fun b hb=>by
  obtain ⟨i,hi⟩:=List.mem_iff_getElem?.1 hb
  rw [List.getElem?_drop] at hi
  exact qNR (hm b (List.mem_of_getElem? hi)) hx (h2 (u+i) b (by omega) hi)
 generalize B.drop u=D at *
 cases D with
 | nil=>rw [wI]
 | cons d D=>rw [xD (hle d (by simp)),yH]
theorem qWL {A:List Val} {y:Val} {u:Nat} (hy:zC y=true) (hm:yZ A) (h1:∀ k x,k<u→A[k]?=some x→¬ zD y x<0) (h2:∀ k x,u≤k→A[k]?=some x→zD y x<0):mrg leV A [y]=A.take u++y::A.drop u:=by
 have e:=qNO (le:=leV) (x:=y) (A1:=A.take u) (A2:=A.drop u) (fun a ha=>by
  obtain ⟨i,hi⟩:=List.mem_iff_getElem?.1 ha
  rw [List.getElem?_take] at hi
  split at hi
  ·rename_i h
   exact qNR hy (hm a (List.mem_of_getElem? hi)) (h1 i a h hi)
  ·cases hi) (fun a ha=>by
  obtain ⟨i,hi⟩:=List.mem_iff_getElem?.1 ha
  rw [List.getElem?_drop] at hi
  exact qNQ hy (hm a (List.mem_of_getElem? hi)) (h2 (u+i) a (by omega) hi))
 rwa [List.take_append_drop] at e
theorem qNA {B:List Val} (h:Sor leV B) {i j:Nat} {a b:Val} (hij:i<j) (ha:B[i]?=some a) (hb:B[j]?=some b):zD a b≤0:=by
 obtain ⟨hi,rfl⟩:=List.getElem?_eq_some_iff.1 ha
 obtain ⟨hj,rfl⟩:=List.getElem?_eq_some_iff.1 hb
 have:=List.pairwise_iff_getElem.1 h i j hi hj hij
 simpa [leV] using this
theorem qGA {x y z:Val} (hx:zC x=true) (hy:zC y=true) (hz:zC z=true) (h1:zD x y≤0) (h2:zD y z<0):zD x z<0:=by
 have a1:=qZ.anti x z hx hz
 have a2:=qZ.anti y z hy hz
 have a3:=qZ.anti x y hx hy
 by_cases h:zD x z<0
 ·exact h
 have:=qZ.tr z x y hz hx hy (by omega) h1
 omega
theorem qVQ {A1 A2 B1 B2 : List Val} (hma : yZ (A1 ++ A2)) (hmb : yZ (B1 ++ B2)) (hsa : Sor leV (A1 ++ A2)) (hsb : Sor leV (B1 ++ B2))
  (h1:∀ a b,A1.getLast?=some a→B2.head?=some b→¬ zD b a<0) (h2:∀ a b,A2.head?=some a→B1.getLast?=some b→zD b a<0):mrg leV (A1++A2) (B1++B2)=mrg leV A1 B1++mrg leV A2 B2:=by
 obtain ⟨sa1,sa2,sa3⟩:=List.pairwise_append.1 hsa
 obtain ⟨sb1,sb2,sb3⟩:=List.pairwise_append.1 hsb
 refine xX (fun a ha b hb => ?_) (fun a ha b hb => ?_)
 ·
  have hne:A1≠[]:=fun e=>by rw [e] at ha; cases ha
  have hne2:B2≠[]:=fun e=>by rw [e] at hb; cases hb
  obtain ⟨l,hl⟩:∃ l,A1.getLast?=some l:=⟨_,List.getLast?_eq_some_getLast hne⟩
  obtain ⟨f,hf⟩:∃ f,B2.head?=some f:=⟨_,List.head?_eq_some_head hne2⟩
  have ml:zC l=true:=hma l (List.mem_append_left _ (List.mem_of_getLast? hl))
  have mf:zC f=true:=hmb f (List.mem_append_right _ (List.mem_of_head? hf))
  have ma:=hma a (List.mem_append_left _ ha)
  have mb:=hmb b (List.mem_append_right _ hb)
  have e1:leV l f=true:=qNR mf ml (h1 l f hl hf)
  have refl:∀ v,zC v=true→leV v v=true:=fun v hv=>by
   have:=qZ.anti v v hv hv
   simp [leV]; omega
  have e2:leV a l=true:=by
   obtain ⟨ys,rfl⟩:=List.getLast?_eq_some_iff.1 hl
   rcases List.mem_append.1 ha with h | h
   ·exact (List.pairwise_append.1 sa1).2.2 a h l (by simp)
   rw [List.mem_singleton.1 h]; exact refl _ ml
  have e3:leV f b=true:=by
   obtain ⟨ys,rfl⟩:∃ ys,B2=f::ys:=by
    cases B2 with
    | nil=>cases hf
    | cons z zs=>cases hf; exact ⟨zs,rfl⟩
   rcases List.mem_cons.1 hb with rfl | h
   ·exact refl _ mf
   exact (List.pairwise_cons.1 sb2).1 b h
  exact xL.tr ma mf mb (xL.tr ma ml mf e2 e1) e3
 have hne:A2≠[]:=fun e=>by rw [e] at ha; cases ha
 have hne2:B1≠[]:=fun e=>by rw [e] at hb; cases hb
 obtain ⟨f,hf⟩:∃ f,A2.head?=some f:=⟨_,List.head?_eq_some_head hne⟩
 obtain ⟨l,hl⟩:∃ l,B1.getLast?=some l:=⟨_,List.getLast?_eq_some_getLast hne2⟩
 have mf:zC f=true:=hma f (List.mem_append_right _ (List.mem_of_head? hf))
 have ml:zC l=true:=hmb l (List.mem_append_left _ (List.mem_of_getLast? hl))
 have ma:=hma a (List.mem_append_right _ ha)
 have mb:=hmb b (List.mem_append_left _ hb)
 have refl:∀ v,zC v=true→zD v v≤0:=fun v hv=>by
  have:=qZ.anti v v hv hv
  omega
 have e2:zD b l≤0:=by
  obtain ⟨ys,rfl⟩:=List.getLast?_eq_some_iff.1 hl
  rcases List.mem_append.1 hb with h | h
  ·have:=(List.pairwise_append.1 sb1).2.2 b h l (by simp)
   simpa [leV] using this
  rw [List.mem_singleton.1 h]; exact refl _ ml
 have e3:zD f a≤0:=by
  obtain ⟨ys,rfl⟩:∃ ys,A2=f::ys:=by
   cases A2 with
   | nil=>cases hf
   | cons z zs=>cases hf; exact ⟨zs,rfl⟩
  rcases List.mem_cons.1 ha with rfl | h
  ·exact refl _ mf
  have:=(List.pairwise_cons.1 sa2).1 a h
  simpa [leV] using this
 have e4:=qGA mb ml mf e2 (h2 f l hf hl)
 refine qNQ mb ma ?_
 have a1:=qZ.anti b a mb ma
 by_cases h:zD b a<0
 ·exact h
 exfalso
 have a2:=qZ.anti b f mb mf
 have:=qZ.tr f a b mf ma mb e3 (by omega)
 omega
end Go.Proofs.YtgcbapchinideaaGreatDoor
