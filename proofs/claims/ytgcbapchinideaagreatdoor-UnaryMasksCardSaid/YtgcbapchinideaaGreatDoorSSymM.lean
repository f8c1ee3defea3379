import Derived.Test.YtgcbapchinideaaGreatDoorSRotR
set_option linter.all false
namespace Go.Proofs.YtgcbapchinideaaGreatDoor
open Sy Go
set_option maxRecDepth 100000
set_option maxHeartbeats 4000000
variable {G:qT}
abbrev qBP (l:List Val):Prop:=∀ v∈l,qU v=true
theorem zSQ {B:List Val} {x:Val} {u:Nat} (hx:qU x=true) (hm:qBP B) (h1:∀ k y,k<u->B[k]?=some y->wT y x<0) (h2:∀ k y,u<=k->B[k]?=some y->¬ wT y x<0):mrg leV [x] B=B.take u++x::B.drop u:=by
 have e:=qBX (le:=leV) (A1:=[]) (A2:=[x]) (B1:=B.take u) (B2:=B.drop u) (fun a ha=>by cases ha) (fun a ha b hb=>by
  obtain rfl:=cG.1 ha;obtain⟨i,hi⟩:=dS.1 hb;rw[bW]at hi;split at hi
  ·rename_i h;exact zAC (hm b (bH hi)) hx (h1 i b h hi)
  cases hi)
 rw[dH,cE,xB]at e;rw[e];congr 1
 have hle:∀ b∈B.drop u,leV x b=true:=fun b hb=>by
  obtain⟨i,hi⟩:=dS.1 hb;rw[bZ]at hi;exact zAD (hm b (bH hi)) hx (h2 (u+i) b (by omega) hi)
 generalize B.drop u=D at *;cases D with
 | nil=>rw[kC]
 | cons d D=>rw[qBA (hle d (by simp)),xB]
theorem zOK {A:List Val} {y:Val} {u:Nat} (hy:qU y=true) (hm:qBP A) (h1:∀ k x,k<u->A[k]?=some x->¬ wT y x<0) (h2:∀ k x,u<=k->A[k]?=some x->wT y x<0):mrg leV A [y]=A.take u++y::A.drop u:=by
 have e:=qZX (le:=leV) (x:=y) (A1:=A.take u) (A2:=A.drop u) (fun a ha=>by
  obtain⟨i,hi⟩:=dS.1 ha;rw[bW]at hi;split at hi
  ·rename_i h;exact zAD hy (hm a (bH hi)) (h1 i a h hi)
  ·cases hi) (fun a ha=>by
  obtain⟨i,hi⟩:=dS.1 ha;rw[bZ]at hi;exact zAC hy (hm a (bH hi)) (h2 (u+i) a (by omega) hi))
 rwa [cE]at e
theorem qYZ {B:List Val} (h:Sor leV B) {i j:Nat} {a b:Val} (hij:i<j) (ha:B[i]?=some a) (hb:B[j]?=some b):wT a b<=0:=by
 obtain⟨hi,rfl⟩:=bB.1 ha;obtain⟨hj,rfl⟩:=bB.1 hb;have:=List.pairwise_iff_getElem.1 h i j hi hj hij;simpa[leV]using this
theorem qOG {x y z:Val} (hx:qU x=true) (hy:qU y=true) (hz:qU z=true) (h1:wT x y<=0) (h2:wT y z<0):wT x z<0:=by
 have a1:=yO.anti x z hx hz;have a2:=yO.anti y z hy hz;have a3:=yO.anti x y hx hy;by_cases h:wT x z<0
 ·exact h
 have:=yO.tr z x y hz hx hy (by omega) h1;omega
theorem zNC {A1 A2 B1 B2:List Val} (hma:qBP (A1++A2)) (hmb:qBP (B1++B2)) (hsa:Sor leV (A1++A2)) (hsb:Sor leV (B1++B2))
  (h1:∀ a b,A1.getLast?=some a->B2.head?=some b->¬ wT b a<0) (h2:∀ a b,A2.head?=some a->B1.getLast?=some b->wT b a<0):mrg leV (A1++A2) (B1++B2)=mrg leV A1 B1++mrg leV A2 B2:=by
 obtain⟨sa1,sa2,sa3⟩:=eE.1 hsa;obtain⟨sb1,sb2,sb3⟩:=eE.1 hsb;refine qBX (fun a ha b hb => ?_) (fun a ha b hb => ?_)
 ·
  have hne:A1≠[]:=fun e=>by rw[e]at ha;cases ha
  have hne2:B2≠[]:=fun e=>by rw[e]at hb;cases hb
  obtain⟨l,hl⟩:∃ l,A1.getLast?=some l:=⟨_,fD hne⟩;obtain⟨f,hf⟩:∃ f,B2.head?=some f:=⟨_,List.head?_eq_some_head hne2⟩;have ml:qU l=true:=hma l (fE _ (gB hl));have mf:qU f=true:=hmb f (eK _ (List.mem_of_head? hf));have ma:=hma a (fE _ ha);have mb:=hmb b (eK _ hb);have e1:leV l f=true:=zAD mf ml (h1 l f hl hf);have refl:∀ v,qU v=true->leV v v=true:=fun v hv=>by
   have:=yO.anti v v hv hv;simp[leV];omega
  have e2:leV a l=true:=by
   obtain⟨ys,rfl⟩:=List.getLast?_eq_some_iff.1 hl;rcases bL.1 ha with h|h
   ·exact(eE.1 sa1).2.2 a h l (by simp)
   rw[cG.1 h];exact refl _ ml
  have e3:leV f b=true:=by
   obtain⟨ys,rfl⟩:∃ ys,B2=f::ys:=by
    cases B2 with
    | nil=>cases hf
    | cons z zs=>cases hf;exact⟨zs,rfl⟩
   rcases bM.1 hb with rfl|h
   ·exact refl _ mf
   exact(fS.1 sb2).1 b h
  exact qCP.tr ma mf mb (qCP.tr ma ml mf e2 e1) e3
 have hne:A2≠[]:=fun e=>by rw[e]at ha;cases ha
 have hne2:B1≠[]:=fun e=>by rw[e]at hb;cases hb
 obtain⟨f,hf⟩:∃ f,A2.head?=some f:=⟨_,List.head?_eq_some_head hne⟩;obtain⟨l,hl⟩:∃ l,B1.getLast?=some l:=⟨_,fD hne2⟩;have mf:qU f=true:=hma f (eK _ (List.mem_of_head? hf));have ml:qU l=true:=hmb l (fE _ (gB hl));have ma:=hma a (eK _ ha);have mb:=hmb b (fE _ hb);have refl:∀ v,qU v=true->wT v v<=0:=fun v hv=>by
  have:=yO.anti v v hv hv;omega
 have e2:wT b l<=0:=by
  obtain⟨ys,rfl⟩:=List.getLast?_eq_some_iff.1 hl;rcases bL.1 hb with h|h
  ·have:=(eE.1 sb1).2.2 b h l (by simp);simpa[leV]using this
  rw[cG.1 h];exact refl _ ml
 have e3:wT f a<=0:=by
  obtain⟨ys,rfl⟩:∃ ys,A2=f::ys:=by
   cases A2 with
   | nil=>cases hf
   | cons z zs=>cases hf;exact⟨zs,rfl⟩
  rcases bM.1 ha with rfl|h
  ·exact refl _ mf
  have:=(fS.1 sa2).1 a h;simpa[leV]using this
 have e4:=qOG mb ml mf e2 (h2 f l hf hl);refine zAC mb ma ?_;have a1:=yO.anti b a mb ma;by_cases h:wT b a<0
 ·exact h
 exfalso;have a2:=yO.anti b f mb mf;have:=yO.tr f a b mf ma mb e3 (by omega);omega
end Go.Proofs.YtgcbapchinideaaGreatDoor
