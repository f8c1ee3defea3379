import Derived.Test.YtgcbapchinideaaGreatDoorK1
namespace Go.Proofs.YtgcbapchinideaaGreatDoor
open Sy Go
set_option maxRecDepth 100000
set_option linter.unusedSimpArgs false
set_option linter.unusedVariables false
section
variable {α:Type} {le:α→α→Bool} {P:α→Prop}
structure LO (le:α→α→Bool) (P:α→Prop):Prop where
 tot:∀ {a b},P a→P b→le a b=false→le b a=true
 tr:∀ {a b c},P a→P b→P c→le a b=true→le b c=true→le a c=true
def qFA (P:α→Prop) (l:List α):Prop:=∀ x∈l,P x
theorem qFA.cons {x:α} {l:List α} (h:qFA P (x::l)):P x∧qFA P l:=⟨h x (by simp),fun y hy=>h y (by simp [hy])⟩
def mrg (le:α→α→Bool) (a b:List α):List α:=List.merge a b le
theorem yH (b:List α):mrg le [] b=b:=by simp [mrg]
theorem wI (a:List α):mrg le a []=a:=by simp [mrg]
theorem xD {a b:α} {l1 l2:List α} (h:le a b=true):mrg le (a::l1) (b::l2)=a::mrg le l1 (b::l2):=by simp [mrg,List.cons_merge_cons,h]
theorem vG {a b:α} {l1 l2:List α} (h:le a b=false):mrg le (a::l1) (b::l2)=b::mrg le (a::l1) l2:=by simp [mrg,List.cons_merge_cons,h]
theorem qUP {a b:List α} {x:α}:x∈mrg le a b↔x∈a∨x∈b:=by simp [mrg,List.mem_merge]
theorem zCT (a b:List α):(mrg le a b).length=a.length+b.length:=by simp [mrg,List.length_merge]
theorem xY (o:LO le P):∀ A B C:List α,qFA P A→qFA P B→qFA P C→mrg le (mrg le A B) C=mrg le A (mrg le B C)
 | [],B,C,_,_,_=>by rw [yH,yH]
 | a::A,[],C,_,_,_=>by rw [wI,yH]
 | a::A,b::B,[],_,_,_=>by rw [wI,wI]
 | a::A,b::B,c::C,hA,hB,hC=>by
  obtain ⟨pa,hA'⟩:=hA.cons
  obtain ⟨pb,hB'⟩:=hB.cons
  obtain ⟨pc,hC'⟩:=hC.cons
  cases h1:le a b with
  | true =>
   cases h2:le b c with
   | true =>
    have h3:=o.tr pa pb pc h1 h2
    have ih:=xY o A (b::B) (c::C) hA' hB hC
    rw [xD h1,xD h3,ih,xD h2,xD h1]
   | false =>
    rw [vG h2]
    cases h3:le a c with
    | true =>
     have ih:=xY o A (b::B) (c::C) hA' hB hC
     rw [xD h1,xD h3,xD h3,ih,vG h2]
    | false =>
     have ih:=xY o (a::A) (b::B) C hA hB hC'
     rw [vG h3,← ih,xD h1,vG h3]
  | false =>
   cases h2:le b c with
   | true =>
    have ih:=xY o (a::A) B (c::C) hA hB' hC
    rw [vG h1,xD h2,xD h2,vG h1,ih]
   | false =>
    have h3:le a c=false:=by
     cases h3:le a c with
     | false=>rfl
     | true=>rw [o.tr pa pc pb h3 (o.tot pb pc h2)] at h1; cases h1
    have ih:=xY o (a::A) (b::B) C hA hB hC'
    rw [vG h2,vG h3,← ih,vG h1,vG h2]
termination_by A B C=>A.length+B.length+C.length
def srt (le:α→α→Bool):List α→List α
 | []=>[]
 | x::l=>mrg le [x] (srt le l)
theorem qDX:∀ l:List α,(srt le l).Perm l
 | [] => .nil
 | x::l=>(List.merge_perm_append _).trans ((qDX l).cons x)
theorem jD (l:List α):(srt le l).length=l.length:=(qDX l).length_eq
theorem qDY {l:List α} {x:α}:x∈srt le l↔x∈l:=(qDX l).mem_iff
theorem qMY {l:List α} (h:qFA P l):qFA P (srt le l):=fun x hx=>h x (qDY.1 hx)
theorem qHJ (o:LO le P):∀ A B:List α,qFA P A→qFA P B→srt le (A++B)=mrg le (srt le A) (srt le B)
 | [],B,_,_=>by simp [srt,yH]
 | a::A,B,hA,hB=>by
  obtain ⟨pa,hA'⟩:=hA.cons
  have ha:qFA P [a]:=fun x hx=>by rw [List.mem_singleton.1 hx]; exact pa
  simp only [List.cons_append,srt]
  rw [qHJ o A B hA' hB,xY o _ _ _ ha (qMY hA') (qMY hB)]
abbrev Sor (le:α→α→Bool) (l:List α):Prop:=l.Pairwise fun a b=>le a b=true
theorem qNN (o:LO le P):∀ A B:List α,qFA P A→qFA P B→Sor le A→Sor le B→Sor le (mrg le A B)
 | [],B,_,_,_,h=>by rw [yH]; exact h
 | a::A,[],_,_,h,_=>by rw [wI]; exact h
 | a::A,b::B,hA,hB,h1,h2=>by
  obtain ⟨pa,hA'⟩:=hA.cons
  obtain ⟨pb,hB'⟩:=hB.cons
  obtain ⟨s1,s2⟩:=List.pairwise_cons.1 h1
  obtain ⟨t1,t2⟩:=List.pairwise_cons.1 h2
  cases h:le a b with
  | true =>
   rw [xD h]
   refine List.pairwise_cons.2 ⟨fun x hx => ?_,qNN o A (b::B) hA' hB s2 h2⟩
   rcases qUP.1 hx with hx | hx
   ·exact s1 x hx
   rcases List.mem_cons.1 hx with rfl | hx
   ·exact h
   exact o.tr pa pb (hB' x hx) h (t1 x hx)
  | false =>
   rw [vG h]
   have hba:=o.tot pa pb h
   refine List.pairwise_cons.2 ⟨fun x hx => ?_,qNN o (a::A) B hA hB' h1 t2⟩
   rcases qUP.1 hx with hx | hx
   ·rcases List.mem_cons.1 hx with rfl | hx
    ·exact hba
    exact o.tr pb pa (hA' x hx) hba (s1 x hx)
   exact t1 x hx
termination_by A B=>A.length+B.length
theorem qAE (o:LO le P):∀ l:List α,qFA P l→Sor le (srt le l)
 | [],_=>List.Pairwise.nil
 | x::l,h=>by
  obtain ⟨px,h'⟩:=h.cons
  exact qNN o [x] _ (fun y hy=>by rw [List.mem_singleton.1 hy]; exact px) (qMY h') (List.pairwise_singleton _ _) (qAE o l h')
theorem qYV:∀ {l:List α},Sor le l→srt le l=l
 | [],_=>rfl
 | x::l,h=>by
  obtain ⟨s1,s2⟩:=List.pairwise_cons.1 h
  simp only [srt]
  rw [qYV s2]
  cases l with
  | nil=>rw [wI]
  | cons y l=>rw [xD (s1 y (by simp)),yH]
theorem qNO {x:α}:∀ {A1 A2:List α},(∀ y∈A1,le y x=true)→(∀ y∈A2,le y x=false)→mrg le (A1++A2) [x]=A1++x::A2
 | [],[],_,_=>by simp [yH]
 | [],y::A2,_,h=>by rw [List.nil_append,vG (h y (by simp)),wI]; rfl
 | a::A1,A2,h1,h2=>by
  rw [List.cons_append,xD (h1 a (by simp)),qNO (fun y hy=>h1 y (by simp [hy])) h2]; rfl
theorem xX:∀ {A1 A2 B1 B2:List α},(∀ x∈A1, ∀ y∈B2,le x y=true)→(∀ x∈A2, ∀ y∈B1,le x y=false)→mrg le (A1++A2) (B1++B2)=mrg le A1 B1++mrg le A2 B2
 | [],A2,[],B2,_,_=>by simp [yH]
 | [],[],b::B1,B2,_,_=>by simp [yH]
 | [],a::A2,b::B1,B2,h1,h2=>by
  have ih:=xX (A1:=[]) (A2:=a::A2) (B1:=B1) (B2:=B2) h1 (fun x hx y hy=>h2 x hx y (by simp [hy]))
  rw [List.nil_append,List.cons_append,vG (h2 a (by simp) b (by simp)),yH]
  rw [List.nil_append,yH] at ih
  rw [ih]; rfl
 | a::A1,A2,[],[],_,_=>by simp [wI]
 | a::A1,A2,[],b::B2,h1,h2=>by
  have ih:=xX (A1:=A1) (A2:=A2) (B1:=[]) (B2:=b::B2) (fun x hx=>h1 x (by simp [hx])) h2
  rw [List.cons_append,List.nil_append,xD (h1 a (by simp) b (by simp)),wI]
  rw [List.nil_append,wI] at ih
  rw [ih]; rfl
 | a::A1,A2,b::B1,B2,h1,h2=>by
  simp only [List.cons_append]
  cases h:le a b with
  | true =>
   have ih:=xX (A1:=A1) (A2:=A2) (B1:=b::B1) (B2:=B2) (fun x hx=>h1 x (by simp [hx])) h2
   rw [xD h,xD h,List.cons_append,← ih]; rfl
  | false =>
   have ih:=xX (A1:=a::A1) (A2:=A2) (B1:=B1) (B2:=B2) h1 (fun x hx y hy=>h2 x hx y (by simp [hy]))
   rw [vG h,vG h,List.cons_append,← ih]; rfl
termination_by A1 A2 B1 B2=>A1.length+B1.length
end
end Go.Proofs.YtgcbapchinideaaGreatDoor
