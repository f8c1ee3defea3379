import Derived.Test.YtcfcfblbpnpclaaGreatDoorSCore39
namespace Go.Proofs.YtcfcfblbpnpclaaGreatDoor.Sy
open Go
section
variable {P:Program} {G:qK} {Q:Exit→St→Prop} {c:Code}
def vH (P:Program) (G:qK) (c:Code) (Q:Exit→St→Prop):List St→Prop
 | []=>True
 | [s]=>AW P G c (andThen (fun _=>False) Q) s
 | s::t::r=>AW P G c (andThen (fun x=>St.Le x t) Q) s∧vH P G c Q (t::r)
theorem vH.get:∀ {l:List St},vH P G c Q l→∀ {i:Nat} {s:St},l[i]?=some s→AW P G c (andThen (fun x=>∃ t,l[i+1]?=some t∧St.Le x t) Q) s
 | [],_,i,s,h=>by simp at h
 | [a],hr,i,s,h=>by
  cases i with
  | zero =>
   simp at h; subst h
   exact AW.mono hr fun e x hx=>by
    cases e <;> first | exact hx.elim | exact hx
  | succ i=>simp at h
 | a::b::r,hr,i,s,h=>by
  cases i with
  | zero =>
   simp at h; subst h
   exact AW.mono hr.1 fun e x hx=>by
    cases e <;> first | exact ⟨b,rfl,hx⟩ | exact hx
  | succ i =>
   have:=vH.get hr.2 (i:=i) (s:=s) (by simpa using h)
   exact AW.mono this fun e x hx=>by
    cases e <;> first | (obtain ⟨t,h1,h2⟩:=hx; exact ⟨t,by simpa using h1,h2⟩) | exact hx
theorem AW.loopL {st:St} (l:List St) (s0:St) (h0:St.Le st s0) (h:vH P G c Q (s0::l)):AW P G (.loop c) Q st:=by
 refine AW.loop (α:=Nat) (fun i=>i<(s0::l).length) (fun i=>(s0::l).getD i st) (fun i=>(s0::l).length-i) 0 (by simp) (by simpa using h0) fun i hi => ?_
 have hg:(s0::l)[i]?=some ((s0::l).getD i st):=by rw [List.getD,List.getElem?_eq_getElem hi]; rfl
 refine AW.mono (h.get hg) fun e x hx => ?_
 cases e <;> first
  | (obtain ⟨t,h1,h2⟩:=hx; have hlt:=(List.getElem?_eq_some_iff.1 h1).1; exact ⟨i+1,hlt,by omega,by simp only [List.getD,h1,Option.getD_some]; exact h2⟩)
  | exact hx
theorem AW.loopF {st : St} {α : Type} (I : α → Prop) (S : α → St) (m : α → Nat) (a0 : α) (hI0 : I a0) (first : AW P G c (andThen (fun s => St.Le s (S a0)) Q) st)
  (round:∀ a,I a→AW P G c (andThen (fun s=>∃ a',I a'∧m a'<m a∧St.Le s (S a')) Q) (S a)):AW P G (.loop c) Q st:=by
 intro x M μ tmps w hg r
 refine AW.loop (P:=P) (G:=G) (c:=c) (Q:=Q) (st:=st) (α:=Option α) (fun a=>match a with | none=>True | some b=>I b) (fun a=>match a with | none=>st | some b=>S b) (fun a=>match a with | none=>m a0+1 | some b=>m b) none trivial ⟨zT.refl' _,rfl,fun _ h=>h,r.nodup⟩ (fun a ha => ?_) x M μ tmps w hg r
 cases a with
 | none =>
  refine AW.mono first fun e s hs => ?_
  cases e <;> first | exact ⟨some a0,hI0,Nat.lt_succ_self _,hs⟩ | exact hs
 | some b =>
  refine AW.mono (round b ha) fun e s hs => ?_
  cases e <;> first
   | (obtain ⟨a',h1,h2,h3⟩:=hs; exact ⟨some a',h1,h2,h3⟩)
   | exact hs
end
end Go.Proofs.YtcfcfblbpnpclaaGreatDoor.Sy
