import Derived.Test.YtcfcfblbpnpclaaGreatDoorSCore30
namespace Go.Proofs.YtcfcfblbpnpclaaGreatDoor.Sy
open Go
set_option linter.unusedSimpArgs false
set_option linter.unusedVariables false
section
variable {P:Program} {T:Tab} {G:qK} {Q:Exit→St→Prop} {st:St}
theorem qC.stepYIf (ks : List Nat) (d : Nat) {st' : St} {orc : List PD} {ops : Array Oper} {o : Oper} {rest : List Oper} {x : V} {j : Nat} {pol : Bool} {b : Bool} (hgd : o.guard = some (j, pol)) (hd : (ops[j]?).bind (·.dst) = some d)
  (hb:decide (d<st.tmps.length)=true∧V.guards pol (st.tmps.getD d .dead)=some b) (h:b=true→qO P G o st x st) (hk:(st.put o.dst (.when b x)).keep ks=st') (k:qC P G ops Q rest st' orc):qC P G ops Q (o::rest) st orc :=
 qS.stepIf hgd hd (of_decide_eq_true hb.1) hb.2 h (qS.keep ks (hk ▸ k))
end
section
variable {P:Program} {T:Tab} {G:qK} {l:List Oper} {tss:List (List Nat)} {K:yM→St→Prop} {st st' st0:St} {rest:List Oper} {ts:List Nat} {acc:yM} {o:Oper}
theorem qJ.yNew (Hs H' : List (Nat × Box)) (x : V) (new : List Nat) (hgd : o.guard = none) (y : qO P G o ⟨qW st.tmps ts, Hs.map (·.1), Hs, st.base⟩ x ⟨qW st.tmps ts, Hs.map (·.1), H', st.base⟩) (hsub : ∀ p ∈ Hs, p ∈ st.H)
  (hids:∀ i∈V.ids x++zP H',i∈Hs.map (·.1)∨i∈new) (hnew:∀ n∈new,st0.fresh n=true) (hn:ndB st.H=true) (hns:ndB Hs=true) (hst:st.after o.dst ⟨x,Hs,H',Hs.map (·.1),new,false⟩=st') (k:qJ P G st0 rest tss st' (acc++[(Sm.mk x Hs H' (Hs.map (·.1)) new false).sum]) K):qJ P G st0 (o::rest) (ts::tss) st acc K:=by
 subst hst
 obtain ⟨sms,st1,e,hk⟩:=k
 have hky:∀ i,qI i H'=true→i∈Hs.map (·.1)∨i∈new:=fun i hi=>hids i (List.mem_append.2 (.inr (yX hi)))
 refine ⟨⟨x,Hs,H',Hs.map (·.1),new,false⟩::sms,st1,.one hgd (zB hn) ⟨fun h=>absurd h (by simp),hids,hky,hnew⟩ hsub (fun c M μ st' tmps w R K hG rel hle hbox hnw k => ?_) e,by simpa using hk⟩
 exact wS (s:=⟨x,Hs,H',Hs.map (·.1),new,false⟩) (small:=⟨qW st.tmps ts,Hs.map (·.1),Hs,st.base⟩) (s':=⟨qW st.tmps ts,Hs.map (·.1),H',st.base⟩) rfl (zB hns) rfl (fun i hi=>hi) hky hids y c M μ st' tmps w R K hG rel hle hbox hnw k
end
end Go.Proofs.YtcfcfblbpnpclaaGreatDoor.Sy
