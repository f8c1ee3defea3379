import Derived.Test.YtcfcfblbpnpclaaGreatDoorSCore33
namespace Go.Proofs.YtcfcfblbpnpclaaGreatDoor.Sy
open Go
section
variable {P:Program} {T:Tab} {G:qK} {st:St}
end
section
variable {P:Program} {G:qK} {st st' st0:St} {rest:List Oper} {ts:List Nat} {tss:List (List Nat)} {acc:yM} {o:Oper} {K:yM→St→Prop}
theorem qJ.q (ids : List Nat) (x : V) (hgd : o.guard = none) (y : qO P G o ⟨qW st.tmps ts, ids, [], st.base⟩ x ⟨qW st.tmps ts, ids, [], st.base⟩) (hids : ∀ i ∈ V.ids x, i ∈ ids) (hn : ndB st.H = true)
  (hst:st.after o.dst ⟨x,[],[],ids,[],true⟩=st') (k:qJ P G st0 rest tss st' (acc++[(Sm.mk x [] [] ids [] true).sum]) K):qJ P G st0 (o::rest) (ts::tss) st acc K:=by
 subst hst
 obtain ⟨sms,st1,e,hk⟩:=k
 have hgood:∀ i∈V.ids x++zP ([]:List (Nat × Box)),i∈ids∨i∈([]:List Nat):=fun i hi => .inl (hids i (by simpa [zP] using hi))
 refine ⟨⟨x,[],[],ids,[],true⟩::sms,st1,.one hgd (zB hn) ⟨fun _=>rfl,hgood,fun i hi=>by simp [qI] at hi,by simp⟩ (by simp) (fun c M μ st' tmps w R K hG rel hle hbox hnw k => ?_) e,by simpa using hk⟩
 exact wS (s:=⟨x,[],[],ids,[],true⟩) (small:=⟨qW st.tmps ts,ids,[],st.base⟩) (s':=⟨qW st.tmps ts,ids,[],st.base⟩) rfl (by simp) rfl (fun i hi=>hi) (fun i hi=>by simp [qI] at hi) hgood y c M μ st' tmps w R K hG rel hle hbox hnw k
end
end Go.Proofs.YtcfcfblbpnpclaaGreatDoor.Sy
