import Derived.Test.YtcfcfblbpnpclaaGreatDoorSCore33
namespace Go.Proofs.YtcfcfblbpnpclaaGreatDoor.Sy
open Go
section
variable {P:Program} {T:Tab} {G:qM} {st:St}
theorem qET (hT:TOK P T) {o:Oper} {t:TypeId} (ho:o.op = .build t #[]) {ti:TI} (ht:T t=some ti) {n:Nat} {el:TypeId} (hk:ti.k = .ar n el) {te:TI} (hel:T el=some te) {zs:List V} (hz:ti.zero.cells=some zs):qO P G o st (.agg zs) st:=by
 intro c M μ tmps w hg r
 obtain ⟨i0,d0,hi0,hd,hd2,_,_,hzero,_⟩:=hT.get ht
 obtain ⟨i1,d1,hi1,hd1,_,hsz1,_,_,_⟩:=hT.get hel
 cases hzz:i0.zero with
 | none=>rw [hzz] at hzero; simp at hzero; rw [← hzero] at hz; simp [V.cells] at hz
 | some z0 =>
  rw [hzz] at hzero
  simp only [Option.map_some,Option.getD_some] at hzero
  rw [← hzero] at hz
  have hc0:=Cells.of (wA M μ z0) hz
  rw [hk] at hd2
  have hdd:∃ n' e',d0 = .array n' e'∧e'=el:=by
   cases d0 <;> simp [TK.of] at hd2
   exact ⟨_,_,rfl,hd2.2⟩
  obtain ⟨n',e',rfl,rfl⟩:=hdd
  have hbuilt:P.built t []=some z0.cells:=by
   simp [Program.built,hi0,hd,hzz,hi1,Instr.fill]
  have:=run_build (P:=P) w t _ _ hbuilt
  have e1:(execOp (Act.eval ⟨tmps,[]⟩) o).run P w = .ok (.value (.agg z0.cells)) w:=by
   simp only [execOp,ho,Array.map_empty]
   rw [Sem.run_bind]
   simp only [this]
   rfl
  rw [e1]
  exact ⟨M,μ,r,.agg hc0.size hc0.one hc0.get⟩
end
section
variable {P:Program} {G:qM} {st st' st0:St} {rest:List Oper} {ts:List Nat} {tss:List (List Nat)} {acc:yR} {o:Oper} {K:yR→St→Prop}
theorem qI.q (ids : List Nat) (x : V) (hgd : o.guard = none) (y : qO P G o ⟨qY st.tmps ts, ids, [], st.base⟩ x ⟨qY st.tmps ts, ids, [], st.base⟩) (hids : ∀ i ∈ V.ids x, i ∈ ids) (hn : ndB st.H = true)
  (hst:st.after o.dst ⟨x,[],[],ids,[],true⟩=st') (k:qI P G st0 rest tss st' (acc++[(Sm.mk x [] [] ids [] true).sum]) K):qI P G st0 (o::rest) (ts::tss) st acc K:=by
 subst hst
 obtain ⟨sms,st1,e,hk⟩:=k
 have hgood:∀ i∈V.ids x++zS ([]:List (Nat × Box)),i∈ids∨i∈([]:List Nat):=fun i hi => .inl (hids i (by simpa [zS] using hi))
 refine ⟨⟨x,[],[],ids,[],true⟩::sms,st1,.one hgd (zC hn) ⟨fun _=>rfl,hgood,fun i hi=>by simp [qK] at hi,by simp⟩ (by simp) (fun c M μ st' tmps w R K hG rel hle hbox hnw k => ?_) e,by simpa using hk⟩
 exact wX (s:=⟨x,[],[],ids,[],true⟩) (small:=⟨qY st.tmps ts,ids,[],st.base⟩) (s':=⟨qY st.tmps ts,ids,[],st.base⟩) rfl (by simp) rfl (fun i hi=>hi) (fun i hi=>by simp [qK] at hi) hgood y c M μ st' tmps w R K hG rel hle hbox hnw k
end
end Go.Proofs.YtcfcfblbpnpclaaGreatDoor.Sy
