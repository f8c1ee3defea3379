import Derived.Test.YtbhhphabggcacaaGreatDoorSCore33
namespace Go.Proofs.YtbhhphabggcacaaGreatDoor.Sy
open Go
section
variable {P:Program} {T:Tab} {G:qM} {st:St}
theorem qPC {o:Oper} {t ty:TypeId} {x:Operand} {p:Prop} (b:Bool) (ho:o.op = .binOp .eql t x (.const .nilIface) ty) (ht:qJX P t=true) (ha:st.arg G x=(p,.p (if b=true then .noerr else .err))) (hp:p):qX P G o st (.p (.bool b)) st:=by
 obtain ⟨ms,ht⟩:=qJW ht
 intro c M μ tmps w hg r
 have h1:=(qG hg r ha hp).p_inv
 generalize hu:Act.eval ⟨tmps,[]⟩ x=u at h1
 have e1:(execOp (Act.eval ⟨tmps,[]⟩) o).run P w = .ok (.value (.bool b)) w:=by
  cases b with
  | false =>
   simp only [Bool.false_eq_true,if_false] at h1
   cases h1 with
   | @err t' v' =>
   have he:(Op.equal t (.iface t' v') .nilIface).run P w = .ok false w:=qYS 9999 ht t' v' w
   have hg':(eqGuard .eql t x (.const .nilIface) (.iface t' v') .nilIface).run P w = .ok () w:=by simp only [eqGuard]; rfl
   have hb2:(binOp .eql t (.iface t' v') .nilIface).run P w = .ok (.bool false) w:=by
    show (do pure (.bool (← Op.equal t (.iface t' v') .nilIface)):Sem Value).run P w=_
    simp only [Sem.run_bind,he,Result.andThen]; rfl
   simp [execOp,ho,hu,hg',hb2,show Act.eval ⟨tmps,[]⟩ (.const .nilIface) = .nilIface from rfl]
  | true =>
   simp only [if_true] at h1
   cases h1
   have he:(Op.equal t .nilIface .nilIface).run P w = .ok true w:=qUI 9999 ht w
   have hg':(eqGuard .eql t x (.const .nilIface) .nilIface .nilIface).run P w = .ok () w:=by simp only [eqGuard]; simp
   have hb2:(binOp .eql t .nilIface .nilIface).run P w = .ok (.bool true) w:=by
    show (do pure (.bool (← Op.equal t .nilIface .nilIface)):Sem Value).run P w=_
    simp only [Sem.run_bind,he,Result.andThen]; rfl
   simp [execOp,ho,hu,hg',hb2,show Act.eval ⟨tmps,[]⟩ (.const .nilIface) = .nilIface from rfl]
 rw [e1]
 exact ⟨M,μ,r,.p (.bool b)⟩
end
section
variable {P:Program} {G:qM} {st st' st0:St} {rest:List Oper} {ts:List Nat} {tss:List (List Nat)} {acc:qAP} {o:Oper} {K:qAP→St→Prop}
theorem yR.q (ids : List Nat) (x : V) (hgd : o.guard = none) (y : qX P G o ⟨wL st.tmps ts, ids, [], st.base⟩ x ⟨wL st.tmps ts, ids, [], st.base⟩) (hids : ∀ i ∈ V.ids x, i ∈ ids) (hn : ndB st.H = true)
  (hst:st.after o.dst ⟨x,[],[],ids,[],true⟩=st') (k:yR P G st0 rest tss st' (acc++[(Sm.mk x [] [] ids [] true).sum]) K):yR P G st0 (o::rest) (ts::tss) st acc K:=by
 subst hst
 obtain ⟨sms,st1,e,hk⟩:=k
 have hgood:∀ i∈V.ids x++jA ([]:List (Nat × Box)),i∈ids∨i∈([]:List Nat):=fun i hi => .inl (hids i (by simpa [jA] using hi))
 refine ⟨⟨x,[],[],ids,[],true⟩::sms,st1,.one hgd (wT hn) ⟨fun _=>rfl,hgood,fun i hi=>by simp [qL] at hi,by simp⟩ (by simp) (fun c M μ st' tmps w R K hG rel hle hbox hnw k => ?_) e,by simpa using hk⟩
 exact qAG (s:=⟨x,[],[],ids,[],true⟩) (small:=⟨wL st.tmps ts,ids,[],st.base⟩) (s':=⟨wL st.tmps ts,ids,[],st.base⟩) rfl (by simp) rfl (fun i hi=>hi) (fun i hi=>by simp [qL] at hi) hgood y c M μ st' tmps w R K hG rel hle hbox hnw k
end
end Go.Proofs.YtbhhphabggcacaaGreatDoor.Sy
