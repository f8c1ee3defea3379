import Derived.Test.YtcfcfblbpnpclaaGreatDoorSCore40
namespace Go.Proofs.YtcfcfblbpnpclaaGreatDoor.Sy
open Go
section
variable {P:Program} {T:Tab} {G:qK} {st:St}
theorem qAV {M : qQ} {μ : Mu} {arr : Array Value} {cs : List V} {u : Value} {y : V} {i : Nat} {rest : List (Nat × Value)} (hc : Cells M μ arr cs) (hu : Cells M μ u.cells [y]) (hi : i < cs.length) :
  ∃ arr',Cells M μ arr' (cs.set i y)∧Instr.fill (fun i=>some (i * 1,1)) arr ((i,u)::rest)=Instr.fill (fun i=>some (i * 1,1)) arr' rest:=by
 have h2:=hc.splice (o:=i) hu (by simp only [List.length_singleton]; omega)
 rw [qAA _ _ _ hi] at h2
 refine ⟨_,h2, ?_⟩
 have e1:u.cells.size=1:=hu.size
 simp only [Instr.fill]
 rw [if_neg (by simp [e1]; rw [hc.size]; omega)]
 simp
theorem zL (hT : TOK P T) {o : Oper} {t : TypeId} {x0 x1 x2 : Operand} (ho : o.op = .build t #[(0, x0), (1, x1), (2, x2)]) {ti : TI} (ht : T t = some ti) {n : Nat} {el : TypeId} (hk : ti.k = .ar n el) {te : TI} (hel : T el = some te) (hs : te.size = 1) {zs : List V} (hz : ti.zero.cells = some zs) (hl : zs.length = 3)
  {p0 p1 p2:Prop} {y0 y1 y2:V} (h0:st.arg G x0=(p0,y0)) (q0:p0) (c0:y0.cells=some [y0]) (h1:st.arg G x1=(p1,y1)) (q1:p1) (c1:y1.cells=some [y1]) (h2:st.arg G x2=(p2,y2)) (q2:p2) (c2:y2.cells=some [y2]):qO P G o st (.agg [y0,y1,y2]) st:=by
 intro c M μ tmps w hg r
 have u0:=Cells.of (qD hg r h0 q0) c0
 have u1:=Cells.of (qD hg r h1 q1) c1
 have u2:=Cells.of (qD hg r h2 q2) c2
 generalize hw0:Act.eval ⟨tmps,[]⟩ x0=w0 at u0
 generalize hw1:Act.eval ⟨tmps,[]⟩ x1=w1 at u1
 generalize hw2:Act.eval ⟨tmps,[]⟩ x2=w2 at u2
 obtain ⟨i0,d0,hi0,hd,hd2,_,_,hzero,_⟩:=hT.get ht
 obtain ⟨i1,d1,hi1,hd1,_,hsz1,_,_,_⟩:=hT.get hel
 cases hzz:i0.zero with
 | none=>rw [hzz] at hzero; simp at hzero; rw [← hzero] at hz; simp [V.cells] at hz
 | some z0 =>
  rw [hzz] at hzero
  simp only [Option.map_some,Option.getD_some] at hzero
  rw [← hzero] at hz
  have hc0:=Cells.of (wI M μ z0) hz
  rw [hk] at hd2
  have hdd:∃ n' e',d0 = .array n' e'∧e'=el:=by
   cases d0 <;> simp [TK.of] at hd2
   exact ⟨_,_,rfl,hd2.2⟩
  obtain ⟨n',e',rfl,rfl⟩:=hdd
  obtain ⟨a1,k1,g1⟩:=qAV (i:=0) (rest:=[(1,w1),(2,w2)]) hc0 u0 (by omega)
  obtain ⟨a2,k2,g2⟩:=qAV (i:=1) (rest:=[(2,w2)]) k1 u1 (by simp; omega)
  obtain ⟨a3,k3,g3⟩:=qAV (i:=2) (rest:=[]) k2 u2 (by simp; omega)
  have hbuilt:P.built t [(0,w0),(1,w1),(2,w2)]=some a3:=by
   simp only [Program.built,hi0,hd,hzz,hi1,hsz1,hs]
   rw [g1,g2,g3]
   rfl
  have:=run_build (P:=P) w t #[(0,w0),(1,w1),(2,w2)] _ hbuilt
  have e1:(execOp (Act.eval ⟨tmps,[]⟩) o).run P w = .ok (.value (.agg a3)) w:=by
   simp only [execOp,ho]
   rw [show (#[(0,x0),(1,x1),(2,x2)]:Array (Nat × Operand)).map (fun (x:Nat × Operand)=>(x.1,Act.eval ⟨tmps,[]⟩ x.2)) = #[(0,w0),(1,w1),(2,w2)] by simp [hw0,hw1,hw2]]
   rw [Sem.run_bind]
   simp only [this]
   rfl
  rw [e1]
  have e3:((zs.set 0 y0).set 1 y1).set 2 y2=[y0,y1,y2]:=by
   match zs,hl with
   | [_,_,_],_=>rfl
  rw [e3] at k3
  exact ⟨M,μ,r,.agg k3.size k3.one k3.get⟩
end
section
variable {P:Program} {T:Tab} {G:qK} {Q:Exit→St→Prop} {l:List Oper} {m:Nat} {tss:List (List Nat)} {sms:List Sm}
variable {st st' st0:St} {rest:List Oper} {ts:List Nat} {acc:yM} {o:Oper} {K:yM→St→Prop}
theorem qJ.callQ {x : Operand} {args : Array Operand} {tys : Array TypeId} {f : FuncId} {xs : List V} {H : List (Nat × Box)} {r : V} {ps : List Nat} (hc : AX P G f xs H r ps H) (ho : o.op = .call { callee := .value x, args := args, argTypes := tys }) (hgd : o.guard = none)
  (hcx:CX G ⟨qW st.tmps ts,H.map (·.1),H,st.base⟩ x args.toList f xs H r ps H) (hrest:(St.rest ⟨qW st.tmps ts,H.map (·.1),H,st.base⟩ H ps).H=[]) (hpins:∀ i∈ps,i∈(St.rest ⟨qW st.tmps ts,H.map (·.1),H,st.base⟩ H ps).pins)
  (hsub:∀ p∈H,p∈st.H) (hky:∀ i,qI i H=true→i∈H.map (·.1)∨i∈([]:List Nat)) (hgood:∀ i∈V.ids r++zP H,i∈ps∨i∈([]:List Nat)) (hn:ndB st.H=true) (hst:st.after o.dst ⟨r,H,H,ps,[],true⟩=st')
  (k:qJ P G st0 rest tss st' (acc++[(Sm.mk r H H ps [] true).sum]) K):qJ P G st0 (o::rest) (ts::tss) st acc K:=by
 subst hst
 obtain ⟨sms,st1,e,hk⟩:=k
 have hsn:(H.map (·.1)).Nodup:=hcx.2.2.2.2.1
 have y:=qY ho hc hcx
 refine ⟨⟨r,H,H,ps,[],true⟩::sms,st1,.one hgd (zB hn) ⟨fun _=>rfl,hgood,hky,fun n hn=>by cases hn⟩ hsub (fun c M μ st' tmps w R K hG rel hle hbox hnw k => ?_) e,by simpa using hk⟩
 exact wS (s:=⟨r,H,H,ps,[],true⟩) (small:=⟨qW st.tmps ts,H.map (·.1),H,st.base⟩) (s':=({ St.rest (⟨qW st.tmps ts,H.map (·.1),H,st.base⟩:St) H ps with H:=H++(St.rest (⟨qW st.tmps ts,H.map (·.1),H,st.base⟩:St) H ps).H }:St)) rfl hsn (by show H=H++_; rw [hrest,List.append_nil]) (fun i hi=>hpins i hi) hky hgood y c M μ st' tmps w R K hG rel hle hbox hnw k
end
end Go.Proofs.YtcfcfblbpnpclaaGreatDoor.Sy
