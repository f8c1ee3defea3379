import Derived.Test.YtcfcfblbpnpclaaGreatDoorSCore36
import Derived.Test.YtcfcfblbpnpclaaGreatDoorSCore34
namespace Go.Proofs.YtcfcfblbpnpclaaGreatDoor.Sy
open Go
section
variable {P:Program} {T:Tab} {G:qK} {st:St}
theorem qJO (ids : List Nat) {o : Oper} {x : Operand} {args : Array Operand} {tys : Array TypeId} {f : FuncId} {asl : List PD} {r : PD} {p : Prop} (ho : o.op = .call { callee := .value x, args := args, argTypes := tys })
  (hf:(freezeAll st ids).arg G x=(p,.p (.fn f))) (hp:p) (hc:AFn P G f asl r) (hq:jW (args.toList.map fun y=>((freezeAll st ids).arg G y).1)) (hfit:V.fitsL [] (args.toList.map fun y=>((freezeAll st ids).arg G y).2) asl):qO P G o st (.p r) (freezeAll st ids):=fun c M μ tmps w hg rel=>by
 obtain ⟨M1,r1⟩:=yL ids rel
 exact qLJ ho hf hp hc (q:=args.toList.map fun y=>((freezeAll st ids).arg G y).1) (ys:=args.toList.map fun y=>((freezeAll st ids).arg G y).2) (jE args.toList _ _) (by simp) (fun p hp=>yI hq p hp) hfit c M1 μ tmps w hg r1
end
section
variable {P:Program} {T:Tab} {G:qK} {l:List Oper} {tss:List (List Nat)} {K:yM→St→Prop} {st st' st0:St} {rest:List Oper} {ts:List Nat} {acc:yM} {o:Oper}
theorem qJ.callZ (Hs : List (Nat × Box)) {x : Operand} {args : Array Operand} {tys : Array TypeId} {f : FuncId} {asl : List PD} {r : PD} {p : Prop} (hc : AFn P G f asl r) (ho : o.op = .call { callee := .value x, args := args, argTypes := tys }) (hgd : o.guard = none)
  (hf:(freezeAll ⟨qW st.tmps ts,Hs.map (·.1),Hs,st.base⟩ (Hs.map (·.1))).arg G x=(p,.p (.fn f))) (hp:p) (hq:jW (args.toList.map fun y=>((freezeAll ⟨qW st.tmps ts,Hs.map (·.1),Hs,st.base⟩ (Hs.map (·.1))).arg G y).1))
  (hfit:V.fitsL [] (args.toList.map fun y=>((freezeAll ⟨qW st.tmps ts,Hs.map (·.1),Hs,st.base⟩ (Hs.map (·.1))).arg G y).2) asl) (he:(freezeAll ⟨qW st.tmps ts,Hs.map (·.1),Hs,st.base⟩ (Hs.map (·.1))).H=[]) (hsub:∀ p∈Hs,p∈st.H) (hn:ndB st.H=true) (hns:ndB Hs=true)
  (hst:st.after o.dst ⟨.p r,Hs,[],[],[],false⟩=st') (k:qJ P G st0 rest tss st' (acc++[(Sm.mk (.p r) Hs [] [] [] false).sum]) K):qJ P G st0 (o::rest) (ts::tss) st acc K:=by
 subst hst
 obtain ⟨sms,st1,e,hk⟩:=k
 have y:=qJO (P:=P) (st:=⟨qW st.tmps ts,Hs.map (·.1),Hs,st.base⟩) (Hs.map (·.1)) ho hf hp hc hq hfit
 have hgood:∀ i∈V.ids (V.p r)++zP ([]:List (Nat × Box)),i∈([]:List Nat)∨i∈([]:List Nat):=fun i hi=>by simp [V.ids,zP] at hi
 have hky:∀ i,qI i ([]:List (Nat × Box))=true→i∈Hs.map (·.1)∨i∈([]:List Nat):=fun i hi=>by simp [qI] at hi
 refine ⟨⟨.p r,Hs,[],[],[],false⟩::sms,st1,.one hgd (zB hn) ⟨fun h=>absurd h (by simp),hgood,hky,by simp⟩ hsub (fun c M μ st' tmps w R K hG rel hle hbox hnw k => ?_) e,by simpa using hk⟩
 exact wS (s:=⟨.p r,Hs,[],[],[],false⟩) (small:=⟨qW st.tmps ts,Hs.map (·.1),Hs,st.base⟩) (s':=freezeAll ⟨qW st.tmps ts,Hs.map (·.1),Hs,st.base⟩ (Hs.map (·.1))) rfl (zB hns) he.symm (fun i hi=>by simp at hi) hky hgood y c M μ st' tmps w R K hG rel hle hbox hnw k
end
end Go.Proofs.YtcfcfblbpnpclaaGreatDoor.Sy
