import Derived.Test.YtgcbapchinideaaGreatDoorK2
namespace Go.Proofs.YtgcbapchinideaaGreatDoor.Sy
open Go
section
variable {P:Program} {T:Tab} {G:qK} {st:St}
theorem qFB (hT : TOK P T) {o : Oper} {t el : TypeId} {a i : Operand} (n : Nat) (ho : o.op = .indexAddr t a i) (ht : wA T t = some (.sl el)) {ti : TI} (hti : T el = some ti) {p q : Prop} {id m sz : Nat} {kd : IntKind} {z : Int} (h1 : st.arg G a = (p, .tl id m sz)) (hp : p) (h2 : st.arg G i = (q, .p (.int kd z))) (hq : q)
  {e:TypeId} {es:List PD} (hb:zW id st.H=some (.row e sz es)) (hsz:sz=ti.size) (hn:m+n<es.length) (hz:z=(n:Int)):qW P G o st (.rptr id (m+n) sz 0) st:=by
 subst hz; subst hsz
 intro c M μ tmps w hg r
 have hd:=hT.sl ht
 obtain ⟨ie,de,hi',_,_,hsz',_⟩:=hT.get hti
 have e1:=qC hg r h1 hp
 have e2:=(qC hg r h2 hq).p_inv
 generalize hu1:Act.eval ⟨tmps,[]⟩ a=u1 at e1
 generalize hu2:Act.eval ⟨tmps,[]⟩ i=u2 at e2
 cases e2
 cases e1 with
 | @tl _ _ _ b l cp hv2 hn2 hlc =>
 rcases (r.box id _ (zG hb)).cells with ⟨rfl,h0,hv⟩ | ⟨b',cap,arr,h0,hv,hh,has,hlc',hcm,hone',hro⟩
 ·rw [hv] at hv2; cases hv2
 rw [hv] at hv2
 cases hv2
 have hso:(sizeOf el).run P w = .ok ti.size w:=by simp [sizeOf,typeInfo,hi',hsz']
 have hlt:n<es.length-m:=by omega
 have hof:m * ti.size+n * ti.size=(m+n) * ti.size:=by rw [Nat.add_mul]
 have er:(execOp (Act.eval ⟨tmps,[]⟩) o).run P w = .ok (.value (.pointer (some ⟨b,(m+n) * ti.size+0,none⟩))) w:=by
  simp [execOp,ho,hu1,hu2,Instr.indexAt,asIntOf,run_underlying hd,hlt,hso,jN,hof]
 rw [er]
 exact ⟨M,μ,r,.rptr h0⟩
theorem qVM (hT : TOK P T) {o : Oper} {x : Operand} {t el : TypeId} {p : Prop} {id m sz : Nat} (ho : o.op = .call { callee := .builtin .len, args := #[x], argTypes := #[t] }) (ht : wA T t = some (.sl el)) (h1 : st.arg G x = (p, .tl id m sz)) (hp : p)
  {e:TypeId} {es:List PD} (hb:zW id st.H=some (.row e sz es)):qW P G o st (.p (.int .i64 ((es.length-m:Nat):Int))) st:=by
 intro c M μ tmps w hg r
 have hd:=hT.sl ht
 have e1:=qC hg r h1 hp
 generalize hu1:Act.eval ⟨tmps,[]⟩ x=u1 at e1
 cases e1 with
 | @tl _ _ _ b l cp hv2 hn2 hlc =>
 rcases (r.box id _ (zG hb)).cells with ⟨rfl,h0,hv⟩ | ⟨b',cap,arr,h0,hv,hh,has,hlc',hcm,hone',hro⟩
 ·rw [hv] at hv2; cases hv2
 rw [hv] at hv2
 cases hv2
 have e:(execOp (Act.eval ⟨tmps,[]⟩) o).run P w = .ok (.value (.int .i64 ((es.length-m:Nat):Int))) w:=by
  simp [execOp,ho,resolve,invoke,builtin,hu1,Builtin.len_,run_underlying hd,goInt,Result.andThen]
 rw [e]
 exact ⟨M,μ,r,.p (Rd.intOf (by simp only [yS]; omega) (by simp only [yT]; simp [maxLen] at hcm; omega))⟩
theorem zBW (ids : List Nat) {o : Oper} {x : Operand} {args : Array Operand} {tys : Array TypeId} {f : FuncId} {asl : List PD} {r : PD} {p : Prop} (ho : o.op = .call { callee := .value x, args := args, argTypes := tys })
  (hf:(freezeAll st ids).arg G x=(p,.p (.fn f))) (hp:p) (hc:AFn P G f asl r) (hq:qCE (args.toList.map fun y=>((freezeAll st ids).arg G y).1)) (hfit:V.fitsL [] (args.toList.map fun y=>((freezeAll st ids).arg G y).2) asl):qW P G o st (.p r) (freezeAll st ids):=fun c M μ tmps w hg rel=>by
 obtain ⟨M1,r1⟩:=xN ids rel
 exact zEO ho hf hp hc (q:=args.toList.map fun y=>((freezeAll st ids).arg G y).1) (ys:=args.toList.map fun y=>((freezeAll st ids).arg G y).2) (qBB args.toList _ _) (by simp) (fun p hp=>xK hq p hp) hfit c M1 μ tmps w hg r1
end
section
variable {P:Program} {T:Tab} {G:qK} {l:List Oper} {tss:List (List Nat)} {K:uH→St→Prop} {st st' st0:St} {rest:List Oper} {ts:List Nat} {acc:uH} {o:Oper}
theorem zB.callZ (Hs : List (Nat × Box)) {x : Operand} {args : Array Operand} {tys : Array TypeId} {f : FuncId} {asl : List PD} {r : PD} {p : Prop} (hc : AFn P G f asl r) (ho : o.op = .call { callee := .value x, args := args, argTypes := tys }) (hgd : o.guard = none)
  (hf:(freezeAll ⟨wE st.tmps ts,Hs.map (·.1),Hs,st.base⟩ (Hs.map (·.1))).arg G x=(p,.p (.fn f))) (hp:p) (hq:qCE (args.toList.map fun y=>((freezeAll ⟨wE st.tmps ts,Hs.map (·.1),Hs,st.base⟩ (Hs.map (·.1))).arg G y).1))
  (hfit:V.fitsL [] (args.toList.map fun y=>((freezeAll ⟨wE st.tmps ts,Hs.map (·.1),Hs,st.base⟩ (Hs.map (·.1))).arg G y).2) asl) (he:(freezeAll ⟨wE st.tmps ts,Hs.map (·.1),Hs,st.base⟩ (Hs.map (·.1))).H=[]) (hsub:∀ p∈Hs,p∈st.H) (hn:ndB st.H=true) (hns:ndB Hs=true)
  (hst:st.after o.dst ⟨.p r,Hs,[],[],[],false⟩=st') (k:zB P G st0 rest tss st' (acc++[(Sm.mk (.p r) Hs [] [] [] false).sum]) K):zB P G st0 (o::rest) (ts::tss) st acc K:=by
 subst hst
 obtain ⟨sms,st1,e,hk⟩:=k
 have y:=zBW (P:=P) (st:=⟨wE st.tmps ts,Hs.map (·.1),Hs,st.base⟩) (Hs.map (·.1)) ho hf hp hc hq hfit
 have hgood:∀ i∈V.ids (V.p r)++kY ([]:List (Nat × Box)),i∈([]:List Nat)∨i∈([]:List Nat):=fun i hi=>by simp [V.ids,kY] at hi
 have hky:∀ i,qI i ([]:List (Nat × Box))=true→i∈Hs.map (·.1)∨i∈([]:List Nat):=fun i hi=>by simp [qI] at hi
 refine ⟨⟨.p r,Hs,[],[],[],false⟩::sms,st1,.one hgd (wQ hn) ⟨fun h=>absurd h (by simp),hgood,hky,by simp⟩ hsub (fun c M μ st' tmps w R K hG rel hle hbox hnw k => ?_) e,by simpa using hk⟩
 exact uT (s:=⟨.p r,Hs,[],[],[],false⟩) (small:=⟨wE st.tmps ts,Hs.map (·.1),Hs,st.base⟩) (s':=freezeAll ⟨wE st.tmps ts,Hs.map (·.1),Hs,st.base⟩ (Hs.map (·.1))) rfl (wQ hns) he.symm (fun i hi=>by simp at hi) hky hgood y c M μ st' tmps w R K hG rel hle hbox hnw k
end
end Go.Proofs.YtgcbapchinideaaGreatDoor.Sy
