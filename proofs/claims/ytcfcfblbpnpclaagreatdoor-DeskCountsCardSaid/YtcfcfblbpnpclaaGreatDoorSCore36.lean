import Derived.Test.YtcfcfblbpnpclaaGreatDoorSCore31
import Derived.Test.YtcfcfblbpnpclaaGreatDoorM3
namespace Go.Proofs.YtcfcfblbpnpclaaGreatDoor.Sy
open Go
set_option linter.unusedSimpArgs false
set_option linter.unusedVariables false
section
variable {P:Program} {T:Tab} {G:qK} {o:Oper} {st st1 st':St} {x:V}
theorem qO.freeze (id:Nat) (h:st.freeze id=st1) (y:qO P G o st1 x st'):qO P G o st x st':=fun c M μ tmps w hg rel=>by
 subst h
 obtain ⟨M1,r1⟩:=rel.freeze id
 exact y c M1 μ tmps w hg r1
theorem qO.plain {id e sz:Nat} {es:List PD} (y:qO P G o st (.ms id) { st with H:=(id,.row e sz es)::st.H }):qO P G o st (.p (.sl sz es)) st:=fun c M μ tmps w hg rel=>by
 have h:=y c M μ tmps w hg rel
 revert h
 generalize (execOp (Act.eval ⟨tmps,[]⟩) o).run P w=r0
 have key:∀ u w',(∃ M' μ',Rel c M' μ' { st with H:=(id,.row e sz es)::st.H } tmps w'∧RV M' μ' u (.ms id))→∃ M' μ',Rel c M' μ' st tmps w'∧RV M' μ' u (.p (.sl sz es)):=by
  rintro u w' ⟨M1,μ1,r,hu⟩
  have hm:(id,Box.row e sz es)∈({ st with H:=(id,.row e sz es)::st.H }:St).H:=List.mem_cons_self
  have hk:qI id ({ st with H:=(id,.row e sz es)::st.H }:St).H=true:=qF.2 ⟨_,hm⟩
  have hid:∀ i,qI i st.H=true→i≠id:=fun i hi he=>by
   subst he
   obtain ⟨b,hb⟩:=qF.1 hi
   have:=r.nodup
   simp only [List.map_cons,List.nodup_cons] at this
   exact this.1 (List.mem_map.2 ⟨_,hb,rfl⟩)
  have hup:∀ i,qI i st.H=true→qI i ({ st with H:=(id,.row e sz es)::st.H }:St).H=true:=fun i hi=>by
   obtain ⟨b,hb⟩:=qF.1 hi
   exact qF.2 ⟨b,List.mem_cons_of_mem _ hb⟩
  let M2:qQ:=fun b o=>if (μ1 id).blk=some b then w'.cell? ⟨b,o,none⟩ else M1 b o
  have e1:∀ b o,(μ1 id).blk=some b→M2 b o=w'.cell? ⟨b,o,none⟩:=fun b o h=>if_pos h
  have e2:∀ b o,(μ1 id).blk≠some b→M2 b o=M1 b o:=fun b o h=>if_neg h
  have hM:∀ b o v,M1 b o=some v→M2 b o=some v:=by
   intro b o v hv
   by_cases h:(μ1 id).blk=some b
   ·rw [e1 b o h]; exact r.mem b o v hv
   rw [e2 b o h]; exact hv
  have hd:Rd M2 (μ1 id).val (.sl sz es):=jZ (r.box id _ hm) hM fun b h o v hv=>by rw [e1 b o h]; exact hv
  refine ⟨M2,μ1,⟨?_,fun b o v hv=>hM _ _ _ (r.ext b o v hv),fun b o hb => ?_,⟨r.slots.1,fun i u x hu hx=>(r.slots.2 i u x hu hx).mono hM fun _ _=>rfl⟩,r.pins,fun i bx hi=>(r.box i bx (List.mem_cons_of_mem _ hi)).mono hM rfl (fun _ _=>rfl) (fun _ _=>rfl), ?_,fun i j b hi hj=>r.inj i j b (hup i hi) (hup j hj),fun i b hi hib => ?_,r.size,r.below⟩, ?_⟩
  ·intro b o v hv
   by_cases h:(μ1 id).blk=some b
   ·rw [e1 b o h] at hv; exact hv
   rw [e2 b o h] at hv; exact r.mem b o v hv
  ·rw [e2 b o fun h=>hb (r.own id b hk (.inl h)).1]; exact r.old b o hb
  ·have:=r.nodup
   simp only [List.map_cons,List.nodup_cons] at this
   exact this.2
  ·have h3:=r.own i b (hup i hi) hib
   exact ⟨h3.1,h3.2.1,fun o=>by rw [e2 b o fun h=>hid i hi (r.inj i id b (hup i hi) hk hib (.inl h))]; exact h3.2.2 o⟩
  cases hu with
  | ms h1 h2=>exact .p (h1 ▸ hd)
 intro h
 cases r0 with
 | halt x w'=>exact h.elim
 | ok n w' =>
  cases n <;> simp only [qFO] at h ⊢
  case value v=>exact key _ _ h
  case skip=>exact key _ _ h
  case enter f args =>
   refine h.mono ?_
   rintro e w'' ⟨v,rfl,hn⟩
   exact ⟨v,rfl,key _ _ hn⟩
end
section
variable {P:Program} {T:Tab} {G:qK} {l:List Oper} {tss:List (List Nat)} {K:yM→St→Prop} {st st' st0:St} {rest:List Oper} {ts:List Nat} {acc:yM} {o:Oper}
theorem qJ.plainRow (hT : TOK P T) (orc : List PD) {t el : TypeId} {n : Nat} {parts : Array (Nat × Operand)} (ho : o.op = .buildSlice t n parts) (hgd : o.guard = none) (hl : parts.toList.length = n) (ht : zE T t = some (.sl el)) {ti : TI} (hti : T el = some ti)
  {zs:List V} (hzs:ti.zero.cells=some zs) (hzl:zs.length=ti.size) {orc' es:List PD} {q:Prop} (hpt:yF ⟨qW st.tmps ts,[],[],st.base⟩ G ti.size 0 parts.toList orc=some (q,es,orc')) (hq:q) (hb:n * ti.size≤16777216)
  (hn2:n≤16777216) (id:Nat) (hf:(⟨qW st.tmps ts,[],[],st.base⟩:St).fresh id=true) (hn:ndB st.H=true) (hst:st.after o.dst ⟨.p (.sl ti.size es),[],[],[],[],false⟩=st')
  (k:qJ P G st0 rest tss st' (acc++[(Sm.mk (.p (.sl ti.size es)) [] [] [] [] false).sum]) K):qJ P G st0 (o::rest) (ts::tss) st acc K :=
 qJ.yNew [] [] (.p (.sl ti.size es)) [] hgd (qO.plain (xT hT ho hl ht hti hzs hzl hpt hq hb hn2 id hf)) (fun _ h=>by cases h) (fun i hi=>by simp [V.ids,zP] at hi) (fun _ h=>by cases h) hn (by decide) hst k
end
end Go.Proofs.YtcfcfblbpnpclaaGreatDoor.Sy
