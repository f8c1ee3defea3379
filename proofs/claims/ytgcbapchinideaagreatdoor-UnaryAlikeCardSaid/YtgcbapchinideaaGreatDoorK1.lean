import Derived.Test.YtgcbapchinideaaGreatDoorM4
import Derived.Test.YtgcbapchinideaaGreatDoorM3
import Derived.Maps.RangeRun
import Derived.Lib.AppendZerosOnto
import Derived.Laws.LoneSync
import Derived.ChangeKeysEq
import Derived.Laws.Runes
import Derived.Laws.IdiomStrings
import Derived.Lib.Bytealg
import Derived.Laws.RangeString
import Derived.Lib.RuneCount
import Derived.Scope
import Derived.Control
namespace Go.Proofs.YtgcbapchinideaaGreatDoor.Sy
open Go
section
variable {P:Program} {T:Tab} {G:qR} {Q:Exit->St->Prop} {st st':St}
theorem Turned.refl (w:World) (b:Nat):Turned w w b:=⟨rfl,rfl,rfl,rfl,fun _ _=>rfl⟩
theorem Rel.beginBox {c:Ctx} {M:qW} {μ:Mu} {st:St} {tmps:Array Value} {w:World} (r:Rel c M μ st tmps w) {id k j:Nat} {e:TypeId} {cells:List V} (hb:zQ id st.H=some (.vars e cells)) (hj:cells[j]?=some .nilsl)
  (hf:st.fresh k=true) (e':TypeId) (sz:Nat):∃ μ',Rel c M μ' { st with H:=zM id (.vars e (cells.set j (.ms k))) ((k,.row e' sz [])::st.H) } tmps w:=by
 have hm:=zB hb
 have hk:qM id st.H=true:=qH.2 ⟨_,hm⟩
 have hne:id≠k:=by
  rintro rfl
  have:=(St.fresh_spec hf).2.2.2
  rw[hk]at this;cases this
 have r1:=r.adopt (l:=⟨none,.slice none 0 0,[]⟩) hf (fun b hb=>by cases hb) (bx := .row e' sz []) (.rowN (by rw[qK]) (by rw[qK]))
 have hbx:=r1.box id _ (List.mem_cons_of_mem _ hm)
 cases hbx with
 | @vars _ _ b arr h0 hh hs ho hc =>
 refine⟨_,r1.write (id:=id) (b:=b) (w':=w) (bx := .vars e (cells.set j (.ms k))) (by simp[qM,hk]) h0 (Turned.refl w b) (.vars h0 hh (by simpa using hs) ho fun i u x hu hx => ?_)⟩
 rw[List.getElem?_set]at hx
 split at hx
 ·rename_i hji
  subst hji
  split at hx
  ·cases hx
   have:=hc j u .nilsl hu hj
   cases this
   exact .ms (by rw[qK]) rfl
  cases hx
 exact hc i u x hu hx
theorem AW.beginBox {c:Code} (id k j:Nat) (e':TypeId) (sz:Nat) {e:TypeId} {cells:List V} (hb:zQ id st.H=some (.vars e cells)) (hj:cells[j]?=some .nilsl) (hf:st.fresh k=true)
  (h:({ st with H:=zM id (.vars e (cells.set j (.ms k))) ((k,.row e' sz [])::st.H) }:St)=st') (k:AW P G c Q st'):AW P G c Q st:=fun x M μ tmps w hg r=>by
 obtain⟨μ',r'⟩:=r.beginBox hb hj hf e' sz
 exact k x M μ' tmps w hg (h ▸ r')
theorem qB.beginBox {ops:Array Oper} {l:List Oper} {orc:List PD} (id k j:Nat) (e':TypeId) (sz:Nat) {e:TypeId} {cells:List V} (hb:zQ id st.H=some (.vars e cells)) (hj:cells[j]?=some .nilsl) (hf:st.fresh k=true)
  (h:({ st with H:=zM id (.vars e (cells.set j (.ms k))) ((k,.row e' sz [])::st.H) }:St)=st') (k:qB P G ops Q l st' orc):qB P G ops Q l st orc:=fun x M μ tmps w hg r=>by
 obtain⟨μ',r'⟩:=r.beginBox hb hj hf e' sz
 exact k x M μ' tmps w hg (h ▸ r')
theorem AW.pinsTo {c:Code} (ps:List Nat) (hs:∀ i∈ps,i∈st.pins) (h:({ st with pins:=ps }:St)=st') (k:AW P G c Q st'):AW P G c Q st:=fun x M μ tmps w hg r =>
 k x M μ tmps w hg (h ▸ ⟨r.mem,r.ext,r.old,r.slots,fun i hi=>r.pins i (hs i hi),r.box,r.nodup,r.inj,r.own,r.size,r.below⟩)
theorem qB.stepKIf (ks:List Nat) (d:Nat) {orc:List PD} {ops:Array Oper} {o:Oper} {rest:List Oper} {x:V} {st1:St} {j:Nat} {pol:Bool} (hgd:o.guard=some (j,pol)) (hd:(ops[j]?).bind (·.dst)=some d)
  (h:Yields P G o st x st1) (hb:decide (d<st.tmps.length)=true/\V.guards pol (st.tmps.getD d .dead)=some true) (hk:(st1.put o.dst (.when true x)).keep ks=st') (k:qB P G ops Q rest st' orc):qB P G ops Q (o::rest) st orc :=
 zE.stepIfT hgd hd (of_decide_eq_true hb.1) hb.2 h (zE.keep ks (hk ▸ k))
end
set_option linter.all false
section
variable {P:Program} {T:Tab} {G:qR} {Q:Exit->St->Prop} {st st':St}
def qEB (ks:List (List UInt8)) (vs:List V) (s:List UInt8) (v:V):List V:=if s∈ks then vs.set (ks.idxOf s) v else vs++[v]
theorem qYH (hT:TOK P T) {o:Oper} {t el:TypeId} {x y:Operand} (ho:o.op = .slice t x none (some y) none) (ht:wA T t=some (.sl el)) {p q:Prop} {id:Nat} {kd:IntKind} {z:Int} (n:Nat)
  (h1:st.arg G x=(p,.ms id)) (hp:p) (h2:st.arg G y=(q,.p (.int kd z))) (hq:q) {e sz:Nat} {es:List PD} {ti:TI} (hti:T el=some ti) (hb:zQ id st.H=some (.row e sz es)) (hn:n<=es.length) (hz:z=(n:Int)) :
  Yields P G o st (.ms id) { st.kill id with H:=(id,.row e sz (es.take n))::(st.kill id).H }:=by
 subst hz
 intro c M μ tmps w hg r
 have hd:=hT.sl ht
 obtain⟨i,de,hi',_,_,hsz,_⟩:=hT.get hti
 have hso:(sizeOf el).run P w = .ok ti.size w:=by simp[sizeOf,typeInfo,hi',hsz]
 have e1:=qF hg r h1 hp
 have e2:=(qF hg r h2 hq).p_inv
 generalize hu1:Act.eval ⟨tmps,[]⟩ x=u1 at e1
 generalize hu2:Act.eval ⟨tmps,[]⟩ y=u2 at e2
 cases e1 with
 | ms hval hone =>
 cases e2 with
 | int _ _ =>
 have hm:=zB hb
 have hk:qM id st.H=true:=qH.2 ⟨_,hm⟩
 have rk:=r.kill id
 have hbx:=r.box id _ hm
 cases hbx with
 | rowN h0 hv =>
  rw[hv]at hval
  subst hval
  obtain rfl:n=0:=by simpa using hn
  have hbd:=yF (P:=P) (isSlice:=true) (len:=0) (cap:=0) (lo:=none) (hi:=some (.int kd 0)) (l:=0) (h:=0) (.inl ⟨rfl,rfl⟩) (.inr ⟨kd,rfl⟩) (by omega) (by omega) (by omega) w
  have er:(execOp (Act.eval ⟨tmps,[]⟩) o).run P w = .ok (.value (.slice none 0 0)) w:=by
   simp at hbd
   simp[execOp,ho,hu1,hu2,Instr.sliceAt,Instr.slice,run_underlying hd,hbd,hso]
  rw[er]
  exact⟨M,upd μ id ⟨none,.slice none 0 0,[]⟩,rk.adopt (l:=⟨none,.slice none 0 0,[]⟩) (qBH st id) (fun b hb=>by cases hb) (.rowN (by rw[qK]) (by rw[qK])),.ms (by rw[qK]) rfl⟩
 | @row _ _ _ b cap arr h0 hv hh has hlc hcm hone' hz hcc =>
  rw[hv]at hval
  subst hval
  have hbd:=yF (P:=P) (isSlice:=true) (len:=es.length) (cap:=cap) (lo:=none) (hi:=some (.int kd n)) (l:=0) (h:=n) (.inl ⟨rfl,rfl⟩) (.inr ⟨kd,rfl⟩) (by omega) (by omega) (by omega) w
  have er:(execOp (Act.eval ⟨tmps,[]⟩) o).run P w = .ok (.value (.slice (some ⟨b,0,none⟩) n cap)) w:=by
   simp at hbd
   have ha:(if cap=0 then(some (⟨b,0,none⟩:Addr)) else(some (⟨b,0,none⟩:Addr)).map (·.add (0 * ti.size)))=some ⟨b,0,none⟩:=by
    split
    ·rfl
    simp[Addr.add]
   simp[execOp,ho,hu1,hu2,Instr.sliceAt,Instr.slice,run_underlying hd,hbd,hso]
   try simpa using ha
  rw[er]
  have hown:=r.own id b hk (.inl h0)
  refine⟨M,upd μ id ⟨some b,.slice (some ⟨b,0,none⟩) n cap,[]⟩,rk.adopt (l:=⟨some b,.slice (some ⟨b,0,none⟩) n cap,[]⟩) (qBH st id) (fun b' hb' => ?_) (.row (cap:=cap) (by rw[qK]) (by rw[qK];simp[Nat.min_eq_left hn]) hh has (by simp;omega) hcm hone' (fun i e' he=>hz i e' ?_) fun i e' j d u he hd hu=>hcc i e' j d u ?_ hd hu),.ms (by rw[qK]) rfl⟩
  ·cases hb';exact⟨hown.1,hown.2.1,hown.2.2,qQK r hk h0⟩
  ·rw[List.getElem?_take]at he;split at he
   ·exact he
   cases he
  rw[List.getElem?_take]at he;split at he
  ·exact he
  cases he
theorem qRV {o:Oper} {st:St} {x a b:Operand} {tys:Array TypeId} {f:FuncId} (he:zIQ P f Extern.BytealgCount.count)
  (ho:o.op = .call { callee := .value x,args := #[a,b],argTypes:=tys }) {p q r:Prop} {s:List UInt8} {n:Int} (hf:st.arg G x=(p,.p (.fn f))) (hp:p)
  (ha:st.arg G a=(q,.p (.str s))) (hq:q) (hb:st.arg G b=(r,.p (.int .u8 n))) (hr:r):Yields P G o st (.p (.int .i64 (s.count n.toNat.toUInt8:Nat))) st:=by
 intro c M μ tmps w hg rel
 have h1:=(qF hg rel hf hp).p_inv
 have h2:=(qF hg rel ha hq).p_inv
 have h3:=(qF hg rel hb hr).p_inv
 generalize hu1:Act.eval ⟨tmps,[]⟩ x=u1 at h1
 generalize hu2:Act.eval ⟨tmps,[]⟩ a=u2 at h2
 generalize hu3:Act.eval ⟨tmps,[]⟩ b=u3 at h3
 cases h1
 cases h3
 cases h2 with
 | @str bb _ hs hm =>
 have e:(execOp (Act.eval ⟨tmps,[]⟩) o).run P w = .ok (.value (.int .i64 (s.count n.toNat.toUInt8:Nat))) w:=by
  have e1:=he #[.string bb,.int .u8 n] w
  rw[Lib.run_countString]at e1
  subst hs
  simp only[execOp,ho,resolve,Deferred.ofValue,hu1,invoke]
  simpa[hu2,hu3,Lib.countByte]using e1
 rw[e]
 have hc:s.count n.toNat.toUInt8<=s.length:=List.count_le_length
 simp[maxLen]at hm
 exact⟨M,μ,rel,.p (Rd.intOf (by simp[kD]) (by simp only[kE];omega))⟩
theorem qMS {id:Nat} {b:Box}:∀ {H:List (Nat × Box)},zQ id H=some b->zM id b H=H
 | [],_=>rfl
 | (i,c)::r,h=>by
  simp only[zQ]at h
  simp only[zM]
  split at h
  ·rename_i e;cases h;rw[if_pos e]
  rename_i e;rw[if_neg e,qMS h]
theorem zIU (z:Array Value) (n:Nat):Builtin.zeroCells z n=madeCells z (n * z.size):=rfl
theorem qB.clearFrom {ops:Array Oper} {o1 o2:Oper} {rest:List Oper} {orc:List PD} (hT:TOK P T) (ks:List Nat) {t el d:Nat} {x y:Operand} {p q:Prop} {id:Nat} {kd:IntKind} {z:Int} (n:Nat) (ho1:o1.op = .slice t x (some y) none none) (hd1:o1.dst=some d) (hg1:o1.guard=none)
  (ho2:o2.op = .call { callee := .builtin .clear,args := #[.tmp d],argTypes := #[t] }) (hd2:o2.dst=none) (hg2:o2.guard=none) (ht:wA T t=some (.sl el)) {ti:TI} (hti:T el=some ti) {zs:List V} (hzs:ti.zero.cells=some zs) (hzl:zs.length=ti.size) {e0:PD} (hfit:V.fitsL [] zs e0.cells)
  (h1:st.arg G x=(p,.ms id)) (hp:p) (h2:st.arg G y=(q,.p (.int kd z))) (hq:q) {e sz:Nat} {es:List PD} (hb:zQ id st.H=some (.row e sz es)) (hsz:sz=ti.size) (hn:n<=es.length) (hz:z=(n:Int)) (hdl:d<st.tmps.length)
  (k:qB P G ops Q rest ((({ st with H:=zM id (.row e sz (es.take n++List.replicate (es.length-n) e0)) st.H }:St).put (some d) .dead).keep ks) orc):qB P G ops Q (o1::o2::rest) st orc:=by
 subst hz;subst hsz
 intro c M μ tmps w hg r
 have hd:=hT.sl ht
 obtain⟨i,de,hi',_,_,hszi,_⟩:=hT.get hti
 have hso:(sizeOf el).run P w = .ok ti.size w:=by simp[sizeOf,typeInfo,hi',hszi]
 have e1:=qF hg r h1 hp
 have e2:=(qF hg r h2 hq).p_inv
 generalize hu1:Act.eval ⟨tmps,[]⟩ x=u1 at e1
 generalize hu2:Act.eval ⟨tmps,[]⟩ y=u2 at e2
 have hts:d<tmps.size:=by rw[r.slots.1];exact hdl
 cases e1 with
 | ms hval hone =>
 cases e2 with
 | int _ _ =>
 have hm:=zB hb
 have hk:qM id st.H=true:=qH.2 ⟨_,hm⟩
 have key:∀ (v1:Value) (w1:World),(execOp (Act.eval ⟨tmps,[]⟩) o1).run P w = .ok (.value v1) w->(Builtin.clear_ #[t] o2.type #[v1]).run P w = .ok (.tuple #[]) w1 ->
   Rel c M μ { st with H:=zM id (.row e ti.size (es.take n++List.replicate (es.length-n) e0)) st.H } tmps w1->wpList P ops (zRK c Q) (o1::o2::rest) ⟨tmps,[]⟩ w:=by
  intro v1 w1 er1 er2 r1
  refine wpList_plain hg1 fun K hK=>jN (next:=fun v w'=>v=v1/\w'=w) (by rw[er1];exact⟨rfl,rfl⟩) ?_
  rintro u w' ⟨rfl,rfl⟩
  apply hK
  rw[Act.put_tmps,hd1]
  simp only
  have hev:Act.eval ⟨tmps.setIfInBounds d u,[]⟩ (.tmp d)=u:=by simp[Act.eval,hts]
  have er:(execOp (Act.eval ⟨tmps.setIfInBounds d u,[]⟩) o2).run P w' = .ok (.value (.tuple #[])) w1:=by
   simp[execOp,ho2,resolve,invoke,builtin,hev,er2]
  refine wpList_plain hg2 fun K hK=>jN (next:=fun v w''=>v = .tuple #[]/\w''=w1) (by rw[er];exact⟨rfl,rfl⟩) ?_
  rintro u2 w'' ⟨rfl,rfl⟩
  apply hK
  rw[Act.put_tmps,hd2]
  simp only
  exact zE.keep ks k c M μ _ _ hg (r1.put (.dead) (some d))
 have hbx:=r.box id _ hm
 cases hbx with
 | rowN h0 hv =>
  rw[hv]at hval
  subst hval
  obtain rfl:n=0:=by simpa using hn
  have hbd:=yF (P:=P) (isSlice:=true) (len:=0) (cap:=0) (lo:=some (.int kd 0)) (hi:=none) (l:=0) (h:=0) (.inr ⟨kd,rfl⟩) (.inl ⟨rfl,rfl⟩) (by omega) (by omega) (by omega) w
  refine key (.slice none 0 0) w ?_ (by simp[Builtin.clear_,run_underlying hd]) ?_
  ·simp at hbd
   simp[execOp,ho1,hu1,hu2,Instr.sliceAt,Instr.slice,run_underlying hd,hbd,hso]
  rw[show(List.take 0 ([]:List PD)++List.replicate (([]:List PD).length-0) e0)=[] by rfl]
  have hsame:zM id (.row e ti.size []) st.H=st.H:=qMS hb
  rw[hsame]
  exact r
 | @row _ _ _ b cap arr h0 hv hh has hlc hcm hone' hz hcc =>
  rw[hv]at hval
  subst hval
  have hbd:=yF (P:=P) (isSlice:=true) (len:=es.length) (cap:=cap) (lo:=some (.int kd n)) (hi:=none) (l:=n) (h:=es.length) (.inr ⟨kd,rfl⟩) (.inl ⟨rfl,rfl⟩) (by omega) (by omega) (by omega) w
  obtain⟨zv,hzr,hzc,_⟩:=qAW hT hti hzs M μ w
  by_cases hne:n=es.length
  ·subst hne
   refine key (.slice (if cap=es.length then some ⟨b,0,none⟩ else(some (⟨b,0,none⟩:Addr)).map (·.add (es.length * ti.size))) 0 (cap-es.length)) w ?_ ?_ ?_
   ·simp at hbd
    simp[execOp,ho1,hu1,hu2,Instr.sliceAt,Instr.slice,run_underlying hd,hbd,hso]
   ·split <;> simp[Builtin.clear_,run_underlying hd]
   rw[List.take_length,Nat.sub_self,List.replicate_zero,List.append_nil]
   have:=r.write (w':=w) (bx := .row e ti.size es) hk h0 (Turned.refl w b) (.row h0 hv hh has hlc hcm hone' hz hcc)
   exact this
  have hlt:n<es.length:=by omega
  have hzs':zv.cells.size=ti.size:=by rw[hzc.size,hzl]
  have hmr:=zBA hzc hzl hfit (es.length-n)
  have hsum:n * ti.size+(es.length-n) * ti.size=es.length * ti.size:=by rw[<-Nat.add_mul];congr 1;omega
  have hcap:es.length * ti.size<=cap * ti.size:=Nat.mul_le_mul_right _ hlc
  have hml:(madeCells zv.cells ((es.length-n) * ti.size)).toList.length=(es.length-n) * ti.size:=by rw[hmr.len,List.length_replicate]
  have hst:=run_storeCells_at P b (n * ti.size) e (madeCells zv.cells ((es.length-n) * ti.size)).toList 0 arr w hh (by simp only[Nat.add_zero,hml];omega) hmr.one
  simp only[Nat.add_zero]at hst
  generalize hnew:(arr.toList.take (n * ti.size)++(madeCells zv.cells ((es.length-n) * ti.size)).toList++arr.toList.drop (n * ti.size+(madeCells zv.cells ((es.length-n) * ti.size)).toList.length)).toArray=arr' at hst
  have hrow:RowOf M ti.size es (arr.toList.take (es.length * ti.size)):=by
   rcases(r.box id _ hm).cells with⟨rfl,h,_⟩|⟨b',cap',arr2,g0,gv,gh,_,_,_,_,gr⟩
   ·rw[h0]at h;cases h
   rw[h0]at g0;cases g0
   rw[hh]at gh;cases gh
   exact gr
  refine key (.slice (some ⟨b,n * ti.size,none⟩) (es.length-n) (cap-n)) (w.setRow b arr') ?_ ?_ ?_
  ·simp at hbd
   have hne2:¬ cap=n:=by omega
   have hadd:(⟨b,0,none⟩:Addr).add (n * ti.size)=⟨b,n * ti.size,none⟩:=by rw[jF];simp
   simp[execOp,ho1,hu1,hu2,Instr.sliceAt,Instr.slice,run_underlying hd,hbd,hso,hne2,hadd]
  ·obtain⟨m,hm'⟩:∃ m,es.length-n=m+1:=⟨es.length-n-1,by omega⟩
   rw[hm']at hst ⊢
   have hzm:=zIU zv.cells (m+1)
   rw[hzs']at hzm
   simp only[Builtin.clear_,Sem.run_bind]
   simp[run_underlying hd,hzr,hzm,hst,Result.andThen]
  refine r.write (w':=w.setRow b arr') hk h0 (kB w b _) ?_
  have hsz':arr'.size=arr.size:=by rw[<-hnew];simp[hml];omega
  have hR:RowOf M ti.size (es.take n++List.replicate (es.length-n) e0) (arr.toList.take (n * ti.size)++(madeCells zv.cells ((es.length-n) * ti.size)).toList):=by
   refine RowOf.append ?_ hmr
   refine⟨by rw[List.length_take,List.length_take,Nat.min_eq_left hn,Nat.min_eq_left (by rw[Array.length_toList,has];exact Nat.mul_le_mul_right _ (by omega))],fun u hu=>hrow.one u ?_,fun j e' he=>hrow.elem j e' ?_,fun j e' l d' u he hd' hu=>hrow.get j e' l d' u ?_ hd' ?_⟩
   ·have:arr.toList.take (n * ti.size)=(arr.toList.take (es.length * ti.size)).take (n * ti.size):=by rw[List.take_take,Nat.min_eq_left (by omega)]
    rw[this]at hu;exact List.mem_of_mem_take hu
   ·rw[List.getElem?_take]at he;split at he
    ·exact he
    cases he
   ·rw[List.getElem?_take]at he;split at he
    ·exact he
    cases he
   rw[List.getElem?_take]at hu ⊢
   split at hu
   ·rw[if_pos (by omega)];exact hu
   cases hu
  have hll:(es.take n++List.replicate (es.length-n) e0).length=es.length:=by simp;omega
  refine hR.box (cap:=cap) h0 (by rw[hll];exact hv) (setRow_heap w b arr _ e (0,0) hh) (by rw[hsz'];exact has) (by rw[hll];exact hlc) hcm (fun j u hu => ?_) ?_
  ·rw[<-hnew,List.getElem?_toArray]at hu
   have hmem:=List.mem_of_getElem? hu
   rw[List.append_assoc,List.mem_append,List.mem_append]at hmem
   rcases hmem with h|h|h
   ·obtain⟨j',hj'⟩:=List.mem_iff_getElem?.1 (List.mem_of_mem_take h)
    exact hone' j' u (by simpa using hj')
   ·exact hmr.one u h
   obtain⟨j',hj'⟩:=List.mem_iff_getElem?.1 (List.mem_of_mem_drop h)
   exact hone' j' u (by simpa using hj')
  rw[<-hnew,hll]
  simp only[List.append_assoc]
  rw[<-List.append_assoc,List.take_append_of_le_length (by simp[hml];omega),List.take_of_length_le (by simp[hml];omega)]
end
section
variable {P:Program} {T:Tab} {G:qR} {Q:Exit->St->Prop} {st st':St}
theorem Rel.freezeAll {c:Ctx} {μ:Mu} {tmps:Array Value} {w:World}:∀ (ids:List Nat) {M:qW} {st:St},Rel c M μ st tmps w->∃ M',Rel c M' μ (freezeAll st ids) tmps w
 | [],M,_,r=>⟨M,r⟩
 | i::l,M,st,r=>by
  obtain⟨M1,r1⟩:=r.freeze i
  exact Rel.freezeAll l r1
end
section
variable {P:Program} {T:Tab} {G:qR}
theorem AX.ren {f:FuncId} {xs:List V} {H:List (Nat × Box)} {r:V} {ps:List Nat} {H':List (Nat × Box)} (i j:Nat) (h:AX P G f xs H r ps H') (hf:(⟨[r],ps,H',0⟩:St).fresh j=true):AX P G f xs H (r.ren i j) (ps.filter (· != i)) (qNV i j H'):=by
 refine⟨h.1,fun M μ w vs hg rel=>(h.2 M μ w vs hg rel).mono ?_⟩
 rintro e w' ⟨v,M',μ',rfl,r'⟩
 have:=r'.ren (i:=i) hf
 exact⟨v,M',_,rfl,by simpa only[St.ren,V.renL]using this⟩
end
section
variable {P:Program} {T:Tab} {G:qR} {Q:Exit->St->Prop} {l:List Oper} {m:Nat} {tss:List (List Nat)} {sms:List Sm}
inductive DRun (P:Program) (G:qR) (st0:St):List Oper->List (List Nat)->St->List Sm->St->Prop
 | nil {tss:List (List Nat)} {st:St}:(st.H.map (·.1)).Nodup->DRun P G st0 [] tss st [] st
 | one {o : Oper} {rest : List Oper} {ts : List Nat} {tss : List (List Nat)} {st st2 : St} {s : Sm} {zs : List Sm} : o.guard = none → (st.H.map (·.1)).Nodup → Facts st0 s → (∀ p ∈ s.H, p ∈ st.H) →
   (∀ c M μ st' tmps w R K,xY G c->Rel c M μ st' tmps w->kG st'.tmps (wM st.tmps ts)->(∀ id bx,(id,bx)∈s.H->(id,bx)∈st'.H)->(∀ n∈s.new,({ st' with H:=zL (s.H.map (·.1)) st'.H }:St).fresh n=true) ->
    (∀ u w' M' μ' H2,Rel c M' μ' { st' with H:=H2 } tmps w'->RV M' μ' u s.x->(∀ p,p∈H2↔p∈s.H'\/(p∈st'.H/\p.1 ∉ s.H.map (·.1)))->K (Act.put ⟨tmps,[]⟩ o.dst u) w')->o.wp P ⟨tmps,[]⟩ w K R) ->
   DRun P G st0 rest tss (st.after o.dst s) zs st2->DRun P G st0 (o::rest) (ts::tss) st (s::zs) st2
theorem DRun.len {st0:St} {rest:List Oper} {ts:List (List Nat)} {st st2:St} {zs:List Sm} (h:DRun P G st0 rest ts st zs st2):zs.length=rest.length:=by
 induction h with
 | nil=>rfl
 | one _ _ _ _ _ _ ih=>simp[ih]
theorem DRun.told (hchk:wI l m tss=true) (hconf:uG l m (sms.map Sm.sum)=true) {st0:St} {rest:List Oper} {ts:List (List Nat)} {st st2:St} {zs:List Sm} (h:DRun P G st0 rest ts st zs st2):∀ k:Nat,
  rest=(l.take m).drop k->ts=tss.drop k->zs=sms.drop k->k<=m->sms.length=m->st.pins=st0.pins->st.base=st0.base->DoneD l m sms st0 (fun j=>decide (j<k)) st.tmps st.H ->
  (∀ i,k<=i->i<m->Told P G l m sms st0 i)/\st2.pins=st0.pins/\st2.base=st0.base/\DoneD l m sms st0 (fun j=>decide (j<m)) st2.tmps st2.H/\(st2.H.map (·.1)).Nodup:=by
 induction h with
 | @nil ts st hnd =>
  intro k hr _ hz hk hxl hp hb D
  have hkm:k=m:=by
   have h3:(List.drop k (List.take m l)).length=0:=by rw[<-hr];rfl
   have:=qDH hchk
   simp at h3
   omega
  subst hkm
  exact⟨fun i h1 h2=>by omega,hp,hb,D,hnd⟩
 | @one o rest t1 tss1 st st2 s zs hgd hnd F hsub hgo _ ih =>
  intro k hr hts hz hk hxl hp hb D
  have hkm:k<m:=by
   have h3:(List.drop k (List.take m l)).length=rest.length+1:=by rw[<-hr];rfl
   simp at h3
   omega
  obtain⟨o',ho',htk,hsep⟩:=vO hchk hkm
  have hoo:o=o':=by
   have h3:(List.drop k (List.take m l))[0]?=some o:=by rw[<-hr];rfl
   rw[List.getElem?_drop,List.getElem?_take,Nat.add_zero,if_pos hkm,ho']at h3
   cases h3;rfl
  subst hoo
  have hrest:rest=(l.take m).drop (k+1):=by
   have:=congrArg (List.drop 1) hr
   simpa[List.drop_drop,Nat.add_comm]using this
  have ht1:t1=o.looksAt l.toArray:=by
   have h3:(List.drop k tss)[0]?=some t1:=by rw[<-hts];rfl
   rw[List.getElem?_drop,Nat.add_zero,htk]at h3
   cases h3;rfl
  have hts1:tss1=tss.drop (k+1):=by
   have:=congrArg (List.drop 1) hts
   simpa[List.drop_drop,Nat.add_comm]using this
  have hdk:yQ l k=o.dst:=by simp[yQ,ho']
  have hxk:sms[k]?=some s:=by
   have h3:(List.drop k sms)[0]?=some s:=by rw[<-hz];rfl
   rw[List.getElem?_drop,Nat.add_zero]at h3;exact h3
  have hz':zs=sms.drop (k+1):=by
   have:=congrArg (List.drop 1) hz
   simpa[List.drop_drop,Nat.add_comm]using this
  have D':DoneD l m sms st0 (fun j=>decide (j<k+1)) (st.after o.dst s).tmps (st.after o.dst s).H:=by
   have:=D.go hchk hconf (DC.below hchk k) (L':=fun j=>decide (j<k+1)) hkm hdk hxk (by simp) F (fun j=>by
    by_cases h1:j<k
    ·simp[h1,show j<k+1 by omega]
    by_cases h2:j=k
    ·simp[h2]
    simp[h1,h2,show ¬ j<k+1 by omega]) hsub hnd (H2:=s.H'++zL (s.H.map (·.1)) st.H) (fun p=>by rw[List.mem_append,kW])
   have e1:(st.after o.dst s).tmps=qSB st.tmps o.dst s.x:=by cases hq:o.dst <;> rfl
   rw[e1];exact this
  have e2:(st.after o.dst s).pins=st.pins:=by cases hq:o.dst <;> rfl
  have e3:(st.after o.dst s).base=st.base:=by cases hq:o.dst <;> rfl
  obtain⟨h1,h2,h3⟩:=ih (k+1) hrest hts1 hz' hkm hxl (e2.trans hp) (e3.trans hb) D'
  refine⟨fun i hi1 hi2 => ?_,h2,h3⟩
  rcases Nat.eq_or_lt_of_le hi1 with e|e
  ·subst e
   subst ht1
   exact⟨o,s,st.tmps,st.H,ho',hxk,D,F,hsub,qNJ ho' hgd hgo⟩
  exact h1 i e hi2
theorem AW.runDraw1 (hmix:P.follows .mixedOrders=true) (m:Nat) (tss:List (List Nat)) {id:Nat} {st st1:St} {sms:List Sm} (hchk:wI l m tss=true)
  (h1:DRun P G st (l.take m) tss st sms st1) (hconf:uG l m (sms.map Sm.sum)=true) (hlate:zE P G l.toArray Q (l.drop m) st1) :
  AW P G (.region id l.toArray true) Q st:=by
 intro c M μ tmps w hg r
 refine wp_region_any hmix ?_
 have hml:=qDH hchk
 have hxl:sms.length=m:=by
  rw[h1.len];simp;omega
 obtain⟨hgo,hp2,_,D2,hnd2⟩:=h1.told hchk hconf 0 (by simp) (by simp) (by simp) (Nat.zero_le _) hxl rfl rfl (DoneD.put0 st)
 have hsize:l.toArray.size=l.length:=by simp
 refine qRB hchk hconf st (fun i hi=>hgo i (Nat.zero_le _) hi) st1 hp2 D2 hnd2 hlate hg _ _ _ M μ st.tmps st.H tmps _ rfl ?_ (by simp) (fun j _ hj=>by simp[Array.getD]) (fun j o _ h=>by simp[Array.getD]at h) ?_ (r.same ⟨rfl,rfl,rfl,Nat.le_refl _,fun _ _=>rfl⟩)
 ·rw[hsize]
  exact Nat.le_trans (List.length_filter_le _ _) (by simp)
 have:(fun j=>(Array.replicate l.toArray.size false).getD j false)=fun j=>decide (j<0):=by
  funext j;simp[Array.getD]
 rw[this];exact DoneD.put0 st
def qS (P:Program) (G:qR) (st0:St) (l:List Oper) (tss:List (List Nat)) (st:St) (acc:uU) (K:uU->St->Prop):Prop:=∃ sms st1,DRun P G st0 l tss st sms st1/\K (acc++sms.map Sm.sum) st1
variable {K:uU->St->Prop} {st st' st0:St} {rest:List Oper} {ts:List Nat} {orc orc':List PD} {acc:uU} {o:Oper} {sm:zVA} {v:Know->Prop}
theorem qS.nil (hn:ndB st.H=true) (k:K acc st):qS P G st0 [] tss st acc K:=⟨_,_,.nil (wR hn),by simpa using k⟩
theorem qS.one (hT:TOK P T) (h:∀ C,qHV C T G st0 ts o st orc=some (v C,st',sm,orc')) (hv:v (kn P G)) (hgd:o.guard=none) (hn:ndB st.H=true) (k:qS P G st0 rest tss st' (acc++[sm]) K) :
  qS P G st0 (o::rest) (ts::tss) st acc K:=by
 have h1:=h (kn P G)
 unfold qHV at h1
 split at h1
 ·rename_i v1 s orc1 h2
  simp only[Option.some.injEq,Prod.mk.injEq]at h1
  obtain⟨h3,rfl,rfl,rfl⟩:=h1
  obtain⟨sms,st1,e,hk⟩:=k
  have S:=qEG hT (wR hn) h2 (h3 ▸ hv)
  exact⟨s::sms,st1,.one hgd (wR hn) ⟨S.q,S.good,S.ps,S.new⟩ (fun p hp=>qGU st _ p (S.H p hp)) S.goes e,by simpa using hk⟩
 cases h1
theorem qS.o1 (hT:TOK P T) (h:∀ C,qHV C T G st0 ts o st orc=some (v C,st',sm,orc'):=by intro C;conv=>lhs;simp) (hv:v (kn P G):=by first|with_reducible exact True.intro|omega|simp|(simp +contextual;omega)) (hgd:o.guard=none:=by rfl) (hn:ndB st.H=true:=by kernel_rfl) (k:qS P G st0 rest tss st' (acc++[sm]) K) :
    qS P G st0 (o::rest) (ts::tss) st acc K:=qS.one hT h hv hgd hn k
theorem qS.o0 (hT:TOK P T) (h:∀ C,qHV C T G st0 ts o st []=some (v C,st',sm,orc'):=by intro C;conv=>lhs;simp) (hv:v (kn P G):=by first|with_reducible exact True.intro|omega|simp|(simp +contextual;omega)) (hgd:o.guard=none:=by rfl) (hn:ndB st.H=true:=by kernel_rfl) (k:qS P G st0 rest tss st' (acc++[sm]) K) :
    qS P G st0 (o::rest) (ts::tss) st acc K:=qS.one hT h hv hgd hn k
theorem r1 (hT:TOK P T) (k:qS P G st0 rest tss st' (acc++[sm]) K) (h:∀ C,qHV C T G st0 ts o st orc=some (v C,st',sm,orc'):=by intro C;conv=>lhs;simp) (hv:v (kn P G):=by first|exact True.intro|omega|simp|(simp +contextual;omega)) (hgd:o.guard=none:=by rfl) (hn:ndB st.H=true:=by kernel_rfl) :
  qS P G st0 (o::rest) (ts::tss) st acc K:=qS.one hT h hv hgd hn k
theorem qS.call {x:Operand} {args:Array Operand} {tys:Array TypeId} {f:FuncId} {xs:List V} {H:List (Nat × Box)} {r:V} {ps:List Nat} {H':List (Nat × Box)} (new:List Nat) (hc:AX P G f xs H r ps H') (ho:o.op = .call { callee := .value x,args:=args,argTypes:=tys }) (hgd:o.guard=none)
  (hcx:CX G ⟨wM st.tmps ts,H.map (·.1),H,st.base⟩ x args.toList f xs H r ps H') (hrest:(St.rest ⟨wM st.tmps ts,H.map (·.1),H,st.base⟩ H ps).H=[]) (hpins:∀ i∈ps,i∈(St.rest ⟨wM st.tmps ts,H.map (·.1),H,st.base⟩ H ps).pins)
  (hsub:∀ p∈H,p∈st.H) (hnew:∀ n∈new,st0.fresh n=true) (hky:∀ i,qM i H'=true->i∈H.map (·.1)\/i∈new) (hgood:∀ i∈V.ids r++jV H',i∈ps\/i∈new) (hn:ndB st.H=true) (hst:st.after o.dst ⟨r,H,H',ps,new,false⟩=st')
  (k:qS P G st0 rest tss st' (acc++[(Sm.mk r H H' ps new false).sum]) K):qS P G st0 (o::rest) (ts::tss) st acc K:=by
 subst hst
 obtain⟨sms,st1,e,hk⟩:=k
 have hsn:(H.map (·.1)).Nodup:=hcx.2.2.2.2.1
 have y:=zF ho hc hcx
 refine⟨⟨r,H,H',ps,new,false⟩::sms,st1,.one hgd (wR hn) ⟨fun h=>absurd h (by simp),hgood,hky,hnew⟩ hsub (fun c M μ st' tmps w R K hG rel hle hbox hnw k => ?_) e,by simpa using hk⟩
 exact uD (s:=⟨r,H,H',ps,new,false⟩) (small:=⟨wM st.tmps ts,H.map (·.1),H,st.base⟩) (s':=({ St.rest (⟨wM st.tmps ts,H.map (·.1),H,st.base⟩:St) H ps with H:=H'++(St.rest (⟨wM st.tmps ts,H.map (·.1),H,st.base⟩:St) H ps).H }:St)) rfl hsn (by show H'=H'++_;rw[hrest,List.append_nil]) (fun i hi=>hpins i hi) hky hgood y c M μ st' tmps w R K hG rel hle hbox hnw k
theorem AW.drawR (hmix:P.follows .mixedOrders=true) (m:Nat) (tss:List (List Nat)) (orc2:List PD) {id:Nat} {l:List Oper} (hchk:wI l m tss=true)
  (h:qS P G st (l.take m) tss st [] fun qVT st1=>uG l m qVT=true/\qB P G l.toArray Q (l.drop m) st1 orc2):AW P G (.region id l.toArray true) Q st:=by
 obtain⟨sms,st1,e,hc,hl⟩:=h
 exact AW.runDraw1 hmix m tss hchk e (by simpa using hc) hl
theorem AW.seqDrawR (hmix:P.follows .mixedOrders=true) (m:Nat) (tss:List (List Nat)) (orc2:List PD) {id:Nat} {l:List Oper} {b:Code} (hchk:wI l m tss=true)
  (h:qS P G st (l.take m) tss st [] fun qVT st1=>uG l m qVT=true/\qB P G l.toArray (andThen (AW P G b Q) Q) (l.drop m) st1 orc2):AW P G (.seq (.region id l.toArray true) b) Q st :=
 AW.seq (AW.drawR hmix m tss orc2 hchk h)
end
section
variable {P:Program} {T:Tab} {G:qR} {l:List Oper} {tss:List (List Nat)} {K:uU->St->Prop} {st st' st0:St} {rest:List Oper} {ts:List Nat} {acc:uU} {o:Oper}
end
section
variable {P:Program} {T:Tab} {G:qR} {st:St}
end
section
variable {P:Program} {T:Tab} {G:qR} {st:St}
end
section
variable {P:Program} {T:Tab} {G:qR} {Q:Exit->St->Prop} {st:St}
theorem RowOf.drop {M:qW} {sz:Nat} {es:List PD} {news:List Value} (h:RowOf M sz es news) (n:Nat):RowOf M sz (es.drop n) (news.drop (n * sz)) where
 len:=by rw[List.length_drop,List.length_drop,h.len,Nat.sub_mul]
 one:=fun u hu=>h.one u (List.mem_of_mem_drop hu)
 elem:=fun i e he=>h.elem (n+i) e (by rwa [List.getElem?_drop]at he)
 get:=fun i e j d u he hd hu=>by
  rw[List.getElem?_drop]at he hu
  exact h.get (n+i) e j d u he hd (by rw[<-hu];congr 1;rw[Nat.add_mul];omega)
theorem zWE (hT:TOK P T) {o:Oper} {t el:TypeId} {x y:Operand} {p q:Prop} {id:Nat} {kd:IntKind} {z:Int} (n:Nat) (ho:o.op = .slice t x (some y) none none) (ht:wA T t=some (.sl el)) {ti:TI} (hti:T el=some ti)
  (h1:st.arg G x=(p,.ms id)) (hp:p) (h2:st.arg G y=(q,.p (.int kd z))) (hq:q) {e sz:Nat} {es:List PD} (hb:zQ id st.H=some (.row e sz es)) (hsz:sz=ti.size) (hn:n<es.length) (hz:z=(n:Int)):Yields P G o st (.tl id n sz) st:=by
 subst hz;subst hsz
 intro c M μ tmps w hg r
 have hd:=hT.sl ht
 obtain⟨i,de,hi',_,_,hszi,_⟩:=hT.get hti
 have hso:∀ w:World,(sizeOf el).run P w = .ok ti.size w:=fun w=>by simp[sizeOf,typeInfo,hi',hszi]
 have e1:=qF hg r h1 hp
 have e2:=(qF hg r h2 hq).p_inv
 generalize hu1:Act.eval ⟨tmps,[]⟩ x=u1 at e1
 generalize hu2:Act.eval ⟨tmps,[]⟩ y=u2 at e2
 cases e1 with
 | ms hval hone =>
 cases e2 with
 | int _ _ =>
 rcases(r.box id _ (zB hb)).cells with⟨rfl,h0,hv⟩|⟨b,cap,arr,h0,hv,hh,has,hlc,hcm,hone',hro⟩
 ·simp at hn
 rw[hv]at hval
 subst hval
 have hbd:=yF (P:=P) (isSlice:=true) (len:=es.length) (cap:=cap) (lo:=some (.int kd n)) (hi:=none) (l:=n) (h:=es.length) (.inr ⟨kd,rfl⟩) (.inl ⟨rfl,rfl⟩) (by omega) (by omega) (by omega) w
 have er1:(execOp (Act.eval ⟨tmps,[]⟩) o).run P w = .ok (.value (.slice (some ⟨b,n * ti.size,none⟩) (es.length-n) (cap-n))) w:=by
  simp at hbd
  have hne2:¬ cap=n:=by omega
  have hadd:(⟨b,0,none⟩:Addr).add (n * ti.size)=⟨b,n * ti.size,none⟩:=by rw[jF];simp
  simp[execOp,ho,hu1,hu2,Instr.sliceAt,Instr.slice,run_underlying hd,hbd,hso,hne2,hadd]
 rw[er1]
 exact⟨M,μ,r,.tl hv hn hlc⟩
end
section
variable {P:Program} {T:Tab} {G:qR} {l:List Oper} {tss:List (List Nat)} {K:uU->St->Prop} {st st' st0:St} {rest:List Oper} {ts:List Nat} {acc:uU} {o:Oper}
theorem qS.y (Hs H':List (Nat × Box)) (x:V) (q:Bool) (hgd:o.guard=none) (y:Yields P G o ⟨wM st.tmps ts,Hs.map (·.1),Hs,st.base⟩ x ⟨wM st.tmps ts,Hs.map (·.1),H',st.base⟩) (hq:q=true->H'=Hs) (hsub:∀ p∈Hs,p∈st.H)
  (hids:∀ i∈V.ids x++jV H',i∈Hs.map (·.1)) (hn:ndB st.H=true) (hns:ndB Hs=true) (hst:st.after o.dst ⟨x,Hs,H',Hs.map (·.1),[],q⟩=st') (k:qS P G st0 rest tss st' (acc++[(Sm.mk x Hs H' (Hs.map (·.1)) [] q).sum]) K):qS P G st0 (o::rest) (ts::tss) st acc K:=by
 subst hst
 obtain⟨sms,st1,e,hk⟩:=k
 have hgood:∀ i∈V.ids x++jV H',i∈Hs.map (·.1)\/i∈([]:List Nat):=fun i hi => .inl (hids i hi)
 have hky:∀ i,qM i H'=true->i∈Hs.map (·.1)\/i∈([]:List Nat):=fun i hi => .inl (hids i (List.mem_append.2 (.inr (qBG hi))))
 refine⟨⟨x,Hs,H',Hs.map (·.1),[],q⟩::sms,st1,.one hgd (wR hn) ⟨hq,hgood,hky,by simp⟩ hsub (fun c M μ st' tmps w R K hG rel hle hbox hnw k => ?_) e,by simpa using hk⟩
 exact uD (s:=⟨x,Hs,H',Hs.map (·.1),[],q⟩) (small:=⟨wM st.tmps ts,Hs.map (·.1),Hs,st.base⟩) (s':=⟨wM st.tmps ts,Hs.map (·.1),H',st.base⟩) rfl (wR hns) rfl (fun i hi=>hi) hky hgood y c M μ st' tmps w R K hG rel hle hbox hnw k
end
section
variable {P:Program} {T:Tab} {G:qR} {Q:Exit->St->Prop} {st:St}
theorem qB.stepYIf (ks:List Nat) (d:Nat) {st':St} {orc:List PD} {ops:Array Oper} {o:Oper} {rest:List Oper} {x:V} {j:Nat} {pol:Bool} {b:Bool} (hgd:o.guard=some (j,pol)) (hd:(ops[j]?).bind (·.dst)=some d)
  (hb:decide (d<st.tmps.length)=true/\V.guards pol (st.tmps.getD d .dead)=some b) (h:b=true->Yields P G o st x st) (hk:(st.put o.dst (.when b x)).keep ks=st') (k:qB P G ops Q rest st' orc):qB P G ops Q (o::rest) st orc :=
 zE.stepIf hgd hd (of_decide_eq_true hb.1) hb.2 h (zE.keep ks (hk ▸ k))
end
section
variable {P:Program} {T:Tab} {G:qR} {l:List Oper} {tss:List (List Nat)} {K:uU->St->Prop} {st st' st0:St} {rest:List Oper} {ts:List Nat} {acc:uU} {o:Oper}
theorem qS.yNew (Hs H':List (Nat × Box)) (x:V) (new:List Nat) (hgd:o.guard=none) (y:Yields P G o ⟨wM st.tmps ts,Hs.map (·.1),Hs,st.base⟩ x ⟨wM st.tmps ts,Hs.map (·.1),H',st.base⟩) (hsub:∀ p∈Hs,p∈st.H)
  (hids:∀ i∈V.ids x++jV H',i∈Hs.map (·.1)\/i∈new) (hnew:∀ n∈new,st0.fresh n=true) (hn:ndB st.H=true) (hns:ndB Hs=true) (hst:st.after o.dst ⟨x,Hs,H',Hs.map (·.1),new,false⟩=st') (k:qS P G st0 rest tss st' (acc++[(Sm.mk x Hs H' (Hs.map (·.1)) new false).sum]) K):qS P G st0 (o::rest) (ts::tss) st acc K:=by
 subst hst
 obtain⟨sms,st1,e,hk⟩:=k
 have hky:∀ i,qM i H'=true->i∈Hs.map (·.1)\/i∈new:=fun i hi=>hids i (List.mem_append.2 (.inr (qBG hi)))
 refine⟨⟨x,Hs,H',Hs.map (·.1),new,false⟩::sms,st1,.one hgd (wR hn) ⟨fun h=>absurd h (by simp),hids,hky,hnew⟩ hsub (fun c M μ st' tmps w R K hG rel hle hbox hnw k => ?_) e,by simpa using hk⟩
 exact uD (s:=⟨x,Hs,H',Hs.map (·.1),new,false⟩) (small:=⟨wM st.tmps ts,Hs.map (·.1),Hs,st.base⟩) (s':=⟨wM st.tmps ts,Hs.map (·.1),H',st.base⟩) rfl (wR hns) rfl (fun i hi=>hi) hky hids y c M μ st' tmps w R K hG rel hle hbox hnw k
end
section
variable {P:Program} {T:Tab} {G:qR} {o:Oper} {st st1 st':St} {x:V}
theorem AX.ofFn {f:FuncId} {al:List PD} {r:PD} {xs:List V} (h:AFn P G f al r) (hfit:V.fitsL [] xs al):AX P G f xs [] (.p r) [] []:=by
 refine⟨h.1,fun M μ w vs hg rel => ?_⟩
 have hl:=V.fitsL_len hfit
 have hs:vs.size=al.length:=by have:=rel.slots.1;simp only at this;omega
 refine(h.2 M w vs hg rel.mem hs fun i u d hu hd => ?_).mono ?_
 ·have hi:i<xs.length:=by have:=(List.getElem?_eq_some_iff.1 hd).1;omega
  exact kM (rel.slots.2 i u _ hu (List.getElem?_eq_getElem hi)) (V.fitsL_get hfit (List.getElem?_eq_getElem hi) hd)
 rintro e w' ⟨v,M',rfl,hv,hmem,hM,hold,hbel⟩
 have r2:=rel.grows (Grows.of_below hbel) hM hmem hold
 refine⟨v,M',μ,rfl,{ r2 with slots:=⟨by simp,fun i u y hu hy => ?_⟩ }⟩
 match i with
 | 0=>simp at hu hy;subst hu;subst hy;exact .p hv
 | i+1=>simp at hy
theorem AFn.of_AX {f:FuncId} {args:List PD} {k e sz:Nat} {es:List PD} (h:AX P G f (args.map .p) [] (.ms k) [] [(k,.row e sz es)]):AFn P G f args (.sl sz es):=by
 refine⟨h.1,fun M w vs hg hmem hsz hrd=>(h.2 M (fun _=>default) w vs hg (Rel.plain _ hmem hsz hrd)).mono ?_⟩
 rintro e' w' ⟨v,M',μ',rfl,r1⟩
 obtain⟨M2,r'⟩:=r1.freeze k
 have hno:∀ b, ¬ wZ (fun _=>(default:Loc)) [] b:=fun b ⟨i,hi,_⟩=>by simp[qM]at hi
 have hv:=r'.slots.2 0 v (.p (.sl sz es)) (by simp) (by simp)
 cases hv with
 | p hv=>exact⟨v,M2,rfl,hv,r'.mem,r'.ext,fun b o hb=>r'.old b o fun hm=>hm.elim (fun h=>by simp at h;omega) (hno b),⟨r'.below.os,r'.below.tape,r'.below.output,r'.below.size,fun j hj=>r'.below.block j fun hm=>hm.elim (fun h=>by simp at h;omega) (hno j)⟩⟩
theorem Yields.freeze (id:Nat) (h:st.freeze id=st1) (y:Yields P G o st1 x st'):Yields P G o st x st':=fun c M μ tmps w hg rel=>by
 subst h
 obtain⟨M1,r1⟩:=rel.freeze id
 exact y c M1 μ tmps w hg r1
theorem Yields.plain {id e sz:Nat} {es:List PD} (y:Yields P G o st (.ms id) { st with H:=(id,.row e sz es)::st.H }):Yields P G o st (.p (.sl sz es)) st:=fun c M μ tmps w hg rel=>by
 have h:=y c M μ tmps w hg rel
 revert h
 generalize (execOp (Act.eval ⟨tmps,[]⟩) o).run P w=r0
 have key:∀ u w',(∃ M' μ',Rel c M' μ' { st with H:=(id,.row e sz es)::st.H } tmps w'/\RV M' μ' u (.ms id))->∃ M' μ',Rel c M' μ' st tmps w'/\RV M' μ' u (.p (.sl sz es)):=by
  rintro u w' ⟨M1,μ1,r,hu⟩
  have hm:(id,Box.row e sz es)∈({ st with H:=(id,.row e sz es)::st.H }:St).H:=List.mem_cons_self
  have hk:qM id ({ st with H:=(id,.row e sz es)::st.H }:St).H=true:=qH.2 ⟨_,hm⟩
  have hid:∀ i,qM i st.H=true->i≠id:=fun i hi he=>by
   subst he
   obtain⟨b,hb⟩:=qH.1 hi
   have:=r.nodup
   simp only[List.map_cons,List.nodup_cons]at this
   exact this.1 (List.mem_map.2 ⟨_,hb,rfl⟩)
  have hup:∀ i,qM i st.H=true->qM i ({ st with H:=(id,.row e sz es)::st.H }:St).H=true:=fun i hi=>by
   obtain⟨b,hb⟩:=qH.1 hi
   exact qH.2 ⟨b,List.mem_cons_of_mem _ hb⟩
  let M2:qW:=fun b o=>if(μ1 id).blk=some b then w'.cell? ⟨b,o,none⟩ else M1 b o
  have e1:∀ b o,(μ1 id).blk=some b->M2 b o=w'.cell? ⟨b,o,none⟩:=fun b o h=>if_pos h
  have e2:∀ b o,(μ1 id).blk≠some b->M2 b o=M1 b o:=fun b o h=>if_neg h
  have hM:∀ b o v,M1 b o=some v->M2 b o=some v:=by
   intro b o v hv
   by_cases h:(μ1 id).blk=some b
   ·rw[e1 b o h];exact r.mem b o v hv
   rw[e2 b o h];exact hv
  have hd:Rd M2 (μ1 id).val (.sl sz es):=qGX (r.box id _ hm) hM fun b h o v hv=>by rw[e1 b o h];exact hv
  refine⟨M2,μ1,⟨?_,fun b o v hv=>hM _ _ _ (r.ext b o v hv),fun b o hb => ?_,⟨r.slots.1,fun i u x hu hx=>(r.slots.2 i u x hu hx).mono hM fun _ _=>rfl⟩,r.pins,fun i bx hi=>(r.box i bx (List.mem_cons_of_mem _ hi)).mono hM rfl (fun _ _=>rfl) (fun _ _=>rfl), ?_,fun i j b hi hj=>r.inj i j b (hup i hi) (hup j hj),fun i b hi hib => ?_,r.size,r.below⟩, ?_⟩
  ·intro b o v hv
   by_cases h:(μ1 id).blk=some b
   ·rw[e1 b o h]at hv;exact hv
   rw[e2 b o h]at hv;exact r.mem b o v hv
  ·rw[e2 b o fun h=>hb (r.own id b hk (.inl h)).1];exact r.old b o hb
  ·have:=r.nodup
   simp only[List.map_cons,List.nodup_cons]at this
   exact this.2
  ·have h3:=r.own i b (hup i hi) hib
   exact⟨h3.1,h3.2.1,fun o=>by rw[e2 b o fun h=>hid i hi (r.inj i id b (hup i hi) hk hib (.inl h))];exact h3.2.2 o⟩
  cases hu with
  | ms h1 h2=>exact .p (h1 ▸ hd)
 intro h
 cases r0 with
 | halt x w'=>exact h.elim
 | ok n w' =>
  cases n <;> simp only[zGF]at h ⊢
  case value v=>exact key _ _ h
  case skip=>exact key _ _ h
  case enter f args =>
   refine h.mono ?_
   rintro e w'' ⟨v,rfl,hn⟩
   exact⟨v,rfl,key _ _ hn⟩
end
section
variable {P:Program} {T:Tab} {G:qR} {l:List Oper} {tss:List (List Nat)} {K:uU->St->Prop} {st st' st0:St} {rest:List Oper} {ts:List Nat} {acc:uU} {o:Oper}
theorem qS.plainRow (hT:TOK P T) (orc:List PD) {t el:TypeId} {n:Nat} {parts:Array (Nat × Operand)} (ho:o.op = .buildSlice t n parts) (hgd:o.guard=none) (hl:parts.toList.length=n) (ht:wA T t=some (.sl el)) {ti:TI} (hti:T el=some ti)
  {zs:List V} (hzs:ti.zero.cells=some zs) (hzl:zs.length=ti.size) {orc' es:List PD} {q:Prop} (hpt:uB ⟨wM st.tmps ts,[],[],st.base⟩ G ti.size 0 parts.toList orc=some (q,es,orc')) (hq:q) (hb:n * ti.size<=16777216)
  (hn2:n<=16777216) (id:Nat) (hf:(⟨wM st.tmps ts,[],[],st.base⟩:St).fresh id=true) (hn:ndB st.H=true) (hst:st.after o.dst ⟨.p (.sl ti.size es),[],[],[],[],false⟩=st')
  (k:qS P G st0 rest tss st' (acc++[(Sm.mk (.p (.sl ti.size es)) [] [] [] [] false).sum]) K):qS P G st0 (o::rest) (ts::tss) st acc K :=
 qS.yNew [] [] (.p (.sl ti.size es)) [] hgd (Yields.plain (qJA hT ho hl ht hti hzs hzl hpt hq hb hn2 id hf)) (fun _ h=>by cases h) (fun i hi=>by simp[V.ids,jV]at hi) (fun _ h=>by cases h) hn (by decide) hst k
end
section
variable {P:Program} {T:Tab} {G:qR} {Q:Exit->St->Prop}
def zVX (s s':St):Prop:=∀ c M μ tmps w,Rel c M μ s tmps w->Rel c M μ s' tmps w
theorem zVX.of {s s':St} (h:St.Le s s'):zVX s s':=fun _ _ _ _ _ r=>r.weaken h
variable {st:St}
end
set_option maxHeartbeats 4000000
section
variable {P:Program} {T:Tab} {G:qR} {Q:Exit->St->Prop}
theorem qDL (hT:TOK P T) {st:St} {o:Oper} {orc orc':List PD} {v:Prop} {x:V} (h:qPX T G st o.op orc=some (v,x,orc')) (hv:v):Yields P G o st x st:=by
 intro c M μ tmps w hg r
 obtain⟨u,e,hu⟩:=qMV hT hg r h hv
 rw[e]
 exact⟨M,μ,r,hu⟩
def dd (b:Bool) (v:V):V:=if b=true then v else .dead
@[simp] theorem wCL (v:V):dd true v=v:=rfl
@[simp] theorem wCC (v:V):dd false v = .dead:=rfl
end
section
variable {P:Program} {T:Tab} {G:qR} {st:St}
end
section
variable {P:Program} {G:qR} {st st' st0:St} {rest:List Oper} {ts:List Nat} {tss:List (List Nat)} {acc:uU} {o:Oper} {K:uU->St->Prop}
theorem qS.q (ids:List Nat) (x:V) (hgd:o.guard=none) (y:Yields P G o ⟨wM st.tmps ts,ids,[],st.base⟩ x ⟨wM st.tmps ts,ids,[],st.base⟩) (hids:∀ i∈V.ids x,i∈ids) (hn:ndB st.H=true)
  (hst:st.after o.dst ⟨x,[],[],ids,[],true⟩=st') (k:qS P G st0 rest tss st' (acc++[(Sm.mk x [] [] ids [] true).sum]) K):qS P G st0 (o::rest) (ts::tss) st acc K:=by
 subst hst
 obtain⟨sms,st1,e,hk⟩:=k
 have hgood:∀ i∈V.ids x++jV ([]:List (Nat × Box)),i∈ids\/i∈([]:List Nat):=fun i hi => .inl (hids i (by simpa[jV]using hi))
 refine⟨⟨x,[],[],ids,[],true⟩::sms,st1,.one hgd (wR hn) ⟨fun _=>rfl,hgood,fun i hi=>by simp[qM]at hi,by simp⟩ (by simp) (fun c M μ st' tmps w R K hG rel hle hbox hnw k => ?_) e,by simpa using hk⟩
 exact uD (s:=⟨x,[],[],ids,[],true⟩) (small:=⟨wM st.tmps ts,ids,[],st.base⟩) (s':=⟨wM st.tmps ts,ids,[],st.base⟩) rfl (by simp) rfl (fun i hi=>hi) (fun i hi=>by simp[qM]at hi) hgood y c M μ st' tmps w R K hG rel hle hbox hnw k
end
section
variable {P:Program} {T:Tab} {G:qR} {st:St}
theorem qKX (hT:TOK P T) {o:Oper} {t el:TypeId} {a i:Operand} (n:Nat) (ho:o.op = .indexAddr t a i) (ht:wA T t=some (.sl el)) {ti:TI} (hti:T el=some ti) {p q:Prop} {id m sz:Nat} {kd:IntKind} {z:Int} (h1:st.arg G a=(p,.tl id m sz)) (hp:p) (h2:st.arg G i=(q,.p (.int kd z))) (hq:q)
  {e:TypeId} {es:List PD} (hb:zQ id st.H=some (.row e sz es)) (hsz:sz=ti.size) (hn:m+n<es.length) (hz:z=(n:Int)):Yields P G o st (.rptr id (m+n) sz 0) st:=by
 subst hz;subst hsz
 intro c M μ tmps w hg r
 have hd:=hT.sl ht
 obtain⟨ie,de,hi',_,_,hsz',_⟩:=hT.get hti
 have e1:=qF hg r h1 hp
 have e2:=(qF hg r h2 hq).p_inv
 generalize hu1:Act.eval ⟨tmps,[]⟩ a=u1 at e1
 generalize hu2:Act.eval ⟨tmps,[]⟩ i=u2 at e2
 cases e2
 cases e1 with
 | @tl _ _ _ b l cp hv2 hn2 hlc =>
 rcases(r.box id _ (zB hb)).cells with⟨rfl,h0,hv⟩|⟨b',cap,arr,h0,hv,hh,has,hlc',hcm,hone',hro⟩
 ·rw[hv]at hv2;cases hv2
 rw[hv]at hv2
 cases hv2
 have hso:(sizeOf el).run P w = .ok ti.size w:=by simp[sizeOf,typeInfo,hi',hsz']
 have hlt:n<es.length-m:=by omega
 have hof:m * ti.size+n * ti.size=(m+n) * ti.size:=by rw[Nat.add_mul]
 have er:(execOp (Act.eval ⟨tmps,[]⟩) o).run P w = .ok (.value (.pointer (some ⟨b,(m+n) * ti.size+0,none⟩))) w:=by
  simp[execOp,ho,hu1,hu2,Instr.indexAt,asIntOf,run_underlying hd,hlt,hso,jF,hof]
 rw[er]
 exact⟨M,μ,r,.rptr h0⟩
theorem zIX (hT:TOK P T) {o:Oper} {x:Operand} {t el:TypeId} {p:Prop} {id m sz:Nat} (ho:o.op = .call { callee := .builtin .len,args := #[x],argTypes := #[t] }) (ht:wA T t=some (.sl el)) (h1:st.arg G x=(p,.tl id m sz)) (hp:p)
  {e:TypeId} {es:List PD} (hb:zQ id st.H=some (.row e sz es)):Yields P G o st (.p (.int .i64 ((es.length-m:Nat):Int))) st:=by
 intro c M μ tmps w hg r
 have hd:=hT.sl ht
 have e1:=qF hg r h1 hp
 generalize hu1:Act.eval ⟨tmps,[]⟩ x=u1 at e1
 cases e1 with
 | @tl _ _ _ b l cp hv2 hn2 hlc =>
 rcases(r.box id _ (zB hb)).cells with⟨rfl,h0,hv⟩|⟨b',cap,arr,h0,hv,hh,has,hlc',hcm,hone',hro⟩
 ·rw[hv]at hv2;cases hv2
 rw[hv]at hv2
 cases hv2
 have e:(execOp (Act.eval ⟨tmps,[]⟩) o).run P w = .ok (.value (.int .i64 ((es.length-m:Nat):Int))) w:=by
  simp[execOp,ho,resolve,invoke,builtin,hu1,Builtin.len_,run_underlying hd,goInt,Result.andThen]
 rw[e]
 exact⟨M,μ,r,.p (Rd.intOf (by simp only[kD];omega) (by simp only[kE];simp[maxLen]at hcm;omega))⟩
theorem zRY (ids:List Nat) {o:Oper} {x:Operand} {args:Array Operand} {tys:Array TypeId} {f:FuncId} {asl:List PD} {r:PD} {p:Prop} (ho:o.op = .call { callee := .value x,args:=args,argTypes:=tys })
  (hf:(freezeAll st ids).arg G x=(p,.p (.fn f))) (hp:p) (hc:AFn P G f asl r) (hq:qGQ (args.toList.map fun y=>((freezeAll st ids).arg G y).1)) (hfit:V.fitsL [] (args.toList.map fun y=>((freezeAll st ids).arg G y).2) asl):Yields P G o st (.p r) (freezeAll st ids):=fun c M μ tmps w hg rel=>by
 obtain⟨M1,r1⟩:=uQ ids rel
 exact zWH ho hf hp hc (q:=args.toList.map fun y=>((freezeAll st ids).arg G y).1) (ys:=args.toList.map fun y=>((freezeAll st ids).arg G y).2) (qFE args.toList _ _) (by simp) (fun p hp=>uK hq p hp) hfit c M1 μ tmps w hg r1
end
section
variable {P:Program} {T:Tab} {G:qR} {l:List Oper} {tss:List (List Nat)} {K:uU->St->Prop} {st st' st0:St} {rest:List Oper} {ts:List Nat} {acc:uU} {o:Oper}
theorem qS.callZ (Hs:List (Nat × Box)) {x:Operand} {args:Array Operand} {tys:Array TypeId} {f:FuncId} {asl:List PD} {r:PD} {p:Prop} (hc:AFn P G f asl r) (ho:o.op = .call { callee := .value x,args:=args,argTypes:=tys }) (hgd:o.guard=none)
  (hf:(freezeAll ⟨wM st.tmps ts,Hs.map (·.1),Hs,st.base⟩ (Hs.map (·.1))).arg G x=(p,.p (.fn f))) (hp:p) (hq:qGQ (args.toList.map fun y=>((freezeAll ⟨wM st.tmps ts,Hs.map (·.1),Hs,st.base⟩ (Hs.map (·.1))).arg G y).1))
  (hfit:V.fitsL [] (args.toList.map fun y=>((freezeAll ⟨wM st.tmps ts,Hs.map (·.1),Hs,st.base⟩ (Hs.map (·.1))).arg G y).2) asl) (he:(freezeAll ⟨wM st.tmps ts,Hs.map (·.1),Hs,st.base⟩ (Hs.map (·.1))).H=[]) (hsub:∀ p∈Hs,p∈st.H) (hn:ndB st.H=true) (hns:ndB Hs=true)
  (hst:st.after o.dst ⟨.p r,Hs,[],[],[],false⟩=st') (k:qS P G st0 rest tss st' (acc++[(Sm.mk (.p r) Hs [] [] [] false).sum]) K):qS P G st0 (o::rest) (ts::tss) st acc K:=by
 subst hst
 obtain⟨sms,st1,e,hk⟩:=k
 have y:=zRY (P:=P) (st:=⟨wM st.tmps ts,Hs.map (·.1),Hs,st.base⟩) (Hs.map (·.1)) ho hf hp hc hq hfit
 have hgood:∀ i∈V.ids (V.p r)++jV ([]:List (Nat × Box)),i∈([]:List Nat)\/i∈([]:List Nat):=fun i hi=>by simp[V.ids,jV]at hi
 have hky:∀ i,qM i ([]:List (Nat × Box))=true->i∈Hs.map (·.1)\/i∈([]:List Nat):=fun i hi=>by simp[qM]at hi
 refine⟨⟨.p r,Hs,[],[],[],false⟩::sms,st1,.one hgd (wR hn) ⟨fun h=>absurd h (by simp),hgood,hky,by simp⟩ hsub (fun c M μ st' tmps w R K hG rel hle hbox hnw k => ?_) e,by simpa using hk⟩
 exact uD (s:=⟨.p r,Hs,[],[],[],false⟩) (small:=⟨wM st.tmps ts,Hs.map (·.1),Hs,st.base⟩) (s':=freezeAll ⟨wM st.tmps ts,Hs.map (·.1),Hs,st.base⟩ (Hs.map (·.1))) rfl (wR hns) he.symm (fun i hi=>by simp at hi) hky hgood y c M μ st' tmps w R K hG rel hle hbox hnw k
end
structure PRow (M:qW) (μ:Mu) (ps:List V) (news:List Value):Prop where
 len:news.length=ps.length
 one:∀ u∈news,u.oneCell'=true
 get:∀ (i:Nat) u x,news[i]?=some u->ps[i]?=some x->RV M μ u x
theorem PRow.append {M:qW} {μ:Mu} {ps qs:List V} {xs ys:List Value} (h:PRow M μ ps xs) (k:PRow M μ qs ys):PRow M μ (ps++qs) (xs++ys) where
 len:=by simp[h.len,k.len]
 one:=fun u hu=>(List.mem_append.1 hu).elim (h.one u) (k.one u)
 get:=fun i u x hu hx=>by
  rw[List.getElem?_append]at hu hx
  rw[h.len]at hu
  split at hu
  ·rename_i hi;rw[if_pos hi]at hx;exact h.get i u x hu hx
  rename_i hi;rw[if_neg hi]at hx;exact k.get _ u x hu hx
theorem PRow.fresh {M:qW} {μ:Mu} {ps:List V} {xs:List Value} (h:PRow M μ ps xs) {id:Nat} (hn:V.noRefL id ps=true) (l:Loc):PRow M (upd μ id l) ps xs :=
 ⟨h.len,h.one,fun i u x hu hx=>(h.get i u x hu hx).mono (fun _ _ _ h=>h) fun j hj=>qID _ _ (fun e=>by subst e;rw[V.noRefL_get hn hx]at hj;cases hj)⟩
theorem PRow.box {M:qW} {μ:Mu} {w:World} {id b cap:Nat} {e:TypeId} {ps:List V} {news:List Value} {arr:Array Value} (h:PRow M μ ps news) (h0:(μ id).blk=some b)
  (hv:(μ id).val = .slice (some ⟨b,0,none⟩) ps.length cap) (hh:w.heap[b]?=some (.cells arr e (0,0))) (hs:arr.size=cap) (hc:ps.length<=cap) (hm:cap<=maxLen)
  (hone:∀ (i:Nat) u,arr[i]?=some u->u.oneCell'=true) (hpre:arr.toList.take ps.length=news):RBox M μ w id (.prow e ps):=by
 refine .prow h0 hv hh hs hc hm hone fun i u x hu hx=>h.get i u x ?_ hx
 have hi:=(List.getElem?_eq_some_iff.1 hx).1
 rw[<-hpre,List.getElem?_take,if_pos hi]
 simpa using hu
theorem RBox.pcells {M:qW} {μ:Mu} {w:World} {id:Nat} {e:TypeId} {ps:List V} (r:RBox M μ w id (.prow e ps)):∃ (b cap:Nat) (arr:Array Value),(μ id).blk=some b/\(μ id).val = .slice (some ⟨b,0,none⟩) ps.length cap/\w.heap[b]?=some (.cells arr e (0,0)) /\
  arr.size=cap/\ps.length<=cap/\cap<=maxLen/\(∀ (i:Nat) u,arr[i]?=some u->u.oneCell'=true)/\PRow M μ ps (arr.toList.take ps.length):=by
 cases r with
 | @prow _ _ b cap arr h0 hv hh hs hc hm ho hg =>
  refine⟨b,cap,arr,h0,hv,hh,hs,hc,hm,ho,⟨by simp;omega,fun u hu => ?_,fun i u x hu hx=>hg i u x ?_ hx⟩⟩
  ·obtain⟨k,hk,rfl⟩:=List.mem_iff_getElem.1 (List.mem_of_mem_take hu)
   exact ho k _ (by simp at hk;simp[hk])
  have hi:=(List.getElem?_eq_some_iff.1 hx).1
  rw[List.getElem?_take,if_pos hi]at hu
  simpa using hu
section
variable {P:Program} {T:Tab} {G:qR} {c:Ctx} {M:qW} {μ:Mu} {st:St} {tmps:Array Value} {w:World}
end
section
variable {P:Program} {T:Tab} {G:qR} {st st1:St}
end
section
variable {P:Program} {T:Tab} {G:qR} {l:List Oper} {tss:List (List Nat)} {K:uU->St->Prop} {st st' st0:St} {rest:List Oper} {ts:List Nat} {acc:uU} {o:Oper}
theorem qS.yAny (Hs H':List (Nat × Box)) (x:V) (ps new:List Nat) {s':St} (hgd:o.guard=none) (y:Yields P G o ⟨wM st.tmps ts,Hs.map (·.1),Hs,st.base⟩ x s') (hH:s'.H=H') (hps:∀ i∈ps,i∈s'.pins) (hsub:∀ p∈Hs,p∈st.H)
  (hids:∀ i∈V.ids x++jV H',i∈ps\/i∈new) (hky:∀ i∈H'.map (·.1),i∈Hs.map (·.1)\/i∈new) (hnew:∀ n∈new,st0.fresh n=true) (hn:ndB st.H=true) (hns:ndB Hs=true) (hst:st.after o.dst ⟨x,Hs,H',ps,new,false⟩=st') (k:qS P G st0 rest tss st' (acc++[(Sm.mk x Hs H' ps new false).sum]) K):qS P G st0 (o::rest) (ts::tss) st acc K:=by
 subst hst
 obtain⟨sms,st1,e,hk⟩:=k
 have hky2:∀ i,qM i H'=true->i∈Hs.map (·.1)\/i∈new:=fun i hi=>by
  obtain⟨b,hb⟩:=qH.1 hi
  exact hky i (List.mem_map.2 ⟨_,hb,rfl⟩)
 refine⟨⟨x,Hs,H',ps,new,false⟩::sms,st1,.one hgd (wR hn) ⟨fun h=>absurd h (by simp),hids,hky2,hnew⟩ hsub (fun c M μ st' tmps w R K hG rel hle hbox hnw k => ?_) e,by simpa using hk⟩
 exact uD (s:=⟨x,Hs,H',ps,new,false⟩) (small:=⟨wM st.tmps ts,Hs.map (·.1),Hs,st.base⟩) (s':=s') rfl (wR hns) hH.symm hps hky2 hids y c M μ st' tmps w R K hG rel hle hbox hnw k
end
section
variable {P:Program} {T:Tab} {G:qR} {c:Ctx} {M:qW} {μ:Mu} {st:St} {tmps:Array Value} {w:World}
end
section
variable {P:Program} {T:Tab} {G:qR} {st:St}
theorem zMM (hT:TOK P T) {o:Oper} {t el:TypeId} {n:Nat} {x i:Operand} (ho:o.op = .index t x i) (ht:wA T t=some (.ar n el)) {ti:TI} (hti:T el=some ti) (hag:ti.k.agg=false) (hs:ti.size=1) {p q:Prop} {cs:List PD} {kd:IntKind} {z:Int} (h1:st.arg G x=(p,.p (.agg cs))) (hp:p) (h2:st.arg G i=(q,.p (.int kd z))) (hq:q) (k:Nat) (hz:z=(k:Int)) (hk:k<n)
  {d:PD} (hd:cs[k]?=some d):Yields P G o st (.p d) st:=by
 subst hz
 intro c M μ tmps w hg rel
 obtain⟨ie,de,hi',hde,hdk,hsz',_⟩:=hT.get hti
 have hda:=hT.ar ht
 have e1:=(qF hg rel h1 hp).p_inv
 have e2:=(qF hg rel h2 hq).p_inv
 generalize hu1:Act.eval ⟨tmps,[]⟩ x=u1 at e1
 generalize hu2:Act.eval ⟨tmps,[]⟩ i=u2 at e2
 cases e2
 cases e1 with
 | @agg arr _ ha1 ha2 ha3 =>
 have hlt:k<arr.size:=by rw[ha1];exact(List.getElem?_eq_some_iff.1 hd).1
 have hu:arr[k]?=some arr[k]:=by simp[hlt]
 have hso:(sizeOf el).run P w = .ok 1 w:=by simp[sizeOf,typeInfo,hi',hsz',hs]
 have hag2:(TK.of de).agg=false:=by rw[hdk];exact hag
 have hpt:=qLK hde hag2 arr k _ hu w
 have er:(execOp (Act.eval ⟨tmps,[]⟩) o).run P w = .ok (.value arr[k]) w:=by
  simp[execOp,ho,hu1,hu2,Instr.index,asIntOf,run_underlying hda,hk,hso,hpt]
 rw[er]
 exact⟨M,μ,rel,.p (ha3 k _ d hu hd)⟩
end
section
variable {P:Program} {G:qR} {Q:Exit->St->Prop} {c:Code}
def qOK (P:Program) (G:qR) (c:Code) (Q:Exit->St->Prop):List St->Prop
 | []=>True
 | [s]=>AW P G c (andThen (fun _=>False) Q) s
 | s::t::r=>AW P G c (andThen (fun x=>St.Le x t) Q) s/\qOK P G c Q (t::r)
theorem qOK.get:∀ {l:List St},qOK P G c Q l->∀ {i:Nat} {s:St},l[i]?=some s->AW P G c (andThen (fun x=>∃ t,l[i+1]?=some t/\St.Le x t) Q) s
 | [],_,i,s,h=>by simp at h
 | [a],hr,i,s,h=>by
  cases i with
  | zero =>
   simp at h;subst h
   exact AW.mono hr fun e x hx=>by
    cases e <;> first|exact hx.elim|exact hx
  | succ i=>simp at h
 | a::b::r,hr,i,s,h=>by
  cases i with
  | zero =>
   simp at h;subst h
   exact AW.mono hr.1 fun e x hx=>by
    cases e <;> first|exact⟨b,rfl,hx⟩|exact hx
  | succ i =>
   have:=qOK.get hr.2 (i:=i) (s:=s) (by simpa using h)
   exact AW.mono this fun e x hx=>by
    cases e <;> first|(obtain⟨t,h1,h2⟩:=hx;exact⟨t,by simpa using h1,h2⟩)|exact hx
end
section
variable {P:Program} {T:Tab} {G:qR} {st:St}
theorem zPJ {M:qW} {μ:Mu} {arr:Array Value} {cs:List V} {u:Value} {y:V} {i:Nat} {rest:List (Nat × Value)} (hc:Cells M μ arr cs) (hu:Cells M μ u.cells [y]) (hi:i<cs.length) :
  ∃ arr',Cells M μ arr' (cs.set i y)/\Instr.fill (fun i=>some (i * 1,1)) arr ((i,u)::rest)=Instr.fill (fun i=>some (i * 1,1)) arr' rest:=by
 have h2:=hc.splice (o:=i) hu (by simp only[List.length_singleton];omega)
 rw[qPI _ _ _ hi]at h2
 refine⟨_,h2, ?_⟩
 have e1:u.cells.size=1:=hu.size
 simp only[Instr.fill]
 rw[if_neg (by simp[e1];rw[hc.size];omega)]
 simp
end
section
variable {P:Program} {T:Tab} {G:qR} {Q:Exit->St->Prop} {l:List Oper} {m:Nat} {tss:List (List Nat)} {sms:List Sm}
variable {st st' st0:St} {rest:List Oper} {ts:List Nat} {acc:uU} {o:Oper} {K:uU->St->Prop}
end
abbrev MS:=PD × PD × Option (List Int)
abbrev pi (z:Int):PD := .int .i64 z
theorem qOA.move {M:qW} {w:World} {arr arr':Array Value} {en:TypeId} {i j:Nat} {s:MS} {o:Option Nat} (h:∀ k,k<3->arr'[j * 3+k]?=arr[i * 3+k]?) (r:qOA M w arr en i s o):qOA M w arr' en j s o:=by
 obtain⟨⟨u1,k1,g1⟩,⟨u2,k2,g2⟩,k3⟩:=r
 have h0:=h 0 (by omega);have h1:=h 1 (by omega);have h2:=h 2 (by omega)
 rw[Nat.add_zero,Nat.add_zero]at h0
 refine⟨⟨u1,h0.trans k1,g1⟩,⟨u2,h1.trans k2,g2⟩, ?_⟩
 rcases k3 with⟨e,e1|⟨e1,e2⟩⟩|⟨l,n,cp,ar,q0,q1,q2,q3⟩
 ·exact .inl ⟨e,.inl e1⟩
 ·exact .inl ⟨e,.inr ⟨e1,h2.trans e2⟩⟩
 exact .inr ⟨l,n,cp,ar,q0,q1,h2.trans q2,q3⟩
theorem wJ.nil (M:qW) (w:World) (arr:Array Value) (en:TypeId):wJ M w [] arr en []:=⟨[],rfl,fun i j n h=>by simp at h,fun n=>by simp,fun i s o h=>by simp at h⟩
theorem wJ.one {M:qW} {w:World} {arr:Array Value} {en:TypeId} {s:MS} {o:Option Nat} (h:qOA M w arr en 0 s o):wJ M w o.toList arr en [s]:=by
 refine⟨[o],rfl,fun i j n h1 h2 => ?_,fun n => ?_,fun i s' o' h1 h2 => ?_⟩
 ·cases i with
  | zero=>cases j with
   | zero=>rfl
   | succ j=>simp at h2
  | succ i=>simp at h1
 ·constructor
  ·intro hn;refine⟨0, ?_⟩;simp at hn;simp[hn]
  rintro⟨i,hi⟩
  cases i with
  | zero=>simp at hi;simp[hi]
  | succ i=>simp at hi
 cases i with
 | zero=>simp at h1 h2;subst h1;subst h2;exact h
 | succ i=>simp at h1
theorem wJ.set {M:qW} {w:World} {sub:List Nat} {arr:Array Value} {en:TypeId} {ss:List MS} {i:Nat} {s:MS} (h:wJ M w sub arr en ss) (hi:ss[i]?=some s) :
  ∃ o,qOA M w arr en i s o/\(∀ n,o=some n->n∈sub)/\∀ (s':MS) o' arr' sub',qOA M w arr' en i s' o'->(∀ j,j<i * 3\/i * 3+3<=j->arr'[j]?=arr[j]?)->(∀ n,o'=some n->o=some n\/n ∉ sub) ->
   (∀ n,n∈sub'↔(n∈sub/\o≠some n)\/o'=some n)->wJ M w sub' arr' en (ss.set i s'):=by
 obtain⟨ns,h1,h2,h3,h4⟩:=h
 have hil:=(List.getElem?_eq_some_iff.1 hi).1
 have hin:i<ns.length:=by omega
 have hio:ns[i]?=some ns[i]:=by simp[hin]
 refine⟨ns[i],h4 i s _ hi hio,fun n hn=>(h3 n).2 ⟨i,by rw[hio,hn]⟩,fun s' o' arr' sub' g1 g2 g3 g4 => ?_⟩
 have hset:∀ (j:Nat) x,(ns.set i o')[j]?=some x->(j=i/\x=o')\/(j≠i/\ns[j]?=some x):=fun j x hj=>by
  rw[List.getElem?_set]at hj
  split at hj
  ·rename_i e;subst e
   have:=hj;simp[hin]at this
   exact .inl ⟨rfl,this.symm⟩
  rename_i e;exact .inr ⟨fun h=>e h.symm,hj⟩
 have hget:∀ j:Nat,j≠i->(ns.set i o')[j]?=ns[j]?:=fun j hj=>by rw[List.getElem?_set,if_neg (fun e=>hj e.symm)]
 have hgi:(ns.set i o')[i]?=some o':=by simp[hin]
 refine⟨ns.set i o',by simp[h1],fun a b n ha hb => ?_,fun n => ?_,fun j t o hj ho => ?_⟩
 ·rcases hset a _ ha with⟨rfl,e1⟩|⟨n1,e1⟩ <;> rcases hset b _ hb with⟨rfl,e2⟩|⟨n2,e2⟩
  ·rfl
  ·rcases g3 n e1.symm with g|g
   ·exact h2 _ _ n (by rw[hio,g]) e2
   exact(g ((h3 n).2 ⟨b,e2⟩)).elim
  ·rcases g3 n e2.symm with g|g
   ·exact h2 _ _ n e1 (by rw[hio,g])
   exact(g ((h3 n).2 ⟨a,e1⟩)).elim
  exact h2 a b n e1 e2
 ·rw[g4]
  constructor
  ·rintro(⟨hn,hne⟩|hn)
   ·obtain⟨a,ha⟩:=(h3 n).1 hn
    have:a≠i:=by rintro rfl;rw[hio]at ha;exact hne (Option.some.inj ha)
    exact⟨a,by rw[hget a this];exact ha⟩
   exact⟨i,by rw[hgi,hn]⟩
  rintro⟨a,ha⟩
  rcases hset a _ ha with⟨rfl,e1⟩|⟨n1,e1⟩
  ·exact .inr e1.symm
  exact .inl ⟨(h3 n).2 ⟨a,e1⟩,fun e=>n1 (h2 a i n e1 (by rw[hio,e]))⟩
 rcases hset j _ ho with⟨rfl,rfl⟩|⟨n1,e1⟩
 ·have:t=s':=by rw[List.getElem?_set_self hil]at hj;exact(Option.some.inj hj).symm
  subst this;exact g1
 rw[List.getElem?_set_ne (fun e=>n1 e.symm)]at hj
 exact(h4 j t o hj e1).move fun k hk=>g2 _ (by omega)
theorem wJ.append {M:qW} {w:World} {sub1 sub2:List Nat} {arr1 arr2 arr:Array Value} {en:TypeId} {ss qs:List MS} (h:wJ M w sub1 arr1 en ss) (k:wJ M w sub2 arr2 en qs) (hd:∀ n∈sub1,n ∉ sub2)
  (e1:∀ j,j<ss.length * 3->arr[j]?=arr1[j]?) (e2:∀ j,j<qs.length * 3->arr[ss.length * 3+j]?=arr2[j]?):wJ M w (sub1++sub2) arr en (ss++qs):=by
 obtain⟨ns,h1,h2,h3,h4⟩:=h
 obtain⟨ms,k1,k2,k3,k4⟩:=k
 have cs:∀ {i:Nat} {x:Option Nat},(ns++ms)[i]?=some x->(i<ns.length/\ns[i]?=some x)\/(ns.length<=i/\ms[i-ns.length]?=some x):=fun {i x} hi=>by
  rw[List.getElem?_append]at hi
  split at hi
  ·rename_i hl;exact .inl ⟨hl,hi⟩
  rename_i hl;exact .inr ⟨by omega,hi⟩
 refine⟨ns++ms,by simp[h1,k1],fun i j n hi hj => ?_,fun n => ?_,fun i s o hi ho => ?_⟩
 ·rcases cs hi with⟨l1,a1⟩|⟨l1,a1⟩ <;> rcases cs hj with⟨l2,a2⟩|⟨l2,a2⟩
  ·exact h2 i j n a1 a2
  ·exact(hd n ((h3 n).2 ⟨i,a1⟩) ((k3 n).2 ⟨_,a2⟩)).elim
  ·exact(hd n ((h3 n).2 ⟨j,a2⟩) ((k3 n).2 ⟨_,a1⟩)).elim
  have:=k2 _ _ n a1 a2;omega
 ·rw[List.mem_append,h3,k3]
  constructor
  ·rintro(⟨i,hi⟩|⟨i,hi⟩)
   ·exact⟨i,by rw[List.getElem?_append_left (List.getElem?_eq_some_iff.1 hi).1];exact hi⟩
   exact⟨ns.length+i,by rw[List.getElem?_append_right (by omega),Nat.add_sub_cancel_left];exact hi⟩
  rintro⟨i,hi⟩
  rcases cs hi with⟨_,a⟩|⟨_,a⟩
  ·exact .inl ⟨i,a⟩
  exact .inr ⟨_,a⟩
 rw[List.getElem?_append]at hi
 rcases cs ho with⟨l1,a1⟩|⟨l1,a1⟩
 ·rw[if_pos (by omega)]at hi
  exact(h4 i s o hi a1).move fun q hq=>e1 _ (by omega)
 rw[if_neg (by omega),<-h1]at hi
 refine(k4 _ s o hi a1).move fun q hq => ?_
 have:=(List.getElem?_eq_some_iff.1 a1).1
 rw[<-e2 _ (by omega)]
 congr 1;omega
theorem RBox.mcells {M:qW} {μ:Mu} {w:World} {id:Nat} {es en:TypeId} {ss:List MS} (r:RBox M μ w id (.mach es en ss)):(ss=[]/\(μ id).blk=none/\(μ id).val = .slice none 0 0/\(μ id).sub=[]) \/
  ∃ (b cap:Nat) (arr:Array Value),(μ id).blk=some b/\(μ id).val = .slice (some ⟨b,0,none⟩) ss.length cap/\w.heap[b]?=some (.cells arr es (0,0))/\arr.size=cap * 3/\ss.length<=cap/\cap<=maxLen /\
   (∀ (i:Nat) u,arr[i]?=some u->u.oneCell'=true)/\b ∉ (μ id).sub/\wJ M w (μ id).sub arr en ss:=by
 cases r with
 | machN h0 hv h1=>exact .inl ⟨rfl,h0,hv,h1⟩
 | mach h0 hv h1 h2 h3 h4 h5 hn h6=>exact .inr ⟨_,_,_,h0,hv,h1,h2,h3,h4,h5,hn,h6⟩
section
variable {c:Ctx} {M:qW} {μ:Mu} {st:St} {tmps:Array Value} {w w':World}
theorem Rel.remake (r:Rel c M μ st tmps w) {id b:Nat} {bx:Box} {sub:List Nat} (hk:qM id st.H=true) (hb:(μ id).blk=some b) (h:Turned w w' b)
  (hsub:∀ n∈sub,c.mine n/\n<w.heap.size/\(∀ o,M n o=none)/\∀ j,j≠id->qM j st.H=true->¬ (μ j).has n) (hbx:RBox M (upd μ id ⟨(μ id).blk,(μ id).val,sub⟩) w' id bx) :
  Rel c M (upd μ id ⟨(μ id).blk,(μ id).val,sub⟩) { st with H:=zM id bx st.H } tmps w':=by
 have hB:=r.own id b hk (.inl hb)
 have hat:∀ j,(upd μ id ⟨(μ id).blk,(μ id).val,sub⟩ j).at=(μ j).at:=fun j=>by
  by_cases e:j=id
  ·subst e;rw[qK];rfl
  exact qID _ _ e
 have hhas:∀ n,(upd μ id ⟨(μ id).blk,(μ id).val,sub⟩ id).has n->n=b\/n∈sub:=fun n hn=>by
  rw[qK]at hn
  rcases hn with hn|hn
  ·rw[hb]at hn;exact .inl (Option.some.inj hn).symm
  exact .inr hn
 refine { r with mem := ?_,slots := ?_,pins := ?_,box := ?_,nodup := ?_,inj := ?_,own := ?_,size := ?_,below := ?_ }
 ·intro b' o v hv
  have hne:b'≠b:=by rintro rfl;rw[hB.2.2 o]at hv;cases hv
  exact(World.cell?_of_block (w:=w) (h.block b' hne)).trans (r.mem b' o v hv)
 ·exact r.slots.mono (fun _ _ _ h=>h) fun i _=>hat i
 ·exact fun i hi=>(hat i).trans (r.pins i hi)
 ·intro i bx' hb'
  rcases qIO r.nodup hb' with⟨rfl,rfl⟩|⟨hne,hb''⟩
  ·exact hbx
  exact(r.box i bx' hb'').mono (fun _ _ _ h=>h) (yC _ _ hne) (fun j _=>hat j) (fun b2 hb2=>h.block _ fun e=>hne (r.inj i id b (qH.2 ⟨bx',hb''⟩) hk (e ▸ hb2) (.inl hb)))
 ·show((zM id bx st.H).map (·.1)).Nodup
  rw[qEA];exact r.nodup
 ·intro i j n hi hj hin hjn
  have hi':=yX.1 hi
  have hj':=yX.1 hj
  clear hi hj
  by_cases e1:i=id <;> by_cases e2:j=id
  ·rw[e1,e2]
  ·subst e1
   rw[yC _ _ e2]at hjn
   rcases hhas n hin with e|e
   ·subst e;exact(e2 (r.inj j i n hj' hk hjn (.inl hb))).elim
   exact((hsub n e).2.2.2 j e2 hj' hjn).elim
  ·subst e2
   rw[yC _ _ e1]at hin
   rcases hhas n hjn with e|e
   ·subst e;exact(e1 (r.inj i j n hi' hk hin (.inl hb))).elim
   exact((hsub n e).2.2.2 i e1 hi' hin).elim
  rw[yC _ _ e1]at hin
  rw[yC _ _ e2]at hjn
  exact r.inj i j n hi' hj' hin hjn
 ·intro i n hi hin
  have hi':=yX.1 hi
  by_cases e1:i=id
  ·subst e1
   rcases hhas n hin with e|e
   ·subst e;exact⟨hB.1,by rw[h.size];exact hB.2.1,hB.2.2⟩
   have:=hsub n e;exact⟨this.1,by rw[h.size];exact this.2.1,this.2.2.1⟩
  rw[yC _ _ e1]at hin
  have:=r.own i n hi' hin
  exact⟨this.1,by rw[h.size];exact this.2.1,this.2.2⟩
 ·rw[h.size];exact r.size
 exact r.below.trans ⟨h.os,h.tape,h.output,Nat.le_of_eq h.size.symm,fun k hk=>h.block k (by rintro rfl;exact hk hB.1)⟩
theorem Rel.beginMach (r:Rel c M μ st tmps w) {id k j:Nat} {e:TypeId} {cells:List V} (hb:zQ id st.H=some (.vars e cells)) (hj:cells[j]?=some .nilsl)
  (hf:st.fresh k=true) (es en:TypeId):∃ μ',Rel c M μ' { st with H:=zM id (.vars e (cells.set j (.ms k))) ((k,.mach es en [])::st.H) } tmps w:=by
 have hm:=zB hb
 have hk:qM id st.H=true:=qH.2 ⟨_,hm⟩
 have r1:=r.adopt (l:=⟨none,.slice none 0 0,[]⟩) hf (fun b hb=>by cases hb) (bx := .mach es en []) (.machN (by rw[qK]) (by rw[qK]) (by rw[qK]))
 have hbx:=r1.box id _ (List.mem_cons_of_mem _ hm)
 cases hbx with
 | @vars _ _ b arr h0 hh hs ho hc =>
 refine⟨_,r1.write (id:=id) (b:=b) (w':=w) (bx := .vars e (cells.set j (.ms k))) (by simp[qM,hk]) h0 (Turned.refl w b) (.vars h0 hh (by simpa using hs) ho fun i u x hu hx => ?_)⟩
 rw[List.getElem?_set]at hx
 split at hx
 ·rename_i hji
  subst hji
  split at hx
  ·cases hx
   have:=hc j u .nilsl hu hj
   cases this
   exact .ms (by rw[qK]) rfl
  cases hx
 exact hc i u x hu hx
theorem Rel.gone (r:Rel c M μ st tmps w) {id:Nat} (hk:qM id st.H=true) {n:Nat} (hn:(μ id).has n) {H:List (Nat × Box)} (hH:∀ j,qM j H=true->j≠id/\qM j st.H=true) :
  c.mine n/\n<w.heap.size/\(∀ o,M n o=none)/\∀ j,qM j H=true->¬ (μ j).has n :=
 have h:=r.own id n hk hn
 ⟨h.1,h.2.1,h.2.2,fun j hj hjn=>(hH j hj).1 (r.inj j id n (hH j hj).2 hk hjn hn)⟩
end
section
variable {P:Program} {T:Tab} {G:qR} {Q:Exit->St->Prop} {st st':St}
theorem AW.beginMach {c:Code} (id k j:Nat) (es en:TypeId) {e:TypeId} {cells:List V} (hb:zQ id st.H=some (.vars e cells)) (hj:cells[j]?=some .nilsl) (hf:st.fresh k=true)
  (h:({ st with H:=zM id (.vars e (cells.set j (.ms k))) ((k,.mach es en [])::st.H) }:St)=st') (k:AW P G c Q st'):AW P G c Q st:=fun x M μ tmps w hg r=>by
 obtain⟨μ',r'⟩:=r.beginMach hb hj hf es en
 exact k x M μ' tmps w hg (h ▸ r')
theorem qKW (hT:TOK P T) {o:Oper} {x:Operand} {t el:TypeId} {p:Prop} {id:Nat} (ho:o.op = .call { callee := .builtin .len,args := #[x],argTypes := #[t] }) (ht:wA T t=some (.sl el)) (h1:st.arg G x=(p,.ms id)) (hp:p)
  {es en:TypeId} {ss:List MS} (hb:zQ id st.H=some (.mach es en ss)):Yields P G o st (.p (.int .i64 ss.length)) st:=by
 intro c M μ tmps w hg r
 have hd:=hT.sl ht
 have e1:=qF hg r h1 hp
 generalize hu1:Act.eval ⟨tmps,[]⟩ x=u1 at e1
 cases e1 with
 | ms hval _ =>
 rcases(r.box id _ (zB hb)).mcells with⟨rfl,h0,hv,_⟩|⟨b,cap,arr,h0,hv,hh,has,hlc,hcm,hone,hro⟩
 ·rw[hv]at hval
  subst hval
  have e:(execOp (Act.eval ⟨tmps,[]⟩) o).run P w = .ok (.value (.int .i64 0)) w:=by
   simp[execOp,ho,resolve,invoke,builtin,hu1,Builtin.len_,run_underlying hd,goInt,Result.andThen]
  rw[e]
  exact⟨M,μ,r,.p (Rd.intOf (by simp[kD]) (by simp[kE]))⟩
 rw[hv]at hval
 subst hval
 have e:(execOp (Act.eval ⟨tmps,[]⟩) o).run P w = .ok (.value (.int .i64 ss.length)) w:=by
  simp[execOp,ho,resolve,invoke,builtin,hu1,Builtin.len_,run_underlying hd,goInt,Result.andThen]
 rw[e]
 exact⟨M,μ,r,.p (Rd.intOf (by simp only[kD];omega) (by simp only[kE];simp[maxLen]at hcm;omega))⟩
theorem qAI (hT:TOK P T) {o:Oper} {t el:TypeId} {a i:Operand} (n:Nat) (ho:o.op = .indexAddr t a i) (ht:wA T t=some (.sl el)) {ti:TI} (hti:T el=some ti) (hsz:ti.size=3) {p q:Prop} {id:Nat} {kd:IntKind} {z:Int} (h1:st.arg G a=(p,.ms id)) (hp:p) (h2:st.arg G i=(q,.p (.int kd z))) (hq:q)
  {es en:TypeId} {ss:List MS} (hb:zQ id st.H=some (.mach es en ss)) (hn:n<ss.length) (hz:z=(n:Int)):Yields P G o st (.rptr id n 3 0) st:=by
 subst hz
 intro c M μ tmps w hg r
 have hd:=hT.sl ht
 obtain⟨ie,de,hi',_,_,hsz',_⟩:=hT.get hti
 have e1:=qF hg r h1 hp
 have e2:=(qF hg r h2 hq).p_inv
 generalize hu1:Act.eval ⟨tmps,[]⟩ a=u1 at e1
 generalize hu2:Act.eval ⟨tmps,[]⟩ i=u2 at e2
 cases e1 with
 | ms hval _ =>
 cases e2
 rcases(r.box id _ (zB hb)).mcells with⟨rfl,h0,hv,_⟩|⟨b,cap,arr,h0,hv,hh,has,hlc,hcm,hone,hro⟩
 ·simp at hn
 rw[hv]at hval
 subst hval
 have hso:(sizeOf el).run P w = .ok 3 w:=by simp[sizeOf,typeInfo,hi',hsz',hsz]
 have er:(execOp (Act.eval ⟨tmps,[]⟩) o).run P w = .ok (.value (.pointer (some ⟨b,n * 3+0,none⟩))) w:=by
  simp[execOp,ho,hu1,hu2,Instr.indexAt,asIntOf,run_underlying hd,hn,hso,jF]
 rw[er]
 exact⟨M,μ,r,.rptr h0⟩
theorem zDE (hT:TOK P T) {o:Oper} {t:TypeId} {a:Operand} (ho:o.op = .load t a) {ti:TI} (hti:T t=some ti) (hag:ti.k.agg=false) {p:Prop} {id i:Nat} (h1:st.arg G a=(p,.rptr id i 3 2)) (hp:p)
  {es en:TypeId} {ss:List MS} {d1 d2:PD} {l:List Int} (hb:zQ id st.H=some (.mach es en ss)) (hi:ss[i]?=some (d1,d2,some l)) (k:Nat) (hf:st.fresh k=true)
  (he:({ st with H:=(k,.row en 1 (l.map pi))::zM id (.mach es en (ss.set i (d1,d2,none))) st.H }:St)=st'):Yields P G o st (.ms k) st':=by
 subst he
 intro c M μ tmps w hg r
 obtain⟨it,d,hii,hd,hk,hsz,_⟩:=hT.get hti
 have e1:=qF hg r h1 hp
 generalize hu1:Act.eval ⟨tmps,[]⟩ a=u1 at e1
 cases e1 with
 | @rptr _ _ _ _ b hbk =>
 have hm:=zB hb
 have hky:qM id st.H=true:=qH.2 ⟨_,hm⟩
 rcases(r.box id _ hm).mcells with⟨_,h0,_⟩|⟨b',cap,arr,h0,hv,hh,has,hlc,hcm,hone,hbn,hN⟩
 ·rw[hbk]at h0;cases h0
 rw[hbk]at h0
 cases h0
 have hil:=(List.getElem?_eq_some_iff.1 hi).1
 have hlt:i * 3+2<arr.size:=by omega
 have hcell:w.cell? ⟨b,i * 3+2,none⟩=some arr[i * 3+2]:=by rw[zP hh];simp[hlt]
 have:=jO hd hii b (i * 3+2) (fun _=>arr[i * 3+2]) w (fun j hj=>by
  rw[hk,hag]at hj
  have:j=0:=by simpa using hj
  subst this
  simp only[Nat.add_zero];exact hcell)
 rw[hk,hag]at this
 have er:(execOp (Act.eval ⟨tmps,[]⟩) o).run P w = .ok (.value arr[i * 3+2]) w:=by simp[execOp,ho,hu1,this]
 rw[er]
 obtain⟨o1,hS,hos,hset⟩:=hN.set hi
 have hfid:id≠k:=by
  rintro rfl
  have:=(St.fresh_spec hf).2.2.2
  rw[hky]at this;cases this
 let sub':=(μ id).sub.filter fun n=>decide (o1≠some n)
 have hN':wJ M w sub' arr en (ss.set i (d1,d2,none)):=hset _ none arr sub' ⟨hS.1,hS.2.1,.inl ⟨rfl,.inl rfl⟩⟩ (fun _ _=>rfl) (fun n h=>by cases h) (fun n=>by simp[sub',List.mem_filter])
 have r1:=r.remake (bx := .mach es en (ss.set i (d1,d2,none))) (sub:=sub') hky hbk (Turned.refl w b) (fun n hn=>by
  have hns:n∈(μ id).sub:=(List.mem_filter.1 hn).1
  have:=r.own id n hky (.inr hns)
  exact⟨this.1,this.2.1,this.2.2,fun j hj hkj hjn=>hj (r.inj j id n hkj hky hjn (.inr hns))⟩) (by
  refine .mach (b:=b) (cap:=cap) (arr:=arr) (by rw[qK];exact hbk) (by rw[qK];simpa using hv) hh has (by simpa using hlc) hcm hone (by rw[qK];exact fun h=>hbn (List.mem_filter.1 h).1) ?_
  rw[qK];exact hN')
 have hf1:({ st with H:=zM id (.mach es en (ss.set i (d1,d2,none))) st.H }:St).fresh k=true:=by
  obtain⟨f1,f2,f3,f4⟩:=St.fresh_spec hf
  have g3:∀ H:List (Nat × Box),kK k H=true->kK k (zM id (.mach es en (ss.set i (d1,d2,none))) H)=true:=by
   intro H
   induction H with
   | nil=>exact fun h=>h
   | cons x H ih =>
    obtain⟨a,bx⟩:=x
    simp only[kK,zM,Bool.and_eq_true]
    intro h
    split
    ·simp only[kK,Box.noRef,Bool.true_and];exact h.2
    simp only[kK,Bool.and_eq_true];exact⟨h.1,ih h.2⟩
  have g4:qM k (zM id (.mach es en (ss.set i (d1,d2,none))) st.H)=false:=by
   cases hq:qM k (zM id (.mach es en (ss.set i (d1,d2,none))) st.H)with
   | false=>rfl
   | true=>rw[yX.1 hq]at f4;cases f4
  simp[St.fresh,f1,f2,g3 _ f3,g4]
 have hS2:=hS.2.2
 rcases hS2 with⟨_,e1|⟨e1,e2⟩⟩|⟨l',n,cp,ar,q0,q1,q2,q3,q4,q5,q6,q7,q8⟩
 ·cases e1
 ·cases e1
  have hu:arr[i * 3+2] = .slice none 0 0:=by
   have:=e2;simp[hlt]at this;exact this
  rw[hu]
  exact⟨M,_,r1.adopt (l:=⟨none,.slice none 0 0,[]⟩) hf1 (fun b hb=>by cases hb) (bx := .row en 1 []) (.rowN (by rw[qK]) (by rw[qK])),.ms (by rw[qK]) rfl⟩
 cases q0
 have hu:arr[i * 3+2] = .slice (some ⟨n,0,none⟩) l.length cp:=by
  have:=q2;simp[hlt]at this;exact this
 rw[hu]
 have hns:n∈(μ id).sub:=hos n q1
 have hown:=r.own id n hky (.inr hns)
 have hnb:n≠b:=fun e=>hbn (e ▸ hns)
 refine⟨M,_,r1.adopt (l:=⟨some n,.slice (some ⟨n,0,none⟩) l.length cp,[]⟩) hf1 (fun b' hb' => ?_) (bx := .row en 1 (l.map pi)) ?_,.ms (by rw[qK]) rfl⟩
 ·cases hb'
  refine⟨hown.1,hown.2.1,hown.2.2,fun j hj hjn => ?_⟩
  have hj':=yX.1 hj
  by_cases e:j=id
  ·subst e
   rw[qK]at hjn
   rcases hjn with hjn|hjn
   ·rw[hbk]at hjn;exact hnb (Option.some.inj hjn).symm
   have:=(List.mem_filter.1 hjn).2
   simp at this;exact this q1
  rw[yC _ _ e]at hjn
  exact e (r.inj j id n hj' hky hjn (.inr hns))
 refine .row (b:=n) (cap:=cp) (arr:=ar) (by rw[qK]) (by rw[qK];simp) q3 (by rw[q4,Nat.mul_one]) (by simpa using q5) q6 q7 (fun j e' hj => ?_) (fun j e' k' d u hj hd hu => ?_)
 ·rw[List.getElem?_map]at hj
  obtain⟨z,_,rfl⟩:=Option.map_eq_some_iff.1 hj
  rfl
 rw[List.getElem?_map]at hj
 obtain⟨z,hz,rfl⟩:=Option.map_eq_some_iff.1 hj
 have hk0:k'=0:=by have:=(List.getElem?_eq_some_iff.1 hd).1;simpa[PD.cells]using this
 subst hk0
 simp[PD.cells]at hd
 subst hd
 rw[Nat.mul_one,Nat.add_zero,(q8 j z hz).1]at hu
 cases hu
 exact .int (q8 j z hz).2.1 (q8 j z hz).2.2
theorem qZW {M:qW} {μ:Mu} {w:World} {k:Nat} {en:TypeId} {l:List Int} (r:RBox M μ w k (.row en 1 (l.map pi))):(l=[]/\(μ k).blk=none/\(μ k).val = .slice none 0 0) \/
  ∃ (n cp:Nat) (ar:Array Value),(μ k).blk=some n/\(μ k).val = .slice (some ⟨n,0,none⟩) l.length cp/\w.heap[n]?=some (.cells ar en (0,0))/\ar.size=cp/\l.length<=cp/\cp<=maxLen /\
   (∀ (j:Nat) u,ar[j]?=some u->u.oneCell'=true)/\∀ (j:Nat) (z:Int),l[j]?=some z->ar[j]?=some (.int .i64 z)/\IntKind.i64.min<=z/\z<=IntKind.i64.max:=by
 rcases r.cells with⟨e,h0,hv⟩|⟨n,cp,ar,h0,hv,hh,has,hlc,hcm,hone,hro⟩
 ·exact .inl ⟨by simpa using e,h0,hv⟩
 refine .inr ⟨n,cp,ar,h0,by simpa using hv,hh,by simpa using has,by simpa using hlc,hcm,hone,fun j z hz => ?_⟩
 have hjl:=(List.getElem?_eq_some_iff.1 hz).1
 have hja:j<ar.size:=by rw[has];simp at hlc;omega
 have hr:=hro.get j (pi z) 0 (pi z) ar[j] (by rw[List.getElem?_map,hz];rfl) rfl (by rw[List.getElem?_take,if_pos (by simp;omega)];simp[hja])
 cases hu:ar[j]with
 | int k v =>
  rw[hu]at hr
  cases hr with
  | int a b=>exact⟨by simp[hja,hu],a,b⟩
 | _=>rw[hu]at hr;cases hr
theorem zIW (hT:TOK P T) {o:Oper} {t:TypeId} {a x:Operand} (ho:o.op = .store t a x) {ti:TI} (hti:T t=some ti) (hs1:ti.size=1) {p q:Prop} {id i k:Nat} (h1:st.arg G a=(p,.rptr id i 3 2)) (hp:p) (h2:st.arg G x=(q,.ms k)) (hq:q)
  {es en:TypeId} {ss:List MS} {d1 d2:PD} {l:List Int} {rs:List PD} (hb:zQ id st.H=some (.mach es en ss)) (hi:ss[i]?=some (d1,d2,none)) (hk:zQ k st.H=some (.row en 1 rs)) (hrs:rs=l.map pi) (hne:id≠k)
  (he:({ st.kill k with H:=zM id (.mach es en (ss.set i (d1,d2,some l))) (st.kill k).H }:St)=st'):Yields P G o st .dead st':=by
 subst he;subst hrs
 intro c M μ tmps w hg r
 obtain⟨it,d,hii,hd,hkd,hsz,_⟩:=hT.get hti
 have e1:=qF hg r h1 hp
 have e2:=qF hg r h2 hq
 generalize hu1:Act.eval ⟨tmps,[]⟩ a=u1 at e1
 generalize hu2:Act.eval ⟨tmps,[]⟩ x=u2 at e2
 cases e1 with
 | @rptr _ _ _ _ b hbk =>
 cases e2 with
 | ms hval hone2 =>
 have hm:=zB hb
 have hky:qM id st.H=true:=qH.2 ⟨_,hm⟩
 have hmk:=zB hk
 have hkk:qM k st.H=true:=qH.2 ⟨_,hmk⟩
 rcases(r.box id _ hm).mcells with⟨_,h0,_⟩|⟨b',cap,arr,h0,hv,hh,has,hlc,hcm,hone,hbn,hN⟩
 ·rw[hbk]at h0;cases h0
 rw[hbk]at h0
 cases h0
 have hil:=(List.getElem?_eq_some_iff.1 hi).1
 have hcs:u2.cells = #[u2]:=by
  cases u2 <;> first|rfl|(simp[Value.oneCell']at hone2)
 have hst:=run_storeCells_at P b (i * 3+2) es [u2] 0 arr w hh (by simp;omega) (fun v hv=>by
  rw[List.mem_singleton.1 hv];exact hone2)
 simp only[Nat.add_zero]at hst
 generalize hnew:(arr.toList.take (i * 3+2)++[u2]++arr.toList.drop (i * 3+2+[u2].length)).toArray=arr' at hst
 have hget:∀ j,arr'[j]?=if j=i * 3+2 then some u2 else arr[j]?:=by
  intro j
  rw[<-hnew,List.getElem?_toArray]
  have hto:(arr.toList.take (i * 3+2)).length=i * 3+2:=by simp;omega
  rw[List.append_assoc,List.getElem?_append,hto]
  split
  ·rename_i hj;rw[if_neg (by omega),List.getElem?_take,if_pos hj];simp
  rename_i hj
  rw[List.getElem?_append]
  split
  ·rename_i h2;simp at h2;rw[if_pos (by omega),show j-(i * 3+2)=0 from by omega];rfl
  rename_i h2
  simp at h2
  rw[if_neg (by omega),List.getElem?_drop]
  simp only[List.length_singleton]
  rw[show i * 3+2+1+(j-(i * 3+2)-1)=j from by omega];simp
 have hsize:arr'.size=arr.size:=by rw[<-hnew];simp;omega
 have er:(execOp (Act.eval ⟨tmps,[]⟩) o).run P w = .ok .skip (w.setRow b arr'):=by
  have hso:(sizeOf t).run P w = .ok 1 w:=by simp[sizeOf,typeInfo,hii,hsz,hs1]
  simp only[execOp,ho,hu1,hu2]
  rw[Sem.run_bind]
  have:(Instr.storeAt t (.pointer (some ⟨b,i * 3+2,none⟩)) u2).run P w = .ok () (w.setRow b arr'):=by
   show(storeVar t ⟨b,i * 3+2,none⟩ u2).run P w=_
   unfold storeVar
   rw[Sem.run_bind,hso]
   simp only[Result.andThen_ok]
   rw[if_neg (by simp[hcs])]
   rw[hcs];exact hst
  rw[this]
  rfl
 rw[er]
 have r1:=r.kill k
 have hidk:qM id (st.kill k).H=true:=by
  have:∀ H:List (Nat × Box),qM id H=true->qM id (uC k H)=true:=by
   intro H
   induction H with
   | nil=>exact fun h=>h
   | cons x H ih =>
    obtain⟨a,bx⟩:=x
    simp only[qM,uC,Bool.or_eq_true,beq_iff_eq]
    intro h
    split
    ·rename_i e;rcases h with h|h
     ·exact(hne (h ▸ e)).elim
     exact ih h
    simp only[qM,Bool.or_eq_true,beq_iff_eq];exact h.imp (fun h=>h) ih
  exact this _ hky
 have hkillH:∀ j,qM j (st.kill k).H=true->j≠k/\qM j st.H=true:=fun j hj=>yY hj
 have hT2:=kB w b arr'
 have hNm:wJ M (w.setRow b arr') (μ id).sub arr en ss:=hN.mono (fun _ _ _ h=>h) fun n hn=>hT2.block n fun e=>hbn (e ▸ hn)
 obtain⟨o1,hS,hos,hset⟩:=hNm.set hi
 have hoff:∀ j,j<i * 3\/i * 3+3<=j->arr'[j]?=arr[j]?:=fun j hj=>by rw[hget,if_neg (by omega)]
 have ho1:o1=none:=by
  rcases hS.2.2 with⟨e,_⟩|⟨l',n,cp,ar,q0,_⟩
  ·exact e
  cases q0
 subst ho1
 have hold:∀ n∈(μ id).sub,c.mine n/\n<w.heap.size/\(∀ o,M n o=none)/\∀ j,j≠id->qM j (st.kill k).H=true->¬ (μ j).has n:=fun n hn=>by
  have:=r.own id n hky (.inr hn)
  exact⟨this.1,this.2.1,this.2.2,fun j hj hkj hjn=>hj (r.inj j id n (hkillH j hkj).2 hky hjn (.inr hn))⟩
 have honec:∀ (j:Nat) u,arr'[j]?=some u->u.oneCell'=true:=fun j u hu=>by
  rw[hget]at hu
  split at hu
  ·cases hu;exact hone2
  exact hone j u hu
 have c1:(∃ u,arr'[i * 3]?=some u/\Rd M u d1)/\(∃ u,arr'[i * 3+1]?=some u/\Rd M u d2):=by
  refine⟨?_, ?_⟩
  ·rw[hget,if_neg (by omega)];exact hS.1
  rw[hget,if_neg (by omega)];exact hS.2.1
 rcases qZW (r.box k _ hmk)with⟨rfl,k0,kv⟩|⟨n,cp,ar,k0,kv,k1,k2,k3,k4,k5,k6⟩
 ·rw[kv]at hval
  subst hval
  refine⟨M,_,r1.remake (sub:=(μ id).sub) hidk hbk hT2 hold ?_,.dead⟩
  refine .mach (b:=b) (cap:=cap) (arr:=arr') (by rw[qK];exact hbk) (by rw[qK];simpa using hv) (setRow_heap w b arr _ es (0,0) hh) (by rw[hsize];exact has) (by simpa using hlc) hcm honec (by rw[qK];exact hbn) ?_
  rw[qK]
  exact hset _ none arr' _ ⟨c1.1,c1.2,.inl ⟨rfl,.inr ⟨rfl,by rw[hget,if_pos rfl]⟩⟩⟩ hoff (fun n h=>by cases h) (fun n=>by simp)
 rw[kv]at hval
 subst hval
 have hnown:=r.own k n hkk (.inl k0)
 have hnb:n≠b:=fun e=>hne (r.inj id k n hky hkk (.inl (e ▸ hbk)) (.inl k0))
 have hnsub:n ∉ (μ id).sub:=fun h=>hne (r.inj id k n hky hkk (.inr h) (.inl k0))
 refine⟨M,_,r1.remake (sub:=n::(μ id).sub) hidk hbk hT2 (fun n' hn' => ?_) ?_,.dead⟩
 ·rcases List.mem_cons.1 hn' with rfl|h
  ·exact⟨hnown.1,hnown.2.1,hnown.2.2,fun j hj hkj hjn=>(hkillH j hkj).1 (r.inj j k _ (hkillH j hkj).2 hkk hjn (.inl k0))⟩
  exact hold n' h
 refine .mach (b:=b) (cap:=cap) (arr:=arr') (by rw[qK];exact hbk) (by rw[qK];simpa using hv) (setRow_heap w b arr _ es (0,0) hh) (by rw[hsize];exact has) (by simpa using hlc) hcm honec (by rw[qK];simp[hbn,Ne.symm hnb]) ?_
 rw[qK]
 exact hset _ (some n) arr' _ ⟨c1.1,c1.2,.inr ⟨l,n,cp,ar,rfl,rfl,by rw[hget,if_pos rfl],(hT2.block n hnb).trans k1,k2,k3,k4,k5,k6⟩⟩ hoff (fun n' h=>by cases h;exact .inr hnsub) (fun n'=>by simp[or_comm,eq_comm])
theorem qDK (hT:TOK P T) {o:Oper} {t:TypeId} {a x:Operand} (ho:o.op = .store t a x) {ti:TI} (hti:T t=some ti) (hs1:ti.size=1) {p q:Prop} {id i f:Nat} {v:V} {d:PD} (hff:f<2) (h1:st.arg G a=(p,.rptr id i 3 f)) (hp:p) (h2:st.arg G x=(q,v)) (hq:q) (hv1:v.cells=some [v]) (hfit:V.fits [] v d)
  {es en:TypeId} {ss:List MS} {s:MS} (hb:zQ id st.H=some (.mach es en ss)) (hi:ss[i]?=some s)
  (he:({ st with H:=zM id (.mach es en (ss.set i (if f=0 then d else s.1,if f=0 then s.2.1 else d,s.2.2))) st.H }:St)=st'):Yields P G o st .dead st':=by
 subst he
 intro c M μ tmps w hg r
 obtain⟨it,dd,hii,hd,hkd,hsz,_⟩:=hT.get hti
 have e1:=qF hg r h1 hp
 have e2:=qF hg r h2 hq
 generalize hu1:Act.eval ⟨tmps,[]⟩ a=u1 at e1
 generalize hu2:Act.eval ⟨tmps,[]⟩ x=u2 at e2
 cases e1 with
 | @rptr _ _ _ _ b hbk =>
 have hrd:=kM e2 hfit
 have hcc:=Cells.of e2 hv1
 have hm:=zB hb
 have hky:qM id st.H=true:=qH.2 ⟨_,hm⟩
 rcases(r.box id _ hm).mcells with⟨_,h0,_⟩|⟨b',cap,arr,h0,hv,hh,has,hlc,hcm,hone,hbn,hN⟩
 ·rw[hbk]at h0;cases h0
 rw[hbk]at h0
 cases h0
 have hil:=(List.getElem?_eq_some_iff.1 hi).1
 have hus:u2.cells.size=1:=hcc.size
 obtain⟨c0,hc0⟩:∃ c0,u2.cells = #[c0]:=by
  refine⟨u2.cells[0], ?_⟩
  apply Array.ext
  ·simp[hus]
  intro k h1 h2
  have:k=0:=by simp at h2;omega
  subst this;rfl
 have hone2:c0.oneCell'=true:=hcc.one 0 c0 (by rw[hc0];rfl)
 have hrd0:Rd M c0 d:=by
  have:=hcc.get 0 c0 v (by rw[hc0];rfl) rfl
  exact kM this hfit
 have hst:=run_storeCells_at P b (i * 3+f) es [c0] 0 arr w hh (by simp;omega) (fun v hv=>by
  rw[List.mem_singleton.1 hv];exact hone2)
 simp only[Nat.add_zero]at hst
 generalize hnew:(arr.toList.take (i * 3+f)++[c0]++arr.toList.drop (i * 3+f+[c0].length)).toArray=arr' at hst
 have hget:∀ j,arr'[j]?=if j=i * 3+f then some c0 else arr[j]?:=by
  intro j
  rw[<-hnew,List.getElem?_toArray]
  have hto:(arr.toList.take (i * 3+f)).length=i * 3+f:=by simp;omega
  rw[List.append_assoc,List.getElem?_append,hto]
  split
  ·rename_i hj;rw[if_neg (by omega),List.getElem?_take,if_pos hj];simp
  rename_i hj
  rw[List.getElem?_append]
  split
  ·rename_i h2;simp at h2;rw[if_pos (by omega),show j-(i * 3+f)=0 from by omega];rfl
  rename_i h2
  simp at h2
  rw[if_neg (by omega),List.getElem?_drop]
  simp only[List.length_singleton]
  rw[show i * 3+f+1+(j-(i * 3+f)-1)=j from by omega];simp
 have hsize:arr'.size=arr.size:=by rw[<-hnew];simp;omega
 have er:(execOp (Act.eval ⟨tmps,[]⟩) o).run P w = .ok .skip (w.setRow b arr'):=by
  have hso:(sizeOf t).run P w = .ok 1 w:=by simp[sizeOf,typeInfo,hii,hsz,hs1]
  simp only[execOp,ho,hu1,hu2]
  rw[Sem.run_bind]
  have:(Instr.storeAt t (.pointer (some ⟨b,i * 3+f,none⟩)) u2).run P w = .ok () (w.setRow b arr'):=by
   show(storeVar t ⟨b,i * 3+f,none⟩ u2).run P w=_
   unfold storeVar
   rw[Sem.run_bind,hso]
   simp only[Result.andThen_ok]
   rw[if_neg (by simp[hc0])]
   rw[hc0];exact hst
  rw[this]
  rfl
 rw[er]
 have hT2:=kB w b arr'
 have hNm:wJ M (w.setRow b arr') (μ id).sub arr en ss:=hN.mono (fun _ _ _ h=>h) fun n hn=>hT2.block n fun e=>hbn (e ▸ hn)
 obtain⟨o1,hS,hos,hset⟩:=hNm.set hi
 have hoff:∀ j,j<i * 3\/i * 3+3<=j->arr'[j]?=arr[j]?:=fun j hj=>by rw[hget,if_neg (by omega)]
 refine⟨M,μ,r.write hky hbk hT2 ?_,.dead⟩
 refine .mach (b:=b) (cap:=cap) (arr:=arr') hbk (by simpa using hv) (setRow_heap w b arr _ es (0,0) hh) (by rw[hsize];exact has) (by simpa using hlc) hcm (fun j u hu => ?_) hbn ?_
 ·rw[hget]at hu
  split at hu
  ·cases hu;exact hone2
  exact hone j u hu
 have hS3:=hS.2.2
 have h2':arr'[i * 3+2]?=arr[i * 3+2]?:=by rw[hget,if_neg (by omega)]
 refine hset _ o1 arr' _ ⟨?_, ?_, ?_⟩ hoff (fun n h => .inl h) (fun n => ?_)
 ·rw[hget]
  by_cases e:f=0
  ·subst e;exact⟨c0,by simp,by simpa using hrd0⟩
  rw[if_neg (by omega)];simpa[e]using hS.1
 ·rw[hget]
  by_cases e:f=0
  ·subst e;rw[if_neg (by omega)];simpa using hS.2.1
  have:f=1:=by omega
  subst this;exact⟨c0,by simp,by simpa using hrd0⟩
 ·rw[h2'];exact hS3
 constructor
 ·intro hn
  by_cases e:o1=some n
  ·exact .inr e
  exact .inl ⟨hn,e⟩
 rintro(h|h)
 ·exact h.1
 exact hos n h
end
section
variable {P:Program} {T:Tab} {G:qR} {st st1 st':St}
theorem qFF (hT:TOK P T) {o:Oper} {t el:TypeId} {x:Operand} (ho:o.op = .buildSlice t 1 #[(0,x)]) (ht:wA T t=some (.sl el)) {ti:TI} (hti:T el=some ti) {zs:List V} (hzs:ti.zero.cells=some zs) (hzl:zs.length=ti.size) (h3:ti.size=3)
  {p:Prop} {d1 d2:PD} {k:Nat} (hx:st.arg G x=(p,.agg [.p d1,.p d2,.ms k])) (hp:p) {en:TypeId} {rs:List PD} {l:List Int} (hk:zQ k st.H=some (.row en 1 rs)) (hrs:rs=l.map pi) (id:Nat) (hf:(st.kill k).fresh id=true)
  (he:({ st.kill k with H:=(id,.mach el en [(d1,d2,some l)])::(st.kill k).H }:St)=st'):Yields P G o st (.ms id) st':=by
 subst he;subst hrs
 intro c M μ tmps w hg r
 obtain⟨z,hzr,hzc,i,hi,hz,hisz,hiby⟩:=qAW hT hti hzs M μ w
 have hd:=hT.sl ht
 have hxx:=Cells.of (qF hg r hx hp) (xs:=[.p d1,.p d2,.ms k]) rfl
 generalize hu1:Act.eval ⟨tmps,[]⟩ x=u1 at hxx
 have hus:u1.cells.size=3:=hxx.size
 have hzz:z.cells.size=3:=by rw[hzc.size,hzl,h3]
 have hfold:=qOI (0 * 3) u1.cells.toList 0 (madeCells z.cells (1 * 3))
 have efold:(u1.cells.zipIdx.foldl (fun(cs:Array Value) (x:Value × Nat)=>match x with|(c,j)=>cs.setIfInBounds (0 * 3+j) c) (madeCells z.cells (1 * 3)))=u1.cells:=by
  have e1:(u1.cells.zipIdx.foldl (fun(cs:Array Value) (x:Value × Nat)=>match x with|(c,j)=>cs.setIfInBounds (0 * 3+j) c) (madeCells z.cells (1 * 3))) =
    ((u1.cells.toList.zipIdx 0).foldl (fun cs (x:Value × Nat)=>cs.setIfInBounds (0 * 3+x.2) x.1) (madeCells z.cells (1 * 3))):=by
   rw[<-Array.foldl_toList];simp
  rw[e1]
  apply Array.ext_getElem?
  intro j
  rw[hfold.2 j]
  simp only[Array.length_toList,hus,size_madeCells,Nat.zero_mul,Nat.zero_add,Nat.add_zero,Nat.sub_zero]
  by_cases hj:j<3
  ·rw[if_pos ⟨Nat.zero_le _,hj,by omega⟩];simp
  rw[if_neg (by omega),Array.getElem?_eq_none (by rw[size_madeCells];omega),Array.getElem?_eq_none (by omega)]
 have hso:(sizeOf el).run P w = .ok 3 w:=by simp[sizeOf,typeInfo,hi,hisz,h3]
 have e3:(execOp (Act.eval ⟨tmps,[]⟩) o).run P w = .ok (.value (.slice (some ⟨w.heap.size,0,none⟩) 1 1)) (w.alloc (.cells u1.cells el)):=by
  have hmc:((Array.range (1 * 3)).map (z.cells[· % z.cells.size]!))=madeCells z.cells (1 * 3):=rfl
  have hfill:Instr.fill (fun i=>some (i * 3,3)) (madeCells z.cells (1 * 3)) [(0,u1)]=some u1.cells:=by
   simp only[Instr.fill]
   rw[if_neg (by simp[hus,size_madeCells]),efold]
  have hrun:(Instr.buildSlice t 1 #[(0,u1)]).run P w = .ok (.slice (some ⟨w.heap.size,0,none⟩) 1 1) (w.alloc (.cells u1.cells el)):=by
   unfold Instr.buildSlice
   rw[Sem.run_bind,run_underlying hd]
   simp only[Result.andThen_ok]
   rw[Sem.run_bind,hso]
   simp only[Result.andThen_ok]
   rw[if_neg (by omega),if_neg (by omega)]
   simp only[Sem.run_bind,hzr,Sem.run_pure,Result.andThen_ok,hmc,Array.toList_map]
   rw[hfill]
   simp[newRow]
  simp only[execOp,ho]
  rw[Sem.run_bind]
  simp only[List.map_toArray,List.map_cons,List.map_nil,hu1,hrun]
  rfl
 rw[e3]
 have hmk:=zB hk
 have hkk:qM k st.H=true:=qH.2 ⟨_,hmk⟩
 have g:∀ j:Nat,j<3->∃ u,u1.cells[j]?=some u:=fun j hj=>⟨u1.cells[j],by simp[hus,hj]⟩
 obtain⟨u0,g0⟩:=g 0 (by omega)
 obtain⟨v1,g1⟩:=g 1 (by omega)
 obtain⟨v2,g2⟩:=g 2 (by omega)
 have r0:=(hxx.get 0 u0 _ g0 rfl).p_inv
 have r1:=(hxx.get 1 v1 _ g1 rfl).p_inv
 have r2:=hxx.get 2 v2 _ g2 rfl
 have rk:=(r.kill k).same (Grows.alloc w (.cells u1.cells el))
 have hal:=heap_alloc_new w (.cells u1.cells el)
 have hg0:qM k st.H=true->∀ n,(μ k).has n->c.mine n/\n<w.heap.size/\(∀ o,M n o=none)/\∀ j,qM j (st.kill k).H=true->¬ (μ j).has n:=fun hkk n hn=>r.gone hkk hn fun j hj=>yY hj
 have hnew:c.mine w.heap.size/\w.heap.size<(w.alloc (.cells u1.cells el)).heap.size/\(∀ o,M w.heap.size o=none)/\∀ j,qM j (st.kill k).H=true->¬ (μ j).has w.heap.size :=
  ⟨.inl r.size,by simp,zAH r (Nat.le_refl _),qTQ (r.kill k) (Nat.le_refl _)⟩
 cases r2 with
 | ms hval hone2 =>
 rcases qZW (r.box k _ hmk)with⟨rfl,k0,kv⟩|⟨n,cp,ar,k0,kv,k1,k2,k3,k4,k5,k6⟩
 ·rw[kv]at hval
  subst hval
  refine⟨M,_,rk.adoptS (l:=⟨some w.heap.size,.slice (some ⟨w.heap.size,0,none⟩) 1 1,[]⟩) hf (fun b hb => ?_) (bx := .mach el en [(d1,d2,some [])]) ?_,.ms (by rw[qK]) rfl⟩
  ·have:=Loc.has_nil rfl hb;cases this;exact hnew
  refine .mach (b:=w.heap.size) (cap:=1) (arr:=u1.cells) (by rw[qK]) (by rw[qK];rfl) hal (by omega) (by simp) (by simp[maxLen]) hxx.one (by rw[qK];simp) ?_
  rw[qK]
  exact wJ.one (o:=none) ⟨⟨u0,g0,r0⟩,⟨v1,g1,r1⟩,.inl ⟨rfl,.inr ⟨rfl,g2⟩⟩⟩
 rw[kv]at hval
 subst hval
 have hn:=hg0 hkk n (.inl k0)
 refine⟨M,_,rk.adoptS (l:=⟨some w.heap.size,.slice (some ⟨w.heap.size,0,none⟩) 1 1,[n]⟩) hf (fun b hb => ?_) (bx := .mach el en [(d1,d2,some l)]) ?_,.ms (by rw[qK]) rfl⟩
 ·rcases hb with hb|hb
  ·cases hb;exact hnew
  have:=List.mem_singleton.1 hb
  subst this
  exact⟨hn.1,by have:=hn.2.1;simp;omega,hn.2.2.1,hn.2.2.2⟩
 refine .mach (b:=w.heap.size) (cap:=1) (arr:=u1.cells) (by rw[qK]) (by rw[qK];rfl) hal (by omega) (by simp) (by simp[maxLen]) hxx.one (by rw[qK];simp;have:=hn.2.1;omega) ?_
 rw[qK]
 exact wJ.one (o:=some n) ⟨⟨u0,g0,r0⟩,⟨v1,g1,r1⟩,.inr ⟨l,n,cp,ar,rfl,rfl,g2,(RowKit.Below.heap_alloc w _ n hn.2.1).trans k1,k2,k3,k4,k5,k6⟩⟩
theorem qXW {c:Ctx} {M:qW} {μ:Mu} {tmps:Array Value} {w:World} (hT:TOK P T) (r:Rel c M μ st tmps w) {t tx ty el:TypeId} (ht:wA T t=some (.sl el)) {ti:TI} (hti:T el=some ti) {zs:List V} (hzs:ti.zero.cells=some zs) (hzl:zs.length=ti.size) (h3:ti.size=3)
  (hby:0<ti.bytes) {en:TypeId} {ss qs:List MS} {v x:Value} {news:List Value} (hs:Src P 3 tx x qs.length news w) {sub2:List Nat} {arr2:Array Value} (hN2:wJ M w sub2 arr2 en qs) (hnl:news.length=qs.length * 3) (hne:∀ j,j<qs.length * 3->news[j]?=arr2[j]?)
  (hn1:∀ u∈news,u.oneCell'=true) (hbound:(ss.length+qs.length) * ti.bytes<=140737488355328) (id:Nat) (hf:st.fresh id=true) (h0:0<qs.length)
  (ho2:∀ n∈sub2,c.mine n/\n<w.heap.size/\(∀ o,M n o=none)/\∀ j,qM j st.H=true->¬ (μ j).has n)
  (hv:(ss=[]/\v = .slice none 0 0)\/∃ b cap arr sub1,(∀ n,(n=b\/n∈sub1)->c.mine n/\n<w.heap.size/\(∀ o,M n o=none)/\∀ j,qM j st.H=true->¬ (μ j).has n)/\v = .slice (some ⟨b,0,none⟩) ss.length cap /\
   w.heap[b]?=some (.cells arr el (0,0))/\arr.size=cap * 3/\ss.length<=cap/\cap<=maxLen/\(∀ (i:Nat) u,arr[i]?=some u->u.oneCell'=true)/\b ∉ sub1/\b ∉ sub2/\(∀ n∈sub1,n ∉ sub2)/\wJ M w sub1 arr en ss) :
  ∃ u w' μ',(Builtin.append_ #[t,tx] ty #[v,x]).run P w = .ok u w'/\Rel c M μ' { st with H:=(id,.mach el en (ss++qs))::st.H } tmps w'/\RV M μ' u (.ms id):=by
 obtain⟨z,hzr,hzc,i,hi,hz,hisz,hiby⟩:=qAW hT hti hzs M μ w
 have hd:=hT.sl ht
 have hi3:i.size=3:=by omega
 rw[<-hi3]at hs
 have hlen:ss.length+qs.length<=140737488355328:=Nat.le_trans (Nat.le_mul_of_pos_right _ hby) hbound
 have grow:∀ (a:Option Addr) (cap:Nat) (olds:List Value) (sub1:List Nat) (arr1:Array Value),(Builtin.firstCells i.size ss.length (.slice a ss.length cap)).run P w.drew = .ok olds.toArray w.drew->olds.length=ss.length * 3->(∀ j,j<ss.length * 3->olds[j]?=arr1[j]?)->(∀ u∈olds,u.oneCell'=true) ->
   (∀ n∈sub1,c.mine n/\n<w.heap.size/\(∀ o,M n o=none)/\∀ j,qM j st.H=true->¬ (μ j).has n)->wJ M w sub1 arr1 en ss->(∀ n∈sub1,n ∉ sub2)->cap<ss.length+qs.length ->
   ∃ u w' μ',(Builtin.append_ #[t,tx] ty #[.slice a ss.length cap,x]).run P w = .ok u w'/\Rel c M μ' { st with H:=(id,.mach el en (ss++qs))::st.H } tmps w'/\RV M μ' u (.ms id):=by
  intro a cap olds sub1 arr1 hold hol hoe ho1 hs1 hN1 hdj hlt
  have hrun:=run_append_grow_src (P:=P) w t tx ty el i z hd hi hz a ss.length cap olds hold x qs.length news hs hlt (by omega) (growslice_fits hlt (by rw[hiby];exact hbound))
  have hge:=grownCap_ge w (ss.length+qs.length) cap el
  have hcm:=grownCap_le_maxLen w (ss.length+qs.length) cap el (by simp[maxLen];omega)
  have hgr:Grows w _:=(Grows.drew w).trans (Grows.alloc w.drew (.cells ((olds++news).toArray++Builtin.zeroCells z.cells (grownCap w (ss.length+qs.length) cap el-(ss.length+qs.length))) el))
  have hzz:z.cells.size=3:=by rw[hzc.size,hzl,h3]
  have hlt2:∀ n,n<w.heap.size->n<(w.drew.alloc (.cells ((olds++news).toArray++Builtin.zeroCells z.cells (grownCap w (ss.length+qs.length) cap el-(ss.length+qs.length))) el)).heap.size:=fun n hn=>by simp;omega
  refine⟨_,_,upd μ id ⟨some w.heap.size,.slice (some ⟨w.heap.size,0,none⟩) (ss.length+qs.length) (grownCap w (ss.length+qs.length) cap el),sub1++sub2⟩,hrun, ?_,.ms (by rw[qK]) rfl⟩
  refine(r.same hgr).adoptS hf (fun b hb => ?_) ?_
  ·rcases hb with hb|hb
   ·cases hb
    exact⟨.inl r.size,by simp,zAH r (Nat.le_refl _),qTQ r (Nat.le_refl _)⟩
   rcases List.mem_append.1 hb with h|h
   ·have:=hs1 b h;exact⟨this.1,hlt2 b this.2.1,this.2.2⟩
   have:=ho2 b h;exact⟨this.1,hlt2 b this.2.1,this.2.2⟩
  refine .mach (b:=w.heap.size) (cap:=grownCap w (ss.length+qs.length) cap el) (by rw[qK]) (by rw[qK];simp) (heap_alloc_new w.drew _) ?_ (by simp;exact hge) hcm (fun j u hu => ?_) ?_ ?_
  ·rw[Array.size_append,size_zeroCells,hzz,List.size_toArray,List.length_append,hol,hnl]
   omega
  ·rw[Array.getElem?_append]at hu
   split at hu
   ·rw[List.getElem?_toArray]at hu
    exact(List.mem_append.1 (List.mem_of_getElem? hu)).elim (ho1 u) (hn1 u)
   exact qHP hzc.one _ _ u hu
  ·rw[qK]
   intro h
   rcases List.mem_append.1 h with h|h
   ·have:=(hs1 _ h).2.1;omega
   have:=(ho2 _ h).2.1;omega
  rw[qK]
  have hb:∀ n,n<w.heap.size->_:=fun n hn=>hgr.block n hn
  refine wJ.append (hN1.mono (fun _ _ _ h=>h) fun n hn=>hb n (hs1 n hn).2.1) (hN2.mono (fun _ _ _ h=>h) fun n hn=>hb n (ho2 n hn).2.1) hdj (fun j hj => ?_) (fun j hj => ?_)
  ·rw[Array.getElem?_append_left (by simp[hol,hnl];omega),List.getElem?_toArray,List.getElem?_append_left (by omega)]
   exact hoe j hj
  rw[Array.getElem?_append_left (by simp[hol,hnl];omega),List.getElem?_toArray,List.getElem?_append_right (by omega),hol,Nat.add_sub_cancel_left]
  exact hne j hj
 rcases hv with⟨rfl,rfl⟩|⟨b,cap,arr,sub1,hown,rfl,hh,has,hlc,hcm,hone,hb1,hb2,hdj,hN1⟩
 ·exact grow none 0 [] [] #[] (by simp[Builtin.firstCells]) rfl (fun j hj=>by simp at hj) (fun u h=>by simp at h) (fun n h=>by simp at h) (wJ.nil _ _ _ _) (fun n h=>by simp at h) (by simpa using h0)
 have htl:(arr.toList.take (ss.length * 3)).length=ss.length * 3:=by simp;omega
 have hte:∀ j,j<ss.length * 3->(arr.toList.take (ss.length * 3))[j]?=arr[j]?:=fun j hj=>by rw[List.getElem?_take,if_pos hj];simp
 have ht1:∀ u∈arr.toList.take (ss.length * 3),u.oneCell'=true:=fun u hu=>by
  obtain⟨k,hk,rfl⟩:=List.mem_iff_getElem.1 (List.mem_of_mem_take hu)
  exact hone k _ (by simp at hk;simp[hk])
 by_cases hroom:ss.length+qs.length<=cap
 ·have hfit:ss.length * i.size+news.length<=arr.size:=by rw[hnl,has,hi3];omega
  have hrun:=uV (P:=P) w t tx ty el i hd hi b ss.length cap arr hh x qs.length news hs hroom hfit
  refine⟨_,_,upd μ id ⟨some b,.slice (some ⟨b,0,none⟩) (ss.length+qs.length) cap,sub1++sub2⟩,hrun, ?_,.ms (by rw[qK]) rfl⟩
  have hbo:=hown b (.inl rfl)
  have hT2:=kB w b (arr.toList.take (ss.length * i.size)++news++arr.toList.drop (ss.length * i.size+news.length)).toArray
  have r1:=r.turn hbo.1 hbo.2.2.1 hbo.2.2.2 hT2
  refine r1.adoptS hf (fun n hn => ?_) ?_
  ·have key:∀ n,(n=b\/n∈sub1)\/n∈sub2->c.mine n/\n<(w.setRow b (arr.toList.take (ss.length * i.size)++news++arr.toList.drop (ss.length * i.size+news.length)).toArray).heap.size/\(∀ o,M n o=none)/\∀ j,qM j st.H=true->¬ (μ j).has n:=fun n h=>by
    rw[hT2.size];exact h.elim (hown n) (ho2 n)
   rcases hn with hn|hn
   ·cases hn;exact key _ (.inl (.inl rfl))
   rcases List.mem_append.1 hn with h|h
   ·exact key _ (.inl (.inr h))
   exact key _ (.inr h)
  refine .mach (b:=b) (cap:=cap) (by rw[qK]) (by rw[qK];simp) (setRow_heap w b arr _ el (0,0) hh) ?_ (by simp;exact hroom) hcm (fun j u hu => ?_) ?_ ?_
  ·rw[hi3]
   simp only[List.size_toArray,List.length_append,List.length_drop,Array.length_toList,htl,hnl]
   omega
  ·rw[hi3,List.getElem?_toArray]at hu
   have:=List.mem_of_getElem? hu
   rcases List.mem_append.1 this with h|h
   ·rcases List.mem_append.1 h with h|h
    ·exact ht1 u h
    exact hn1 u h
   obtain⟨k,hk,rfl⟩:=List.mem_iff_getElem.1 (List.mem_of_mem_drop h)
   exact hone k _ (by simp at hk;simp[hk])
  ·rw[qK]
   intro h
   exact(List.mem_append.1 h).elim hb1 hb2
  rw[qK]
  refine wJ.append (hN1.mono (fun _ _ _ h=>h) fun n hn=>hT2.block n fun e=>hb1 (e ▸ hn)) (hN2.mono (fun _ _ _ h=>h) fun n hn=>hT2.block n fun e=>hb2 (e ▸ hn)) hdj (fun j hj => ?_) (fun j hj => ?_)
  ·rw[hi3,List.getElem?_toArray,List.append_assoc,List.getElem?_append_left (by omega)]
   exact hte j hj
  rw[hi3,List.getElem?_toArray,List.append_assoc,List.getElem?_append_right (by omega),htl,Nat.add_sub_cancel_left,List.getElem?_append_left (by omega)]
  exact hne j hj
 refine grow (some ⟨b,0,none⟩) cap _ sub1 arr ?_ htl hte ht1 (fun n hn=>hown n (.inr hn)) hN1 hdj (by omega)
 exact run_firstCells_some (P:=P) w.drew i.size ss.length ⟨b,0,none⟩ ss.length cap _ (by rw[htl,hi3]) (fun j u hu=>by
  rw[List.getElem?_take]at hu
  split at hu
  ·rw[jF,Nat.zero_add]
   show w.cell? ⟨b,j,none⟩=_
   rw[zP hh];simpa using hu
  cases hu)
theorem qDM (hT:TOK P T) {o:Oper} {s x:Operand} {t tx el ex:TypeId} (ho:o.op = .call { callee := .builtin .append,args := #[s,x],argTypes := #[t,tx] }) {p q:Prop} {i0 j:Nat} (hs:st.arg G s=(p,.ms i0)) (hp:p) (hx:st.arg G x=(q,.ms j)) (hq:q) (hij:i0≠j)
  (ht:wA T t=some (.sl el)) (htx:wA T tx=some (.sl ex)) {ti:TI} (hti:T el=some ti) {zs:List V} (hzs:ti.zero.cells=some zs) (hzl:zs.length=ti.size) (h3:ti.size=3) (hby:0<ti.bytes) {e2 en:TypeId} {ss qs:List MS}
  (hi:zQ i0 st.H=some (.mach el en ss)) (hj:zQ j st.H=some (.mach e2 en qs)) (h0:0<qs.length) (hbound:(ss.length+qs.length) * ti.bytes<=140737488355328) (id:Nat) (hf:((st.kill i0).kill j).fresh id=true)
  (he:({ (st.kill i0).kill j with H:=(id,.mach el en (ss++qs))::((st.kill i0).kill j).H }:St)=st'):Yields P G o st (.ms id) st':=by
 subst he
 intro c M μ tmps w hg r
 have hvv:=qF hg r hs hp
 have hyy:=qF hg r hx hq
 have hdx:=hT.sl htx
 generalize hu1:Act.eval ⟨tmps,[]⟩ s=u1 at hvv
 generalize hu2:Act.eval ⟨tmps,[]⟩ x=u2 at hyy
 have hmi:=zB hi
 have hmj:=zB hj
 have hki:qM i0 st.H=true:=qH.2 ⟨_,hmi⟩
 have hkj:qM j st.H=true:=qH.2 ⟨_,hmj⟩
 have hH:∀ k,qM k ((st.kill i0).kill j).H=true->k≠i0/\k≠j/\qM k st.H=true:=fun k hk=>by
  obtain⟨h1,h2⟩:=yY hk
  obtain⟨h3,h4⟩:=yY h2
  exact⟨h3,h1,h4⟩
 have r2:=(r.kill i0).kill j
 have goneI:∀ n,(μ i0).has n->c.mine n/\n<w.heap.size/\(∀ o,M n o=none)/\∀ k,qM k ((st.kill i0).kill j).H=true->¬ (μ k).has n:=fun n hn=>r.gone hki hn fun k hk=>⟨(hH k hk).1,(hH k hk).2.2⟩
 have goneJ:∀ n,(μ j).has n->c.mine n/\n<w.heap.size/\(∀ o,M n o=none)/\∀ k,qM k ((st.kill i0).kill j).H=true->¬ (μ k).has n:=fun n hn=>r.gone hkj hn fun k hk=>⟨(hH k hk).2.1,(hH k hk).2.2⟩
 have hdisj:∀ n,(μ i0).has n->¬ (μ j).has n:=fun n h1 h2=>hij (r.inj i0 j n hki hkj h1 h2)
 have key:∃ u w' μ',(Builtin.append_ #[t,tx] o.type #[u1,u2]).run P w = .ok u w'/\Rel c M μ' { (st.kill i0).kill j with H:=(id,.mach el en (ss++qs))::((st.kill i0).kill j).H } tmps w'/\RV M μ' u (.ms id):=by
  cases hyy with
  | ms hval2 _ =>
  cases hvv with
  | ms hval _ =>
  rcases(r.box j _ hmj).mcells with⟨rfl,_⟩|⟨b2,cap2,arr2,g0,gv,gh,gs,gc,gm,go,gb,gN⟩
  ·simp at h0
  rw[gv]at hval2
  subst hval2
  have htl:(arr2.toList.take (qs.length * 3)).length=qs.length * 3:=by simp;omega
  have ht1:∀ u∈arr2.toList.take (qs.length * 3),u.oneCell'=true:=fun u hu=>by
   obtain⟨k,hk,rfl⟩:=List.mem_iff_getElem.1 (List.mem_of_mem_take hu)
   exact go k _ (by simp at hk;simp[hk])
  have hS:Src P 3 tx (.slice (some ⟨b2,0,none⟩) qs.length cap2) qs.length (arr2.toList.take (qs.length * 3)) w:=Src.ofSlice w hdx ⟨b2,0,none⟩ qs.length cap2 _ htl (fun k u hu=>by
   rw[List.getElem?_take]at hu
   split at hu
   ·rw[jF,Nat.zero_add,zP gh];simpa using hu
   cases hu) ht1
  refine qXW hT r2 ht hti hzs hzl h3 hby hS gN htl (fun k hk=>by rw[List.getElem?_take,if_pos hk];simp) ht1 hbound id hf h0 (fun n hn=>goneJ n (.inr hn)) ?_
  rcases(r.box i0 _ hmi).mcells with⟨rfl,f0,fv,_⟩|⟨b,cap,arr,f0,fv,fh,fs,fc,fm,fo,fb,fN⟩
  ·rw[fv]at hval;subst hval;exact .inl ⟨rfl,rfl⟩
  rw[fv]at hval;subst hval
  exact .inr ⟨b,cap,arr,(μ i0).sub,fun n hn=>goneI n (hn.elim (fun e => .inl (e ▸ f0)) .inr),rfl,fh,fs,fc,fm,fo,fb,fun h=>hdisj b (.inl f0) (.inr h),fun n h1 h2=>hdisj n (.inr h1) (.inr h2),fN⟩
 obtain⟨u,w',μ',hrun,hr,hu⟩:=key
 have e1:(execOp (Act.eval ⟨tmps,[]⟩) o).run P w = .ok (.value u) w':=by
  simp[execOp,ho,resolve,invoke,builtin,hu1,hu2,hrun]
 rw[e1]
 exact⟨M,μ',hr,hu⟩
end
def MS.pd (s:MS):PD := .agg [s.1,s.2.1,.sl 1 ((s.2.2.getD []).map pi)]
theorem qOA.reads {M M2:qW} {w:World} {arr:Array Value} {en:TypeId} {i:Nat} {s:MS} {o:Option Nat} (h:qOA M w arr en i s o) (hs:s.2.2≠none) (hM:∀ b o v,M b o=some v->M2 b o=some v) (hn:∀ n,o=some n->∀ k v,w.cell? ⟨n,k,none⟩=some v->M2 n k=some v)
  (j:Nat) (d:PD) (u:Value) (hd:s.pd.cells[j]?=some d) (hu:arr[i * 3+j]?=some u):Rd M2 u d:=by
 obtain⟨⟨u1,k1,g1⟩,⟨u2,k2,g2⟩,k3⟩:=h
 simp only[MS.pd,PD.cells]at hd
 match j,hd,hu with
 | 0,hd,hu=>simp at hd;subst hd;rw[Nat.add_zero,k1]at hu;cases hu;exact g1.mono hM
 | 1,hd,hu=>simp at hd;subst hd;rw[k2]at hu;cases hu;exact g2.mono hM
 | 2,hd,hu =>
  simp at hd;subst hd
  rcases k3 with⟨_,e|⟨e1,e2⟩⟩|⟨l,n,cp,ar,q0,q1,q2,q3,q4,q5,q6,q7,q8⟩
  ·exact(hs e).elim
  ·rw[e2]at hu;cases hu
   rw[e1]
   exact .sl 0 0 rfl (Nat.le_refl _) (by simp[maxLen]) (fun h=>(h rfl).elim) (fun i e h=>by simp at h) (fun i e j h=>by simp at h) (fun i e j d u h=>by simp at h)
  rw[q2]at hu;cases hu
  rw[q0]
  simp only[Option.getD_some]
  have hc:=hn n q1
  have hcell:∀ j,w.cell? ⟨n,j,none⟩=ar[j]?:=fun j=>zP q3
  refine .sl n 0 (by simp) q5 q6 (fun _=>rfl) (fun i e he => ?_) (fun i e j he hj => ?_) (fun i e j d u he hd hu => ?_)
  ·rw[List.getElem?_map]at he
   obtain⟨z,_,rfl⟩:=Option.map_eq_some_iff.1 he
   rfl
  ·rw[List.getElem?_map]at he
   obtain⟨z,hz,rfl⟩:=Option.map_eq_some_iff.1 he
   have:j=0:=by omega
   subst this
   rw[Nat.mul_one,Nat.add_zero,Nat.zero_add]
   exact⟨_,hc i _ (by rw[hcell];exact(q8 i z hz).1),rfl⟩
  rw[List.getElem?_map]at he
  obtain⟨z,hz,rfl⟩:=Option.map_eq_some_iff.1 he
  have hj0:j=0:=by have:=(List.getElem?_eq_some_iff.1 hd).1;simpa[PD.cells]using this
  subst hj0
  simp[PD.cells]at hd
  subst hd
  rw[Nat.mul_one,Nat.add_zero,Nat.zero_add,hc i _ (by rw[hcell];exact(q8 i z hz).1)]at hu
  cases hu
  exact .int (q8 i z hz).2.1 (q8 i z hz).2.2
theorem zEN {M M2:qW} {μ:Mu} {w:World} {id:Nat} {es en:TypeId} {ss:List MS} (r:RBox M μ w id (.mach es en ss)) (hs:∀ s∈ss,s.2.2≠none) (hM:∀ b o v,M b o=some v->M2 b o=some v)
  (hc:∀ b,(μ id).has b->∀ o v,w.cell? ⟨b,o,none⟩=some v->M2 b o=some v):Rd M2 (μ id).val (.sl 3 (ss.map MS.pd)):=by
 rcases r.mcells with⟨rfl,_,hv,_⟩|⟨b,cap,arr,h0,hv,hh,has,hlc,hcm,hone,hbn,hN⟩
 ·rw[hv]
  exact .sl 0 0 rfl (Nat.le_refl _) (by simp[maxLen]) (fun h=>(h rfl).elim) (fun i e h=>by simp at h) (fun i e j h=>by simp at h) (fun i e j d u h=>by simp at h)
 rw[hv]
 have hcell:∀ j,w.cell? ⟨b,j,none⟩=arr[j]?:=fun j=>zP hh
 have hlt:∀ i j,i<ss.length->j<3->i * 3+j<arr.size:=fun i j hi hj=>by omega
 refine .sl b 0 (by simp) hlc hcm (fun _=>rfl) (fun i e he => ?_) (fun i e j he hj => ?_) (fun i e j d u he hd hu => ?_)
 ·rw[List.getElem?_map]at he
  obtain⟨s,_,rfl⟩:=Option.map_eq_some_iff.1 he
  rfl
 ·rw[List.getElem?_map]at he
  obtain⟨s,hz,rfl⟩:=Option.map_eq_some_iff.1 he
  have hl:=hlt i j (List.getElem?_eq_some_iff.1 hz).1 hj
  refine⟨arr[i * 3+j], ?_,hone (i * 3+j) _ (by simp[hl])⟩
  rw[Nat.zero_add]
  exact hc b (.inl h0) _ _ (by rw[hcell];simp[hl])
 rw[List.getElem?_map]at he
 obtain⟨s,hz,rfl⟩:=Option.map_eq_some_iff.1 he
 have hj:j<3:=(List.getElem?_eq_some_iff.1 hd).1
 have hl:=hlt i j (List.getElem?_eq_some_iff.1 hz).1 hj
 rw[Nat.zero_add,hc b (.inl h0) _ arr[i * 3+j] (by rw[hcell];simp[hl])]at hu
 obtain⟨o,hS,hos,_⟩:=hN.set hz
 exact hS.reads (hs s (List.mem_of_getElem? hz)) hM (fun n hn k v hv=>hc n (.inr (hos n hn)) k v hv) j d u hd (by rw[<-hu];simp[hl])
instance (l:Loc) (b:Nat):Decidable (l.has b):=inferInstanceAs (Decidable (_\/_))
theorem Rel.freezeAs {c:Ctx} {M:qW} {μ:Mu} {st:St} {tmps:Array Value} {w:World} (r:Rel c M μ st tmps w) {id:Nat} {d:PD} (hk:qM id st.H=true)
  (hd:∀ M2:qW,(∀ b o v,M b o=some v->M2 b o=some v)->(∀ b,(μ id).has b->∀ o v,w.cell? ⟨b,o,none⟩=some v->M2 b o=some v)->Rd M2 (μ id).val d) :
  ∃ M',Rel c M' μ { st with tmps:=V.frzL id d st.tmps,pins:=st.pins.filter (· != id),H:=qLV id d st.H } tmps w:=by
 let M2:qW:=fun b o=>if(μ id).has b then w.cell? ⟨b,o,none⟩ else M b o
 have e1:∀ b o,(μ id).has b->M2 b o=w.cell? ⟨b,o,none⟩:=fun b o h=>if_pos h
 have e2:∀ b o, ¬ (μ id).has b->M2 b o=M b o:=fun b o h=>if_neg h
 have hM:∀ b o v,M b o=some v->M2 b o=some v:=by
  intro b o v hv
  by_cases h:(μ id).has b
  ·rw[e1 b o h];exact r.mem b o v hv
  rw[e2 b o h];exact hv
 have hd:=hd M2 hM fun b h o v hv=>by rw[e1 b o h];exact hv
 refine⟨M2, ?_,fun b o v hv=>hM _ _ _ (r.ext b o v hv),fun b o hb => ?_,⟨by simp[V.frzL_eq,r.slots.1],fun i u x hu hx => ?_⟩,fun i hi=>r.pins i (List.mem_filter.1 hi).1,fun i b hi => ?_, ?_,fun i j b hi hj => ?_,fun i b hi hib => ?_,r.size,r.below⟩
 ·intro b o v hv
  by_cases h:(μ id).has b
  ·rw[e1 b o h]at hv;exact hv
  rw[e2 b o h]at hv;exact r.mem b o v hv
 ·rw[e2 b o fun h=>hb (r.own id b hk h).1];exact r.old b o hb
 ·simp only[V.frzL_eq]at hx
  rw[List.getElem?_map]at hx
  obtain⟨y,hy,rfl⟩:=Option.map_eq_some_iff.1 hx
  exact(r.slots.2 i u y hu hy).frz hM hd
 ·obtain⟨_,b',h2,rfl⟩:=qFZ hi
  exact(r.box i b' h2).frz hM hd
 ·show((qLV id d st.H).map (·.1)).Nodup
  rw[qHE];exact r.nodup.filter _
 ·exact r.inj i j b (vV hi).2 (vV hj).2
 obtain⟨h1,h2⟩:=vV hi
 have h3:=r.own i b h2 hib
 exact⟨h3.1,h3.2.1,fun o=>by rw[e2 b o fun h=>h1 (r.inj i id b h2 hk hib h)];exact h3.2.2 o⟩
theorem AW.freezeM {P:Program} {G:qR} {Q:Exit->St->Prop} {st st':St} {c:Code} (id:Nat) {es en:TypeId} {ss:List MS} (hb:zQ id st.H=some (.mach es en ss)) (hs:∀ s∈ss,s.2.2≠none)
  (h:({ st with tmps:=V.frzL id (.sl 3 (ss.map MS.pd)) st.tmps,pins:=st.pins.filter (· != id),H:=qLV id (.sl 3 (ss.map MS.pd)) st.H }:St)=st') (k:AW P G c Q st'):AW P G c Q st:=fun x M μ tmps w hg r=>by
 have hm:=zB hb
 obtain⟨M',r'⟩:=r.freezeAs (qH.2 ⟨_,hm⟩) fun M2 h1 h2=>zEN (r.box id _ hm) hs h1 h2
 exact k x M' μ tmps w hg (h ▸ r')
section
variable {P:Program} {T:Tab} {G:qR} {st st':St}
def zAJ:V->Option Bool
 | .nilsl=>some true
 | .p (.sl _ (_::_))=>some false
 | _=>none
theorem qVM (hT:TOK P T) (b:Bool) {o:Oper} {t ty el:TypeId} {x:Operand} {p:Prop} {v:V} (ho:o.op = .binOp .neq t x (.const (.slice none 0 0)) ty) (ht:wA T t=some (.sl el)) (ha:st.arg G x=(p,v)) (hp:p) (hv:zAJ v=some (!b)) :
  Yields P G o st (.p (.bool b)) st:=by
 have hd:=hT.sl ht
 intro c M μ tmps w hg r
 have h1:=qF hg r ha hp
 generalize hu:Act.eval ⟨tmps,[]⟩ x=u at h1
 have key:∃ a n cp,u = .slice a n cp/\a.isNone = !b:=by
  unfold zAJ at hv
  split at hv
  ·cases h1;exact⟨_,_,_,rfl,by simpa using hv⟩
  ·cases h1 with
   | p h1 =>
   cases h1 with
   | @sl a n c' sz es b' o' hn hnc hcm ha' _ _ _ =>
   have:=ha' (by simp at hn;omega)
   subst this
   exact⟨_,_,_,rfl,by simpa using hv⟩
  cases hv
 obtain⟨a,n,cp,rfl,hb⟩:=key
 have he:(Op.equal t (.slice a n cp) (.slice none 0 0)).run P w = .ok (!b) w:=by
  rw[<-hb]
  have:∀ k,(Op.equalIn (k+1) t (.slice a n cp) (.slice none 0 0)).run P w = .ok a.isNone w:=fun k=>by cases a <;> simp[Op.equalIn,run_underlying hd]
  exact this 9999
 have hg':(eqGuard .neq t x (.const (.slice none 0 0)) (.slice a n cp) (.slice none 0 0)).run P w = .ok () w:=by simp only[eqGuard];rfl
 have hb2:(binOp .neq t (.slice a n cp) (.slice none 0 0)).run P w = .ok (.bool b) w:=by
  show(do pure (.bool (!(<-Op.equal t (.slice a n cp) (.slice none 0 0)))):Sem Value).run P w=_
  simp only[Sem.run_bind,he,Result.andThen,Sem.run_pure,Bool.not_not]
 have e1:(execOp (Act.eval ⟨tmps,[]⟩) o).run P w = .ok (.value (.bool b)) w:=by
  simp[execOp,ho,hu,hg',hb2,show Act.eval ⟨tmps,[]⟩ (.const (.slice none 0 0)) = .slice none 0 0 from rfl]
 rw[e1]
 exact⟨M,μ,r,.p (.bool b)⟩
def qAV (b:ByteArray):Nat->Nat->List Int
 | 0,_=>[]
 | n+1,i=>if i<b.size then((Utf8.decode b i).1:Int)::qAV b n (i+(Utf8.decode b i).2) else[]
def wD (s:List UInt8):List Int:=qAV ⟨s.toArray⟩ s.length 0
theorem qPN (b:ByteArray):∀ n i,(qAV b n i).length<=n
 | 0,_=>by simp[qAV]
 | n+1,i=>by
  unfold qAV
  split
  ·have:=qPN b n (i+(Utf8.decode b i).2);simp;omega
  simp
theorem qIM (s:List UInt8):(wD s).length<=s.length:=qPN _ _ _
theorem qTJ (b:ByteArray):∀ n i, ∀ c∈qAV b n i,0<=c/\c<=1114111
 | 0,_,c,h=>by simp[qAV]at h
 | n+1,i,c,h=>by
  unfold qAV at h
  split at h
  ·rcases List.mem_cons.1 h with rfl|h
   ·have:=qEK b i;omega
   exact qTJ b n _ c h
  simp at h
theorem qTI (s:List UInt8):∀ c∈wD s,0<=c/\c<=1114111:=qTJ _ _ _
theorem qJL (b:ByteArray):∀ n i (acc:Array Value),(Conv.runesFrom b n i acc).toList=acc.toList++(qAV b n i).map fun c => .int .i32 c
 | 0,_,acc=>by simp[Conv.runesFrom,qAV]
 | n+1,i,acc=>by
  unfold Conv.runesFrom qAV
  split
  ·rw[qJL b n];simp
  simp
abbrev pr (z:Int):PD := .int .i32 z
theorem qSP (hT:TOK P T) {o:Oper} {s d e:TypeId} {x:Operand} (ho:o.op = .convert s d x) {p:Prop} {bs:List UInt8} (ha:st.arg G x=(p,.p (.str bs))) (hp:p) (hs:wA T s=some .str) (hd:wA T d=some (.sl e)) (he:wA T e=some (.int .i32)) (hl:bs.length<=1000000) (id:Nat) (hf:st.fresh id=true)
  (h:({ st with H:=(id,.row e 1 ((wD bs).map pr))::st.H }:St)=st'):Yields P G o st (.ms id) st':=by
 subst h
 intro c M μ tmps w hg r
 have h1:=(qF hg r ha hp).p_inv
 generalize hu:Act.eval ⟨tmps,[]⟩ x=u at h1
 cases h1 with
 | @str ba _ hbb hbl =>
 have hba:ba=⟨bs.toArray⟩:=by
  cases ba with
  | mk a=>simp only at hbb;subst hbb;simp
 have hsz:ba.size=bs.length:=by rw[hba];show bs.toArray.size=_;simp
 have hrn:(Conv.runesFrom ba ba.size 0 #[]).toList=(wD bs).map fun c => .int .i32 c:=by
  rw[qJL,hsz,hba];simp[wD]
 have hrs:(Conv.runesFrom ba ba.size 0 #[]).size=(wD bs).length:=by
  rw[<-Array.length_toList,hrn];simp
 have hll:=qIM bs
 have hge:=grownCap_ge w (wD bs).length 0 e
 have hcm:=grownCap_le_maxLen w (wD bs).length 0 e (by simp[maxLen];omega)
 have hrun:=run_runes_of_string w s d e ba (hT.str hs) (hT.sl hd) (hT.int he) (by rw[hrs];omega)
 rw[hrs]at hrun
 have e1:(execOp (Act.eval ⟨tmps,[]⟩) o).run P w = .ok (.value (.slice (some ⟨w.heap.size,0,none⟩) (wD bs).length (grownCap w (wD bs).length 0 e))) (w.drew.alloc (.cells (Conv.runesFrom ba ba.size 0 #[]++Array.replicate (grownCap w (wD bs).length 0 e-(wD bs).length) (.int .i32 0)) e)):=by
  simp[execOp,ho,hu,hrun]
 rw[e1]
 refine⟨M,upd μ id ⟨some w.heap.size,.slice (some ⟨w.heap.size,0,none⟩) (wD bs).length (grownCap w (wD bs).length 0 e),[]⟩, ?_,.ms (by rw[qK]) rfl⟩
 refine r.newBox hf ((Grows.drew w).trans (Grows.alloc _ _)) (fun b hb=>by cases hb;exact⟨Nat.le_refl _,by simp⟩) ?_ rfl
 have hone:∀ (i:Nat) u,(Conv.runesFrom ba ba.size 0 #[]++Array.replicate (grownCap w (wD bs).length 0 e-(wD bs).length) (Value.int .i32 0))[i]?=some u->u.oneCell'=true:=fun i u hu=>by
  rw[Array.getElem?_append]at hu
  split at hu
  ·rw[<-Array.getElem?_toList,hrn,List.getElem?_map]at hu
   obtain⟨z,_,rfl⟩:=Option.map_eq_some_iff.1 hu
   rfl
  rw[Array.getElem?_replicate]at hu
  split at hu
  ·cases hu;rfl
  cases hu
 refine .row (b:=w.heap.size) (cap:=grownCap w (wD bs).length 0 e) (by rw[qK]) (by rw[qK];simp) (heap_alloc_new w.drew _) ?_ (by simp;exact hge) hcm hone (fun i e' he' => ?_) (fun i e' j d' u he' hd' hu => ?_)
 ·simp[hrs];omega
 ·rw[List.getElem?_map]at he'
  obtain⟨z,_,rfl⟩:=Option.map_eq_some_iff.1 he'
  rfl
 rw[List.getElem?_map]at he'
 obtain⟨z,hz,rfl⟩:=Option.map_eq_some_iff.1 he'
 have hj0:j=0:=by have:=(List.getElem?_eq_some_iff.1 hd').1;simpa[PD.cells]using this
 subst hj0
 simp[PD.cells]at hd'
 subst hd'
 have hi:=(List.getElem?_eq_some_iff.1 hz).1
 rw[Nat.mul_one,Nat.add_zero,Array.getElem?_append_left (by omega),<-Array.getElem?_toList,hrn,List.getElem?_map,hz]at hu
 cases hu
 have:=qTI bs z (List.mem_of_getElem? hz)
 exact Rd.intOf (by simp only[kD];omega) (by simp only[kE];omega)
def encL (r:Int):List UInt8:=(Utf8.encode r).data.toList
theorem zFI (r:Int) (hv:Utf8.valid r=true) (h:128<=r):2<=(encL r).length/\(encL r).length<=4/\∀ c,(encL r)[(encL r).length-1]?=some c->128<=c.toNat:=by
 obtain⟨h1,h2,h3⟩:=encode_facts r hv h
 have e:(encL r).length=(Utf8.encode r).size:=by simp[encL]
 refine⟨by omega,by omega,fun c hc => ?_⟩
 have h4:=h3 (by omega)
 rw[e]at hc
 have:(encL r)[(Utf8.encode r).size-1]?=some ((Utf8.encode r)[(Utf8.encode r).size-1]'(by omega)):=by
  unfold encL
  rw[List.getElem?_eq_getElem (by simp;omega)]
  rfl
 rw[this]at hc
 cases hc;exact h4
theorem zIV (hT:TOK P T) {o:Oper} {s d:TypeId} {x:Operand} (ho:o.op = .convert s d x) {p:Prop} {n:Int} (ha:st.arg G x=(p,.p (.int .i32 n))) (hp:p) (hs:wA T s=some (.int .i32)) (hd:wA T d=some .str) (hl:(encL n).length<=4):Yields P G o st (.p (.str (encL n))) st:=by
 intro c M μ tmps w hg r
 have h1:=(qF hg r ha hp).p_inv
 generalize hu:Act.eval ⟨tmps,[]⟩ x=u at h1
 cases h1
 have e1:(execOp (Act.eval ⟨tmps,[]⟩) o).run P w = .ok (.value (.string (Utf8.encode n))) w:=by
  simp[execOp,ho,hu,run_convert_int_string w s d .i32 n (by rw[hT.int hs];rfl) (hT.str hd)]
 rw[e1]
 exact⟨M,μ,r,.p (.str rfl (by simp only[maxLen];have:=hl;unfold encL at this;omega))⟩
end
end Go.Proofs.YtgcbapchinideaaGreatDoor.Sy
namespace Go.Proofs.YtgcbapchinideaaGreatDoor
open Sy Go
set_option linter.all false
structure Sp where
 lo:Int
 hi:Int
def spC (s:Sp):PD := .agg [.int .i32 s.lo,.int .i32 s.hi]
def inR (l:List Sp) (c:Int):Bool:=l.any fun s=>decide (s.lo<=c) && decide (c<=s.hi)
inductive Tk where
 | no|any|one (c:Int)|cls (l:List Sp)|items (l:List Sp) (neg:Bool)
 deriving Inhabited
inductive Pl where
 | no|beg|fin
 deriving Inhabited
def Tk.enc:Tk->PD
 | .no => .nilf
 | .any => .fn 246
 | .one c => .clo 260 [.ref [.int .i32 c]]
 | .cls l => .clo 258 [.ref [.sl 2 (l.map spC)]]
 | .items l b => .clo 256 [.ref [.sl 2 (l.map spC)],.ref [.bool b]]
def Pl.enc:Pl->PD
 | .no => .nilf
 | .beg => .fn 248
 | .fin => .fn 249
def Tk.run:Tk->Int->Bool
 | .no,_=>false
 | .any,c=>decide (c≠10)
 | .one d,c=>decide (c=d)
 | .cls l,c=>inR l c
 | .items l b,c=>inR l c != b
def Pl.run:Pl->Int->Int->Bool
 | .no,_,_=>true
 | .beg,a,_=>decide (a=0)
 | .fin,a,e=>decide (a=e)
def Tk.is:Tk->Bool
 | .no=>false
 | _=>true
def Pl.is:Pl->Bool
 | .no=>false
 | _=>true
structure XS where
 tk:Tk := .no
 pl:Pl := .no
 next:List Nat:=[]
 deriving Inhabited
abbrev noX:XS:=⟨.no,.no,[]⟩
def XS.ms (x:XS):MS:=(x.tk.enc,x.pl.enc,some (x.next.map fun(k:Nat)=>(k:Int)))
structure RG where
 ss:List XS
 left:List Int
 deep:Int
 bad:Bool
abbrev Pt:=Nat × Nat
def toX (ss:List XS) (i z:Nat):List XS:=match ss[i]? with
 | some x=>ss.set i { x with next:=x.next++[z] }
 | none=>ss
def vE (ss:List XS) (d:Tk):List XS:=ss++[noX,⟨d,.no,[ss.length]⟩]
def uO (ss:List XS) (d:Pl):List XS:=ss++[noX,⟨.no,d,[ss.length]⟩]
def wX (ss:List XS):Pt:=(ss.length+1,ss.length)
def uY (ss:List XS) (p:Pt) (sign:Int):List XS :=
 let a:=toX (ss++[noX,⟨.no,.no,[p.1]⟩]) p.2 ss.length
 let b:=if sign=63 then a else toX a p.2 p.1
 if sign=43 then b else toX b (ss.length+1) ss.length
def qMH (ss:List XS) (p q:Pt):List XS:=toX (toX (ss++[noX,⟨.no,.no,[p.1,q.1]⟩]) p.2 ss.length) q.2 ss.length
def zI (s:RG):Int:=if s.bad=true\/s.left=[] then -1 else s.left.headD 0
def qDA (w:List UInt8) (c:Int):Bool:=decide (0<=c) && decide (c<128) && decide (0<=Lib.indexByte w c.toNat.toUInt8)
def wS (n:Nat) (s:RG):RG:={ s with left:=s.left.drop n }
def qSJ (s:RG):RG:={ s with bad:=true }
def wL (b:Bool) (s:RG):RG:={ s with bad:=s.bad || b }
def wK (ss:List XS) (s:RG):RG:={ s with ss:=ss }
def kO (n:Int) (s:RG):RG:={ s with deep:=s.deep+n }
def wB (w:List UInt8) (s:RG):Bool := !(decide (zI s<0) || !qDA w (zI s))
def qU (w:List UInt8) (s:RG):RG:=if wB w s=true then wS 1 s else s
def qQI:List Sp:=[⟨48,57⟩,⟨97,122⟩,⟨65,90⟩]
def zK (s:RG):Int × RG :=
 if zI s=110 then(10,wS 1 s) else if zI s=116 then(9,wS 1 s) else
 if zI s<=32\/126<zI s\/inR qQI (zI s)=true then(0,qSJ s) else(zI s,wS 1 s)
def zD (s:RG):Int × RG :=
 if wB [92] s=true then zK (qU [92] s) else
 if zI s<0\/qDA [91,93,94,45] (zI s)=true then(0,qSJ s) else(zI s,wS 1 s)
def wF (c:Int):List Sp :=
 if c=100 then[⟨48,57⟩] else if c=119 then[⟨48,57⟩,⟨97,122⟩,⟨65,90⟩,⟨95,95⟩] else if c=115 then[⟨32,32⟩,⟨9,9⟩,⟨10,10⟩,⟨13,13⟩] else[]
def kY (s:RG):Sp × RG :=
 let a:=zD s
 let b:=qU [45] a.2
 let c:=if wB [45] a.2=true then zD b else(a.1,b)
 (⟨a.1,c.1⟩,wL (decide (c.1<a.1)) c.2)
def yO:Nat->List Sp->RG->List Sp × RG
 | 0,l,s=>(l,s)
 | n+1,l,s =>
  if s.bad=true then(l,s) else if wB [93] s=true then(l,qU [93] s) else
  let t:=qU [93] s
  if 1<t.left.length/\t.left.headD 0=92/\wF (t.left.getD 1 0)≠[] then yO n (l++wF (t.left.getD 1 0)) (wS 2 t) else
  yO n (l++[(kY t).1]) (kY t).2
def qBF (s:RG):Pt × RG :=
 let a:=yO ((qU [94] s).left.length+1) [] (qU [94] s)
 let b:=wL (decide (a.1.length=0)) a.2
 (wX b.ss,wK (vE b.ss (.items a.1 (wB [94] s))) b)
def qJS (c:Int) (s:RG):Pt × RG:=(wX s.ss,wK (vE s.ss (.one c)) s)
def yW (s:RG):Pt × RG :=
 if wF (zI s)≠[] then(wX s.ss,wK (vE s.ss (.cls (wF (zI s)))) (wS 1 s)) else qJS (zK s).1 (zK s).2
mutual
def qAG:Nat->RG->Pt × RG
 | 0,s=>((s.ss.length,s.ss.length),wK (s.ss++[noX]) s)
 | n+1,s=>qKQ n (xB n s).1 (xB n s).2
def qKQ:Nat->Pt->RG->Pt × RG
 | 0,p,s=>(p,s)
 | n+1,p,s =>
  if wB [124] s=true then
   let q:=xB n (qU [124] s)
   qKQ n (wX q.2.ss) (wK (qMH q.2.ss p q.1) q.2)
  else(p,qU [124] s)
def xB:Nat->RG->Pt × RG
 | 0,s=>((s.ss.length,s.ss.length),wK (s.ss++[noX]) s)
 | n+1,s=>qHL n (s.ss.length,s.ss.length) (wK (s.ss++[noX]) s)
def qHL:Nat->Pt->RG->Pt × RG
 | 0,p,s=>(p,s)
 | n+1,p,s =>
  if 0<=zI s/\qDA [124,41] (zI s)=false then
   let q:=qBO n s
   let t:=qU [42,43,63] q.2
   let k:Pt × RG:=if wB [42,43,63] q.2=true then(wX t.ss,wK (uY t.ss q.1 (zI q.2)) t) else(q.1,t)
   qHL n (p.1,k.1.2) (wK (toX k.2.ss p.2 k.1.1) k.2)
  else(p,s)
def qBO:Nat->RG->Pt × RG
 | 0,s=>((0,0),wS 1 s)
 | n+1,s =>
  let c:=s.left.headD 0
  let t:=wS 1 s
  if c=40 then
   let u:=wL (decide (6<t.deep+1)) (kO 1 t)
   if u.bad=true then((0,0),u) else
   let p:=qAG n u
   (p.1,kO (-1) (wL (!wB [41] p.2) (qU [41] p.2)))
  else if c=91 then qBF t
  else if c=46 then(wX t.ss,wK (vE t.ss .any) t)
  else if c=94 then(wX t.ss,wK (uO t.ss .beg) t)
  else if c=36 then(wX t.ss,wK (uO t.ss .fin) t)
  else if c=92 then yW t
  else qJS c (wL (qDA [41,93,123,125,42,43,63,124] c) t)
end
def GS (ss:List XS):Prop:=∀ x∈ss,(∀ k∈x.next,k<ss.length)/\(x.tk.is=true->x.next≠[]/\x.pl = .no)
def uL (ss:List XS) (p:Pt):Prop:=p.1<ss.length/\p.2<ss.length
theorem uL.le {ss ss':List XS} {p:Pt} (h:uL ss p) (hl:ss.length<=ss'.length):uL ss' p:=⟨Nat.lt_of_lt_of_le h.1 hl,Nat.lt_of_lt_of_le h.2 hl⟩
@[simp] theorem qDN (ss:List XS) (i z:Nat):(toX ss i z).length=ss.length:=by unfold toX;split <;> simp
@[simp] theorem zZD (ss:List XS) (d:Tk):(vE ss d).length=ss.length+2:=by simp[vE]
@[simp] theorem zXH (ss:List XS) (d:Pl):(uO ss d).length=ss.length+2:=by simp[uO]
@[simp] theorem zKR (ss:List XS) (p:Pt) (c:Int):(uY ss p c).length=ss.length+2:=by unfold uY;split <;> split <;> simp
@[simp] theorem wCH (ss:List XS) (p q:Pt):(qMH ss p q).length=ss.length+2:=by simp[qMH]
def W (ss:List XS):Nat:=ss.length+(ss.map fun x=>x.next.length).sum
theorem qRS (ss qs:List XS):W (ss++qs)=W ss+W qs:=by simp[W];omega
theorem zVV (ss:List XS):ss.length<=W ss:=by simp[W]
theorem zST (l:List Nat):∀ (i a b:Nat),l[i]?=some a->(l.set i b).sum+a=l.sum+b:=by
 induction l with
 | nil=>intro i a b h;simp at h
 | cons y l ih =>
  intro i a b h
  cases i with
  | zero=>simp at h;subst h;simp;omega
  | succ i=>simp at h;have:=ih i a b h;simp;omega
theorem qNZ (ss:List XS) (i z:Nat):W (toX ss i z)<=W ss+1:=by
 unfold toX
 split
 ·rename_i x hx
  have:=zST (ss.map fun x=>x.next.length) i x.next.length (x.next.length+1) (by simp[hx])
  simp only[W,List.length_set,List.map_set,List.length_append,List.length_singleton]at this ⊢
  omega
 omega
theorem zXS {l:List Nat}:∀ {a:Nat},a∈l->a<=l.sum:=by
 induction l with
 | nil=>intro a h;simp at h
 | cons y l ih =>
  intro a h
  rcases List.mem_cons.1 h with rfl|h
  ·simp
  have:=ih h;simp;omega
theorem zRF {ss:List XS} {x:XS} (h:x∈ss):x.next.length<=W ss:=by
 have:x.next.length<=(ss.map fun x=>x.next.length).sum:=zXS (List.mem_map.2 ⟨x,h,rfl⟩)
 simp only[W];omega
theorem zIN (ss:List XS):W (ss++[noX])=W ss+1:=by simp[qRS,W] <;> omega
theorem zYJ (ss:List XS) (d:Tk):W (vE ss d)=W ss+3:=by simp[vE,qRS,W] <;> omega
theorem zUY (ss:List XS) (d:Pl):W (uO ss d)=W ss+3:=by simp[uO,qRS,W] <;> omega
theorem zRG (ss:List XS) (p:Pt) (c:Int):W (uY ss p c)<=W ss+6:=by
 have h0:W (ss++[noX,⟨.no,.no,[p.1]⟩])=W ss+3:=by simp[qRS,W] <;> omega
 have h1:=qNZ (ss++[noX,⟨.no,.no,[p.1]⟩]) p.2 ss.length
 have h2:=qNZ (toX (ss++[noX,⟨.no,.no,[p.1]⟩]) p.2 ss.length) p.2 p.1
 have h3:=qNZ (toX (ss++[noX,⟨.no,.no,[p.1]⟩]) p.2 ss.length) (ss.length+1) ss.length
 have h4:=qNZ (toX (toX (ss++[noX,⟨.no,.no,[p.1]⟩]) p.2 ss.length) p.2 p.1) (ss.length+1) ss.length
 unfold uY
 split <;> split <;> simp only <;> omega
theorem zVW (ss:List XS) (p q:Pt):W (qMH ss p q)<=W ss+6:=by
 have h0:W (ss++[noX,⟨.no,.no,[p.1,q.1]⟩])=W ss+4:=by simp[qRS,W] <;> omega
 have h1:=qNZ (ss++[noX,⟨.no,.no,[p.1,q.1]⟩]) p.2 ss.length
 have h2:=qNZ (toX (ss++[noX,⟨.no,.no,[p.1,q.1]⟩]) p.2 ss.length) q.2 ss.length
 unfold qMH;omega
theorem GS.to {ss:List XS} (h:GS ss) {i z:Nat} (hz:z<ss.length):GS (toX ss i z):=by
 intro x hx
 rw[qDN]
 unfold toX at hx
 split at hx
 ·rename_i y hy
  have hym:=List.mem_of_getElem? hy
  rcases List.mem_or_eq_of_mem_set hx with e|rfl
  ·exact h x e
  refine⟨fun k hk => ?_,fun e=>⟨by simp,((h y hym).2 e).2⟩⟩
  rcases List.mem_append.1 hk with e|e
  ·exact(h y hym).1 k e
  rw[List.mem_singleton.1 e];exact hz
 exact h x hx
theorem GS.more {ss qs:List XS} (h:GS ss) (k:∀ x∈qs,(∀ k∈x.next,k<ss.length+qs.length)/\(x.tk.is=true->x.next≠[]/\x.pl = .no)):GS (ss++qs):=by
 intro x hx
 rw[List.length_append]
 rcases List.mem_append.1 hx with e|e
 ·exact⟨fun k hk=>Nat.lt_of_lt_of_le ((h x e).1 k hk) (by omega),(h x e).2⟩
 exact k x e
theorem GS.new {ss:List XS} (h:GS ss):GS (ss++[noX]):=h.more fun x hx=>by
 rw[List.mem_singleton.1 hx];exact⟨fun k hk=>by simp at hk,fun e=>by simp[Tk.is]at e⟩
theorem GS.rune {ss:List XS} (h:GS ss) (d:Tk):GS (vE ss d):=h.more fun x hx=>by
 simp at hx
 rcases hx with rfl|rfl
 ·exact⟨fun k hk=>by simp at hk,fun e=>by simp[Tk.is]at e⟩
 exact⟨fun k hk=>by simp at hk;subst hk;simp,fun _=>⟨by simp,rfl⟩⟩
theorem GS.place {ss:List XS} (h:GS ss) (d:Pl):GS (uO ss d):=h.more fun x hx=>by
 simp at hx
 rcases hx with rfl|rfl
 ·exact⟨fun k hk=>by simp at hk,fun e=>by simp[Tk.is]at e⟩
 exact⟨fun k hk=>by simp at hk;subst hk;simp,fun e=>by simp[Tk.is]at e⟩
theorem GS.many {ss:List XS} (h:GS ss) {p:Pt} (hp:uL ss p) (c:Int):GS (uY ss p c):=by
 have h0:GS (ss++[noX,⟨.no,.no,[p.1]⟩]):=h.more fun x hx=>by
  simp at hx
  rcases hx with rfl|rfl
  ·exact⟨fun k hk=>by simp at hk,fun e=>by simp[Tk.is]at e⟩
  exact⟨fun k hk=>by simp at hk;subst hk;have:=hp.1;simp;omega,fun e=>by simp[Tk.is]at e⟩
 have h1:=h0.to (i:=p.2) (z:=ss.length) (by simp)
 have h2:=h1.to (i:=p.2) (z:=p.1) (by simp;have:=hp.1;omega)
 have h3:=h1.to (i:=ss.length+1) (z:=ss.length) (by simp)
 have h4:=h2.to (i:=ss.length+1) (z:=ss.length) (by simp)
 unfold uY
 split <;> split <;> assumption
theorem GS.alt {ss:List XS} (h:GS ss) {p q:Pt} (hp:uL ss p) (hq:uL ss q):GS (qMH ss p q):=by
 have h0:GS (ss++[noX,⟨.no,.no,[p.1,q.1]⟩]):=h.more fun x hx=>by
  simp at hx
  rcases hx with rfl|rfl
  ·exact⟨fun k hk=>by simp at hk,fun e=>by simp[Tk.is]at e⟩
  refine⟨fun k hk => ?_,fun e=>by simp[Tk.is]at e⟩
  have:=hp.1;have:=hq.1
  simp at hk
  rcases hk with rfl|rfl <;> simp <;> omega
 exact(h0.to (by simp)).to (by simp)
theorem qDW (ss:List XS) {ss':List XS} (h:ss'.length=ss.length+2):uL ss' (wX ss):=⟨by simp[wX];omega,by simp[wX];omega⟩
def qCB (l:List Int):Prop:=∀ c∈l,0<=c/\c<=1114111
structure Gr (k:Int) (s s':RG):Prop where
 len:s.ss.length<=s'.ss.length
 left:s'.left.length<=s.left.length
 few:(W s'.ss:Int)+8 * s'.left.length<=W s.ss+8 * s.left.length+k
 d0:s.deep<=s'.deep
 d1:s'.deep+s'.left.length<=s.deep+s.left.length
 runes:qCB s.left->qCB s'.left
 g:GS s.ss->GS s'.ss
theorem Gr.refl (s:RG):Gr 0 s s:=⟨by omega,by omega,by omega,by omega,by omega,id,id⟩
theorem Gr.trans {a b:Int} {s t u:RG} (h:Gr a s t) (k:Gr b t u):Gr (a+b) s u :=
 ⟨by have:=h.len;have:=k.len;omega,by have:=h.left;have:=k.left;omega,by have:=h.few;have:=k.few;omega,by have:=h.d0;have:=k.d0;omega,by have:=h.d1;have:=k.d1;omega,fun e=>k.runes (h.runes e),fun e=>k.g (h.g e)⟩
theorem Gr.weak {a b:Int} {s t:RG} (h:Gr a s t) (hab:a<=b):Gr b s t:=⟨h.len,h.left,by have:=h.few;omega,h.d0,h.d1,h.runes,h.g⟩
theorem Gr.drop (n:Nat) (s:RG):Gr 0 s (wS n s) :=
 ⟨by simp[wS],by simp[wS],by simp[wS] <;> omega,by simp[wS],by simp[wS] <;> omega,fun h c hc=>h c (List.mem_of_mem_drop hc),id⟩
theorem Gr.drop1 {s:RG} (h:s.left≠[]):Gr (-8) s (wS 1 s) :=
 have h0:=Gr.drop 1 s
 ⟨h0.len,h0.left,by have:=List.length_pos_iff.2 h;simp[wS] <;> omega,h0.d0,h0.d1,h0.runes,h0.g⟩
theorem Gr.bad (s:RG):Gr 0 s (qSJ s):=⟨Nat.le_refl _,Nat.le_refl _,by simp[qSJ],Int.le_refl _,Int.le_refl _,id,id⟩
theorem Gr.or (b:Bool) (s:RG):Gr 0 s (wL b s):=⟨Nat.le_refl _,Nat.le_refl _,by simp[wL],Int.le_refl _,Int.le_refl _,id,id⟩
theorem Gr.next (w:List UInt8) (s:RG):Gr 0 s (qU w s):=by
 unfold qU;split
 ·exact Gr.drop 1 s
 exact Gr.refl s
theorem yJ {s:RG} (h:0<=zI s):s.left≠[]/\s.bad=false:=by
 unfold zI at h
 split at h
 ·omega
 rename_i e
 refine⟨fun x=>e (.inr x), ?_⟩
 cases hb:s.bad with
 | false=>rfl
 | true=>exact(e (.inl hb)).elim
theorem qIG {w:List UInt8} {s:RG} (h:wB w s=true):s.left≠[]/\s.bad=false:=by
 unfold wB at h
 exact yJ (Int.not_lt.1 fun e=>by simp[e]at h)
theorem Gr.next1 {w:List UInt8} {s:RG} (h:wB w s=true):Gr (-8) s (qU w s):=by
 unfold qU;rw[if_pos h];exact Gr.drop1 (qIG h).1
theorem qQD {w:List UInt8} {s:RG} (h:wB w s=true):(qU w s).left.length+1=s.left.length:=by
 unfold qU;rw[if_pos h]
 have:=List.length_pos_iff.2 (qIG h).1
 simp[wS];omega
theorem Gr.escaped (s:RG):Gr 0 s (zK s).2:=by
 unfold zK
 split
 ·exact Gr.drop 1 s
 split
 ·exact Gr.drop 1 s
 split
 ·exact Gr.bad s
 exact Gr.drop 1 s
theorem Gr.single (s:RG):Gr 0 s (zD s).2:=by
 unfold zD
 split
 ·exact(Gr.next _ s).trans (Gr.escaped _)
 split
 ·exact Gr.bad s
 exact Gr.drop 1 s
theorem Gr.span (s:RG):Gr 0 s (kY s).2:=by
 unfold kY
 simp only
 refine(((Gr.single s).trans (Gr.next [45] _)).trans (b:=0) ?_).trans (Gr.or _ _)
 split
 ·exact Gr.single _
 exact Gr.refl _
theorem qQQ:∀ n l s,Gr 0 s (yO n l s).2/\(yO n l s).2.ss=s.ss
 | 0,l,s=>⟨Gr.refl s,rfl⟩
 | n+1,l,s=>by
  have hn:(qU [93] s).ss=s.ss:=by unfold qU;split <;> rfl
  unfold yO
  split
  ·exact⟨Gr.refl s,rfl⟩
  split
  ·exact⟨Gr.next _ s,hn⟩
  simp only
  split
  ·obtain⟨h1,h2⟩:=qQQ n (l++wF ((qU [93] s).left.getD 1 0)) (wS 2 (qU [93] s))
   exact⟨((Gr.next [93] s).trans (Gr.drop 2 _)).trans h1,h2.trans hn⟩
  obtain⟨h1,h2⟩:=qQQ n (l++[(kY (qU [93] s)).1]) (kY (qU [93] s)).2
  refine⟨((Gr.next [93] s).trans (Gr.span _)).trans h1,h2.trans (Eq.trans ?_ hn)⟩
  have e1:∀ s,(zK s).2.ss=s.ss:=fun s=>by unfold zK;split;rfl;split;rfl;split <;> rfl
  have e2:∀ w s,(qU w s).ss=s.ss:=fun w s=>by unfold qU;split <;> rfl
  have e3:∀ s,(zD s).2.ss=s.ss:=fun s=>by
   unfold zD;split
   ·rw[e1,e2]
   split <;> rfl
  unfold kY
  simp only[wL]
  split
  ·rw[e3,e2,e3]
  rw[e2,e3]
theorem Gr.put {s:RG} {ss:List XS} {k:Int} (hl:s.ss.length<=ss.length) (hw:(W ss:Int)<=W s.ss+k) (hg:GS s.ss->GS ss):Gr k s (wK ss s):=⟨hl,Nat.le_refl _,by simp only[wK];omega,Int.le_refl _,Int.le_refl _,id,hg⟩
theorem Gr.rune (s:RG) (d:Tk):Gr 3 s (wK (vE s.ss d) s):=Gr.put (by simp) (by rw[zYJ];omega) fun h=>h.rune d
theorem Gr.place (s:RG) (d:Pl):Gr 3 s (wK (uO s.ss d) s):=Gr.put (by simp) (by rw[zUY];omega) fun h=>h.place d
theorem zBH (s:RG):Gr 3 s (qBF s).2/\uL (qBF s).2.ss (qBF s).1:=by
 unfold qBF
 simp only
 refine⟨?_,qDW _ (by simp[wK])⟩
 exact((((Gr.next [94] s).trans (qQQ _ _ _).1).trans (Gr.or _ _)).trans (Gr.rune _ _)).weak (by omega)
theorem zEE (c:Int) (s:RG):Gr 3 s (qJS c s).2/\uL (qJS c s).2.ss (qJS c s).1:=⟨Gr.rune s _,qDW _ (by simp[qJS,wK])⟩
theorem qPL (s:RG):Gr 3 s (yW s).2/\uL (yW s).2.ss (yW s).1:=by
 unfold yW
 split
 ·exact⟨((Gr.drop 1 s).trans (Gr.rune (wS 1 s) _)).weak (by omega),qDW _ (by simp[wK])⟩
 obtain⟨h1,h2⟩:=zEE (zK s).1 (zK s).2
 exact⟨((Gr.escaped s).trans h1).weak (by omega),h2⟩
structure RegOK (n:Nat):Prop where
 alt:∀ s,Gr 1 s (qAG n s).2/\uL (qAG n s).2.ss (qAG n s).1
 altl:∀ p s,uL s.ss p->Gr 0 s (qKQ n p s).2/\uL (qKQ n p s).2.ss (qKQ n p s).1
 seq:∀ s,Gr 1 s (xB n s).2/\uL (xB n s).2.ss (xB n s).1
 seql:∀ p s,uL s.ss p->Gr 0 s (qHL n p s).2/\uL (qHL n p s).2.ss (qHL n p s).1
 atom:∀ s,0<s.ss.length->s.left≠[]->Gr (-4) s (qBO n s).2/\uL (qBO n s).2.ss (qBO n s).1
theorem qFM:∀ n,RegOK n
 | 0=>by
  refine⟨fun s => ?_,fun p s hp=>⟨Gr.refl s,hp⟩,fun s => ?_,fun p s hp=>⟨Gr.refl s,hp⟩,fun s h0 hl => ?_⟩
  ·simp only[qAG];exact⟨Gr.put (by simp) (by rw[zIN];omega) fun h=>h.new,by simp[wK],by simp[wK]⟩
  ·simp only[xB];exact⟨Gr.put (by simp) (by rw[zIN];omega) fun h=>h.new,by simp[wK],by simp[wK]⟩
  simp only[qBO];exact⟨(Gr.drop1 hl).weak (by omega),h0,h0⟩
 | n+1=>by
  have ih:=qFM n
  refine⟨fun s => ?_,fun p s hp => ?_,fun s => ?_,fun p s hp => ?_,fun s h0 hl => ?_⟩
  ·simp only[qAG]
   obtain⟨a1,a2⟩:=ih.seq s
   obtain⟨b1,b2⟩:=ih.altl _ _ a2
   exact⟨(a1.trans b1).weak (by omega),b2⟩
  ·simp only[qKQ]
   split
   ·rename_i ht
    have n1:=Gr.next1 ht
    obtain⟨a1,a2⟩:=ih.seq (qU [124] s)
    have hp1:uL (xB n (qU [124] s)).2.ss p:=(hp.le n1.len).le a1.len
    have hg:Gr 6 (xB n (qU [124] s)).2 (wK (qMH (xB n (qU [124] s)).2.ss p (xB n (qU [124] s)).1) (xB n (qU [124] s)).2) :=
     Gr.put (by simp) (by have:=zVW (xB n (qU [124] s)).2.ss p (xB n (qU [124] s)).1;omega) fun h=>h.alt hp1 a2
    obtain⟨b1,b2⟩:=ih.altl (wX (xB n (qU [124] s)).2.ss) (wK (qMH (xB n (qU [124] s)).2.ss p (xB n (qU [124] s)).1) (xB n (qU [124] s)).2) (qDW _ (by simp[wK]))
    exact⟨(n1.trans ((a1.trans hg).trans b1)).weak (by omega),b2⟩
   exact⟨Gr.next _ s,hp.le (Gr.next _ s).len⟩
  ·simp only[xB]
   have h1:Gr 1 s (wK (s.ss++[noX]) s):=Gr.put (by simp) (by rw[zIN];omega) fun h=>h.new
   obtain⟨b1,b2⟩:=ih.seql (s.ss.length,s.ss.length) (wK (s.ss++[noX]) s) ⟨by simp[wK],by simp[wK]⟩
   exact⟨(h1.trans b1).weak (by omega),b2⟩
  ·simp only[qHL]
   split
   ·rename_i hc
    have hl:=(yJ hc.1).1
    obtain⟨a1,a2⟩:=ih.atom s (by have:=hp.1;omega) hl
    generalize ht:qBO n s=q at *
    have key:∀ k:Pt × RG,k=(if wB [42,43,63] q.2=true then(wX (qU [42,43,63] q.2).ss,wK (uY (qU [42,43,63] q.2).ss q.1 (zI q.2)) (qU [42,43,63] q.2)) else(q.1,qU [42,43,63] q.2)) ->
      Gr 0 q.2 k.2/\uL k.2.ss k.1:=by
     rintro k rfl
     split
     ·rename_i htk
      have n1:=Gr.next1 htk
      have hg:Gr 6 (qU [42,43,63] q.2) (wK (uY (qU [42,43,63] q.2).ss q.1 (zI q.2)) (qU [42,43,63] q.2)) :=
       Gr.put (by simp) (by have:=zRG (qU [42,43,63] q.2).ss q.1 (zI q.2);omega) fun h=>h.many (a2.le n1.len) _
      exact⟨(n1.trans hg).weak (by omega),qDW _ (by simp[wK])⟩
     have n1:=Gr.next [42,43,63] q.2
     exact⟨n1,a2.le n1.len⟩
    obtain⟨k1,k2⟩:=key _ rfl
    generalize (if wB [42,43,63] q.2=true then(wX (qU [42,43,63] q.2).ss,wK (uY (qU [42,43,63] q.2).ss q.1 (zI q.2)) (qU [42,43,63] q.2)) else(q.1,qU [42,43,63] q.2))=k at *
    have hg:Gr 1 k.2 (wK (toX k.2.ss p.2 k.1.1) k.2):=Gr.put (by simp) (by have:=qNZ k.2.ss p.2 k.1.1;omega) fun h=>h.to k2.1
    have hp1:=(hp.le a1.len).le k1.len
    obtain⟨b1,b2⟩:=ih.seql (p.1,k.1.2) (wK (toX k.2.ss p.2 k.1.1) k.2) ⟨by simp[wK];exact hp1.1,by simp[wK];exact k2.2⟩
    exact⟨(((a1.trans k1).trans hg).trans b1).weak (by omega),b2⟩
   exact⟨Gr.refl s,hp⟩
  have hd:=Gr.drop1 hl
  have hdl:(wS 1 s).left.length+1=s.left.length:=by have:=List.length_pos_iff.2 hl;simp[wS];omega
  have hdd:(wS 1 s).deep=s.deep:=rfl
  have h0':0<(wS 1 s).ss.length:=h0
  simp only[qBO]
  generalize wS 1 s=t at *
  split
  ·have gu:Gr (-8) s (wL (decide (6<t.deep+1)) (kO 1 t)) :=
    ⟨hd.len,hd.left,hd.few,by have:=hd.d0;simp only[wL,kO];omega,by have:=hd.d1;simp only[wL,kO];omega,hd.runes,hd.g⟩
   split
   ·exact⟨gu.weak (by omega),h0',h0'⟩
   have hud:(wL (decide (6<t.deep+1)) (kO 1 t)).deep=s.deep+1:=by simp[wL,kO,hdd]
   have hul:(wL (decide (6<t.deep+1)) (kO 1 t)).left.length+1=s.left.length:=hdl
   generalize wL (decide (6<t.deep+1)) (kO 1 t)=u at *
   obtain⟨a1,a2⟩:=ih.alt u
   have n1:=Gr.next [41] (qAG n u).2
   have A:=(gu.trans a1).trans n1
   have B:=a1.trans n1
   have B0:=B.d0;have B1:=B.d1
   generalize qU [41] (qAG n u).2=v at *
   refine⟨⟨A.len,A.left, ?_, ?_, ?_,A.runes,A.g⟩,a2.le n1.len⟩
   ·have:=A.few;simp only[kO,wL];omega
   ·simp only[kO,wL];omega
   simp only[kO,wL];omega
  split
  ·obtain⟨a1,a2⟩:=zBH t;exact⟨(hd.trans a1).weak (by omega),a2⟩
  split
  ·exact⟨(hd.trans (Gr.rune t _)).weak (by omega),qDW _ (by simp[wK])⟩
  split
  ·exact⟨(hd.trans (Gr.place t _)).weak (by omega),qDW _ (by simp[wK])⟩
  split
  ·exact⟨(hd.trans (Gr.place t _)).weak (by omega),qDW _ (by simp[wK])⟩
  split
  ·obtain⟨a1,a2⟩:=qPL t;exact⟨(hd.trans a1).weak (by omega),a2⟩
  obtain⟨a1,a2⟩:=zEE (s.left.headD 0) (wL (qDA [41,93,123,125,42,43,63,124] (s.left.headD 0)) t)
  exact⟨((hd.trans (Gr.or _ _)).trans a1).weak (by omega),a2⟩
set_option maxRecDepth 100000
variable {G:qR}
def yP (s p:List UInt8):Bool:=decide (p.length<=s.length) && decide (s.take p.length=p)
@[simp] theorem zRR (s p:List UInt8):AFn Tryz.prog G 103 [.str s,.str p] (.bool (yP s p)):=by
 refine AFn.intro tok Tryz.func103 (by kernel_rfl) rfl ?_
 simp only[Tryz.f103,St.start]
 refine AW.seqRun tok [] (by intro C;conv=>lhs;simp) trivial ?_
 refine AW.seqRun tok [] (by intro C;conv=>lhs;simp) (by simp +contextual) ?_
 exact AW.ret ⟨.inr rfl,_,_,by(conv=>lhs;simp),trivial,by simp[yP]⟩
@[simp] theorem qYE (s p:List UInt8):AFn Tryz.prog G 72 [.str s,.str p] (.bool (yP s p)):=by
 refine AFn.intro tok Tryz.func72 (by kernel_rfl) rfl ?_
 simp only[Tryz.f72,St.start]
 refine AW.seqRun tok [] (by intro C;conv=>lhs;simp) trivial ?_
 refine AW.seqRun tok [.tup [.str s,.str p],.bool (yP s p)] (by intro C;conv=>lhs;simp) (by simp) ?_
 exact AW.ret ⟨.inr rfl,_,_,by(conv=>lhs;simp),trivial,by simp⟩
def qCG (s p:List UInt8):List UInt8:=if yP s p then s.drop p.length else s
@[simp] theorem zRS (s p:List UInt8):AFn Tryz.prog G 144 [.str s,.str p] (.tup [.str (qCG s p),.bool (yP s p)]):=by
 refine AFn.intro tok Tryz.func144 (by kernel_rfl) rfl ?_
 simp only[Tryz.f144,St.start]
 refine AW.seqRun tok [] (by intro C;conv=>lhs;simp) trivial ?_
 refine AW.seq ?_
 refine AW.seqRun tok [.tup [.str s,.str p],.bool (yP s p)] (by intro C;conv=>lhs;simp) (by simp) ?_
 refine AW.cond (c := .tmp 9) (by conv=>lhs;simp) trivial ?_ ?_
 ·intro h1
  simp at h1
  refine AW.seqRun tok [] (by intro C;conv=>lhs;simp) trivial ?_
  exact AW.ret ⟨.inr rfl,_,_,by(conv=>lhs;simp),trivial,by simp[qCG,h1]⟩
 intro h1
 simp at h1
 refine AW.skip ?_
 refine AW.seqRun tok [] (by intro C;conv=>lhs;simp) (by simp[yP]at h1 ⊢; omega) ?_
 exact AW.ret ⟨.inr rfl,_,_,by(conv=>lhs;simp),trivial,by simp[qCG,h1]⟩
@[simp] theorem qKT (s p:List UInt8):AFn Tryz.prog G 105 [.str s,.str p] (.tup [.str (qCG s p),.bool (yP s p)]):=by
 refine AFn.intro tok Tryz.func105 (by kernel_rfl) rfl ?_
 simp only[Tryz.f105,St.start]
 refine AW.seqRun tok [] (by intro C;conv=>lhs;simp) trivial ?_
 refine AW.seqRun tok [.tup [.str s,.str p],.tup [.str (qCG s p),.bool (yP s p)]] (by intro C;conv=>lhs;simp) (by simp) ?_
 exact AW.ret ⟨.inr rfl,_,_,by(conv=>lhs;simp),trivial,by simp⟩
theorem wBY:zIQ Tryz.prog 226 Extern.BytealgIndexByte.indexByte:=fun args w=>run_callFunc_extern Tryz.func226 (by kernel_rfl) (by kernel_rfl) (by kernel_rfl) (by kernel_rfl) args w
@[simp] theorem qRX (s:List UInt8) (n:Int):AFn Tryz.prog G 198 [.str s,.int .u8 n] (.int .i64 (Lib.indexByte s n.toNat.toUInt8)):=by
 refine AFn.intro tok Tryz.func198 (by kernel_rfl) rfl ?_
 simp only[Tryz.f198,St.start]
 refine AW.seqRun tok [] (by intro C;conv=>lhs;simp) trivial ?_
 refine AW.seqRunX tok 2 [] [] rfl rfl (by intro C;conv=>lhs;simp) trivial (qYG (s:=s) (n:=n) (p:=True) (q:=True) (r:=True) wBY rfl (by simp) trivial (by simp) trivial (by simp) trivial) (by intro C;conv=>lhs;simp) trivial ?_
 exact AW.ret ⟨.inr rfl,_,_,by(conv=>lhs;simp),trivial,by simp⟩
@[simp] theorem qET (s:List UInt8) (n:Int):AFn Tryz.prog G 155 [.str s,.int .u8 n] (.int .i64 (Lib.indexByte s n.toNat.toUInt8)):=by
 refine AFn.intro tok Tryz.func155 (by kernel_rfl) rfl ?_
 simp only[Tryz.f155,St.start]
 refine AW.seqRun tok [] (by intro C;conv=>lhs;simp) trivial ?_
 refine AW.seqRun tok [.tup [.str s,.int .u8 n],.int .i64 (Lib.indexByte s n.toNat.toUInt8)] (by intro C;conv=>lhs;simp) (by simp) ?_
 exact AW.ret ⟨.inr rfl,_,_,by(conv=>lhs;simp),trivial,by simp⟩
theorem qSD (l:List UInt8) (c:UInt8):0<=Lib.indexByte l c↔c∈l:=by
 induction l with
 | nil=>simp[Lib.indexByte]
 | cons b l ih =>
  have hge:=Lib.indexByte_ge l c
  unfold Lib.indexByte
  by_cases h:b=c
  ·subst h;simp
  simp only[beq_iff_eq,h,if_false,List.mem_cons,Ne.symm h,false_or,<-ih]
  by_cases h2:Lib.indexByte l c = -1
  ·simp[h2]
  simp only[h2,if_false];omega
theorem qKI {s:List UInt8} {pos:Nat} (h:pos<s.length):1<=(uR s pos).2:=Lib.decode_width_pos _ _ (by simpa[ByteArray.size]using h)
theorem qIX {s:List UInt8} {pos:Nat} (h:pos<s.length) (ha:(s.getD pos 0).toNat<128):uR s pos=((s.getD pos 0).toNat,1):=by
 have hs:pos<(⟨s.toArray⟩:ByteArray).size:=by simpa[ByteArray.size]using h
 have e:(⟨s.toArray⟩:ByteArray)[pos]'hs=s.getD pos 0:=by simp[List.getD_eq_getElem?_getD,h];rfl
 unfold uR
 rw[decode_ascii _ _ hs (by rw[e];exact ha),e]
theorem zPV {s:List UInt8} {pos:Nat} (h:pos<s.length) (ha:128<=(s.getD pos 0).toNat):128<=(uR s pos).1:=by
 have e:((⟨s.toArray⟩:ByteArray).get! (pos+0)).toNat=(s.getD pos 0).toNat:=by
  simp[ByteArray.get!,List.getD_eq_getElem?_getD,h]
 unfold uR Utf8.decode
 simp only[e]
 rw[if_neg (by omega)]
 split
 ·split
  ·simp only[ge_iff_le]at *; omega
  simp[Utf8.runeError]
 split
 ·split
  ·rename_i hc;simp only[ge_iff_le,Bool.and_eq_true,decide_eq_true_eq]at hc;omega
  simp[Utf8.runeError]
 split
 ·split
  ·rename_i hc;simp only[ge_iff_le,Bool.and_eq_true,decide_eq_true_eq]at hc;omega
  simp[Utf8.runeError]
 simp[Utf8.runeError]
def qQR (p:Int->Bool) (s:List UInt8):Nat->Nat->Int
 | 0,_ => -1
 | f+1,pos=>if pos<s.length then(if p (uR s pos).1 then(pos:Int) else qQR p s f (pos+(uR s pos).2)) else -1
def qCF (p:Int->Bool) (s:List UInt8):Int:=qQR p s (s.length+1) 0
theorem qUO (p:Int->Bool) (s:List UInt8):∀ (f g pos:Nat),s.length<pos+f->s.length<pos+g->qQR p s f pos=qQR p s g pos
 | 0,0,_,_,_=>rfl
 | 0,g+1,pos,h,_=>by simp only[qQR];rw[if_neg (by omega)]
 | f+1,0,pos,_,h=>by simp only[qQR];rw[if_neg (by omega)]
 | f+1,g+1,pos,hf,hg=>by
  simp only[qQR]
  by_cases h:pos<s.length
  ·rw[if_pos h,if_pos h]
   split
   ·rfl
   have:=qKI h
   exact qUO p s f g _ (by omega) (by omega)
  rw[if_neg h,if_neg h]
def qEY (p:Int->Bool) (s:List UInt8) (pos:Nat):Int:=qQR p s (s.length+1-pos) pos
theorem qUP {p:Int->Bool} {s:List UInt8} {pos:Nat} (h:¬ pos<s.length):qEY p s pos = -1:=by
 unfold qEY;cases hf:s.length+1-pos with
 | zero=>rfl
 | succ f=>simp only[qQR];rw[if_neg h]
theorem qLT {p:Int->Bool} {s:List UInt8} {pos:Nat} (h:pos<s.length) (hp:p (uR s pos).1=true):qEY p s pos=pos:=by
 unfold qEY;rw[show s.length+1-pos=(s.length-pos)+1 by omega];simp only[qQR];rw[if_pos h,if_pos hp]
theorem qQS {p:Int->Bool} {s:List UInt8} {pos:Nat} (h:pos<s.length) (hp:p (uR s pos).1=false):qEY p s pos=qEY p s (pos+(uR s pos).2):=by
 unfold qEY;rw[show s.length+1-pos=(s.length-pos)+1 by omega];simp only[qQR]
 have:=qKI h
 rw[if_pos h,if_neg (by simp[hp])];exact qUO p s _ _ _ (by omega) (by omega)
theorem qUL (p:Int->Bool) (s:List UInt8):qCF p s=qEY p s 0:=by simp[qCF,qEY]
theorem qNI {p:Int->Bool} (hbig:∀ n:Int,128<=n->p n=true) (s:List UInt8):∀ (f pos:Nat),f=s.length-pos->pos<=s.length->qEY p s pos=if(s.drop pos).all (fun b => !p b.toNat) then -1 else((pos+((s.drop pos).takeWhile fun b => !p b.toNat).length:Nat):Int)
 | 0,pos,hf,hp=>by
  rw[qUP (by omega),List.drop_eq_nil_of_le (by omega)];simp
 | f+1,pos,hf,hp=>by
  have hlt:pos<s.length:=by omega
  have hd:s.drop pos=s.getD pos 0::s.drop (pos+1):=by
   rw[List.drop_eq_getElem_cons hlt];congr 1;simp[List.getD_eq_getElem?_getD,hlt]
  rw[hd]
  have hda0:=fun h=>qIX (s:=s) (pos:=pos) hlt h
  have hdb0:=fun h=>zPV (s:=s) (pos:=pos) hlt h
  clear hd
  generalize s.getD pos 0=c at *
  by_cases ha:c.toNat<128
  ·have hda:=hda0 ha
   cases hpb:p ((c.toNat:Nat):Int)with
   | true=>rw[qLT hlt (by rw[hda];exact hpb)];simp[hpb]
   | false =>
    rw[qQS hlt (by rw[hda];exact hpb),hda,qNI hbig s f (pos+1) (by omega) (by omega)]
    simp only[List.all_cons,hpb,Bool.not_false,Bool.true_and,List.takeWhile_cons,if_true,List.length_cons]
    split <;> first|rfl|(congr 1;omega)
  have hb:=hdb0 (by omega)
  rw[qLT hlt (hbig _ (by omega))]
  have:p ((c.toNat:Nat):Int)=true:=hbig _ (by omega)
  simp[this]
theorem qXD {p:Int->Bool} (hbig:∀ n:Int,128<=n->p n=true) (s:List UInt8):qCF p s=if s.all (fun b => !p b.toNat) then -1 else(((s.takeWhile fun b => !p b.toNat).length:Nat):Int):=by
 rw[qUL,qNI hbig s _ 0 rfl (by omega)];simp
end Go.Proofs.YtgcbapchinideaaGreatDoor
namespace Go.Proofs.YtgcbapchinideaaGreatDoor.Sy
open Go
section
variable {P:Program} {G:qR} {Q:Exit->St->Prop} {st:St}
def wDT (Q:Exit->St->Prop):Exit->St->Prop
 | .goto _,_=>False
 | e,s=>Q e s
theorem AW.scope {c:Code} (h:AW P G c (wDT Q) st):AW P G (.scope c) Q st:=fun x M μ tmps w hg r=>wp_scope_straight (wp_mono (h x M μ tmps w hg r) (by
 rintro e a w' ⟨s,M',μ',r',hd,q⟩
 cases e <;> first|exact⟨s,M',μ',r',hd,q⟩|exact q.elim))
end
end Go.Proofs.YtgcbapchinideaaGreatDoor.Sy
namespace Go.Proofs.YtgcbapchinideaaGreatDoor
open Sy Go
set_option maxRecDepth 100000
set_option maxHeartbeats 4000000
set_option linter.all false
variable {G:qR}
theorem zWI {c:Int} (h0:0<=c) (h1:c<128):IntKind.u8.wrap c=c:=by
 unfold IntKind.wrap
 simp[IntKind.bits,IntKind.signed]
 omega
theorem zBK (w:List UInt8) (c:Int) (h0:0<=c) (h1:c<128):AFn Tryz.prog G 233 [.str w,.int .i32 c] (.int .i64 (Lib.indexByte w c.toNat.toUInt8)):=by
 refine AFn.introU tok Tryz.func233 (by kernel_rfl) rfl rfl ?_
 simp only[Tryz.f233,qG,List.map_cons,List.map_nil]
 have hw:=zWI h0 h1
 have hI:=qET (G:=G) w c
 refine rgn [] [[0,1]] ?_
 refine op3 ?_
 refine qA (AW.block (rgn [] [[],[],[],[],[],[0,1,166],[0,1,160]] ?_))
 iterate 3 refine op3 ?_
 iterate 2 refine op4 ?_
 iterate 2 refine op3 ?_
 refine qA (cnd ?_ ?_)
 ·intro h160
  try simp at h160
  refine rgn [.nilp,.int .i64 (Lib.indexByte w c.toNat.toUInt8)] [[],[],[],[170],[4]] ?_
  iterate 5 refine op3 ?_ (hv:=by first|exact True.intro|(simp[hw];done)|omega|simp)
  exact qA (AW.ret qI)
 intro h160
 try simp at h160
 omega
theorem qVO (c:Int):AFn Tryz.prog G 243 [.int .i32 c] (.bool (Utf8.valid c)):=by
 refine AFn.introU tok Tryz.func243 (by kernel_rfl) rfl rfl ?_
 simp only[Tryz.f243,qG,List.map_cons,List.map_nil]
 rw[validRune_eq c]
 refine rgn [] [[0]] ?_
 refine op3 ?_
 refine qA (AW.seq (AW.block (rgn [] [[],[],[],[],[],[0,9],[0,3]] ?_)))
 iterate 3 refine op3 ?_
 iterate 2 refine op4 ?_
 iterate 2 refine op3 ?_
 refine qA (cnd ?_ ?_)
 ·intro h3
  try simp at h3
  refine rgn [] [[]] ?_
  refine op3 ?_
  refine qA ?_
  exact AW.ret (qI (k:=by simp[validRune];omega))
 intro h3
 try simp at h3
 refine rgn [] [[],[],[],[],[13,15],[],[10]] ?_
 iterate 3 refine op3 ?_
 iterate 2 refine op4 ?_
 iterate 2 refine op3 ?_
 refine qA (cnd ?_ ?_)
 ·intro h10
  try simp at h10
  refine rgn [] [[]] ?_
  refine op3 ?_
  refine qA ?_
  exact AW.ret (qI (k:=by simp[validRune];omega))
 intro h10
 try simp at h10
 refine AW.skip (rgn [] [[]] ?_)
 refine op3 ?_
 refine qA ?_
 exact AW.ret (qI (k:=by simp[validRune];omega))
theorem zPB {w:List UInt8} (hw:∀ b∈w,b.toNat<128) {k:UInt8} (hk:128<=k.toNat):Lib.indexByte w k = -1:=by
 have h:¬ 0<=Lib.indexByte w k:=fun h=>by
  have:=hw k ((qSD w k).1 h)
  omega
 have:=Lib.indexByte_ge w k
 omega
theorem zNT {w:List UInt8} (hw:∀ b∈w,b.toNat<128) {pos:Nat} (h:pos<w.length):∃ b,w[pos]?=some b/\uR w pos=(b.toNat,1)/\b.toNat<128:=by
 have hb:=hw w[pos] (List.getElem_mem h)
 refine⟨w[pos],by simp[h], ?_,hb⟩
 have hg:w.getD pos 0=w[pos]:=by rw[List.getD_eq_getElem?_getD,List.getElem?_eq_getElem h];rfl
 have:=qIX (s:=w) (pos:=pos) h (by rw[hg];exact hb)
 rw[hg]at this;exact this
theorem zBJ (w:List UInt8) (c:Int) (h0:128<=c) (h1:c<=1114111) (hw:∀ b∈w,b.toNat<128) (hl:w.length<=100):AFn Tryz.prog G 233 [.str w,.int .i32 c] (.int .i64 (-1)):=by
 refine AFn.introU tok Tryz.func233 (by kernel_rfl) rfl rfl ?_
 simp only[Tryz.f233,qG,List.map_cons,List.map_nil]
 have hV:=qVO (G:=G) c
 refine rgn [] [[0,1]] ?_
 refine op3 ?_
 refine qA (AW.block (rgn [] [[],[],[],[],[],[0,1,166],[0,1,160]] ?_))
 iterate 3 refine op3 ?_
 iterate 2 refine op4 ?_
 iterate 2 refine op3 ?_
 refine qA (cnd ?_ ?_)
 ·intro h160
  try simp at h160
  omega
 intro h160
 try simp at h160
 refine rgn [] [[],[],[0,1,171]] ?_
 iterate 3 refine op3 ?_
 refine qA (cnd ?_ ?_)
 ·intro h171
  try simp at h171
  refine AW.seq (rgn [] [[],[175]] ?_)
  iterate 2 refine op3 ?_
  refine qA (AW.block ?_)
  refine AW.loop (α:=Nat) (fun pos=>pos<=w.length) (fun pos=>⟨zA 187 [(175,.it 175)],[],[(175,.iter w pos)],0⟩) (fun pos=>w.length-pos) (0) (by omega) ⟨qE (by simp),rfl,by simp,by simp⟩ ?_
  rintro pos hp
  by_cases hs38:pos<w.length
  ·
   refine rgn [.bool true] [[],[]] ?_
   iterate 2 refine oq1 tok hs38 ?_
   refine qA (AW.seq (cnd ?_ ?_))
   ·intro h177
    try simp at h177
    obtain⟨b,hb,hd1,hd2⟩:=zNT hw hs38
    rw[hd1]
    refine AW.skip (AW.block (rgn [] [[],[],[],[5,6,175]] ?_))
    iterate 4 refine op3 ?_
    refine qA (rgn [] [[],[5,175,181]] ?_)
    iterate 2 refine op3 ?_
    refine qA (cnd ?_ ?_)
    ·intro h181
     try simp at h181
     omega
    intro h181
    try simp at h181
    refine AW.skip ?_
    exact⟨pos+1,by omega,by omega,qE (by simp),rfl,by simp,by simp⟩
   intro h177
   try simp at h177
  ·
   refine rgn [.bool false] [[],[]] ?_
   iterate 2 refine oq1 tok hs38 ?_
   refine qA (AW.seq (cnd ?_ ?_))
   ·intro h177
    try simp at h177
   intro h177
   try simp at h177
   refine AW.exit ?_
   simp
   refine rgn [] [[]] ?_
   refine op3 ?_
   exact qA (AW.ret qI)
 intro h171
 try simp at h171
 refine rgn [.nilp,.bool (Utf8.valid c)] [[],[],[],[0,1,183]] ?_
 iterate 4 refine oq1 tok hV ?_
 refine qA (cnd ?_ ?_)
 ·intro h183
  try simp at h183
  refine rgn [] [[]] ?_
  refine op3 ?_
  exact qA (AW.ret qI)
 intro h183
 try simp at h183
 have hv:Utf8.valid c=true:=by simpa using h183
 obtain⟨e1,e2,e3⟩:=zFI c hv h0
 obtain⟨k,hk⟩:∃ k,(encL c)[(encL c).length-1]?=some k:=⟨(encL c)[(encL c).length-1]'(by omega),by simp⟩
 have hk8:=e3 k hk
 refine AW.scope ?_
 refine rgn [] [[]] ?_
 refine op3 ?_
 refine qJ ?_
 refine qB.stepK [0,18] (zIV tok rfl (by simp;rfl) trivial rfl rfl (by omega)) (by conv=>lhs;simp) rfl ?_
 refine qB.run [[0,7]] ?_
 refine op3 ?_
 refine qA (rgn [] [[],[],[],[0,7,8]] ?_)
 iterate 4 refine op3 ?_
 refine qA (rgn [] [[],[0,7,8,9]] ?_)
 iterate 2 refine op3 ?_
 refine qA (rgn [] [[0,7,8,9]] ?_)
 refine op3 ?_
 refine qA (AW.seq (AW.block ?_))
 refine AW.loop (α:=Unit) (fun _=>True) (fun _=>⟨zA 187 [(0,.p (.str w)),(7,.p (.str (encL c))),(8,.p (.int .i64 (((encL c).length:Int)-1))),(9,.p (.int .i64 (((encL c).length:Int)-1)))],[],[],0⟩) (fun _=>0) (()) trivial ⟨qE (by simp),rfl,by simp,by simp⟩ ?_
 rintro _ _
 refine AW.seq (rgn [] [[],[],[],[0,7,8,9,26]] ?_)
 iterate 4 refine op3 ?_
 refine qA (cnd ?_ ?_)
 ·intro h26
  try simp at h26
  obtain⟨b,hb⟩:∃ b,w[(encL c).length-1]?=some b:=⟨w[(encL c).length-1]'(by omega),by simp⟩
  have hb8:=hw b (List.mem_of_getElem? hb)
  have hI:=qET (G:=G) (w.drop (encL c).length) k.toNat
  have hI2:=zPB (w:=w.drop (encL c).length) (fun x hx=>hw x (List.mem_of_mem_drop hx)) hk8
  rw[show(k.toNat:Int).toNat.toUInt8=k from by simp,hI2]at hI
  refine AW.skip (AW.block ?_)
  refine AW.scope ?_
  refine AW.seq ?_
  refine AW.seqRunDrawK tok mixed [0,7,8,9,33] 7 [[0],[9],[27,28],[7],[8],[30,31],[29,32]] [.int .u8 b.toNat,.int .u8 k.toNat] [] (by kernel_rfl) (by intro C;conv=>lhs;simp) (by exact⟨⟨by omega,b,by simpa using hb,rfl⟩,by omega,k,by simpa using hk,rfl⟩) (by simp[Sm.sum,Sm.foot,Sm.tch,Sm.refs];kernel_rfl) (by intro C;conv=>lhs;simp) (by first|exact True.intro|omega|simp) ?_
  refine cnd ?_ ?_
  ·intro h33
   try simp at h33
   refine AW.seqDrawS tok mixed 8 [[0],[9],[35],[34,36],[7],[8],[38,39],[37,40]] [.int .u8 k.toNat,.nilp,.int .i64 (-1)] [] (by kernel_rfl) ?_
   iterate 8 refine d1 ?_ (hv:=by first|exact True.intro|exact hI|exact⟨by omega,k,by simpa using hk,rfl⟩|omega;done|omega|simp)
   refine DGo.nil (by kernel_rfl) ⟨by kernel_rfl, ?_⟩
   refine qB.run [[0,7,8,9,11]] ?_
   refine op3 ?_
   refine qA (AW.seq (rgn [] [[],[0,7,8,9,11,43]] ?_))
   iterate 2 refine op3 ?_
   refine qA (cnd ?_ ?_)
   ·intro h43
    try simp at h43
    refine rgn [] [[]] ?_
    refine op3 ?_
    exact qA (AW.ret qI)
   intro h43
   try simp at h43
  intro h33
  try simp at h33
  omega
 intro h26
 try simp at h26
 refine AW.exit ?_
 simp
 refine AW.seq (rgn [] [[]] ?_)
 refine op3 ?_
 exact qA (AW.ret qI)
theorem qEE (w:List UInt8) (c:Int) (h0:0<=c) (h1:c<=1114111) (hw:∀ b∈w,b.toNat<128) (hl:w.length<=100):AFn Tryz.prog G 210 [.str w,.int .i32 c] (.bool (qDA w c)):=by
 refine AFn.introU tok Tryz.func210 (by kernel_rfl) rfl rfl ?_
 simp only[Tryz.f210,qG,List.map_cons,List.map_nil]
 obtain⟨n,hn,hI⟩:∃ n:Int,qDA w c=decide (0<=n)/\AFn Tryz.prog G 233 [.str w,.int .i32 c] (.int .i64 n):=by
  by_cases hc:c<128
  ·exact⟨_,by simp[qDA,h0,hc],zBK w c h0 hc⟩
  exact⟨-1,by simp[qDA,hc],zBJ w c (by omega) h1 hw hl⟩
 rw[hn]
 refine rgn [] [[0,1]] ?_
 refine op3 ?_
 refine qA (rgn [.nilp,.int .i64 n] [[],[],[7],[],[4]] ?_)
 iterate 5 refine oq1 tok hI ?_
 exact qA (AW.ret qI)
theorem zXT (s:Sp) (c:Int):AFn Tryz.prog G 262 [.agg [.int .i32 s.lo,.int .i32 s.hi],.ref [.int .i32 c]] (.bool (decide (s.lo<=c) && decide (c<=s.hi))):=by
 refine AFn.introU tok Tryz.func262 (by kernel_rfl) rfl rfl ?_
 simp only[Tryz.f262,qG,List.map_cons,List.map_nil]
 refine rgn [] [[],[1,2]] ?_
 iterate 2 refine op3 ?_
 refine qA (rgn [] [[],[],[],[],[1,2,8],[],[],[],[8,12],[],[3]] ?_)
 iterate 5 refine op3 ?_
 iterate 4 refine op4 ?_
 iterate 2 refine op3 ?_
 exact qA (AW.ret qI)
theorem zEW (l:List Sp) (g:FuncId) (cs:List PD) (p:Sp->Bool) (hg:∀ v∈l,AFn Tryz.prog G g [spC v,.ref cs] (.bool (p v))):AFn Tryz.prog G 263 [.sl 2 (l.map spC),.clo g [.ref cs]] (.int .i64 (match l.findIdx? p with|some i=>(i:Int)|none => -1)):=by
 refine AFn.introU tok Tryz.func263 (by kernel_rfl) rfl rfl ?_
 simp only[Tryz.f263,qG,List.map_cons,List.map_nil]
 refine rgn [] [[0,1]] ?_
 refine op3 ?_
 refine qA (AW.seq (rgn [] [[],[],[0,1,7,8]] ?_))
 iterate 3 refine op3 ?_
 refine qA (AW.block ?_)
 refine AW.intFactU (i:=7) rfl (by decide) ?_;intro hlen;simp at hlen
 refine AW.loop (α:=Nat) (fun k=>k<=l.length/\(l.take k).all (fun v => !p v)=true) (fun k=>⟨zA 19 [(0,.p (.sl 2 (l.map spC))),(1,.p (.clo g [.ref cs])),(7,.p (.int .i64 l.length)),(8,.p (.int .i64 k))],[],[],0⟩) (fun k=>l.length-k) (0) ⟨by omega,rfl⟩ ⟨qE (by simp),rfl,by simp,by simp⟩ ?_
 rintro k ⟨hk,hall⟩
 refine rgn [] [[]] ?_
 refine op3 ?_
 refine qA (AW.seq (cnd ?_ ?_))
 ·intro h9
  try simp at h9
  obtain⟨v,hv⟩:∃ v,l[k]?=some v:=⟨l[k],by simp[h9]⟩
  have hgv:=hg v (List.mem_of_getElem? hv)
  refine AW.skip (AW.seq (AW.block (rgn [] [[],[0,1,5,7,8]] ?_)))
  iterate 2 refine op3 ?_
  refine qA (rgn [spC v,.nilp,.bool (p v)] [[],[],[],[],[],[0,1,5,7,8,16]] ?_)
  iterate 6 refine op3 ?_ (hv:=by first|exact True.intro|(simp[hv];done)|(simp[spC];done)|(simp at hgv ⊢; exact hgv);done|omega|simp)
  refine qA (cnd ?_ ?_)
  ·intro h16
   try simp at h16
   have hf:l.findIdx? p=some k:=by
    rw[List.findIdx?_eq_some_iff_getElem]
    have h9':=h9
    refine⟨h9, ?_,fun j hj => ?_⟩
    ·rw[List.getElem?_eq_getElem h9]at hv;cases hv;exact h16
    have:=List.all_eq_true.1 hall (l[j]'(by omega)) (List.mem_iff_getElem.2 ⟨j,by simp;omega,by simp⟩)
    simpa using this
   refine rgn [] [[],[4]] ?_
   iterate 2 refine op3 ?_
   refine qA ?_
   exact AW.ret (qI (k:=by simp[hf]))
  intro h16
  try simp at h16
  refine AW.skip (rgz [] [[],[0,1,7,8]] ?_)
  iterate 2 refine op3 ?_
  refine qA ?_
  exact⟨k+1,⟨by omega,by rw[List.take_add_one,hv,List.all_append,hall];simpa using h16⟩,by omega,qE (by simp),rfl,by simp,by simp⟩
 intro h9
 try simp at h9
 rw[List.take_of_length_le h9]at hall
 have hf:l.findIdx? p=none:=by
  rw[List.findIdx?_eq_none_iff];intro x hx;simpa using List.all_eq_true.1 hall x hx
 refine AW.exit ?_
 simp
 refine rgn [] [[]] ?_
 refine op3 ?_
 refine qA ?_
 exact AW.ret (qI (k:=by simp[hf]))
theorem qSG (l:List Sp) (g:FuncId) (cs:List PD) (p:Sp->Bool) (hg:∀ v∈l,AFn Tryz.prog G g [spC v,.ref cs] (.bool (p v))):AFn Tryz.prog G 261 [.sl 2 (l.map spC),.clo g [.ref cs]] (.bool (l.any p)):=by
 refine AFn.introU tok Tryz.func261 (by kernel_rfl) rfl rfl ?_
 simp only[Tryz.f261,qG,List.map_cons,List.map_nil]
 have hi:=zEW l g cs p hg
 have ha:l.any p=decide (0<=(match l.findIdx? p with|some i=>(i:Int)|none => -1)):=by
  cases h:l.findIdx? p with
  | none=>simp;intro x hx;simpa using List.findIdx?_eq_none_iff.1 h x hx
  | some i =>
   obtain⟨h1,h2,_⟩:=List.findIdx?_eq_some_iff_getElem.1 h
   simp;exact⟨_,List.getElem_mem h1,h2⟩
 rw[ha]
 generalize (match l.findIdx? p with|some i=>(i:Int)|none => -1)=n at *
 refine rgn [] [[0,1]] ?_
 refine op3 ?_
 refine qA (rgn [.nilp,.int .i64 n] [[],[],[7],[],[4]] ?_)
 iterate 5 refine oq1 tok hi ?_
 exact qA (AW.ret qI)
theorem zPA (l:List Sp) (c:Int):AFn Tryz.prog G 257 [.sl 2 (l.map spC),.int .i32 c] (.bool (inR l c)):=by
 refine AFn.introU tok Tryz.func257 (by kernel_rfl) rfl rfl ?_
 simp only[Tryz.f257,qG,List.map_cons,List.map_nil]
 have hi:=qSG (G:=G) l 262 [.int .i32 c] (fun s=>decide (s.lo<=c) && decide (c<=s.hi)) fun v _=>zXT v c
 have e:(l.any fun s=>decide (s.lo<=c) && decide (c<=s.hi))=inR l c:=rfl
 rw[e]at hi
 refine rgn [] [[],[0,3]] ?_
 iterate 2 refine op3 ?_
 refine qA (rgn [.nilp,.bool (inR l c)] [[],[]] ?_)
 iterate 2 refine oq1 tok hi ?_
 refine qJ ?_
 refine qB.freezeV 3 (by conv=>lhs;simp) ?_
 refine qB.run [[7],[4]] ?_
 iterate 2 refine oq1 tok hi ?_
 exact qA (AW.ret qI)
theorem zYH (c:Int):AFn Tryz.prog G 246 [.int .i32 c] (.bool (Tk.any.run c)):=by
 refine AFn.introU tok Tryz.func246 (by kernel_rfl) rfl rfl ?_
 simp only[Tryz.f246,qG,List.map_cons,List.map_nil]
 refine rgn [] [[0]] ?_
 refine op3 ?_
 refine qA (rgn [] [[],[],[2]] ?_)
 iterate 3 refine op3 ?_
 refine qA ?_
 exact AW.ret (qI (k:=by simp[Tk.run]))
theorem zYF (a e:Int):AFn Tryz.prog G 248 [.int .i64 a,.int .i64 e] (.bool (Pl.beg.run a e)):=by
 refine AFn.introU tok Tryz.func248 (by kernel_rfl) rfl rfl ?_
 simp only[Tryz.f248,qG,List.map_cons,List.map_nil]
 refine rgn [] [[0]] ?_
 refine op3 ?_
 refine qA (rgn [] [[],[],[4]] ?_)
 iterate 3 refine op3 ?_
 refine qA ?_
 exact AW.ret (qI (k:=by simp[Pl.run]))
theorem zXV (a e:Int):AFn Tryz.prog G 249 [.int .i64 a,.int .i64 e] (.bool (Pl.fin.run a e)):=by
 refine AFn.introU tok Tryz.func249 (by kernel_rfl) rfl rfl ?_
 simp only[Tryz.f249,qG,List.map_cons,List.map_nil]
 refine rgn [] [[0,1]] ?_
 refine op3 ?_
 refine qA (rgn [] [[],[],[7],[4]] ?_)
 iterate 4 refine op3 ?_
 refine qA ?_
 exact AW.ret (qI (k:=by simp[Pl.run]))
theorem zTG (d c:Int):AFn Tryz.prog G 260 [.int .i32 c,.ref [.int .i32 d]] (.bool ((Tk.one d).run c)):=by
 refine AFn.introU tok Tryz.func260 (by kernel_rfl) rfl rfl ?_
 simp only[Tryz.f260,qG,List.map_cons,List.map_nil]
 refine rgn [] [[0,1]] ?_
 refine op3 ?_
 refine qA (rgn [] [[],[],[6],[3]] ?_)
 iterate 4 refine op3 ?_
 refine qA ?_
 exact AW.ret (qI (k:=by simp[Tk.run]))
theorem zUM (l:List Sp) (c:Int):AFn Tryz.prog G 258 [.int .i32 c,.ref [.sl 2 (l.map spC)]] (.bool ((Tk.cls l).run c)):=by
 refine AFn.introU tok Tryz.func258 (by kernel_rfl) rfl rfl ?_
 simp only[Tryz.f258,qG,List.map_cons,List.map_nil]
 have hi:=zPA (G:=G) l c
 refine rgn [] [[0,1]] ?_
 refine op3 ?_
 refine qA (rgn [.nilp,.bool (inR l c)] [[],[],[6],[3]] ?_)
 iterate 4 refine oq1 tok hi ?_
 refine qA ?_
 exact AW.ret (qI (k:=by simp[Tk.run]))
theorem zKZ (l:List Sp) (b:Bool) (c:Int):AFn Tryz.prog G 256 [.int .i32 c,.ref [.sl 2 (l.map spC)],.ref [.bool b]] (.bool ((Tk.items l b).run c)):=by
 refine AFn.introU tok Tryz.func256 (by kernel_rfl) rfl rfl ?_
 simp only[Tryz.f256,qG,List.map_cons,List.map_nil]
 have hi:=zPA (G:=G) l c
 refine rgn [] [[0,1,2]] ?_
 refine op3 ?_
 refine qA ?_
 refine AW.seqRunDrawK tok mixed [4] 5 [[1],[0],[5,6],[2],[7,8]] [.nilp,.bool (inR l c)] [] (by kernel_rfl) (by intro C;conv=>lhs;simp) (by exact hi) (by simp[Sm.sum,Sm.foot,Sm.tch,Sm.refs];kernel_rfl) (by intro C;conv=>lhs;simp) (by first|exact True.intro|omega|simp) ?_
 exact AW.ret (qI (k:=by simp[Tk.run]))
theorem zCD (c:Int) (h:wF c≠[]):AFn Tryz.prog G 254 [.int .i32 c] (.sl 2 ((wF c).map spC)):=by
 refine AFn.introU tok Tryz.func254 (by kernel_rfl) rfl rfl ?_
 simp only[Tryz.f254,qG,List.map_cons,List.map_nil]
 refine rgn [] [[0]] ?_
 refine op3 ?_
 refine qA (AW.seq (rgn [] [[3]] ?_))
 refine op3 ?_
 refine qA (AW.block (rgn [] [[],[3,4]] ?_))
 iterate 2 refine op3 ?_
 refine qA (cnd ?_ ?_)
 ·intro h4
  try simp at h4
  refine rgn [.agg [.int .i32 48,.int .i32 57]] [[],[],[2]] ?_
  iterate 3 refine op3 ?_
  refine qA ?_
  exact AW.ret (qI (k:=by simp[wF,h4,spC]))
 intro h4
 try simp at h4
 refine rgn [] [[],[3,8]] ?_
 iterate 2 refine op3 ?_
 refine qA (cnd ?_ ?_)
 ·intro h8
  try simp at h8
  refine rgn [.agg [.int .i32 48,.int .i32 57],.agg [.int .i32 97,.int .i32 122],.agg [.int .i32 65,.int .i32 90],.agg [.int .i32 95,.int .i32 95]] [[],[],[],[],[14],[2]] ?_
  iterate 6 refine op3 ?_
  refine qA ?_
  exact AW.ret (qI (k:=by simp[wF,h8,spC]))
 intro h8
 try simp at h8
 refine rgn [] [[],[15]] ?_
 iterate 2 refine op3 ?_
 refine qA (cnd ?_ ?_)
 ·intro h15
  try simp at h15
  refine rgn [.agg [.int .i32 32,.int .i32 32],.agg [.int .i32 9,.int .i32 9],.agg [.int .i32 10,.int .i32 10],.agg [.int .i32 13,.int .i32 13]] [[],[],[],[],[21],[2]] ?_
  iterate 6 refine op3 ?_
  refine qA ?_
  exact AW.ret (qI (k:=by simp[wF,h15,spC]))
 intro h15
 try simp at h15
 (exact(h (by simp[wF,h4,h8,h15])).elim)
theorem zLR (c:Int) (h:wF c=[]):AX Tryz.prog G 254 [.p (.int .i32 c)] [] (.nilsl) [] []:=by
 refine AX.introU tok 60 Tryz.func254 (by kernel_rfl) rfl rfl ?_
 simp only[Tryz.f254,qG,List.map_cons,List.map_nil]
 refine rgn [] [[0]] ?_
 refine op3 ?_
 refine qA (AW.seq (rgn [] [[3]] ?_))
 refine op3 ?_
 refine qA (AW.block (rgn [] [[],[3,4]] ?_))
 iterate 2 refine op3 ?_
 refine qA (cnd ?_ ?_)
 ·intro h4
  try simp at h4
  (simp[wF,h4]at h)
 intro h4
 try simp at h4
 refine rgn [] [[],[3,8]] ?_
 iterate 2 refine op3 ?_
 refine qA (cnd ?_ ?_)
 ·intro h8
  try simp at h8
  (simp[wF,h8]at h)
 intro h8
 try simp at h8
 refine rgn [] [[],[15]] ?_
 iterate 2 refine op3 ?_
 refine qA (cnd ?_ ?_)
 ·intro h15
  try simp at h15
  (simp[wF,h15]at h)
 intro h15
 try simp at h15
 refine AW.skip (rgn [] [[]] ?_)
 refine op3 ?_
 refine qA ?_
 exact AW.ret qZ
end Go.Proofs.YtgcbapchinideaaGreatDoor
