import Derived.Test.YtgcbapchinideaaGreatDoorM4
import Derived.Test.YtgcbapchinideaaGreatDoorM3
import Derived.Maps.RangeRun
import Derived.Lib.AppendZerosOnto
import Derived.Laws.LoneSync
import Derived.ChangeKeysEq
import Derived.Laws.Runes
import Derived.Laws.IdiomStrings
import Derived.Lib.Bytealg
import Derived.Laws.RangeString
import Derived.Lib.RuneCount
import Derived.Scope
import Derived.Control
set_option linter.all false
namespace Go.Proofs.YtgcbapchinideaaGreatDoor.Sy
open Go
section
variable {P:Program} {T:Tab} {G:qT} {Q:Exit->St->Prop} {st st':St}
theorem Turned.refl (w:World) (b:Nat):Turned w w b:=⟨rfl,rfl,rfl,rfl,fun _ _=>rfl⟩
theorem Rel.beginBox {c:Ctx} {M:qY} {μ:Mu} {st:St} {tmps:Array Value} {w:World} (r:Rel c M μ st tmps w) {id k j:Nat} {e:TypeId} {cells:List V} (hb:zS id st.H=some (.vars e cells)) (hj:cells[j]?=some .nilsl)
  (hf:st.fresh k=true) (e':TypeId) (sz:Nat):∃ μ',Rel c M μ' { st with H:=zO id (.vars e (cells.set j (.ms k))) ((k,.row e' sz [])::st.H) } tmps w:=by
 have hm:=zD hb;have hk:qM id st.H=true:=qH.2 ⟨_,hm⟩;have hne:id≠k:=by
  rintro rfl;have:=(lE hf).2.2.2;rw[hk]at this;cases this
 have r1:=r.adopt (l:=⟨none,.slice none 0 0,[]⟩) hf (fun b hb=>by cases hb) (bx := .row e' sz []) (.rowN (by rw[qK]) (by rw[qK]));have hbx:=r1.box id _ (cZ _ hm);cases hbx with
 | @vars _ _ b arr h0 hh hs ho hc =>
 refine⟨_,r1.write (id:=id) (b:=b) (w':=w) (bx := .vars e (cells.set j (.ms k))) (by simp[qM,hk]) h0 (Turned.refl w b) (.vars h0 hh (by simpa using hs) ho fun i u x hu hx => ?_)⟩;rw[dO]at hx;split at hx
 ·rename_i hji;subst hji;split at hx
  ·cases hx;have:=hc j u .nilsl hu hj;cases this;exact .ms (by rw[qK]) rfl
  cases hx
 exact hc i u x hu hx
theorem AW.beginBox {c:Code} (id k j:Nat) (e':TypeId) (sz:Nat) {e:TypeId} {cells:List V} (hb:zS id st.H=some (.vars e cells)) (hj:cells[j]?=some .nilsl) (hf:st.fresh k=true)
  (h:({ st with H:=zO id (.vars e (cells.set j (.ms k))) ((k,.row e' sz [])::st.H) }:St)=st') (k:AW P G c Q st'):AW P G c Q st:=fun x M μ tmps w hg r=>by
 obtain⟨μ',r'⟩:=r.beginBox hb hj hf e' sz;exact k x M μ' tmps w hg (h ▸ r')
theorem qB.beginBox {ops:Array Oper} {l:List Oper} {orc:List PD} (id k j:Nat) (e':TypeId) (sz:Nat) {e:TypeId} {cells:List V} (hb:zS id st.H=some (.vars e cells)) (hj:cells[j]?=some .nilsl) (hf:st.fresh k=true)
  (h:({ st with H:=zO id (.vars e (cells.set j (.ms k))) ((k,.row e' sz [])::st.H) }:St)=st') (k:qB P G ops Q l st' orc):qB P G ops Q l st orc:=fun x M μ tmps w hg r=>by
 obtain⟨μ',r'⟩:=r.beginBox hb hj hf e' sz;exact k x M μ' tmps w hg (h ▸ r')
theorem oK {c:Code} (ps:List Nat) (hs:∀ i∈ps,i∈st.pins) (h:({ st with pins:=ps }:St)=st') (k:AW P G c Q st'):AW P G c Q st:=fun x M μ tmps w hg r =>
 k x M μ tmps w hg (h ▸ ⟨r.mem,r.ext,r.old,r.slots,fun i hi=>r.pins i (hs i hi),r.box,r.nodup,r.inj,r.own,r.size,r.below⟩)
theorem oI (ks:List Nat) (d:Nat) {orc:List PD} {ops:Array Oper} {o:Oper} {rest:List Oper} {x:V} {st1:St} {j:Nat} {pol:Bool} (hgd:o.guard=some (j,pol)) (hd:(ops[j]?).bind (·.dst)=some d)
  (h:Yields P G o st x st1) (hb:decide (d<st.tmps.length)=true/\iZ pol (st.tmps.getD d .dead)=some true) (hk:(st1.put o.dst (.when true x)).keep ks=st') (k:qB P G ops Q rest st' orc):qB P G ops Q (o::rest) st orc :=
 mR hgd hd (eT hb.1) hb.2 h (zZ.keep ks (hk ▸ k))
end
section
variable {P:Program} {T:Tab} {G:qT} {Q:Exit->St->Prop} {st st':St}
def qDX (ks:List (List UInt8)) (vs:List V) (s:List UInt8) (v:V):List V:=if s∈ks then vs.set (ks.idxOf s) v else vs++[v]
theorem zBM (hT:TOK P T) {o:Oper} {t el:TypeId} {x y:Operand} (ho:o.op = .slice t x none (some y) none) (ht:wC T t=some (.sl el)) {p q:Prop} {id:Nat} {kd:IntKind} {z:Int} (n:Nat)
  (h1:st.arg G x=(p,.ms id)) (hp:p) (h2:st.arg G y=(q,.p (.int kd z))) (hq:q) {e sz:Nat} {es:List PD} {ti:TI} (hti:T el=some ti) (hb:zS id st.H=some (.row e sz es)) (hn:n<=es.length) (hz:z=(n:Int)) :
  Yields P G o st (.ms id) { st.kill id with H:=(id,.row e sz (es.take n))::(st.kill id).H }:=by
 subst hz;intro c M μ tmps w hg r;have hd:=hT.sl ht;obtain⟨i,de,hi',_,_,hsz,_⟩:=hT.get hti;have hso:(sizeOf el).run P w = .ok ti.size w:=by simp[sizeOf,typeInfo,hi',hsz]
 have e1:=qF hg r h1 hp;have e2:=(qF hg r h2 hq).p_inv;generalize hu1:Act.eval ⟨tmps,[]⟩ x=u1 at e1;generalize hu2:Act.eval ⟨tmps,[]⟩ y=u2 at e2;cases e1 with
 | ms hval hone =>
 cases e2 with
 | int _ _ =>
 have hm:=zD hb;have hk:qM id st.H=true:=qH.2 ⟨_,hm⟩;have rk:=r.kill id;have hbx:=r.box id _ hm;cases hbx with
 | rowN h0 hv =>
  rw[hv]at hval;subst hval;obtain rfl:n=0:=by simpa using hn
  have hbd:=yS (P:=P) (isSlice:=true) (len:=0) (cap:=0) (lo:=none) (hi:=some (.int kd 0)) (l:=0) (h:=0) (.inl ⟨rfl,rfl⟩) (.inr ⟨kd,rfl⟩) (by omega) (by omega) (by omega) w;have er:(execOp (Act.eval ⟨tmps,[]⟩) o).run P w = .ok (.value (.slice none 0 0)) w:=by
   simp at hbd;simp[execOp,ho,hu1,hu2,Instr.sliceAt,Instr.slice,run_underlying hd,hbd,hso]
  rw[er];exact⟨M,upd μ id ⟨none,.slice none 0 0,[]⟩,rk.adopt (l:=⟨none,.slice none 0 0,[]⟩) (qCV st id) (fun b hb=>by cases hb) (.rowN (by rw[qK]) (by rw[qK])),.ms (by rw[qK]) rfl⟩
 | @row _ _ _ b cap arr h0 hv hh has hlc hcm hone' hz hcc =>
  rw[hv]at hval;subst hval;have hbd:=yS (P:=P) (isSlice:=true) (len:=es.length) (cap:=cap) (lo:=none) (hi:=some (.int kd n)) (l:=0) (h:=n) (.inl ⟨rfl,rfl⟩) (.inr ⟨kd,rfl⟩) (by omega) (by omega) (by omega) w;have er:(execOp (Act.eval ⟨tmps,[]⟩) o).run P w = .ok (.value (.slice (some ⟨b,0,none⟩) n cap)) w:=by
   simp at hbd;have ha:(if cap=0 then(some (⟨b,0,none⟩:Addr)) else(some (⟨b,0,none⟩:Addr)).map (·.add (0 * ti.size)))=some ⟨b,0,none⟩:=by
    split
    ·rfl
    simp[Addr.add]
   simp[execOp,ho,hu1,hu2,Instr.sliceAt,Instr.slice,run_underlying hd,hbd,hso];try simpa using ha
  rw[er];have hown:=r.own id b hk (.inl h0);refine⟨M,upd μ id ⟨some b,.slice (some ⟨b,0,none⟩) n cap,[]⟩,rk.adopt (l:=⟨some b,.slice (some ⟨b,0,none⟩) n cap,[]⟩) (qCV st id) (fun b' hb' => ?_) (.row (cap:=cap) (by rw[qK]) (by rw[qK];simp[fV hn]) hh has (by simp;omega) hcm hone' (fun i e' he=>hz i e' ?_) fun i e' j d u he hd hu=>hcc i e' j d u ?_ hd hu),.ms (by rw[qK]) rfl⟩
  ·cases hb';exact⟨hown.1,hown.2.1,hown.2.2,qTD r hk h0⟩
  ·rw[bW]at he;split at he
   ·exact he
   cases he
  rw[bW]at he;split at he
  ·exact he
  cases he
theorem qUM {o:Oper} {st:St} {x a b:Operand} {tys:Array TypeId} {f:FuncId} (he:zMS P f Extern.BytealgCount.count)
  (ho:o.op = .call { callee := .value x,args := #[a,b],argTypes:=tys }) {p q r:Prop} {s:List UInt8} {n:Int} (hf:st.arg G x=(p,.p (.fn f))) (hp:p)
  (ha:st.arg G a=(q,.p (.str s))) (hq:q) (hb:st.arg G b=(r,.p (.int .u8 n))) (hr:r):Yields P G o st (.p (.int .i64 (s.count n.toNat.toUInt8:Nat))) st:=by
 intro c M μ tmps w hg rel;have h1:=(qF hg rel hf hp).p_inv;have h2:=(qF hg rel ha hq).p_inv;have h3:=(qF hg rel hb hr).p_inv;generalize hu1:Act.eval ⟨tmps,[]⟩ x=u1 at h1;generalize hu2:Act.eval ⟨tmps,[]⟩ a=u2 at h2;generalize hu3:Act.eval ⟨tmps,[]⟩ b=u3 at h3;cases h1;cases h3;cases h2 with
 | @str bb _ hs hm =>
 have e:(execOp (Act.eval ⟨tmps,[]⟩) o).run P w = .ok (.value (.int .i64 (s.count n.toNat.toUInt8:Nat))) w:=by
  have e1:=he #[.string bb,.int .u8 n] w;rw[Lib.run_countString]at e1;subst hs;simp only[execOp,ho,resolve,Deferred.ofValue,hu1,invoke];simpa[hu2,hu3,Lib.countByte]using e1
 rw[e];have hc:s.count n.toNat.toUInt8<=s.length:=List.count_le_length;simp[maxLen]at hm;exact⟨M,μ,rel,.p (lA (by simp[kS]) (by simp only[kT];omega))⟩
theorem qOW {id:Nat} {b:Box}:∀ {H:List (Nat × Box)},zS id H=some b->zO id b H=H
 | [],_=>rfl
 | (i,c)::r,h=>by
  simp only[zS]at h;simp only[zO];split at h
  ·rename_i e;cases h;rw[bE e]
  rename_i e;rw[bD e,qOW h]
theorem zMV (z:Array Value) (n:Nat):Builtin.zeroCells z n=madeCells z (n * z.size):=rfl
theorem nY {ops:Array Oper} {o1 o2:Oper} {rest:List Oper} {orc:List PD} (hT:TOK P T) (ks:List Nat) {t el d:Nat} {x y:Operand} {p q:Prop} {id:Nat} {kd:IntKind} {z:Int} (n:Nat) (ho1:o1.op = .slice t x (some y) none none) (hd1:o1.dst=some d) (hg1:o1.guard=none)
  (ho2:o2.op = .call { callee := .builtin .clear,args := #[.tmp d],argTypes := #[t] }) (hd2:o2.dst=none) (hg2:o2.guard=none) (ht:wC T t=some (.sl el)) {ti:TI} (hti:T el=some ti) {zs:List V} (hzs:ti.zero.cells=some zs) (hzl:zs.length=ti.size) {e0:PD} (hfit:iP [] zs e0.cells)
  (h1:st.arg G x=(p,.ms id)) (hp:p) (h2:st.arg G y=(q,.p (.int kd z))) (hq:q) {e sz:Nat} {es:List PD} (hb:zS id st.H=some (.row e sz es)) (hsz:sz=ti.size) (hn:n<=es.length) (hz:z=(n:Int)) (hdl:d<st.tmps.length)
  (k:qB P G ops Q rest ((({ st with H:=zO id (.row e sz (es.take n++List.replicate (es.length-n) e0)) st.H }:St).put (some d) .dead).keep ks) orc):qB P G ops Q (o1::o2::rest) st orc:=by
 subst hz;subst hsz;intro c M μ tmps w hg r;have hd:=hT.sl ht;obtain⟨i,de,hi',_,_,hszi,_⟩:=hT.get hti;have hso:(sizeOf el).run P w = .ok ti.size w:=by simp[sizeOf,typeInfo,hi',hszi]
 have e1:=qF hg r h1 hp;have e2:=(qF hg r h2 hq).p_inv;generalize hu1:Act.eval ⟨tmps,[]⟩ x=u1 at e1;generalize hu2:Act.eval ⟨tmps,[]⟩ y=u2 at e2;have hts:d<tmps.size:=by rw[r.slots.1];exact hdl
 cases e1 with
 | ms hval hone =>
 cases e2 with
 | int _ _ =>
 have hm:=zD hb;have hk:qM id st.H=true:=qH.2 ⟨_,hm⟩;have key:∀ (v1:Value) (w1:World),(execOp (Act.eval ⟨tmps,[]⟩) o1).run P w = .ok (.value v1) w->(Builtin.clear_ #[t] o2.type #[v1]).run P w = .ok (.tuple #[]) w1 ->
   Rel c M μ { st with H:=zO id (.row e ti.size (es.take n++List.replicate (es.length-n) e0)) st.H } tmps w1->wpList P ops (zVX c Q) (o1::o2::rest) ⟨tmps,[]⟩ w:=by
  intro v1 w1 er1 er2 r1;refine wpList_plain hg1 fun K hK=>xG (next:=fun v w'=>v=v1/\w'=w) (by rw[er1];exact⟨rfl,rfl⟩) ?_;rintro u w' ⟨rfl,rfl⟩;apply hK;rw[lO,hd1];simp only;have hev:Act.eval ⟨tmps.setIfInBounds d u,[]⟩ (.tmp d)=u:=by simp[Act.eval,hts]
  have er:(execOp (Act.eval ⟨tmps.setIfInBounds d u,[]⟩) o2).run P w' = .ok (.value (.tuple #[])) w1:=by
   simp[execOp,ho2,resolve,invoke,builtin,hev,er2]
  refine wpList_plain hg2 fun K hK=>xG (next:=fun v w''=>v = .tuple #[]/\w''=w1) (by rw[er];exact⟨rfl,rfl⟩) ?_;rintro u2 w'' ⟨rfl,rfl⟩;apply hK;rw[lO,hd2];simp only;exact zZ.keep ks k c M μ _ _ hg (r1.put (.dead) (some d))
 have hbx:=r.box id _ hm;cases hbx with
 | rowN h0 hv =>
  rw[hv]at hval;subst hval;obtain rfl:n=0:=by simpa using hn
  have hbd:=yS (P:=P) (isSlice:=true) (len:=0) (cap:=0) (lo:=some (.int kd 0)) (hi:=none) (l:=0) (h:=0) (.inr ⟨kd,rfl⟩) (.inl ⟨rfl,rfl⟩) (by omega) (by omega) (by omega) w;refine key (.slice none 0 0) w ?_ (by simp[Builtin.clear_,run_underlying hd]) ?_
  ·simp at hbd;simp[execOp,ho1,hu1,hu2,Instr.sliceAt,Instr.slice,run_underlying hd,hbd,hso]
  rw[show(List.take 0 ([]:List PD)++List.replicate (([]:List PD).length-0) e0)=[] by rfl];have hsame:zO id (.row e ti.size []) st.H=st.H:=qOW hb;rw[hsame];exact r
 | @row _ _ _ b cap arr h0 hv hh has hlc hcm hone' hz hcc =>
  rw[hv]at hval;subst hval;have hbd:=yS (P:=P) (isSlice:=true) (len:=es.length) (cap:=cap) (lo:=some (.int kd n)) (hi:=none) (l:=n) (h:=es.length) (.inr ⟨kd,rfl⟩) (.inl ⟨rfl,rfl⟩) (by omega) (by omega) (by omega) w;obtain⟨zv,hzr,hzc,_⟩:=qCI hT hti hzs M μ w;by_cases hne:n=es.length
  ·subst hne;refine key (.slice (if cap=es.length then some ⟨b,0,none⟩ else(some (⟨b,0,none⟩:Addr)).map (·.add (es.length * ti.size))) 0 (cap-es.length)) w ?_ ?_ ?_
   ·simp at hbd;simp[execOp,ho1,hu1,hu2,Instr.sliceAt,Instr.slice,run_underlying hd,hbd,hso]
   ·split <;> simp[Builtin.clear_,run_underlying hd]
   rw[dW,gL,List.replicate_zero,cR];have:=r.write (w':=w) (bx := .row e ti.size es) hk h0 (Turned.refl w b) (.row h0 hv hh has hlc hcm hone' hz hcc);exact this
  have hlt:n<es.length:=by omega
  have hzs':zv.cells.size=ti.size:=by rw[hzc.size,hzl]
  have hmr:=zED hzc hzl hfit (es.length-n);have hsum:n * ti.size+(es.length-n) * ti.size=es.length * ti.size:=by rw[<-dC];congr 1;omega
  have hcap:es.length * ti.size<=cap * ti.size:=cM _ hlc;have hml:(madeCells zv.cells ((es.length-n) * ti.size)).toList.length=(es.length-n) * ti.size:=by rw[hmr.len,List.length_replicate]
  have hst:=run_storeCells_at P b (n * ti.size) e (madeCells zv.cells ((es.length-n) * ti.size)).toList 0 arr w hh (by simp only[cH,hml];omega) hmr.one;simp only[cH]at hst;generalize hnew:(arr.toList.take (n * ti.size)++(madeCells zv.cells ((es.length-n) * ti.size)).toList++arr.toList.drop (n * ti.size+(madeCells zv.cells ((es.length-n) * ti.size)).toList.length)).toArray=arr' at hst;have hrow:RowOf M ti.size es (arr.toList.take (es.length * ti.size)):=by
   rcases(r.box id _ hm).cells with⟨rfl,h,_⟩|⟨b',cap',arr2,g0,gv,gh,_,_,_,_,gr⟩
   ·rw[h0]at h;cases h
   rw[h0]at g0;cases g0;rw[hh]at gh;cases gh;exact gr
  refine key (.slice (some ⟨b,n * ti.size,none⟩) (es.length-n) (cap-n)) (w.setRow b arr') ?_ ?_ ?_
  ·simp at hbd;have hne2:¬ cap=n:=by omega
   have hadd:(⟨b,0,none⟩:Addr).add (n * ti.size)=⟨b,n * ti.size,none⟩:=by rw[jX];simp
   simp[execOp,ho1,hu1,hu2,Instr.sliceAt,Instr.slice,run_underlying hd,hbd,hso,hne2,hadd]
  ·obtain⟨m,hm'⟩:∃ m,es.length-n=m+1:=⟨es.length-n-1,by omega⟩;rw[hm']at hst ⊢;have hzm:=zMV zv.cells (m+1);rw[hzs']at hzm;simp only[Builtin.clear_,Sem.run_bind];simp[run_underlying hd,hzr,hzm,hst,Result.andThen]
  refine r.write (w':=w.setRow b arr') hk h0 (kP w b _) ?_;have hsz':arr'.size=arr.size:=by rw[<-hnew];simp[hml];omega
  have hR:RowOf M ti.size (es.take n++List.replicate (es.length-n) e0) (arr.toList.take (n * ti.size)++(madeCells zv.cells ((es.length-n) * ti.size)).toList):=by
   refine RowOf.append ?_ hmr;refine⟨by rw[cK,cK,fV hn,fV (by rw[dY,has];exact cM _ (by omega))],fun u hu=>hrow.one u ?_,fun j e' he=>hrow.elem j e' ?_,fun j e' l d' u he hd' hu=>hrow.get j e' l d' u ?_ hd' ?_⟩
   ·have:arr.toList.take (n * ti.size)=(arr.toList.take (es.length * ti.size)).take (n * ti.size):=by rw[List.take_take,fV (by omega)]
    rw[this]at hu;exact cB hu
   ·rw[bW]at he;split at he
    ·exact he
    cases he
   ·rw[bW]at he;split at he
    ·exact he
    cases he
   rw[bW]at hu ⊢;split at hu
   ·rw[bE (by omega)];exact hu
   cases hu
  have hll:(es.take n++List.replicate (es.length-n) e0).length=es.length:=by simp;omega
  refine hR.box (cap:=cap) h0 (by rw[hll];exact hv) (setRow_heap w b arr _ e (0,0) hh) (by rw[hsz'];exact has) (by rw[hll];exact hlc) hcm (fun j u hu => ?_) ?_
  ·rw[<-hnew,cN]at hu;have hmem:=bH hu;rw[cD,bL,bL]at hmem;rcases hmem with h|h|h
   ·obtain⟨j',hj'⟩:=dS.1 (cB h);exact hone' j' u (by simpa using hj')
   ·exact hmr.one u h
   obtain⟨j',hj'⟩:=dS.1 (cQ h);exact hone' j' u (by simpa using hj')
  rw[<-hnew,hll];simp only[cD];rw[<-List.append_assoc,dX (by simp[hml];omega),bK (by simp[hml];omega)]
end
section
variable {P:Program} {T:Tab} {G:qT} {Q:Exit->St->Prop} {st st':St}
theorem oH {c:Ctx} {μ:Mu} {tmps:Array Value} {w:World}:∀ (ids:List Nat) {M:qY} {st:St},Rel c M μ st tmps w->∃ M',Rel c M' μ (yE st ids) tmps w
 | [],M,_,r=>⟨M,r⟩
 | i::l,M,st,r=>by
  obtain⟨M1,r1⟩:=r.freeze i;exact oH l r1
end
section
variable {P:Program} {T:Tab} {G:qT}
theorem AX.ren {f:FuncId} {xs:List V} {H:List (Nat × Box)} {r:V} {ps:List Nat} {H':List (Nat × Box)} (i j:Nat) (h:AX P G f xs H r ps H') (hf:(⟨[r],ps,H',0⟩:St).fresh j=true):AX P G f xs H (r.ren i j) (ps.filter (· != i)) (qQA i j H'):=by
 refine⟨h.1,fun M μ w vs hg rel=>(h.2 M μ w vs hg rel).mono ?_⟩;rintro e w' ⟨v,M',μ',rfl,r'⟩;have:=r'.ren (i:=i) hf;exact⟨v,M',_,rfl,by simpa only[St.ren,lL]using this⟩
end
section
variable {P:Program} {T:Tab} {G:qT} {Q:Exit->St->Prop} {l:List Oper} {m:Nat} {tss:List (List Nat)} {sms:List Sm}
inductive DRun (P:Program) (G:qT) (st0:St):List Oper->List (List Nat)->St->List Sm->St->Prop
 | nil {tss:List (List Nat)} {st:St}:(st.H.map (·.1)).Nodup->DRun P G st0 [] tss st [] st
 | one {o : Oper} {rest : List Oper} {ts : List Nat} {tss : List (List Nat)} {st st2 : St} {s : Sm} {zs : List Sm} : o.guard = none → (st.H.map (·.1)).Nodup → Facts st0 s → (∀ p ∈ s.H, p ∈ st.H) →
   (∀ c M μ st' tmps w R K,qAD G c->Rel c M μ st' tmps w->jM st'.tmps (wS st.tmps ts)->(∀ id bx,(id,bx)∈s.H->(id,bx)∈st'.H)->(∀ n∈s.new,({ st' with H:=zN (s.H.map (·.1)) st'.H }:St).fresh n=true) ->
    (∀ u w' M' μ' H2,Rel c M' μ' { st' with H:=H2 } tmps w'->RV M' μ' u s.x->(∀ p,p∈H2↔p∈s.H'\/(p∈st'.H/\p.1 ∉ s.H.map (·.1)))->K (Act.put ⟨tmps,[]⟩ o.dst u) w')->o.wp P ⟨tmps,[]⟩ w K R) ->
   DRun P G st0 rest tss (st.after o.dst s) zs st2->DRun P G st0 (o::rest) (ts::tss) st (s::zs) st2
theorem DRun.len {st0:St} {rest:List Oper} {ts:List (List Nat)} {st st2:St} {zs:List Sm} (h:DRun P G st0 rest ts st zs st2):zs.length=rest.length:=by
 induction h with
 | nil=>rfl
 | one _ _ _ _ _ _ ih=>simp[ih]
theorem DRun.told (hchk:wO l m tss=true) (hconf:qAK l m (sms.map Sm.sum)=true) {st0:St} {rest:List Oper} {ts:List (List Nat)} {st st2:St} {zs:List Sm} (h:DRun P G st0 rest ts st zs st2):∀ k:Nat,
  rest=(l.take m).drop k->ts=tss.drop k->zs=sms.drop k->k<=m->sms.length=m->st.pins=st0.pins->st.base=st0.base->DoneD l m sms st0 (fun j=>decide (j<k)) st.tmps st.H ->
  (∀ i,k<=i->i<m->Told P G l m sms st0 i)/\st2.pins=st0.pins/\st2.base=st0.base/\DoneD l m sms st0 (fun j=>decide (j<m)) st2.tmps st2.H/\(st2.H.map (·.1)).Nodup:=by
 induction h with
 | @nil ts st hnd =>
  intro k hr _ hz hk hxl hp hb D;have hkm:k=m:=by
   have h3:(List.drop k (List.take m l)).length=0:=by rw[<-hr];rfl
   have:=qFF hchk;simp at h3;omega
  subst hkm;exact⟨fun i h1 h2=>by omega,hp,hb,D,hnd⟩
 | @one o rest t1 tss1 st st2 s zs hgd hnd F hsub hgo _ ih =>
  intro k hr hts hz hk hxl hp hb D;have hkm:k<m:=by
   have h3:(List.drop k (List.take m l)).length=rest.length+1:=by rw[<-hr];rfl
   simp at h3;omega
  obtain⟨o',ho',htk,hsep⟩:=uO hchk hkm;have hoo:o=o':=by
   have h3:(List.drop k (List.take m l))[0]?=some o:=by rw[<-hr];rfl
   rw[bZ,bW,cH,bE hkm,ho']at h3;cases h3;rfl
  subst hoo;have hrest:rest=(l.take m).drop (k+1):=by
   have:=congrArg (List.drop 1) hr;simpa[dG,fY]using this
  have ht1:t1=o.looksAt l.toArray:=by
   have h3:(List.drop k tss)[0]?=some t1:=by rw[<-hts];rfl
   rw[bZ,cH,htk]at h3;cases h3;rfl
  have hts1:tss1=tss.drop (k+1):=by
   have:=congrArg (List.drop 1) hts;simpa[dG,fY]using this
  have hdk:kH l k=o.dst:=by simp[kH,ho']
  have hxk:sms[k]?=some s:=by
   have h3:(List.drop k sms)[0]?=some s:=by rw[<-hz];rfl
   rw[bZ,cH]at h3;exact h3
  have hz':zs=sms.drop (k+1):=by
   have:=congrArg (List.drop 1) hz;simpa[dG,fY]using this
  have D':DoneD l m sms st0 (fun j=>decide (j<k+1)) (st.after o.dst s).tmps (st.after o.dst s).H:=by
   have:=D.go hchk hconf (DC.below hchk k) (L':=fun j=>decide (j<k+1)) hkm hdk hxk (by simp) F (fun j=>by
    by_cases h1:j<k
    ·simp[h1,show j<k+1 by omega]
    by_cases h2:j=k
    ·simp[h2]
    simp[h1,h2,show ¬ j<k+1 by omega]) hsub hnd (H2:=s.H'++zN (s.H.map (·.1)) st.H) (fun p=>by rw[bL,jJ])
   have e1:(st.after o.dst s).tmps=qUT st.tmps o.dst s.x:=by cases hq:o.dst <;> rfl
   rw[e1];exact this
  have e2:(st.after o.dst s).pins=st.pins:=by cases hq:o.dst <;> rfl
  have e3:(st.after o.dst s).base=st.base:=by cases hq:o.dst <;> rfl
  obtain⟨h1,h2,h3⟩:=ih (k+1) hrest hts1 hz' hkm hxl (e2.trans hp) (e3.trans hb) D';refine⟨fun i hi1 hi2 => ?_,h2,h3⟩;rcases Nat.eq_or_lt_of_le hi1 with e|e
  ·subst e;subst ht1;exact⟨o,s,st.tmps,st.H,ho',hxk,D,F,hsub,qPN ho' hgd hgo⟩
  exact h1 i e hi2
theorem oY (hmix:P.follows .mixedOrders=true) (m:Nat) (tss:List (List Nat)) {id:Nat} {st st1:St} {sms:List Sm} (hchk:wO l m tss=true)
  (h1:DRun P G st (l.take m) tss st sms st1) (hconf:qAK l m (sms.map Sm.sum)=true) (hlate:zZ P G l.toArray Q (l.drop m) st1) :
  AW P G (.region id l.toArray true) Q st:=by
 intro c M μ tmps w hg r;refine wp_region_any hmix ?_;have hml:=qFF hchk;have hxl:sms.length=m:=by
  rw[h1.len];simp;omega
 obtain⟨hgo,hp2,_,D2,hnd2⟩:=h1.told hchk hconf 0 (by simp) (by simp) (by simp) (fC _) hxl rfl rfl (mQ st);have hsize:l.toArray.size=l.length:=by simp
 refine qTS hchk hconf st (fun i hi=>hgo i (fC _) hi) st1 hp2 D2 hnd2 hlate hg _ _ _ M μ st.tmps st.H tmps _ rfl ?_ (by simp) (fun j _ hj=>by simp[Array.getD]) (fun j o _ h=>by simp[Array.getD]at h) ?_ (r.same ⟨rfl,rfl,rfl,bP _,fun _ _=>rfl⟩)
 ·rw[hsize];exact dB (List.length_filter_le _ _) (by simp)
 have:(fun j=>(Array.replicate l.toArray.size false).getD j false)=fun j=>decide (j<0):=by
  funext j;simp[Array.getD]
 rw[this];exact mQ st
def wI (P:Program) (G:qT) (st0:St) (l:List Oper) (tss:List (List Nat)) (st:St) (acc:qAX) (K:qAX->St->Prop):Prop:=∃ sms st1,DRun P G st0 l tss st sms st1/\K (acc++sms.map Sm.sum) st1
variable {K:qAX->St->Prop} {st st' st0:St} {rest:List Oper} {ts:List Nat} {orc orc':List PD} {acc:qAX} {o:Oper} {sm:zZR} {v:Know->Prop}
theorem wI.nil (hn:ndB st.H=true) (k:K acc st):wI P G st0 [] tss st acc K:=⟨_,_,.nil (wX hn),by simpa using k⟩
theorem wI.one (hT:TOK P T) (h:∀ C,qJM C T G st0 ts o st orc=some (v C,st',sm,orc')) (hv:v (kn P G)) (hgd:o.guard=none) (hn:ndB st.H=true) (k:wI P G st0 rest tss st' (acc++[sm]) K) :
  wI P G st0 (o::rest) (ts::tss) st acc K:=by
 have h1:=h (kn P G);unfold qJM at h1;split at h1
 ·rename_i v1 s orc1 h2;simp only[Option.some.injEq,Prod.mk.injEq]at h1;obtain⟨h3,rfl,rfl,rfl⟩:=h1;obtain⟨sms,st1,e,hk⟩:=k;have S:=qGB hT (wX hn) h2 (h3 ▸ hv);exact⟨s::sms,st1,.one hgd (wX hn) ⟨S.q,S.good,S.ps,S.new⟩ (fun p hp=>qIM st _ p (S.H p hp)) S.goes e,by simpa using hk⟩
 cases h1
theorem iW (hT:TOK P T) (h:∀ C,qJM C T G st0 ts o st orc=some (v C,st',sm,orc'):=by intro C;conv=>lhs;simp) (hv:v (kn P G):=by first|with_reducible exact True.intro|omega|simp|(simp +contextual;omega)) (hgd:o.guard=none:=by rfl) (hn:ndB st.H=true:=by kernel_rfl) (k:wI P G st0 rest tss st' (acc++[sm]) K) :
    wI P G st0 (o::rest) (ts::tss) st acc K:=wI.one hT h hv hgd hn k
theorem iN (hT:TOK P T) (h:∀ C,qJM C T G st0 ts o st []=some (v C,st',sm,orc'):=by intro C;conv=>lhs;simp) (hv:v (kn P G):=by first|with_reducible exact True.intro|omega|simp|(simp +contextual;omega)) (hgd:o.guard=none:=by rfl) (hn:ndB st.H=true:=by kernel_rfl) (k:wI P G st0 rest tss st' (acc++[sm]) K) :
    wI P G st0 (o::rest) (ts::tss) st acc K:=wI.one hT h hv hgd hn k
theorem r1 (hT:TOK P T) (k:wI P G st0 rest tss st' (acc++[sm]) K) (h:∀ C,qJM C T G st0 ts o st orc=some (v C,st',sm,orc'):=by intro C;conv=>lhs;simp) (hv:v (kn P G):=by first|exact True.intro|omega|simp|(simp +contextual;omega)) (hgd:o.guard=none:=by rfl) (hn:ndB st.H=true:=by kernel_rfl) :
  wI P G st0 (o::rest) (ts::tss) st acc K:=wI.one hT h hv hgd hn k
theorem wI.call {x:Operand} {args:Array Operand} {tys:Array TypeId} {f:FuncId} {xs:List V} {H:List (Nat × Box)} {r:V} {ps:List Nat} {H':List (Nat × Box)} (new:List Nat) (hc:AX P G f xs H r ps H') (ho:o.op = .call { callee := .value x,args:=args,argTypes:=tys }) (hgd:o.guard=none)
  (hcx:CX G ⟨wS st.tmps ts,H.map (·.1),H,st.base⟩ x args.toList f xs H r ps H') (hrest:(St.rest ⟨wS st.tmps ts,H.map (·.1),H,st.base⟩ H ps).H=[]) (hpins:∀ i∈ps,i∈(St.rest ⟨wS st.tmps ts,H.map (·.1),H,st.base⟩ H ps).pins)
  (hsub:∀ p∈H,p∈st.H) (hnew:∀ n∈new,st0.fresh n=true) (hky:∀ i,qM i H'=true->i∈H.map (·.1)\/i∈new) (hgood:∀ i∈V.ids r++xR H',i∈ps\/i∈new) (hn:ndB st.H=true) (hst:st.after o.dst ⟨r,H,H',ps,new,false⟩=st')
  (k:wI P G st0 rest tss st' (acc++[(Sm.mk r H H' ps new false).sum]) K):wI P G st0 (o::rest) (ts::tss) st acc K:=by
 subst hst;obtain⟨sms,st1,e,hk⟩:=k;have hsn:(H.map (·.1)).Nodup:=hcx.2.2.2.2.1;have y:=zI ho hc hcx;refine⟨⟨r,H,H',ps,new,false⟩::sms,st1,.one hgd (wX hn) ⟨fun h=>absurd h (by simp),hgood,hky,hnew⟩ hsub (fun c M μ st' tmps w R K hG rel hle hbox hnw k => ?_) e,by simpa using hk⟩;exact qAI (s:=⟨r,H,H',ps,new,false⟩) (small:=⟨wS st.tmps ts,H.map (·.1),H,st.base⟩) (s':=({ St.rest (⟨wS st.tmps ts,H.map (·.1),H,st.base⟩:St) H ps with H:=H'++(St.rest (⟨wS st.tmps ts,H.map (·.1),H,st.base⟩:St) H ps).H }:St)) rfl hsn (by show H'=H'++_;rw[hrest,cR]) (fun i hi=>hpins i hi) hky hgood y c M μ st' tmps w R K hG rel hle hbox hnw k
theorem lR (hmix:P.follows .mixedOrders=true) (m:Nat) (tss:List (List Nat)) (orc2:List PD) {id:Nat} {l:List Oper} (hchk:wO l m tss=true)
  (h:wI P G st (l.take m) tss st [] fun qYS st1=>qAK l m qYS=true/\qB P G l.toArray Q (l.drop m) st1 orc2):AW P G (.region id l.toArray true) Q st:=by
 obtain⟨sms,st1,e,hc,hl⟩:=h;exact oY hmix m tss hchk e (by simpa using hc) hl
theorem lF (hmix:P.follows .mixedOrders=true) (m:Nat) (tss:List (List Nat)) (orc2:List PD) {id:Nat} {l:List Oper} {b:Code} (hchk:wO l m tss=true)
  (h:wI P G st (l.take m) tss st [] fun qYS st1=>qAK l m qYS=true/\qB P G l.toArray (andThen (AW P G b Q) Q) (l.drop m) st1 orc2):AW P G (.seq (.region id l.toArray true) b) Q st :=
 AW.seq (lR hmix m tss orc2 hchk h)
end
section
variable {P:Program} {T:Tab} {G:qT} {l:List Oper} {tss:List (List Nat)} {K:qAX->St->Prop} {st st' st0:St} {rest:List Oper} {ts:List Nat} {acc:qAX} {o:Oper}
end
section
variable {P:Program} {T:Tab} {G:qT} {st:St}
end
section
variable {P:Program} {T:Tab} {G:qT} {st:St}
end
section
variable {P:Program} {T:Tab} {G:qT} {Q:Exit->St->Prop} {st:St}
theorem RowOf.drop {M:qY} {sz:Nat} {es:List PD} {news:List Value} (h:RowOf M sz es news) (n:Nat):RowOf M sz (es.drop n) (news.drop (n * sz)) where
 len:=by rw[bQ,bQ,h.len,Nat.sub_mul]
 one:=fun u hu=>h.one u (cQ hu)
 elem:=fun i e he=>h.elem (n+i) e (by rwa [bZ]at he)
 get:=fun i e j d u he hd hu=>by
  rw[bZ]at he hu;exact h.get (n+i) e j d u he hd (by rw[<-hu];congr 1;rw[dC];omega)
theorem wAU (hT:TOK P T) {o:Oper} {t el:TypeId} {x y:Operand} {p q:Prop} {id:Nat} {kd:IntKind} {z:Int} (n:Nat) (ho:o.op = .slice t x (some y) none none) (ht:wC T t=some (.sl el)) {ti:TI} (hti:T el=some ti)
  (h1:st.arg G x=(p,.ms id)) (hp:p) (h2:st.arg G y=(q,.p (.int kd z))) (hq:q) {e sz:Nat} {es:List PD} (hb:zS id st.H=some (.row e sz es)) (hsz:sz=ti.size) (hn:n<es.length) (hz:z=(n:Int)):Yields P G o st (.tl id n sz) st:=by
 subst hz;subst hsz;intro c M μ tmps w hg r;have hd:=hT.sl ht;obtain⟨i,de,hi',_,_,hszi,_⟩:=hT.get hti;have hso:∀ w:World,(sizeOf el).run P w = .ok ti.size w:=fun w=>by simp[sizeOf,typeInfo,hi',hszi]
 have e1:=qF hg r h1 hp;have e2:=(qF hg r h2 hq).p_inv;generalize hu1:Act.eval ⟨tmps,[]⟩ x=u1 at e1;generalize hu2:Act.eval ⟨tmps,[]⟩ y=u2 at e2;cases e1 with
 | ms hval hone =>
 cases e2 with
 | int _ _ =>
 rcases(r.box id _ (zD hb)).cells with⟨rfl,h0,hv⟩|⟨b,cap,arr,h0,hv,hh,has,hlc,hcm,hone',hro⟩
 ·simp at hn
 rw[hv]at hval;subst hval;have hbd:=yS (P:=P) (isSlice:=true) (len:=es.length) (cap:=cap) (lo:=some (.int kd n)) (hi:=none) (l:=n) (h:=es.length) (.inr ⟨kd,rfl⟩) (.inl ⟨rfl,rfl⟩) (by omega) (by omega) (by omega) w;have er1:(execOp (Act.eval ⟨tmps,[]⟩) o).run P w = .ok (.value (.slice (some ⟨b,n * ti.size,none⟩) (es.length-n) (cap-n))) w:=by
  simp at hbd;have hne2:¬ cap=n:=by omega
  have hadd:(⟨b,0,none⟩:Addr).add (n * ti.size)=⟨b,n * ti.size,none⟩:=by rw[jX];simp
  simp[execOp,ho,hu1,hu2,Instr.sliceAt,Instr.slice,run_underlying hd,hbd,hso,hne2,hadd]
 rw[er1];exact⟨M,μ,r,.tl hv hn hlc⟩
end
section
variable {P:Program} {T:Tab} {G:qT} {l:List Oper} {tss:List (List Nat)} {K:qAX->St->Prop} {st st' st0:St} {rest:List Oper} {ts:List Nat} {acc:qAX} {o:Oper}
theorem wI.y (Hs H':List (Nat × Box)) (x:V) (q:Bool) (hgd:o.guard=none) (y:Yields P G o ⟨wS st.tmps ts,Hs.map (·.1),Hs,st.base⟩ x ⟨wS st.tmps ts,Hs.map (·.1),H',st.base⟩) (hq:q=true->H'=Hs) (hsub:∀ p∈Hs,p∈st.H)
  (hids:∀ i∈V.ids x++xR H',i∈Hs.map (·.1)) (hn:ndB st.H=true) (hns:ndB Hs=true) (hst:st.after o.dst ⟨x,Hs,H',Hs.map (·.1),[],q⟩=st') (k:wI P G st0 rest tss st' (acc++[(Sm.mk x Hs H' (Hs.map (·.1)) [] q).sum]) K):wI P G st0 (o::rest) (ts::tss) st acc K:=by
 subst hst;obtain⟨sms,st1,e,hk⟩:=k;have hgood:∀ i∈V.ids x++xR H',i∈Hs.map (·.1)\/i∈([]:List Nat):=fun i hi => .inl (hids i hi);have hky:∀ i,qM i H'=true->i∈Hs.map (·.1)\/i∈([]:List Nat):=fun i hi => .inl (hids i (bL.2 (.inr (qCU hi))));refine⟨⟨x,Hs,H',Hs.map (·.1),[],q⟩::sms,st1,.one hgd (wX hn) ⟨hq,hgood,hky,by simp⟩ hsub (fun c M μ st' tmps w R K hG rel hle hbox hnw k => ?_) e,by simpa using hk⟩;exact qAI (s:=⟨x,Hs,H',Hs.map (·.1),[],q⟩) (small:=⟨wS st.tmps ts,Hs.map (·.1),Hs,st.base⟩) (s':=⟨wS st.tmps ts,Hs.map (·.1),H',st.base⟩) rfl (wX hns) rfl (fun i hi=>hi) hky hgood y c M μ st' tmps w R K hG rel hle hbox hnw k
end
section
variable {P:Program} {T:Tab} {G:qT} {Q:Exit->St->Prop} {st:St}
theorem lS (ks:List Nat) (d:Nat) {st':St} {orc:List PD} {ops:Array Oper} {o:Oper} {rest:List Oper} {x:V} {j:Nat} {pol:Bool} {b:Bool} (hgd:o.guard=some (j,pol)) (hd:(ops[j]?).bind (·.dst)=some d)
  (hb:decide (d<st.tmps.length)=true/\iZ pol (st.tmps.getD d .dead)=some b) (h:b=true->Yields P G o st x st) (hk:(st.put o.dst (.when b x)).keep ks=st') (k:qB P G ops Q rest st' orc):qB P G ops Q (o::rest) st orc :=
 mG hgd hd (eT hb.1) hb.2 h (zZ.keep ks (hk ▸ k))
end
section
variable {P:Program} {T:Tab} {G:qT} {l:List Oper} {tss:List (List Nat)} {K:qAX->St->Prop} {st st' st0:St} {rest:List Oper} {ts:List Nat} {acc:qAX} {o:Oper}
theorem pH (Hs H':List (Nat × Box)) (x:V) (new:List Nat) (hgd:o.guard=none) (y:Yields P G o ⟨wS st.tmps ts,Hs.map (·.1),Hs,st.base⟩ x ⟨wS st.tmps ts,Hs.map (·.1),H',st.base⟩) (hsub:∀ p∈Hs,p∈st.H)
  (hids:∀ i∈V.ids x++xR H',i∈Hs.map (·.1)\/i∈new) (hnew:∀ n∈new,st0.fresh n=true) (hn:ndB st.H=true) (hns:ndB Hs=true) (hst:st.after o.dst ⟨x,Hs,H',Hs.map (·.1),new,false⟩=st') (k:wI P G st0 rest tss st' (acc++[(Sm.mk x Hs H' (Hs.map (·.1)) new false).sum]) K):wI P G st0 (o::rest) (ts::tss) st acc K:=by
 subst hst;obtain⟨sms,st1,e,hk⟩:=k;have hky:∀ i,qM i H'=true->i∈Hs.map (·.1)\/i∈new:=fun i hi=>hids i (bL.2 (.inr (qCU hi)));refine⟨⟨x,Hs,H',Hs.map (·.1),new,false⟩::sms,st1,.one hgd (wX hn) ⟨fun h=>absurd h (by simp),hids,hky,hnew⟩ hsub (fun c M μ st' tmps w R K hG rel hle hbox hnw k => ?_) e,by simpa using hk⟩;exact qAI (s:=⟨x,Hs,H',Hs.map (·.1),new,false⟩) (small:=⟨wS st.tmps ts,Hs.map (·.1),Hs,st.base⟩) (s':=⟨wS st.tmps ts,Hs.map (·.1),H',st.base⟩) rfl (wX hns) rfl (fun i hi=>hi) hky hids y c M μ st' tmps w R K hG rel hle hbox hnw k
end
section
variable {P:Program} {T:Tab} {G:qT} {o:Oper} {st st1 st':St} {x:V}
theorem pE {f:FuncId} {al:List PD} {r:PD} {xs:List V} (h:AFn P G f al r) (hfit:iP [] xs al):AX P G f xs [] (.p r) [] []:=by
 refine⟨h.1,fun M μ w vs hg rel => ?_⟩;have hl:=iX hfit;have hs:vs.size=al.length:=by have:=rel.slots.1;simp only at this;omega
 refine(h.2 M w vs hg rel.mem hs fun i u d hu hd => ?_).mono ?_
 ·have hi:i<xs.length:=by have:=(bB.1 hd).1;omega
  exact kZ (rel.slots.2 i u _ hu (cI hi)) (iY hfit (cI hi) hd)
 rintro e w' ⟨v,M',rfl,hv,hmem,hM,hold,hbel⟩;have r2:=rel.grows (lX hbel) hM hmem hold;refine⟨v,M',μ,rfl,{ r2 with slots:=⟨by simp,fun i u y hu hy => ?_⟩ }⟩;match i with
 | 0=>simp at hu hy;subst hu;subst hy;exact .p hv
 | i+1=>simp at hy
theorem AFn.of_AX {f:FuncId} {args:List PD} {k e sz:Nat} {es:List PD} (h:AX P G f (args.map .p) [] (.ms k) [] [(k,.row e sz es)]):AFn P G f args (.sl sz es):=by
 refine⟨h.1,fun M w vs hg hmem hsz hrd=>(h.2 M (fun _=>default) w vs hg (Rel.plain _ hmem hsz hrd)).mono ?_⟩;rintro e' w' ⟨v,M',μ',rfl,r1⟩;obtain⟨M2,r'⟩:=r1.freeze k;have hno:∀ b, ¬ yI (fun _=>(default:Loc)) [] b:=fun b ⟨i,hi,_⟩=>by simp[qM]at hi
 have hv:=r'.slots.2 0 v (.p (.sl sz es)) (by simp) (by simp);cases hv with
 | p hv=>exact⟨v,M2,rfl,hv,r'.mem,r'.ext,fun b o hb=>r'.old b o fun hm=>hm.elim (fun h=>by simp at h;omega) (hno b),⟨r'.below.os,r'.below.tape,r'.below.output,r'.below.size,fun j hj=>r'.below.block j fun hm=>hm.elim (fun h=>by simp at h;omega) (hno j)⟩⟩
theorem Yields.freeze (id:Nat) (h:st.freeze id=st1) (y:Yields P G o st1 x st'):Yields P G o st x st':=fun c M μ tmps w hg rel=>by
 subst h;obtain⟨M1,r1⟩:=rel.freeze id;exact y c M1 μ tmps w hg r1
theorem Yields.plain {id e sz:Nat} {es:List PD} (y:Yields P G o st (.ms id) { st with H:=(id,.row e sz es)::st.H }):Yields P G o st (.p (.sl sz es)) st:=fun c M μ tmps w hg rel=>by
 have h:=y c M μ tmps w hg rel;revert h
 generalize (execOp (Act.eval ⟨tmps,[]⟩) o).run P w=r0;have key:∀ u w',(∃ M' μ',Rel c M' μ' { st with H:=(id,.row e sz es)::st.H } tmps w'/\RV M' μ' u (.ms id))->∃ M' μ',Rel c M' μ' st tmps w'/\RV M' μ' u (.p (.sl sz es)):=by
  rintro u w' ⟨M1,μ1,r,hu⟩;have hm:(id,Box.row e sz es)∈({ st with H:=(id,.row e sz es)::st.H }:St).H:=List.mem_cons_self;have hk:qM id ({ st with H:=(id,.row e sz es)::st.H }:St).H=true:=qH.2 ⟨_,hm⟩;have hid:∀ i,qM i st.H=true->i≠id:=fun i hi he=>by
   subst he;obtain⟨b,hb⟩:=qH.1 hi;have:=r.nodup;simp only[bA,fG]at this;exact this.1 (cO.2 ⟨_,hb,rfl⟩)
  have hup:∀ i,qM i st.H=true->qM i ({ st with H:=(id,.row e sz es)::st.H }:St).H=true:=fun i hi=>by
   obtain⟨b,hb⟩:=qH.1 hi;exact qH.2 ⟨b,cZ _ hb⟩
  let M2:qY:=fun b o=>if(μ1 id).blk=some b then w'.cell? ⟨b,o,none⟩ else M1 b o
  have e1:∀ b o,(μ1 id).blk=some b->M2 b o=w'.cell? ⟨b,o,none⟩:=fun b o h=>bE h;have e2:∀ b o,(μ1 id).blk≠some b->M2 b o=M1 b o:=fun b o h=>bD h;have hM:∀ b o v,M1 b o=some v->M2 b o=some v:=by
   intro b o v hv;by_cases h:(μ1 id).blk=some b
   ·rw[e1 b o h];exact r.mem b o v hv
   rw[e2 b o h];exact hv
  have hd:Rd M2 (μ1 id).val (.sl sz es):=qIP (r.box id _ hm) hM fun b h o v hv=>by rw[e1 b o h];exact hv
  refine⟨M2,μ1,⟨?_,fun b o v hv=>hM _ _ _ (r.ext b o v hv),fun b o hb => ?_,⟨r.slots.1,fun i u x hu hx=>(r.slots.2 i u x hu hx).mono hM fun _ _=>rfl⟩,r.pins,fun i bx hi=>(r.box i bx (cZ _ hi)).mono hM rfl (fun _ _=>rfl) (fun _ _=>rfl), ?_,fun i j b hi hj=>r.inj i j b (hup i hi) (hup j hj),fun i b hi hib => ?_,r.size,r.below⟩, ?_⟩
  ·intro b o v hv;by_cases h:(μ1 id).blk=some b
   ·rw[e1 b o h]at hv;exact hv
   rw[e2 b o h]at hv;exact r.mem b o v hv
  ·rw[e2 b o fun h=>hb (r.own id b hk (.inl h)).1];exact r.old b o hb
  ·have:=r.nodup;simp only[bA,fG]at this;exact this.2
  ·have h3:=r.own i b (hup i hi) hib;exact⟨h3.1,h3.2.1,fun o=>by rw[e2 b o fun h=>hid i hi (r.inj i id b (hup i hi) hk hib (.inl h))];exact h3.2.2 o⟩
  cases hu with
  | ms h1 h2=>exact .p (h1 ▸ hd)
 intro h;cases r0 with
 | halt x w'=>exact h.elim
 | ok n w' =>
  cases n <;> simp only[zJU]at h ⊢
  case value v=>exact key _ _ h
  case skip=>exact key _ _ h
  case enter f args =>
   refine h.mono ?_;rintro e w'' ⟨v,rfl,hn⟩;exact⟨v,rfl,key _ _ hn⟩
end
section
variable {P:Program} {T:Tab} {G:qT} {l:List Oper} {tss:List (List Nat)} {K:qAX->St->Prop} {st st' st0:St} {rest:List Oper} {ts:List Nat} {acc:qAX} {o:Oper}
theorem nB (hT:TOK P T) (orc:List PD) {t el:TypeId} {n:Nat} {parts:Array (Nat × Operand)} (ho:o.op = .buildSlice t n parts) (hgd:o.guard=none) (hl:parts.toList.length=n) (ht:wC T t=some (.sl el)) {ti:TI} (hti:T el=some ti)
  {zs:List V} (hzs:ti.zero.cells=some zs) (hzl:zs.length=ti.size) {orc' es:List PD} {q:Prop} (hpt:qAF ⟨wS st.tmps ts,[],[],st.base⟩ G ti.size 0 parts.toList orc=some (q,es,orc')) (hq:q) (hb:n * ti.size<=16777216)
  (hn2:n<=16777216) (id:Nat) (hf:(⟨wS st.tmps ts,[],[],st.base⟩:St).fresh id=true) (hn:ndB st.H=true) (hst:st.after o.dst ⟨.p (.sl ti.size es),[],[],[],[],false⟩=st')
  (k:wI P G st0 rest tss st' (acc++[(Sm.mk (.p (.sl ti.size es)) [] [] [] [] false).sum]) K):wI P G st0 (o::rest) (ts::tss) st acc K :=
 pH [] [] (.p (.sl ti.size es)) [] hgd (Yields.plain (qKU hT ho hl ht hti hzs hzl hpt hq hb hn2 id hf)) (fun _ h=>by cases h) (fun i hi=>by simp[V.ids,xR]at hi) (fun _ h=>by cases h) hn (by decide) hst k
end
section
variable {P:Program} {T:Tab} {G:qT} {Q:Exit->St->Prop}
def wAN (s s':St):Prop:=∀ c M μ tmps w,Rel c M μ s tmps w->Rel c M μ s' tmps w
theorem wAN.of {s s':St} (h:St.Le s s'):wAN s s':=fun _ _ _ _ _ r=>r.weaken h
variable {st:St}
end
set_option maxHeartbeats 4000000
section
variable {P:Program} {T:Tab} {G:qT} {Q:Exit->St->Prop}
theorem qFI (hT:TOK P T) {st:St} {o:Oper} {orc orc':List PD} {v:Prop} {x:V} (h:qSK T G st o.op orc=some (v,x,orc')) (hv:v):Yields P G o st x st:=by
 intro c M μ tmps w hg r;obtain⟨u,e,hu⟩:=qOZ hT hg r h hv;rw[e];exact⟨M,μ,r,hu⟩
def dd (b:Bool) (v:V):V:=if b=true then v else .dead
@[simp] theorem wHN (v:V):dd true v=v:=rfl
@[simp] theorem wHF (v:V):dd false v = .dead:=rfl
end
section
variable {P:Program} {T:Tab} {G:qT} {st:St}
end
section
variable {P:Program} {G:qT} {st st' st0:St} {rest:List Oper} {ts:List Nat} {tss:List (List Nat)} {acc:qAX} {o:Oper} {K:qAX->St->Prop}
theorem wI.q (ids:List Nat) (x:V) (hgd:o.guard=none) (y:Yields P G o ⟨wS st.tmps ts,ids,[],st.base⟩ x ⟨wS st.tmps ts,ids,[],st.base⟩) (hids:∀ i∈V.ids x,i∈ids) (hn:ndB st.H=true)
  (hst:st.after o.dst ⟨x,[],[],ids,[],true⟩=st') (k:wI P G st0 rest tss st' (acc++[(Sm.mk x [] [] ids [] true).sum]) K):wI P G st0 (o::rest) (ts::tss) st acc K:=by
 subst hst;obtain⟨sms,st1,e,hk⟩:=k;have hgood:∀ i∈V.ids x++xR ([]:List (Nat × Box)),i∈ids\/i∈([]:List Nat):=fun i hi => .inl (hids i (by simpa[xR]using hi));refine⟨⟨x,[],[],ids,[],true⟩::sms,st1,.one hgd (wX hn) ⟨fun _=>rfl,hgood,fun i hi=>by simp[qM]at hi,by simp⟩ (by simp) (fun c M μ st' tmps w R K hG rel hle hbox hnw k => ?_) e,by simpa using hk⟩;exact qAI (s:=⟨x,[],[],ids,[],true⟩) (small:=⟨wS st.tmps ts,ids,[],st.base⟩) (s':=⟨wS st.tmps ts,ids,[],st.base⟩) rfl (by simp) rfl (fun i hi=>hi) (fun i hi=>by simp[qM]at hi) hgood y c M μ st' tmps w R K hG rel hle hbox hnw k
end
section
variable {P:Program} {T:Tab} {G:qT} {st:St}
theorem qMY (hT:TOK P T) {o:Oper} {t el:TypeId} {a i:Operand} (n:Nat) (ho:o.op = .indexAddr t a i) (ht:wC T t=some (.sl el)) {ti:TI} (hti:T el=some ti) {p q:Prop} {id m sz:Nat} {kd:IntKind} {z:Int} (h1:st.arg G a=(p,.tl id m sz)) (hp:p) (h2:st.arg G i=(q,.p (.int kd z))) (hq:q)
  {e:TypeId} {es:List PD} (hb:zS id st.H=some (.row e sz es)) (hsz:sz=ti.size) (hn:m+n<es.length) (hz:z=(n:Int)):Yields P G o st (.rptr id (m+n) sz 0) st:=by
 subst hz;subst hsz;intro c M μ tmps w hg r;have hd:=hT.sl ht;obtain⟨ie,de,hi',_,_,hsz',_⟩:=hT.get hti;have e1:=qF hg r h1 hp;have e2:=(qF hg r h2 hq).p_inv;generalize hu1:Act.eval ⟨tmps,[]⟩ a=u1 at e1;generalize hu2:Act.eval ⟨tmps,[]⟩ i=u2 at e2;cases e2;cases e1 with
 | @tl _ _ _ b l cp hv2 hn2 hlc =>
 rcases(r.box id _ (zD hb)).cells with⟨rfl,h0,hv⟩|⟨b',cap,arr,h0,hv,hh,has,hlc',hcm,hone',hro⟩
 ·rw[hv]at hv2;cases hv2
 rw[hv]at hv2;cases hv2;have hso:(sizeOf el).run P w = .ok ti.size w:=by simp[sizeOf,typeInfo,hi',hsz']
 have hlt:n<es.length-m:=by omega
 have hof:m * ti.size+n * ti.size=(m+n) * ti.size:=by rw[dC]
 have er:(execOp (Act.eval ⟨tmps,[]⟩) o).run P w = .ok (.value (.pointer (some ⟨b,(m+n) * ti.size+0,none⟩))) w:=by
  simp[execOp,ho,hu1,hu2,Instr.indexAt,asIntOf,run_underlying hd,hlt,hso,jX,hof]
 rw[er];exact⟨M,μ,r,.rptr h0⟩
theorem zMY (hT:TOK P T) {o:Oper} {x:Operand} {t el:TypeId} {p:Prop} {id m sz:Nat} (ho:o.op = .call { callee := .builtin .len,args := #[x],argTypes := #[t] }) (ht:wC T t=some (.sl el)) (h1:st.arg G x=(p,.tl id m sz)) (hp:p)
  {e:TypeId} {es:List PD} (hb:zS id st.H=some (.row e sz es)):Yields P G o st (.p (.int .i64 ((es.length-m:Nat):Int))) st:=by
 intro c M μ tmps w hg r;have hd:=hT.sl ht;have e1:=qF hg r h1 hp;generalize hu1:Act.eval ⟨tmps,[]⟩ x=u1 at e1;cases e1 with
 | @tl _ _ _ b l cp hv2 hn2 hlc =>
 rcases(r.box id _ (zD hb)).cells with⟨rfl,h0,hv⟩|⟨b',cap,arr,h0,hv,hh,has,hlc',hcm,hone',hro⟩
 ·rw[hv]at hv2;cases hv2
 rw[hv]at hv2;cases hv2;have e:(execOp (Act.eval ⟨tmps,[]⟩) o).run P w = .ok (.value (.int .i64 ((es.length-m:Nat):Int))) w:=by
  simp[execOp,ho,resolve,invoke,builtin,hu1,Builtin.len_,run_underlying hd,goInt,Result.andThen]
 rw[e];exact⟨M,μ,r,.p (lA (by simp only[kS];omega) (by simp only[kT];simp[maxLen]at hcm;omega))⟩
theorem zWM (ids:List Nat) {o:Oper} {x:Operand} {args:Array Operand} {tys:Array TypeId} {f:FuncId} {asl:List PD} {r:PD} {p:Prop} (ho:o.op = .call { callee := .value x,args:=args,argTypes:=tys })
  (hf:(yE st ids).arg G x=(p,.p (.fn f))) (hp:p) (hc:AFn P G f asl r) (hq:qII (args.toList.map fun y=>((yE st ids).arg G y).1)) (hfit:iP [] (args.toList.map fun y=>((yE st ids).arg G y).2) asl):Yields P G o st (.p r) (yE st ids):=fun c M μ tmps w hg rel=>by
 obtain⟨M1,r1⟩:=qAV ids rel;exact wAX ho hf hp hc (q:=args.toList.map fun y=>((yE st ids).arg G y).1) (ys:=args.toList.map fun y=>((yE st ids).arg G y).2) (qHA args.toList _ _) (by simp) (fun p hp=>qAO hq p hp) hfit c M1 μ tmps w hg r1
end
section
variable {P:Program} {T:Tab} {G:qT} {l:List Oper} {tss:List (List Nat)} {K:qAX->St->Prop} {st st' st0:St} {rest:List Oper} {ts:List Nat} {acc:qAX} {o:Oper}
theorem oZ (Hs:List (Nat × Box)) {x:Operand} {args:Array Operand} {tys:Array TypeId} {f:FuncId} {asl:List PD} {r:PD} {p:Prop} (hc:AFn P G f asl r) (ho:o.op = .call { callee := .value x,args:=args,argTypes:=tys }) (hgd:o.guard=none)
  (hf:(yE ⟨wS st.tmps ts,Hs.map (·.1),Hs,st.base⟩ (Hs.map (·.1))).arg G x=(p,.p (.fn f))) (hp:p) (hq:qII (args.toList.map fun y=>((yE ⟨wS st.tmps ts,Hs.map (·.1),Hs,st.base⟩ (Hs.map (·.1))).arg G y).1))
  (hfit:iP [] (args.toList.map fun y=>((yE ⟨wS st.tmps ts,Hs.map (·.1),Hs,st.base⟩ (Hs.map (·.1))).arg G y).2) asl) (he:(yE ⟨wS st.tmps ts,Hs.map (·.1),Hs,st.base⟩ (Hs.map (·.1))).H=[]) (hsub:∀ p∈Hs,p∈st.H) (hn:ndB st.H=true) (hns:ndB Hs=true)
  (hst:st.after o.dst ⟨.p r,Hs,[],[],[],false⟩=st') (k:wI P G st0 rest tss st' (acc++[(Sm.mk (.p r) Hs [] [] [] false).sum]) K):wI P G st0 (o::rest) (ts::tss) st acc K:=by
 subst hst;obtain⟨sms,st1,e,hk⟩:=k;have y:=zWM (P:=P) (st:=⟨wS st.tmps ts,Hs.map (·.1),Hs,st.base⟩) (Hs.map (·.1)) ho hf hp hc hq hfit;have hgood:∀ i∈V.ids (V.p r)++xR ([]:List (Nat × Box)),i∈([]:List Nat)\/i∈([]:List Nat):=fun i hi=>by simp[V.ids,xR]at hi
 have hky:∀ i,qM i ([]:List (Nat × Box))=true->i∈Hs.map (·.1)\/i∈([]:List Nat):=fun i hi=>by simp[qM]at hi
 refine⟨⟨.p r,Hs,[],[],[],false⟩::sms,st1,.one hgd (wX hn) ⟨fun h=>absurd h (by simp),hgood,hky,by simp⟩ hsub (fun c M μ st' tmps w R K hG rel hle hbox hnw k => ?_) e,by simpa using hk⟩;exact qAI (s:=⟨.p r,Hs,[],[],[],false⟩) (small:=⟨wS st.tmps ts,Hs.map (·.1),Hs,st.base⟩) (s':=yE ⟨wS st.tmps ts,Hs.map (·.1),Hs,st.base⟩ (Hs.map (·.1))) rfl (wX hns) he.symm (fun i hi=>by simp at hi) hky hgood y c M μ st' tmps w R K hG rel hle hbox hnw k
end
structure PRow (M:qY) (μ:Mu) (ps:List V) (news:List Value):Prop where
 len:news.length=ps.length
 one:∀ u∈news,u.oneCell'=true
 get:∀ (i:Nat) u x,news[i]?=some u->ps[i]?=some x->RV M μ u x
theorem PRow.append {M:qY} {μ:Mu} {ps qs:List V} {xs ys:List Value} (h:PRow M μ ps xs) (k:PRow M μ qs ys):PRow M μ (ps++qs) (xs++ys) where
 len:=by simp[h.len,k.len]
 one:=fun u hu=>(bL.1 hu).elim (h.one u) (k.one u)
 get:=fun i u x hu hx=>by
  rw[cF]at hu hx;rw[h.len]at hu;split at hu
  ·rename_i hi;rw[bE hi]at hx;exact h.get i u x hu hx
  rename_i hi;rw[bD hi]at hx;exact k.get _ u x hu hx
theorem PRow.fresh {M:qY} {μ:Mu} {ps:List V} {xs:List Value} (h:PRow M μ ps xs) {id:Nat} (hn:iO id ps=true) (l:Loc):PRow M (upd μ id l) ps xs :=
 ⟨h.len,h.one,fun i u x hu hx=>(h.get i u x hu hx).mono (fun _ _ _ h=>h) fun j hj=>qJT _ _ (fun e=>by subst e;rw[iQ hn hx]at hj;cases hj)⟩
theorem PRow.box {M:qY} {μ:Mu} {w:World} {id b cap:Nat} {e:TypeId} {ps:List V} {news:List Value} {arr:Array Value} (h:PRow M μ ps news) (h0:(μ id).blk=some b)
  (hv:(μ id).val = .slice (some ⟨b,0,none⟩) ps.length cap) (hh:w.heap[b]?=some (.cells arr e (0,0))) (hs:arr.size=cap) (hc:ps.length<=cap) (hm:cap<=maxLen)
  (hone:∀ (i:Nat) u,arr[i]?=some u->u.oneCell'=true) (hpre:arr.toList.take ps.length=news):RBox M μ w id (.prow e ps):=by
 refine .prow h0 hv hh hs hc hm hone fun i u x hu hx=>h.get i u x ?_ hx;have hi:=(bB.1 hx).1;rw[<-hpre,bW,bE hi];simpa using hu
theorem pP {M:qY} {μ:Mu} {w:World} {id:Nat} {e:TypeId} {ps:List V} (r:RBox M μ w id (.prow e ps)):∃ (b cap:Nat) (arr:Array Value),(μ id).blk=some b/\(μ id).val = .slice (some ⟨b,0,none⟩) ps.length cap/\w.heap[b]?=some (.cells arr e (0,0)) /\
  arr.size=cap/\ps.length<=cap/\cap<=maxLen/\(∀ (i:Nat) u,arr[i]?=some u->u.oneCell'=true)/\PRow M μ ps (arr.toList.take ps.length):=by
 cases r with
 | @prow _ _ b cap arr h0 hv hh hs hc hm ho hg =>
  refine⟨b,cap,arr,h0,hv,hh,hs,hc,hm,ho,⟨by simp;omega,fun u hu => ?_,fun i u x hu hx=>hg i u x ?_ hx⟩⟩
  ·obtain⟨k,hk,rfl⟩:=cP.1 (cB hu);exact ho k _ (by simp at hk;simp[hk])
  have hi:=(bB.1 hx).1;rw[bW,bE hi]at hu;simpa using hu
section
variable {P:Program} {T:Tab} {G:qT} {c:Ctx} {M:qY} {μ:Mu} {st:St} {tmps:Array Value} {w:World}
end
section
variable {P:Program} {T:Tab} {G:qT} {st st1:St}
end
section
variable {P:Program} {T:Tab} {G:qT} {l:List Oper} {tss:List (List Nat)} {K:qAX->St->Prop} {st st' st0:St} {rest:List Oper} {ts:List Nat} {acc:qAX} {o:Oper}
theorem oJ (Hs H':List (Nat × Box)) (x:V) (ps new:List Nat) {s':St} (hgd:o.guard=none) (y:Yields P G o ⟨wS st.tmps ts,Hs.map (·.1),Hs,st.base⟩ x s') (hH:s'.H=H') (hps:∀ i∈ps,i∈s'.pins) (hsub:∀ p∈Hs,p∈st.H)
  (hids:∀ i∈V.ids x++xR H',i∈ps\/i∈new) (hky:∀ i∈H'.map (·.1),i∈Hs.map (·.1)\/i∈new) (hnew:∀ n∈new,st0.fresh n=true) (hn:ndB st.H=true) (hns:ndB Hs=true) (hst:st.after o.dst ⟨x,Hs,H',ps,new,false⟩=st') (k:wI P G st0 rest tss st' (acc++[(Sm.mk x Hs H' ps new false).sum]) K):wI P G st0 (o::rest) (ts::tss) st acc K:=by
 subst hst;obtain⟨sms,st1,e,hk⟩:=k;have hky2:∀ i,qM i H'=true->i∈Hs.map (·.1)\/i∈new:=fun i hi=>by
  obtain⟨b,hb⟩:=qH.1 hi;exact hky i (cO.2 ⟨_,hb,rfl⟩)
 refine⟨⟨x,Hs,H',ps,new,false⟩::sms,st1,.one hgd (wX hn) ⟨fun h=>absurd h (by simp),hids,hky2,hnew⟩ hsub (fun c M μ st' tmps w R K hG rel hle hbox hnw k => ?_) e,by simpa using hk⟩;exact qAI (s:=⟨x,Hs,H',ps,new,false⟩) (small:=⟨wS st.tmps ts,Hs.map (·.1),Hs,st.base⟩) (s':=s') rfl (wX hns) hH.symm hps hky2 hids y c M μ st' tmps w R K hG rel hle hbox hnw k
end
section
variable {P:Program} {T:Tab} {G:qT} {c:Ctx} {M:qY} {μ:Mu} {st:St} {tmps:Array Value} {w:World}
end
section
variable {P:Program} {T:Tab} {G:qT} {st:St}
theorem zQZ (hT:TOK P T) {o:Oper} {t el:TypeId} {n:Nat} {x i:Operand} (ho:o.op = .index t x i) (ht:wC T t=some (.ar n el)) {ti:TI} (hti:T el=some ti) (hag:ti.k.agg=false) (hs:ti.size=1) {p q:Prop} {cs:List PD} {kd:IntKind} {z:Int} (h1:st.arg G x=(p,.p (.agg cs))) (hp:p) (h2:st.arg G i=(q,.p (.int kd z))) (hq:q) (k:Nat) (hz:z=(k:Int)) (hk:k<n)
  {d:PD} (hd:cs[k]?=some d):Yields P G o st (.p d) st:=by
 subst hz;intro c M μ tmps w hg rel;obtain⟨ie,de,hi',hde,hdk,hsz',_⟩:=hT.get hti;have hda:=hT.ar ht;have e1:=(qF hg rel h1 hp).p_inv;have e2:=(qF hg rel h2 hq).p_inv;generalize hu1:Act.eval ⟨tmps,[]⟩ x=u1 at e1;generalize hu2:Act.eval ⟨tmps,[]⟩ i=u2 at e2;cases e2;cases e1 with
 | @agg arr _ ha1 ha2 ha3 =>
 have hlt:k<arr.size:=by rw[ha1];exact(bB.1 hd).1
 have hu:arr[k]?=some arr[k]:=by simp[hlt]
 have hso:(sizeOf el).run P w = .ok 1 w:=by simp[sizeOf,typeInfo,hi',hsz',hs]
 have hag2:(TK.of de).agg=false:=by rw[hdk];exact hag
 have hpt:=qNN hde hag2 arr k _ hu w;have er:(execOp (Act.eval ⟨tmps,[]⟩) o).run P w = .ok (.value arr[k]) w:=by
  simp[execOp,ho,hu1,hu2,Instr.index,asIntOf,run_underlying hda,hk,hso,hpt]
 rw[er];exact⟨M,μ,rel,.p (ha3 k _ d hu hd)⟩
end
section
variable {P:Program} {G:qT} {Q:Exit->St->Prop} {c:Code}
def qQS (P:Program) (G:qT) (c:Code) (Q:Exit->St->Prop):List St->Prop
 | []=>True
 | [s]=>AW P G c (andThen (fun _=>False) Q) s
 | s::t::r=>AW P G c (andThen (fun x=>St.Le x t) Q) s/\qQS P G c Q (t::r)
theorem qQS.get:∀ {l:List St},qQS P G c Q l->∀ {i:Nat} {s:St},l[i]?=some s->AW P G c (andThen (fun x=>∃ t,l[i+1]?=some t/\St.Le x t) Q) s
 | [],_,i,s,h=>by simp at h
 | [a],hr,i,s,h=>by
  cases i with
  | zero =>
   simp at h;subst h;exact AW.mono hr fun e x hx=>by
    cases e <;> first|exact hx.elim|exact hx
  | succ i=>simp at h
 | a::b::r,hr,i,s,h=>by
  cases i with
  | zero =>
   simp at h;subst h;exact AW.mono hr.1 fun e x hx=>by
    cases e <;> first|exact⟨b,rfl,hx⟩|exact hx
  | succ i =>
   have:=qQS.get hr.2 (i:=i) (s:=s) (by simpa using h);exact AW.mono this fun e x hx=>by
    cases e <;> first|(obtain⟨t,h1,h2⟩:=hx;exact⟨t,by simpa using h1,h2⟩)|exact hx
end
section
variable {P:Program} {T:Tab} {G:qT} {st:St}
theorem zUB {M:qY} {μ:Mu} {arr:Array Value} {cs:List V} {u:Value} {y:V} {i:Nat} {rest:List (Nat × Value)} (hc:Cells M μ arr cs) (hu:Cells M μ u.cells [y]) (hi:i<cs.length) :
  ∃ arr',Cells M μ arr' (cs.set i y)/\Instr.fill (fun i=>some (i * 1,1)) arr ((i,u)::rest)=Instr.fill (fun i=>some (i * 1,1)) arr' rest:=by
 have h2:=hc.splice (o:=i) hu (by simp only[dA];omega);rw[qRS _ _ _ hi]at h2;refine⟨_,h2, ?_⟩;have e1:u.cells.size=1:=hu.size;simp only[Instr.fill];rw[bD (by simp[e1];rw[hc.size];omega)];simp
end
section
variable {P:Program} {T:Tab} {G:qT} {Q:Exit->St->Prop} {l:List Oper} {m:Nat} {tss:List (List Nat)} {sms:List Sm}
variable {st st' st0:St} {rest:List Oper} {ts:List Nat} {acc:qAX} {o:Oper} {K:qAX->St->Prop}
end
abbrev MS:=PD × PD × Option (List Int)
abbrev pi (z:Int):PD := .int .i64 z
theorem qQF.move {M:qY} {w:World} {arr arr':Array Value} {en:TypeId} {i j:Nat} {s:MS} {o:Option Nat} (h:∀ k,k<3->arr'[j * 3+k]?=arr[i * 3+k]?) (r:qQF M w arr en i s o):qQF M w arr' en j s o:=by
 obtain⟨⟨u1,k1,g1⟩,⟨u2,k2,g2⟩,k3⟩:=r;have h0:=h 0 (by omega);have h1:=h 1 (by omega);have h2:=h 2 (by omega);rw[cH,cH]at h0;refine⟨⟨u1,h0.trans k1,g1⟩,⟨u2,h1.trans k2,g2⟩, ?_⟩;rcases k3 with⟨e,e1|⟨e1,e2⟩⟩|⟨l,n,cp,ar,q0,q1,q2,q3⟩
 ·exact .inl ⟨e,.inl e1⟩
 ·exact .inl ⟨e,.inr ⟨e1,h2.trans e2⟩⟩
 exact .inr ⟨l,n,cp,ar,q0,q1,h2.trans q2,q3⟩
theorem wP.nil (M:qY) (w:World) (arr:Array Value) (en:TypeId):wP M w [] arr en []:=⟨[],rfl,fun i j n h=>by simp at h,fun n=>by simp,fun i s o h=>by simp at h⟩
theorem wP.one {M:qY} {w:World} {arr:Array Value} {en:TypeId} {s:MS} {o:Option Nat} (h:qQF M w arr en 0 s o):wP M w o.toList arr en [s]:=by
 refine⟨[o],rfl,fun i j n h1 h2 => ?_,fun n => ?_,fun i s' o' h1 h2 => ?_⟩
 ·cases i with
  | zero=>cases j with
   | zero=>rfl
   | succ j=>simp at h2
  | succ i=>simp at h1
 ·constructor
  ·intro hn;refine⟨0, ?_⟩;simp at hn;simp[hn]
  rintro⟨i,hi⟩;cases i with
  | zero=>simp at hi;simp[hi]
  | succ i=>simp at hi
 cases i with
 | zero=>simp at h1 h2;subst h1;subst h2;exact h
 | succ i=>simp at h1
theorem wP.set {M:qY} {w:World} {sub:List Nat} {arr:Array Value} {en:TypeId} {ss:List MS} {i:Nat} {s:MS} (h:wP M w sub arr en ss) (hi:ss[i]?=some s) :
  ∃ o,qQF M w arr en i s o/\(∀ n,o=some n->n∈sub)/\∀ (s':MS) o' arr' sub',qQF M w arr' en i s' o'->(∀ j,j<i * 3\/i * 3+3<=j->arr'[j]?=arr[j]?)->(∀ n,o'=some n->o=some n\/n ∉ sub) ->
   (∀ n,n∈sub'↔(n∈sub/\o≠some n)\/o'=some n)->wP M w sub' arr' en (ss.set i s'):=by
 obtain⟨ns,h1,h2,h3,h4⟩:=h;have hil:=(bB.1 hi).1;have hin:i<ns.length:=by omega
 have hio:ns[i]?=some ns[i]:=by simp[hin]
 refine⟨ns[i],h4 i s _ hi hio,fun n hn=>(h3 n).2 ⟨i,by rw[hio,hn]⟩,fun s' o' arr' sub' g1 g2 g3 g4 => ?_⟩;have hset:∀ (j:Nat) x,(ns.set i o')[j]?=some x->(j=i/\x=o')\/(j≠i/\ns[j]?=some x):=fun j x hj=>by
  rw[dO]at hj;split at hj
  ·rename_i e;subst e;have:=hj;simp[hin]at this;exact .inl ⟨rfl,this.symm⟩
  rename_i e;exact .inr ⟨fun h=>e h.symm,hj⟩
 have hget:∀ j:Nat,j≠i->(ns.set i o')[j]?=ns[j]?:=fun j hj=>by rw[dO,bD (fun e=>hj e.symm)]
 have hgi:(ns.set i o')[i]?=some o':=by simp[hin]
 refine⟨ns.set i o',by simp[h1],fun a b n ha hb => ?_,fun n => ?_,fun j t o hj ho => ?_⟩
 ·rcases hset a _ ha with⟨rfl,e1⟩|⟨n1,e1⟩ <;> rcases hset b _ hb with⟨rfl,e2⟩|⟨n2,e2⟩
  ·rfl
  ·rcases g3 n e1.symm with g|g
   ·exact h2 _ _ n (by rw[hio,g]) e2
   exact(g ((h3 n).2 ⟨b,e2⟩)).elim
  ·rcases g3 n e2.symm with g|g
   ·exact h2 _ _ n e1 (by rw[hio,g])
   exact(g ((h3 n).2 ⟨a,e1⟩)).elim
  exact h2 a b n e1 e2
 ·rw[g4];constructor
  ·rintro(⟨hn,hne⟩|hn)
   ·obtain⟨a,ha⟩:=(h3 n).1 hn;have:a≠i:=by rintro rfl;rw[hio]at ha;exact hne (Option.some.inj ha)
    exact⟨a,by rw[hget a this];exact ha⟩
   exact⟨i,by rw[hgi,hn]⟩
  rintro⟨a,ha⟩;rcases hset a _ ha with⟨rfl,e1⟩|⟨n1,e1⟩
  ·exact .inr e1.symm
  exact .inl ⟨(h3 n).2 ⟨a,e1⟩,fun e=>n1 (h2 a i n e1 (by rw[hio,e]))⟩
 rcases hset j _ ho with⟨rfl,rfl⟩|⟨n1,e1⟩
 ·have:t=s':=by rw[gK hil]at hj;exact(Option.some.inj hj).symm
  subst this;exact g1
 rw[fB (fun e=>n1 e.symm)]at hj;exact(h4 j t o hj e1).move fun k hk=>g2 _ (by omega)
theorem wP.append {M:qY} {w:World} {sub1 sub2:List Nat} {arr1 arr2 arr:Array Value} {en:TypeId} {ss qs:List MS} (h:wP M w sub1 arr1 en ss) (k:wP M w sub2 arr2 en qs) (hd:∀ n∈sub1,n ∉ sub2)
  (e1:∀ j,j<ss.length * 3->arr[j]?=arr1[j]?) (e2:∀ j,j<qs.length * 3->arr[ss.length * 3+j]?=arr2[j]?):wP M w (sub1++sub2) arr en (ss++qs):=by
 obtain⟨ns,h1,h2,h3,h4⟩:=h;obtain⟨ms,k1,k2,k3,k4⟩:=k;have cs:∀ {i:Nat} {x:Option Nat},(ns++ms)[i]?=some x->(i<ns.length/\ns[i]?=some x)\/(ns.length<=i/\ms[i-ns.length]?=some x):=fun {i x} hi=>by
  rw[cF]at hi;split at hi
  ·rename_i hl;exact .inl ⟨hl,hi⟩
  rename_i hl;exact .inr ⟨by omega,hi⟩
 refine⟨ns++ms,by simp[h1,k1],fun i j n hi hj => ?_,fun n => ?_,fun i s o hi ho => ?_⟩
 ·rcases cs hi with⟨l1,a1⟩|⟨l1,a1⟩ <;> rcases cs hj with⟨l2,a2⟩|⟨l2,a2⟩
  ·exact h2 i j n a1 a2
  ·exact(hd n ((h3 n).2 ⟨i,a1⟩) ((k3 n).2 ⟨_,a2⟩)).elim
  ·exact(hd n ((h3 n).2 ⟨j,a2⟩) ((k3 n).2 ⟨_,a1⟩)).elim
  have:=k2 _ _ n a1 a2;omega
 ·rw[bL,h3,k3];constructor
  ·rintro(⟨i,hi⟩|⟨i,hi⟩)
   ·exact⟨i,by rw[cW (bB.1 hi).1];exact hi⟩
   exact⟨ns.length+i,by rw[cU (by omega),Nat.add_sub_cancel_left];exact hi⟩
  rintro⟨i,hi⟩;rcases cs hi with⟨_,a⟩|⟨_,a⟩
  ·exact .inl ⟨i,a⟩
  exact .inr ⟨_,a⟩
 rw[cF]at hi;rcases cs ho with⟨l1,a1⟩|⟨l1,a1⟩
 ·rw[bE (by omega)]at hi;exact(h4 i s o hi a1).move fun q hq=>e1 _ (by omega)
 rw[bD (by omega),<-h1]at hi;refine(k4 _ s o hi a1).move fun q hq => ?_;have:=(bB.1 a1).1;rw[<-e2 _ (by omega)];congr 1;omega
theorem RBox.mcells {M:qY} {μ:Mu} {w:World} {id:Nat} {es en:TypeId} {ss:List MS} (r:RBox M μ w id (.mach es en ss)):(ss=[]/\(μ id).blk=none/\(μ id).val = .slice none 0 0/\(μ id).sub=[]) \/
  ∃ (b cap:Nat) (arr:Array Value),(μ id).blk=some b/\(μ id).val = .slice (some ⟨b,0,none⟩) ss.length cap/\w.heap[b]?=some (.cells arr es (0,0))/\arr.size=cap * 3/\ss.length<=cap/\cap<=maxLen /\
   (∀ (i:Nat) u,arr[i]?=some u->u.oneCell'=true)/\b ∉ (μ id).sub/\wP M w (μ id).sub arr en ss:=by
 cases r with
 | machN h0 hv h1=>exact .inl ⟨rfl,h0,hv,h1⟩
 | mach h0 hv h1 h2 h3 h4 h5 hn h6=>exact .inr ⟨_,_,_,h0,hv,h1,h2,h3,h4,h5,hn,h6⟩
section
variable {c:Ctx} {M:qY} {μ:Mu} {st:St} {tmps:Array Value} {w w':World}
theorem Rel.remake (r:Rel c M μ st tmps w) {id b:Nat} {bx:Box} {sub:List Nat} (hk:qM id st.H=true) (hb:(μ id).blk=some b) (h:Turned w w' b)
  (hsub:∀ n∈sub,c.mine n/\n<w.heap.size/\(∀ o,M n o=none)/\∀ j,j≠id->qM j st.H=true->¬ (μ j).has n) (hbx:RBox M (upd μ id ⟨(μ id).blk,(μ id).val,sub⟩) w' id bx) :
  Rel c M (upd μ id ⟨(μ id).blk,(μ id).val,sub⟩) { st with H:=zO id bx st.H } tmps w':=by
 have hB:=r.own id b hk (.inl hb);have hat:∀ j,(upd μ id ⟨(μ id).blk,(μ id).val,sub⟩ j).at=(μ j).at:=fun j=>by
  by_cases e:j=id
  ·subst e;rw[qK];rfl
  exact qJT _ _ e
 have hhas:∀ n,(upd μ id ⟨(μ id).blk,(μ id).val,sub⟩ id).has n->n=b\/n∈sub:=fun n hn=>by
  rw[qK]at hn;rcases hn with hn|hn
  ·rw[hb]at hn;exact .inl (Option.some.inj hn).symm
  exact .inr hn
 refine { r with mem := ?_,slots := ?_,pins := ?_,box := ?_,nodup := ?_,inj := ?_,own := ?_,size := ?_,below := ?_ }
 ·intro b' o v hv;have hne:b'≠b:=by rintro rfl;rw[hB.2.2 o]at hv;cases hv
  exact(World.cell?_of_block (w:=w) (h.block b' hne)).trans (r.mem b' o v hv)
 ·exact r.slots.mono (fun _ _ _ h=>h) fun i _=>hat i
 ·exact fun i hi=>(hat i).trans (r.pins i hi)
 ·intro i bx' hb';rcases qKF r.nodup hb' with⟨rfl,rfl⟩|⟨hne,hb''⟩
  ·exact hbx
  exact(r.box i bx' hb'').mono (fun _ _ _ h=>h) (yM _ _ hne) (fun j _=>hat j) (fun b2 hb2=>h.block _ fun e=>hne (r.inj i id b (qH.2 ⟨bx',hb''⟩) hk (e ▸ hb2) (.inl hb)))
 ·show((zO id bx st.H).map (·.1)).Nodup
  rw[qFW];exact r.nodup
 ·intro i j n hi hj hin hjn;have hi':=kL.1 hi;have hj':=kL.1 hj;clear hi hj
  by_cases e1:i=id <;> by_cases e2:j=id
  ·rw[e1,e2]
  ·subst e1;rw[yM _ _ e2]at hjn;rcases hhas n hin with e|e
   ·subst e;exact(e2 (r.inj j i n hj' hk hjn (.inl hb))).elim
   exact((hsub n e).2.2.2 j e2 hj' hjn).elim
  ·subst e2;rw[yM _ _ e1]at hin;rcases hhas n hjn with e|e
   ·subst e;exact(e1 (r.inj i j n hi' hk hin (.inl hb))).elim
   exact((hsub n e).2.2.2 i e1 hi' hin).elim
  rw[yM _ _ e1]at hin;rw[yM _ _ e2]at hjn;exact r.inj i j n hi' hj' hin hjn
 ·intro i n hi hin;have hi':=kL.1 hi;by_cases e1:i=id
  ·subst e1;rcases hhas n hin with e|e
   ·subst e;exact⟨hB.1,by rw[h.size];exact hB.2.1,hB.2.2⟩
   have:=hsub n e;exact⟨this.1,by rw[h.size];exact this.2.1,this.2.2.1⟩
  rw[yM _ _ e1]at hin;have:=r.own i n hi' hin;exact⟨this.1,by rw[h.size];exact this.2.1,this.2.2⟩
 ·rw[h.size];exact r.size
 exact r.below.trans ⟨h.os,h.tape,h.output,Nat.le_of_eq h.size.symm,fun k hk=>h.block k (by rintro rfl;exact hk hB.1)⟩
theorem Rel.beginMach (r:Rel c M μ st tmps w) {id k j:Nat} {e:TypeId} {cells:List V} (hb:zS id st.H=some (.vars e cells)) (hj:cells[j]?=some .nilsl)
  (hf:st.fresh k=true) (es en:TypeId):∃ μ',Rel c M μ' { st with H:=zO id (.vars e (cells.set j (.ms k))) ((k,.mach es en [])::st.H) } tmps w:=by
 have hm:=zD hb;have hk:qM id st.H=true:=qH.2 ⟨_,hm⟩;have r1:=r.adopt (l:=⟨none,.slice none 0 0,[]⟩) hf (fun b hb=>by cases hb) (bx := .mach es en []) (.machN (by rw[qK]) (by rw[qK]) (by rw[qK]));have hbx:=r1.box id _ (cZ _ hm);cases hbx with
 | @vars _ _ b arr h0 hh hs ho hc =>
 refine⟨_,r1.write (id:=id) (b:=b) (w':=w) (bx := .vars e (cells.set j (.ms k))) (by simp[qM,hk]) h0 (Turned.refl w b) (.vars h0 hh (by simpa using hs) ho fun i u x hu hx => ?_)⟩;rw[dO]at hx;split at hx
 ·rename_i hji;subst hji;split at hx
  ·cases hx;have:=hc j u .nilsl hu hj;cases this;exact .ms (by rw[qK]) rfl
  cases hx
 exact hc i u x hu hx
theorem Rel.gone (r:Rel c M μ st tmps w) {id:Nat} (hk:qM id st.H=true) {n:Nat} (hn:(μ id).has n) {H:List (Nat × Box)} (hH:∀ j,qM j H=true->j≠id/\qM j st.H=true) :
  c.mine n/\n<w.heap.size/\(∀ o,M n o=none)/\∀ j,qM j H=true->¬ (μ j).has n :=
 have h:=r.own id n hk hn
 ⟨h.1,h.2.1,h.2.2,fun j hj hjn=>(hH j hj).1 (r.inj j id n (hH j hj).2 hk hjn hn)⟩
end
section
variable {P:Program} {T:Tab} {G:qT} {Q:Exit->St->Prop} {st st':St}
theorem AW.beginMach {c:Code} (id k j:Nat) (es en:TypeId) {e:TypeId} {cells:List V} (hb:zS id st.H=some (.vars e cells)) (hj:cells[j]?=some .nilsl) (hf:st.fresh k=true)
  (h:({ st with H:=zO id (.vars e (cells.set j (.ms k))) ((k,.mach es en [])::st.H) }:St)=st') (k:AW P G c Q st'):AW P G c Q st:=fun x M μ tmps w hg r=>by
 obtain⟨μ',r'⟩:=r.beginMach hb hj hf es en;exact k x M μ' tmps w hg (h ▸ r')
theorem qMX (hT:TOK P T) {o:Oper} {x:Operand} {t el:TypeId} {p:Prop} {id:Nat} (ho:o.op = .call { callee := .builtin .len,args := #[x],argTypes := #[t] }) (ht:wC T t=some (.sl el)) (h1:st.arg G x=(p,.ms id)) (hp:p)
  {es en:TypeId} {ss:List MS} (hb:zS id st.H=some (.mach es en ss)):Yields P G o st (.p (.int .i64 ss.length)) st:=by
 intro c M μ tmps w hg r;have hd:=hT.sl ht;have e1:=qF hg r h1 hp;generalize hu1:Act.eval ⟨tmps,[]⟩ x=u1 at e1;cases e1 with
 | ms hval _ =>
 rcases(r.box id _ (zD hb)).mcells with⟨rfl,h0,hv,_⟩|⟨b,cap,arr,h0,hv,hh,has,hlc,hcm,hone,hro⟩
 ·rw[hv]at hval;subst hval;have e:(execOp (Act.eval ⟨tmps,[]⟩) o).run P w = .ok (.value (.int .i64 0)) w:=by
   simp[execOp,ho,resolve,invoke,builtin,hu1,Builtin.len_,run_underlying hd,goInt,Result.andThen]
  rw[e];exact⟨M,μ,r,.p (lA (by simp[kS]) (by simp[kT]))⟩
 rw[hv]at hval;subst hval;have e:(execOp (Act.eval ⟨tmps,[]⟩) o).run P w = .ok (.value (.int .i64 ss.length)) w:=by
  simp[execOp,ho,resolve,invoke,builtin,hu1,Builtin.len_,run_underlying hd,goInt,Result.andThen]
 rw[e];exact⟨M,μ,r,.p (lA (by simp only[kS];omega) (by simp only[kT];simp[maxLen]at hcm;omega))⟩
theorem qBQ (hT:TOK P T) {o:Oper} {t el:TypeId} {a i:Operand} (n:Nat) (ho:o.op = .indexAddr t a i) (ht:wC T t=some (.sl el)) {ti:TI} (hti:T el=some ti) (hsz:ti.size=3) {p q:Prop} {id:Nat} {kd:IntKind} {z:Int} (h1:st.arg G a=(p,.ms id)) (hp:p) (h2:st.arg G i=(q,.p (.int kd z))) (hq:q)
  {es en:TypeId} {ss:List MS} (hb:zS id st.H=some (.mach es en ss)) (hn:n<ss.length) (hz:z=(n:Int)):Yields P G o st (.rptr id n 3 0) st:=by
 subst hz;intro c M μ tmps w hg r;have hd:=hT.sl ht;obtain⟨ie,de,hi',_,_,hsz',_⟩:=hT.get hti;have e1:=qF hg r h1 hp;have e2:=(qF hg r h2 hq).p_inv;generalize hu1:Act.eval ⟨tmps,[]⟩ a=u1 at e1;generalize hu2:Act.eval ⟨tmps,[]⟩ i=u2 at e2;cases e1 with
 | ms hval _ =>
 cases e2;rcases(r.box id _ (zD hb)).mcells with⟨rfl,h0,hv,_⟩|⟨b,cap,arr,h0,hv,hh,has,hlc,hcm,hone,hro⟩
 ·simp at hn
 rw[hv]at hval;subst hval;have hso:(sizeOf el).run P w = .ok 3 w:=by simp[sizeOf,typeInfo,hi',hsz',hsz]
 have er:(execOp (Act.eval ⟨tmps,[]⟩) o).run P w = .ok (.value (.pointer (some ⟨b,n * 3+0,none⟩))) w:=by
  simp[execOp,ho,hu1,hu2,Instr.indexAt,asIntOf,run_underlying hd,hn,hso,jX]
 rw[er];exact⟨M,μ,r,.rptr h0⟩
theorem zGL (hT:TOK P T) {o:Oper} {t:TypeId} {a:Operand} (ho:o.op = .load t a) {ti:TI} (hti:T t=some ti) (hag:ti.k.agg=false) {p:Prop} {id i:Nat} (h1:st.arg G a=(p,.rptr id i 3 2)) (hp:p)
  {es en:TypeId} {ss:List MS} {d1 d2:PD} {l:List Int} (hb:zS id st.H=some (.mach es en ss)) (hi:ss[i]?=some (d1,d2,some l)) (k:Nat) (hf:st.fresh k=true)
  (he:({ st with H:=(k,.row en 1 (l.map pi))::zO id (.mach es en (ss.set i (d1,d2,none))) st.H }:St)=st'):Yields P G o st (.ms k) st':=by
 subst he;intro c M μ tmps w hg r;obtain⟨it,d,hii,hd,hk,hsz,_⟩:=hT.get hti;have e1:=qF hg r h1 hp;generalize hu1:Act.eval ⟨tmps,[]⟩ a=u1 at e1;cases e1 with
 | @rptr _ _ _ _ b hbk =>
 have hm:=zD hb;have hky:qM id st.H=true:=qH.2 ⟨_,hm⟩;rcases(r.box id _ hm).mcells with⟨_,h0,_⟩|⟨b',cap,arr,h0,hv,hh,has,hlc,hcm,hone,hbn,hN⟩
 ·rw[hbk]at h0;cases h0
 rw[hbk]at h0;cases h0;have hil:=(bB.1 hi).1;have hlt:i * 3+2<arr.size:=by omega
 have hcell:w.cell? ⟨b,i * 3+2,none⟩=some arr[i * 3+2]:=by rw[zQ hh];simp[hlt]
 have:=xH hd hii b (i * 3+2) (fun _=>arr[i * 3+2]) w (fun j hj=>by
  rw[hk,hag]at hj;have:j=0:=by simpa using hj
  subst this;simp only[cH];exact hcell)
 rw[hk,hag]at this;have er:(execOp (Act.eval ⟨tmps,[]⟩) o).run P w = .ok (.value arr[i * 3+2]) w:=by simp[execOp,ho,hu1,this]
 rw[er];obtain⟨o1,hS,hos,hset⟩:=hN.set hi;have hfid:id≠k:=by
  rintro rfl;have:=(lE hf).2.2.2;rw[hky]at this;cases this
 let sub':=(μ id).sub.filter fun n=>decide (o1≠some n)
 have hN':wP M w sub' arr en (ss.set i (d1,d2,none)):=hset _ none arr sub' ⟨hS.1,hS.2.1,.inl ⟨rfl,.inl rfl⟩⟩ (fun _ _=>rfl) (fun n h=>by cases h) (fun n=>by simp[sub',eN]);have r1:=r.remake (bx := .mach es en (ss.set i (d1,d2,none))) (sub:=sub') hky hbk (Turned.refl w b) (fun n hn=>by
  have hns:n∈(μ id).sub:=(eN.1 hn).1;have:=r.own id n hky (.inr hns);exact⟨this.1,this.2.1,this.2.2,fun j hj hkj hjn=>hj (r.inj j id n hkj hky hjn (.inr hns))⟩) (by
  refine .mach (b:=b) (cap:=cap) (arr:=arr) (by rw[qK];exact hbk) (by rw[qK];simpa using hv) hh has (by simpa using hlc) hcm hone (by rw[qK];exact fun h=>hbn (eN.1 h).1) ?_;rw[qK];exact hN')
 have hf1:({ st with H:=zO id (.mach es en (ss.set i (d1,d2,none))) st.H }:St).fresh k=true:=by
  obtain⟨f1,f2,f3,f4⟩:=lE hf;have g3:∀ H:List (Nat × Box),kX k H=true->kX k (zO id (.mach es en (ss.set i (d1,d2,none))) H)=true:=by
   intro H;induction H with
   | nil=>exact fun h=>h
   | cons x H ih =>
    obtain⟨a,bx⟩:=x;simp only[kX,zO,bI];intro h;split
    ·simp only[kX,Box.noRef,Bool.true_and];exact h.2
    simp only[kX,bI];exact⟨h.1,ih h.2⟩
  have g4:qM k (zO id (.mach es en (ss.set i (d1,d2,none))) st.H)=false:=by
   cases hq:qM k (zO id (.mach es en (ss.set i (d1,d2,none))) st.H)with
   | false=>rfl
   | true=>rw[kL.1 hq]at f4;cases f4
  simp[St.fresh,f1,f2,g3 _ f3,g4]
 have hS2:=hS.2.2;rcases hS2 with⟨_,e1|⟨e1,e2⟩⟩|⟨l',n,cp,ar,q0,q1,q2,q3,q4,q5,q6,q7,q8⟩
 ·cases e1
 ·cases e1;have hu:arr[i * 3+2] = .slice none 0 0:=by
   have:=e2;simp[hlt]at this;exact this
  rw[hu];exact⟨M,_,r1.adopt (l:=⟨none,.slice none 0 0,[]⟩) hf1 (fun b hb=>by cases hb) (bx := .row en 1 []) (.rowN (by rw[qK]) (by rw[qK])),.ms (by rw[qK]) rfl⟩
 cases q0;have hu:arr[i * 3+2] = .slice (some ⟨n,0,none⟩) l.length cp:=by
  have:=q2;simp[hlt]at this;exact this
 rw[hu];have hns:n∈(μ id).sub:=hos n q1;have hown:=r.own id n hky (.inr hns);have hnb:n≠b:=fun e=>hbn (e ▸ hns);refine⟨M,_,r1.adopt (l:=⟨some n,.slice (some ⟨n,0,none⟩) l.length cp,[]⟩) hf1 (fun b' hb' => ?_) (bx := .row en 1 (l.map pi)) ?_,.ms (by rw[qK]) rfl⟩
 ·cases hb';refine⟨hown.1,hown.2.1,hown.2.2,fun j hj hjn => ?_⟩;have hj':=kL.1 hj;by_cases e:j=id
  ·subst e;rw[qK]at hjn;rcases hjn with hjn|hjn
   ·rw[hbk]at hjn;exact hnb (Option.some.inj hjn).symm
   have:=(eN.1 hjn).2;simp at this;exact this q1
  rw[yM _ _ e]at hjn;exact e (r.inj j id n hj' hky hjn (.inr hns))
 refine .row (b:=n) (cap:=cp) (arr:=ar) (by rw[qK]) (by rw[qK];simp) q3 (by rw[q4,eB]) (by simpa using q5) q6 q7 (fun j e' hj => ?_) (fun j e' k' d u hj hd hu => ?_)
 ·rw[bG]at hj;obtain⟨z,_,rfl⟩:=bF.1 hj;rfl
 rw[bG]at hj;obtain⟨z,hz,rfl⟩:=bF.1 hj;have hk0:k'=0:=by have:=(bB.1 hd).1;simpa[PD.cells]using this
 subst hk0;simp[PD.cells]at hd;subst hd;rw[eB,cH,(q8 j z hz).1]at hu;cases hu;exact .int (q8 j z hz).2.1 (q8 j z hz).2.2
theorem zCZ {M:qY} {μ:Mu} {w:World} {k:Nat} {en:TypeId} {l:List Int} (r:RBox M μ w k (.row en 1 (l.map pi))):(l=[]/\(μ k).blk=none/\(μ k).val = .slice none 0 0) \/
  ∃ (n cp:Nat) (ar:Array Value),(μ k).blk=some n/\(μ k).val = .slice (some ⟨n,0,none⟩) l.length cp/\w.heap[n]?=some (.cells ar en (0,0))/\ar.size=cp/\l.length<=cp/\cp<=maxLen /\
   (∀ (j:Nat) u,ar[j]?=some u->u.oneCell'=true)/\∀ (j:Nat) (z:Int),l[j]?=some z->ar[j]?=some (.int .i64 z)/\IntKind.i64.min<=z/\z<=IntKind.i64.max:=by
 rcases r.cells with⟨e,h0,hv⟩|⟨n,cp,ar,h0,hv,hh,has,hlc,hcm,hone,hro⟩
 ·exact .inl ⟨by simpa using e,h0,hv⟩
 refine .inr ⟨n,cp,ar,h0,by simpa using hv,hh,by simpa using has,by simpa using hlc,hcm,hone,fun j z hz => ?_⟩;have hjl:=(bB.1 hz).1;have hja:j<ar.size:=by rw[has];simp at hlc;omega
 have hr:=hro.get j (pi z) 0 (pi z) ar[j] (by rw[bG,hz];rfl) rfl (by rw[bW,bE (by simp;omega)];simp[hja]);cases hu:ar[j]with
 | int k v =>
  rw[hu]at hr;cases hr with
  | int a b=>exact⟨by simp[hja,hu],a,b⟩
 | _=>rw[hu]at hr;cases hr
theorem zMX (hT:TOK P T) {o:Oper} {t:TypeId} {a x:Operand} (ho:o.op = .store t a x) {ti:TI} (hti:T t=some ti) (hs1:ti.size=1) {p q:Prop} {id i k:Nat} (h1:st.arg G a=(p,.rptr id i 3 2)) (hp:p) (h2:st.arg G x=(q,.ms k)) (hq:q)
  {es en:TypeId} {ss:List MS} {d1 d2:PD} {l:List Int} {rs:List PD} (hb:zS id st.H=some (.mach es en ss)) (hi:ss[i]?=some (d1,d2,none)) (hk:zS k st.H=some (.row en 1 rs)) (hrs:rs=l.map pi) (hne:id≠k)
  (he:({ st.kill k with H:=zO id (.mach es en (ss.set i (d1,d2,some l))) (st.kill k).H }:St)=st'):Yields P G o st .dead st':=by
 subst he;subst hrs;intro c M μ tmps w hg r;obtain⟨it,d,hii,hd,hkd,hsz,_⟩:=hT.get hti;have e1:=qF hg r h1 hp;have e2:=qF hg r h2 hq;generalize hu1:Act.eval ⟨tmps,[]⟩ a=u1 at e1;generalize hu2:Act.eval ⟨tmps,[]⟩ x=u2 at e2;cases e1 with
 | @rptr _ _ _ _ b hbk =>
 cases e2 with
 | ms hval hone2 =>
 have hm:=zD hb;have hky:qM id st.H=true:=qH.2 ⟨_,hm⟩;have hmk:=zD hk;have hkk:qM k st.H=true:=qH.2 ⟨_,hmk⟩;rcases(r.box id _ hm).mcells with⟨_,h0,_⟩|⟨b',cap,arr,h0,hv,hh,has,hlc,hcm,hone,hbn,hN⟩
 ·rw[hbk]at h0;cases h0
 rw[hbk]at h0;cases h0;have hil:=(bB.1 hi).1;have hcs:u2.cells = #[u2]:=by
  cases u2 <;> first|rfl|(simp[Value.oneCell']at hone2)
 have hst:=run_storeCells_at P b (i * 3+2) es [u2] 0 arr w hh (by simp;omega) (fun v hv=>by
  rw[cG.1 hv];exact hone2)
 simp only[cH]at hst;generalize hnew:(arr.toList.take (i * 3+2)++[u2]++arr.toList.drop (i * 3+2+[u2].length)).toArray=arr' at hst;have hget:∀ j,arr'[j]?=if j=i * 3+2 then some u2 else arr[j]?:=by
  intro j;rw[<-hnew,cN];have hto:(arr.toList.take (i * 3+2)).length=i * 3+2:=by simp;omega
  rw[cD,cF,hto];split
  ·rename_i hj;rw[bD (by omega),bW,bE hj];simp
  rename_i hj;rw[cF];split
  ·rename_i h2;simp at h2;rw[bE (by omega),show j-(i * 3+2)=0 from by omega];rfl
  rename_i h2;simp at h2;rw[bD (by omega),bZ];simp only[dA];rw[show i * 3+2+1+(j-(i * 3+2)-1)=j from by omega];simp
 have hsize:arr'.size=arr.size:=by rw[<-hnew];simp;omega
 have er:(execOp (Act.eval ⟨tmps,[]⟩) o).run P w = .ok .skip (w.setRow b arr'):=by
  have hso:(sizeOf t).run P w = .ok 1 w:=by simp[sizeOf,typeInfo,hii,hsz,hs1]
  simp only[execOp,ho,hu1,hu2];rw[Sem.run_bind];have:(Instr.storeAt t (.pointer (some ⟨b,i * 3+2,none⟩)) u2).run P w = .ok () (w.setRow b arr'):=by
   show(storeVar t ⟨b,i * 3+2,none⟩ u2).run P w=_
   unfold storeVar;rw[Sem.run_bind,hso];simp only[Result.andThen_ok];rw[bD (by simp[hcs])];rw[hcs];exact hst
  rw[this];rfl
 rw[er];have r1:=r.kill k;have hidk:qM id (st.kill k).H=true:=by
  have:∀ H:List (Nat × Box),qM id H=true->qM id (qAH k H)=true:=by
   intro H;induction H with
   | nil=>exact fun h=>h
   | cons x H ih =>
    obtain⟨a,bx⟩:=x;simp only[qM,qAH,cX,dD];intro h;split
    ·rename_i e;rcases h with h|h
     ·exact(hne (h ▸ e)).elim
     exact ih h
    simp only[qM,cX,dD];exact h.imp (fun h=>h) ih
  exact this _ hky
 have hkillH:∀ j,qM j (st.kill k).H=true->j≠k/\qM j st.H=true:=fun j hj=>kM hj;have hT2:=kP w b arr';have hNm:wP M (w.setRow b arr') (μ id).sub arr en ss:=hN.mono (fun _ _ _ h=>h) fun n hn=>hT2.block n fun e=>hbn (e ▸ hn);obtain⟨o1,hS,hos,hset⟩:=hNm.set hi;have hoff:∀ j,j<i * 3\/i * 3+3<=j->arr'[j]?=arr[j]?:=fun j hj=>by rw[hget,bD (by omega)]
 have ho1:o1=none:=by
  rcases hS.2.2 with⟨e,_⟩|⟨l',n,cp,ar,q0,_⟩
  ·exact e
  cases q0
 subst ho1;have hold:∀ n∈(μ id).sub,c.mine n/\n<w.heap.size/\(∀ o,M n o=none)/\∀ j,j≠id->qM j (st.kill k).H=true->¬ (μ j).has n:=fun n hn=>by
  have:=r.own id n hky (.inr hn);exact⟨this.1,this.2.1,this.2.2,fun j hj hkj hjn=>hj (r.inj j id n (hkillH j hkj).2 hky hjn (.inr hn))⟩
 have honec:∀ (j:Nat) u,arr'[j]?=some u->u.oneCell'=true:=fun j u hu=>by
  rw[hget]at hu;split at hu
  ·cases hu;exact hone2
  exact hone j u hu
 have c1:(∃ u,arr'[i * 3]?=some u/\Rd M u d1)/\(∃ u,arr'[i * 3+1]?=some u/\Rd M u d2):=by
  refine⟨?_, ?_⟩
  ·rw[hget,bD (by omega)];exact hS.1
  rw[hget,bD (by omega)];exact hS.2.1
 rcases zCZ (r.box k _ hmk)with⟨rfl,k0,kv⟩|⟨n,cp,ar,k0,kv,k1,k2,k3,k4,k5,k6⟩
 ·rw[kv]at hval;subst hval;refine⟨M,_,r1.remake (sub:=(μ id).sub) hidk hbk hT2 hold ?_,.dead⟩;refine .mach (b:=b) (cap:=cap) (arr:=arr') (by rw[qK];exact hbk) (by rw[qK];simpa using hv) (setRow_heap w b arr _ es (0,0) hh) (by rw[hsize];exact has) (by simpa using hlc) hcm honec (by rw[qK];exact hbn) ?_;rw[qK];exact hset _ none arr' _ ⟨c1.1,c1.2,.inl ⟨rfl,.inr ⟨rfl,by rw[hget,bE rfl]⟩⟩⟩ hoff (fun n h=>by cases h) (fun n=>by simp)
 rw[kv]at hval;subst hval;have hnown:=r.own k n hkk (.inl k0);have hnb:n≠b:=fun e=>hne (r.inj id k n hky hkk (.inl (e ▸ hbk)) (.inl k0));have hnsub:n ∉ (μ id).sub:=fun h=>hne (r.inj id k n hky hkk (.inr h) (.inl k0));refine⟨M,_,r1.remake (sub:=n::(μ id).sub) hidk hbk hT2 (fun n' hn' => ?_) ?_,.dead⟩
 ·rcases bM.1 hn' with rfl|h
  ·exact⟨hnown.1,hnown.2.1,hnown.2.2,fun j hj hkj hjn=>(hkillH j hkj).1 (r.inj j k _ (hkillH j hkj).2 hkk hjn (.inl k0))⟩
  exact hold n' h
 refine .mach (b:=b) (cap:=cap) (arr:=arr') (by rw[qK];exact hbk) (by rw[qK];simpa using hv) (setRow_heap w b arr _ es (0,0) hh) (by rw[hsize];exact has) (by simpa using hlc) hcm honec (by rw[qK];simp[hbn,Ne.symm hnb]) ?_;rw[qK];exact hset _ (some n) arr' _ ⟨c1.1,c1.2,.inr ⟨l,n,cp,ar,rfl,rfl,by rw[hget,bE rfl],(hT2.block n hnb).trans k1,k2,k3,k4,k5,k6⟩⟩ hoff (fun n' h=>by cases h;exact .inr hnsub) (fun n'=>by simp[or_comm,eq_comm])
theorem qFH (hT:TOK P T) {o:Oper} {t:TypeId} {a x:Operand} (ho:o.op = .store t a x) {ti:TI} (hti:T t=some ti) (hs1:ti.size=1) {p q:Prop} {id i f:Nat} {v:V} {d:PD} (hff:f<2) (h1:st.arg G a=(p,.rptr id i 3 f)) (hp:p) (h2:st.arg G x=(q,v)) (hq:q) (hv1:v.cells=some [v]) (hfit:iS [] v d)
  {es en:TypeId} {ss:List MS} {s:MS} (hb:zS id st.H=some (.mach es en ss)) (hi:ss[i]?=some s)
  (he:({ st with H:=zO id (.mach es en (ss.set i (if f=0 then d else s.1,if f=0 then s.2.1 else d,s.2.2))) st.H }:St)=st'):Yields P G o st .dead st':=by
 subst he;intro c M μ tmps w hg r;obtain⟨it,dd,hii,hd,hkd,hsz,_⟩:=hT.get hti;have e1:=qF hg r h1 hp;have e2:=qF hg r h2 hq;generalize hu1:Act.eval ⟨tmps,[]⟩ a=u1 at e1;generalize hu2:Act.eval ⟨tmps,[]⟩ x=u2 at e2;cases e1 with
 | @rptr _ _ _ _ b hbk =>
 have hrd:=kZ e2 hfit;have hcc:=Cells.of e2 hv1;have hm:=zD hb;have hky:qM id st.H=true:=qH.2 ⟨_,hm⟩;rcases(r.box id _ hm).mcells with⟨_,h0,_⟩|⟨b',cap,arr,h0,hv,hh,has,hlc,hcm,hone,hbn,hN⟩
 ·rw[hbk]at h0;cases h0
 rw[hbk]at h0;cases h0;have hil:=(bB.1 hi).1;have hus:u2.cells.size=1:=hcc.size;obtain⟨c0,hc0⟩:∃ c0,u2.cells = #[c0]:=by
  refine⟨u2.cells[0], ?_⟩;apply Array.ext
  ·simp[hus]
  intro k h1 h2;have:k=0:=by simp at h2;omega
  subst this;rfl
 have hone2:c0.oneCell'=true:=hcc.one 0 c0 (by rw[hc0];rfl);have hrd0:Rd M c0 d:=by
  have:=hcc.get 0 c0 v (by rw[hc0];rfl) rfl;exact kZ this hfit
 have hst:=run_storeCells_at P b (i * 3+f) es [c0] 0 arr w hh (by simp;omega) (fun v hv=>by
  rw[cG.1 hv];exact hone2)
 simp only[cH]at hst;generalize hnew:(arr.toList.take (i * 3+f)++[c0]++arr.toList.drop (i * 3+f+[c0].length)).toArray=arr' at hst;have hget:∀ j,arr'[j]?=if j=i * 3+f then some c0 else arr[j]?:=by
  intro j;rw[<-hnew,cN];have hto:(arr.toList.take (i * 3+f)).length=i * 3+f:=by simp;omega
  rw[cD,cF,hto];split
  ·rename_i hj;rw[bD (by omega),bW,bE hj];simp
  rename_i hj;rw[cF];split
  ·rename_i h2;simp at h2;rw[bE (by omega),show j-(i * 3+f)=0 from by omega];rfl
  rename_i h2;simp at h2;rw[bD (by omega),bZ];simp only[dA];rw[show i * 3+f+1+(j-(i * 3+f)-1)=j from by omega];simp
 have hsize:arr'.size=arr.size:=by rw[<-hnew];simp;omega
 have er:(execOp (Act.eval ⟨tmps,[]⟩) o).run P w = .ok .skip (w.setRow b arr'):=by
  have hso:(sizeOf t).run P w = .ok 1 w:=by simp[sizeOf,typeInfo,hii,hsz,hs1]
  simp only[execOp,ho,hu1,hu2];rw[Sem.run_bind];have:(Instr.storeAt t (.pointer (some ⟨b,i * 3+f,none⟩)) u2).run P w = .ok () (w.setRow b arr'):=by
   show(storeVar t ⟨b,i * 3+f,none⟩ u2).run P w=_
   unfold storeVar;rw[Sem.run_bind,hso];simp only[Result.andThen_ok];rw[bD (by simp[hc0])];rw[hc0];exact hst
  rw[this];rfl
 rw[er];have hT2:=kP w b arr';have hNm:wP M (w.setRow b arr') (μ id).sub arr en ss:=hN.mono (fun _ _ _ h=>h) fun n hn=>hT2.block n fun e=>hbn (e ▸ hn);obtain⟨o1,hS,hos,hset⟩:=hNm.set hi;have hoff:∀ j,j<i * 3\/i * 3+3<=j->arr'[j]?=arr[j]?:=fun j hj=>by rw[hget,bD (by omega)]
 refine⟨M,μ,r.write hky hbk hT2 ?_,.dead⟩;refine .mach (b:=b) (cap:=cap) (arr:=arr') hbk (by simpa using hv) (setRow_heap w b arr _ es (0,0) hh) (by rw[hsize];exact has) (by simpa using hlc) hcm (fun j u hu => ?_) hbn ?_
 ·rw[hget]at hu;split at hu
  ·cases hu;exact hone2
  exact hone j u hu
 have hS3:=hS.2.2;have h2':arr'[i * 3+2]?=arr[i * 3+2]?:=by rw[hget,bD (by omega)]
 refine hset _ o1 arr' _ ⟨?_, ?_, ?_⟩ hoff (fun n h => .inl h) (fun n => ?_)
 ·rw[hget];by_cases e:f=0
  ·subst e;exact⟨c0,by simp,by simpa using hrd0⟩
  rw[bD (by omega)];simpa[e]using hS.1
 ·rw[hget];by_cases e:f=0
  ·subst e;rw[bD (by omega)];simpa using hS.2.1
  have:f=1:=by omega
  subst this;exact⟨c0,by simp,by simpa using hrd0⟩
 ·rw[h2'];exact hS3
 constructor
 ·intro hn;by_cases e:o1=some n
  ·exact .inr e
  exact .inl ⟨hn,e⟩
 rintro(h|h)
 ·exact h.1
 exact hos n h
end
section
variable {P:Program} {T:Tab} {G:qT} {st st1 st':St}
theorem qHB (hT:TOK P T) {o:Oper} {t el:TypeId} {x:Operand} (ho:o.op = .buildSlice t 1 #[(0,x)]) (ht:wC T t=some (.sl el)) {ti:TI} (hti:T el=some ti) {zs:List V} (hzs:ti.zero.cells=some zs) (hzl:zs.length=ti.size) (h3:ti.size=3)
  {p:Prop} {d1 d2:PD} {k:Nat} (hx:st.arg G x=(p,.agg [.p d1,.p d2,.ms k])) (hp:p) {en:TypeId} {rs:List PD} {l:List Int} (hk:zS k st.H=some (.row en 1 rs)) (hrs:rs=l.map pi) (id:Nat) (hf:(st.kill k).fresh id=true)
  (he:({ st.kill k with H:=(id,.mach el en [(d1,d2,some l)])::(st.kill k).H }:St)=st'):Yields P G o st (.ms id) st':=by
 subst he;subst hrs;intro c M μ tmps w hg r;obtain⟨z,hzr,hzc,i,hi,hz,hisz,hiby⟩:=qCI hT hti hzs M μ w;have hd:=hT.sl ht;have hxx:=Cells.of (qF hg r hx hp) (xs:=[.p d1,.p d2,.ms k]) rfl;generalize hu1:Act.eval ⟨tmps,[]⟩ x=u1 at hxx;have hus:u1.cells.size=3:=hxx.size;have hzz:z.cells.size=3:=by rw[hzc.size,hzl,h3]
 have hfold:=qQP (0 * 3) u1.cells.toList 0 (madeCells z.cells (1 * 3));have efold:(u1.cells.zipIdx.foldl (fun(cs:Array Value) (x:Value × Nat)=>match x with|(c,j)=>cs.setIfInBounds (0 * 3+j) c) (madeCells z.cells (1 * 3)))=u1.cells:=by
  have e1:(u1.cells.zipIdx.foldl (fun(cs:Array Value) (x:Value × Nat)=>match x with|(c,j)=>cs.setIfInBounds (0 * 3+j) c) (madeCells z.cells (1 * 3))) =
    ((u1.cells.toList.zipIdx 0).foldl (fun cs (x:Value × Nat)=>cs.setIfInBounds (0 * 3+x.2) x.1) (madeCells z.cells (1 * 3))):=by
   rw[<-Array.foldl_toList];simp
  rw[e1];apply Array.ext_getElem?;intro j;rw[hfold.2 j];simp only[dY,hus,size_madeCells,Nat.zero_mul,dK,cH,Nat.sub_zero];by_cases hj:j<3
  ·rw[bE ⟨fC _,hj,by omega⟩];simp
  rw[bD (by omega),Array.getElem?_eq_none (by rw[size_madeCells];omega),Array.getElem?_eq_none (by omega)]
 have hso:(sizeOf el).run P w = .ok 3 w:=by simp[sizeOf,typeInfo,hi,hisz,h3]
 have e3:(execOp (Act.eval ⟨tmps,[]⟩) o).run P w = .ok (.value (.slice (some ⟨w.heap.size,0,none⟩) 1 1)) (w.alloc (.cells u1.cells el)):=by
  have hmc:((Array.range (1 * 3)).map (z.cells[· % z.cells.size]!))=madeCells z.cells (1 * 3):=rfl;have hfill:Instr.fill (fun i=>some (i * 3,3)) (madeCells z.cells (1 * 3)) [(0,u1)]=some u1.cells:=by
   simp only[Instr.fill];rw[bD (by simp[hus,size_madeCells]),efold]
  have hrun:(Instr.buildSlice t 1 #[(0,u1)]).run P w = .ok (.slice (some ⟨w.heap.size,0,none⟩) 1 1) (w.alloc (.cells u1.cells el)):=by
   unfold Instr.buildSlice;rw[Sem.run_bind,run_underlying hd];simp only[Result.andThen_ok];rw[Sem.run_bind,hso];simp only[Result.andThen_ok];rw[bD (by omega),bD (by omega)];simp only[Sem.run_bind,hzr,Sem.run_pure,Result.andThen_ok,hmc,gF];rw[hfill];simp[newRow]
  simp only[execOp,ho];rw[Sem.run_bind];simp only[List.map_toArray,bA,bC,hu1,hrun];rfl
 rw[e3];have hmk:=zD hk;have hkk:qM k st.H=true:=qH.2 ⟨_,hmk⟩;have g:∀ j:Nat,j<3->∃ u,u1.cells[j]?=some u:=fun j hj=>⟨u1.cells[j],by simp[hus,hj]⟩;obtain⟨u0,g0⟩:=g 0 (by omega);obtain⟨v1,g1⟩:=g 1 (by omega);obtain⟨v2,g2⟩:=g 2 (by omega);have r0:=(hxx.get 0 u0 _ g0 rfl).p_inv;have r1:=(hxx.get 1 v1 _ g1 rfl).p_inv;have r2:=hxx.get 2 v2 _ g2 rfl;have rk:=(r.kill k).same (Grows.alloc w (.cells u1.cells el));have hal:=heap_alloc_new w (.cells u1.cells el);have hg0:qM k st.H=true->∀ n,(μ k).has n->c.mine n/\n<w.heap.size/\(∀ o,M n o=none)/\∀ j,qM j (st.kill k).H=true->¬ (μ j).has n:=fun hkk n hn=>r.gone hkk hn fun j hj=>kM hj;have hnew:c.mine w.heap.size/\w.heap.size<(w.alloc (.cells u1.cells el)).heap.size/\(∀ o,M w.heap.size o=none)/\∀ j,qM j (st.kill k).H=true->¬ (μ j).has w.heap.size :=
  ⟨.inl r.size,by simp,zDN r (bP _),qWI (r.kill k) (bP _)⟩
 cases r2 with
 | ms hval hone2 =>
 rcases zCZ (r.box k _ hmk)with⟨rfl,k0,kv⟩|⟨n,cp,ar,k0,kv,k1,k2,k3,k4,k5,k6⟩
 ·rw[kv]at hval;subst hval;refine⟨M,_,rk.adoptS (l:=⟨some w.heap.size,.slice (some ⟨w.heap.size,0,none⟩) 1 1,[]⟩) hf (fun b hb => ?_) (bx := .mach el en [(d1,d2,some [])]) ?_,.ms (by rw[qK]) rfl⟩
  ·have:=lZ rfl hb;cases this;exact hnew
  refine .mach (b:=w.heap.size) (cap:=1) (arr:=u1.cells) (by rw[qK]) (by rw[qK];rfl) hal (by omega) (by simp) (by simp[maxLen]) hxx.one (by rw[qK];simp) ?_;rw[qK];exact wP.one (o:=none) ⟨⟨u0,g0,r0⟩,⟨v1,g1,r1⟩,.inl ⟨rfl,.inr ⟨rfl,g2⟩⟩⟩
 rw[kv]at hval;subst hval;have hn:=hg0 hkk n (.inl k0);refine⟨M,_,rk.adoptS (l:=⟨some w.heap.size,.slice (some ⟨w.heap.size,0,none⟩) 1 1,[n]⟩) hf (fun b hb => ?_) (bx := .mach el en [(d1,d2,some l)]) ?_,.ms (by rw[qK]) rfl⟩
 ·rcases hb with hb|hb
  ·cases hb;exact hnew
  have:=cG.1 hb;subst this;exact⟨hn.1,by have:=hn.2.1;simp;omega,hn.2.2.1,hn.2.2.2⟩
 refine .mach (b:=w.heap.size) (cap:=1) (arr:=u1.cells) (by rw[qK]) (by rw[qK];rfl) hal (by omega) (by simp) (by simp[maxLen]) hxx.one (by rw[qK];simp;have:=hn.2.1;omega) ?_;rw[qK];exact wP.one (o:=some n) ⟨⟨u0,g0,r0⟩,⟨v1,g1,r1⟩,.inr ⟨l,n,cp,ar,rfl,rfl,g2,(RowKit.Below.heap_alloc w _ n hn.2.1).trans k1,k2,k3,k4,k5,k6⟩⟩
theorem zAZ {c:Ctx} {M:qY} {μ:Mu} {tmps:Array Value} {w:World} (hT:TOK P T) (r:Rel c M μ st tmps w) {t tx ty el:TypeId} (ht:wC T t=some (.sl el)) {ti:TI} (hti:T el=some ti) {zs:List V} (hzs:ti.zero.cells=some zs) (hzl:zs.length=ti.size) (h3:ti.size=3)
  (hby:0<ti.bytes) {en:TypeId} {ss qs:List MS} {v x:Value} {news:List Value} (hs:Src P 3 tx x qs.length news w) {sub2:List Nat} {arr2:Array Value} (hN2:wP M w sub2 arr2 en qs) (hnl:news.length=qs.length * 3) (hne:∀ j,j<qs.length * 3->news[j]?=arr2[j]?)
  (hn1:∀ u∈news,u.oneCell'=true) (hbound:(ss.length+qs.length) * ti.bytes<=140737488355328) (id:Nat) (hf:st.fresh id=true) (h0:0<qs.length)
  (ho2:∀ n∈sub2,c.mine n/\n<w.heap.size/\(∀ o,M n o=none)/\∀ j,qM j st.H=true->¬ (μ j).has n)
  (hv:(ss=[]/\v = .slice none 0 0)\/∃ b cap arr sub1,(∀ n,(n=b\/n∈sub1)->c.mine n/\n<w.heap.size/\(∀ o,M n o=none)/\∀ j,qM j st.H=true->¬ (μ j).has n)/\v = .slice (some ⟨b,0,none⟩) ss.length cap /\
   w.heap[b]?=some (.cells arr el (0,0))/\arr.size=cap * 3/\ss.length<=cap/\cap<=maxLen/\(∀ (i:Nat) u,arr[i]?=some u->u.oneCell'=true)/\b ∉ sub1/\b ∉ sub2/\(∀ n∈sub1,n ∉ sub2)/\wP M w sub1 arr en ss) :
  ∃ u w' μ',(Builtin.append_ #[t,tx] ty #[v,x]).run P w = .ok u w'/\Rel c M μ' { st with H:=(id,.mach el en (ss++qs))::st.H } tmps w'/\RV M μ' u (.ms id):=by
 obtain⟨z,hzr,hzc,i,hi,hz,hisz,hiby⟩:=qCI hT hti hzs M μ w;have hd:=hT.sl ht;have hi3:i.size=3:=by omega
 rw[<-hi3]at hs;have hlen:ss.length+qs.length<=140737488355328:=dB (Nat.le_mul_of_pos_right _ hby) hbound;have grow:∀ (a:Option Addr) (cap:Nat) (olds:List Value) (sub1:List Nat) (arr1:Array Value),(Builtin.firstCells i.size ss.length (.slice a ss.length cap)).run P w.drew = .ok olds.toArray w.drew->olds.length=ss.length * 3->(∀ j,j<ss.length * 3->olds[j]?=arr1[j]?)->(∀ u∈olds,u.oneCell'=true) ->
   (∀ n∈sub1,c.mine n/\n<w.heap.size/\(∀ o,M n o=none)/\∀ j,qM j st.H=true->¬ (μ j).has n)->wP M w sub1 arr1 en ss->(∀ n∈sub1,n ∉ sub2)->cap<ss.length+qs.length ->
   ∃ u w' μ',(Builtin.append_ #[t,tx] ty #[.slice a ss.length cap,x]).run P w = .ok u w'/\Rel c M μ' { st with H:=(id,.mach el en (ss++qs))::st.H } tmps w'/\RV M μ' u (.ms id):=by
  intro a cap olds sub1 arr1 hold hol hoe ho1 hs1 hN1 hdj hlt;have hrun:=run_append_grow_src (P:=P) w t tx ty el i z hd hi hz a ss.length cap olds hold x qs.length news hs hlt (by omega) (growslice_fits hlt (by rw[hiby];exact hbound));have hge:=grownCap_ge w (ss.length+qs.length) cap el;have hcm:=grownCap_le_maxLen w (ss.length+qs.length) cap el (by simp[maxLen];omega);have hgr:Grows w _:=(Grows.drew w).trans (Grows.alloc w.drew (.cells ((olds++news).toArray++Builtin.zeroCells z.cells (grownCap w (ss.length+qs.length) cap el-(ss.length+qs.length))) el));have hzz:z.cells.size=3:=by rw[hzc.size,hzl,h3]
  have hlt2:∀ n,n<w.heap.size->n<(w.drew.alloc (.cells ((olds++news).toArray++Builtin.zeroCells z.cells (grownCap w (ss.length+qs.length) cap el-(ss.length+qs.length))) el)).heap.size:=fun n hn=>by simp;omega
  refine⟨_,_,upd μ id ⟨some w.heap.size,.slice (some ⟨w.heap.size,0,none⟩) (ss.length+qs.length) (grownCap w (ss.length+qs.length) cap el),sub1++sub2⟩,hrun, ?_,.ms (by rw[qK]) rfl⟩;refine(r.same hgr).adoptS hf (fun b hb => ?_) ?_
  ·rcases hb with hb|hb
   ·cases hb;exact⟨.inl r.size,by simp,zDN r (bP _),qWI r (bP _)⟩
   rcases bL.1 hb with h|h
   ·have:=hs1 b h;exact⟨this.1,hlt2 b this.2.1,this.2.2⟩
   have:=ho2 b h;exact⟨this.1,hlt2 b this.2.1,this.2.2⟩
  refine .mach (b:=w.heap.size) (cap:=grownCap w (ss.length+qs.length) cap el) (by rw[qK]) (by rw[qK];simp) (heap_alloc_new w.drew _) ?_ (by simp;exact hge) hcm (fun j u hu => ?_) ?_ ?_
  ·rw[Array.size_append,size_zeroCells,hzz,fX,bU,hol,hnl];omega
  ·rw[eX]at hu;split at hu
   ·rw[cN]at hu;exact(bL.1 (bH hu)).elim (ho1 u) (hn1 u)
   exact qJG hzc.one _ _ u hu
  ·rw[qK];intro h;rcases bL.1 h with h|h
   ·have:=(hs1 _ h).2.1;omega
   have:=(ho2 _ h).2.1;omega
  rw[qK];have hb:∀ n,n<w.heap.size->_:=fun n hn=>hgr.block n hn;refine wP.append (hN1.mono (fun _ _ _ h=>h) fun n hn=>hb n (hs1 n hn).2.1) (hN2.mono (fun _ _ _ h=>h) fun n hn=>hb n (ho2 n hn).2.1) hdj (fun j hj => ?_) (fun j hj => ?_)
  ·rw[eS (by simp[hol,hnl];omega),cN,cW (by omega)];exact hoe j hj
  rw[eS (by simp[hol,hnl];omega),cN,cU (by omega),hol,Nat.add_sub_cancel_left];exact hne j hj
 rcases hv with⟨rfl,rfl⟩|⟨b,cap,arr,sub1,hown,rfl,hh,has,hlc,hcm,hone,hb1,hb2,hdj,hN1⟩
 ·exact grow none 0 [] [] #[] (by simp[Builtin.firstCells]) rfl (fun j hj=>by simp at hj) (fun u h=>by simp at h) (fun n h=>by simp at h) (wP.nil _ _ _ _) (fun n h=>by simp at h) (by simpa using h0)
 have htl:(arr.toList.take (ss.length * 3)).length=ss.length * 3:=by simp;omega
 have hte:∀ j,j<ss.length * 3->(arr.toList.take (ss.length * 3))[j]?=arr[j]?:=fun j hj=>by rw[bW,bE hj];simp
 have ht1:∀ u∈arr.toList.take (ss.length * 3),u.oneCell'=true:=fun u hu=>by
  obtain⟨k,hk,rfl⟩:=cP.1 (cB hu);exact hone k _ (by simp at hk;simp[hk])
 by_cases hroom:ss.length+qs.length<=cap
 ·have hfit:ss.length * i.size+news.length<=arr.size:=by rw[hnl,has,hi3];omega
  have hrun:=qAY (P:=P) w t tx ty el i hd hi b ss.length cap arr hh x qs.length news hs hroom hfit;refine⟨_,_,upd μ id ⟨some b,.slice (some ⟨b,0,none⟩) (ss.length+qs.length) cap,sub1++sub2⟩,hrun, ?_,.ms (by rw[qK]) rfl⟩;have hbo:=hown b (.inl rfl);have hT2:=kP w b (arr.toList.take (ss.length * i.size)++news++arr.toList.drop (ss.length * i.size+news.length)).toArray;have r1:=r.turn hbo.1 hbo.2.2.1 hbo.2.2.2 hT2;refine r1.adoptS hf (fun n hn => ?_) ?_
  ·have key:∀ n,(n=b\/n∈sub1)\/n∈sub2->c.mine n/\n<(w.setRow b (arr.toList.take (ss.length * i.size)++news++arr.toList.drop (ss.length * i.size+news.length)).toArray).heap.size/\(∀ o,M n o=none)/\∀ j,qM j st.H=true->¬ (μ j).has n:=fun n h=>by
    rw[hT2.size];exact h.elim (hown n) (ho2 n)
   rcases hn with hn|hn
   ·cases hn;exact key _ (.inl (.inl rfl))
   rcases bL.1 hn with h|h
   ·exact key _ (.inl (.inr h))
   exact key _ (.inr h)
  refine .mach (b:=b) (cap:=cap) (by rw[qK]) (by rw[qK];simp) (setRow_heap w b arr _ el (0,0) hh) ?_ (by simp;exact hroom) hcm (fun j u hu => ?_) ?_ ?_
  ·rw[hi3];simp only[fX,bU,bQ,dY,htl,hnl];omega
  ·rw[hi3,cN]at hu;have:=bH hu;rcases bL.1 this with h|h
   ·rcases bL.1 h with h|h
    ·exact ht1 u h
    exact hn1 u h
   obtain⟨k,hk,rfl⟩:=cP.1 (cQ h);exact hone k _ (by simp at hk;simp[hk])
  ·rw[qK];intro h;exact(bL.1 h).elim hb1 hb2
  rw[qK];refine wP.append (hN1.mono (fun _ _ _ h=>h) fun n hn=>hT2.block n fun e=>hb1 (e ▸ hn)) (hN2.mono (fun _ _ _ h=>h) fun n hn=>hT2.block n fun e=>hb2 (e ▸ hn)) hdj (fun j hj => ?_) (fun j hj => ?_)
  ·rw[hi3,cN,cD,cW (by omega)];exact hte j hj
  rw[hi3,cN,cD,cU (by omega),htl,Nat.add_sub_cancel_left,cW (by omega)];exact hne j hj
 refine grow (some ⟨b,0,none⟩) cap _ sub1 arr ?_ htl hte ht1 (fun n hn=>hown n (.inr hn)) hN1 hdj (by omega);exact run_firstCells_some (P:=P) w.drew i.size ss.length ⟨b,0,none⟩ ss.length cap _ (by rw[htl,hi3]) (fun j u hu=>by
  rw[bW]at hu;split at hu
  ·rw[jX,dK];show w.cell? ⟨b,j,none⟩=_
   rw[zQ hh];simpa using hu
  cases hu)
theorem qFJ (hT:TOK P T) {o:Oper} {s x:Operand} {t tx el ex:TypeId} (ho:o.op = .call { callee := .builtin .append,args := #[s,x],argTypes := #[t,tx] }) {p q:Prop} {i0 j:Nat} (hs:st.arg G s=(p,.ms i0)) (hp:p) (hx:st.arg G x=(q,.ms j)) (hq:q) (hij:i0≠j)
  (ht:wC T t=some (.sl el)) (htx:wC T tx=some (.sl ex)) {ti:TI} (hti:T el=some ti) {zs:List V} (hzs:ti.zero.cells=some zs) (hzl:zs.length=ti.size) (h3:ti.size=3) (hby:0<ti.bytes) {e2 en:TypeId} {ss qs:List MS}
  (hi:zS i0 st.H=some (.mach el en ss)) (hj:zS j st.H=some (.mach e2 en qs)) (h0:0<qs.length) (hbound:(ss.length+qs.length) * ti.bytes<=140737488355328) (id:Nat) (hf:((st.kill i0).kill j).fresh id=true)
  (he:({ (st.kill i0).kill j with H:=(id,.mach el en (ss++qs))::((st.kill i0).kill j).H }:St)=st'):Yields P G o st (.ms id) st':=by
 subst he;intro c M μ tmps w hg r;have hvv:=qF hg r hs hp;have hyy:=qF hg r hx hq;have hdx:=hT.sl htx;generalize hu1:Act.eval ⟨tmps,[]⟩ s=u1 at hvv;generalize hu2:Act.eval ⟨tmps,[]⟩ x=u2 at hyy;have hmi:=zD hi;have hmj:=zD hj;have hki:qM i0 st.H=true:=qH.2 ⟨_,hmi⟩;have hkj:qM j st.H=true:=qH.2 ⟨_,hmj⟩;have hH:∀ k,qM k ((st.kill i0).kill j).H=true->k≠i0/\k≠j/\qM k st.H=true:=fun k hk=>by
  obtain⟨h1,h2⟩:=kM hk;obtain⟨h3,h4⟩:=kM h2;exact⟨h3,h1,h4⟩
 have r2:=(r.kill i0).kill j;have goneI:∀ n,(μ i0).has n->c.mine n/\n<w.heap.size/\(∀ o,M n o=none)/\∀ k,qM k ((st.kill i0).kill j).H=true->¬ (μ k).has n:=fun n hn=>r.gone hki hn fun k hk=>⟨(hH k hk).1,(hH k hk).2.2⟩;have goneJ:∀ n,(μ j).has n->c.mine n/\n<w.heap.size/\(∀ o,M n o=none)/\∀ k,qM k ((st.kill i0).kill j).H=true->¬ (μ k).has n:=fun n hn=>r.gone hkj hn fun k hk=>⟨(hH k hk).2.1,(hH k hk).2.2⟩;have hdisj:∀ n,(μ i0).has n->¬ (μ j).has n:=fun n h1 h2=>hij (r.inj i0 j n hki hkj h1 h2);have key:∃ u w' μ',(Builtin.append_ #[t,tx] o.type #[u1,u2]).run P w = .ok u w'/\Rel c M μ' { (st.kill i0).kill j with H:=(id,.mach el en (ss++qs))::((st.kill i0).kill j).H } tmps w'/\RV M μ' u (.ms id):=by
  cases hyy with
  | ms hval2 _ =>
  cases hvv with
  | ms hval _ =>
  rcases(r.box j _ hmj).mcells with⟨rfl,_⟩|⟨b2,cap2,arr2,g0,gv,gh,gs,gc,gm,go,gb,gN⟩
  ·simp at h0
  rw[gv]at hval2;subst hval2;have htl:(arr2.toList.take (qs.length * 3)).length=qs.length * 3:=by simp;omega
  have ht1:∀ u∈arr2.toList.take (qs.length * 3),u.oneCell'=true:=fun u hu=>by
   obtain⟨k,hk,rfl⟩:=cP.1 (cB hu);exact go k _ (by simp at hk;simp[hk])
  have hS:Src P 3 tx (.slice (some ⟨b2,0,none⟩) qs.length cap2) qs.length (arr2.toList.take (qs.length * 3)) w:=Src.ofSlice w hdx ⟨b2,0,none⟩ qs.length cap2 _ htl (fun k u hu=>by
   rw[bW]at hu;split at hu
   ·rw[jX,dK,zQ gh];simpa using hu
   cases hu) ht1
  refine zAZ hT r2 ht hti hzs hzl h3 hby hS gN htl (fun k hk=>by rw[bW,bE hk];simp) ht1 hbound id hf h0 (fun n hn=>goneJ n (.inr hn)) ?_;rcases(r.box i0 _ hmi).mcells with⟨rfl,f0,fv,_⟩|⟨b,cap,arr,f0,fv,fh,fs,fc,fm,fo,fb,fN⟩
  ·rw[fv]at hval;subst hval;exact .inl ⟨rfl,rfl⟩
  rw[fv]at hval;subst hval;exact .inr ⟨b,cap,arr,(μ i0).sub,fun n hn=>goneI n (hn.elim (fun e => .inl (e ▸ f0)) .inr),rfl,fh,fs,fc,fm,fo,fb,fun h=>hdisj b (.inl f0) (.inr h),fun n h1 h2=>hdisj n (.inr h1) (.inr h2),fN⟩
 obtain⟨u,w',μ',hrun,hr,hu⟩:=key;have e1:(execOp (Act.eval ⟨tmps,[]⟩) o).run P w = .ok (.value u) w':=by
  simp[execOp,ho,resolve,invoke,builtin,hu1,hu2,hrun]
 rw[e1];exact⟨M,μ',hr,hu⟩
end
def MS.pd (s:MS):PD := .agg [s.1,s.2.1,.sl 1 ((s.2.2.getD []).map pi)]
theorem qQF.reads {M M2:qY} {w:World} {arr:Array Value} {en:TypeId} {i:Nat} {s:MS} {o:Option Nat} (h:qQF M w arr en i s o) (hs:s.2.2≠none) (hM:∀ b o v,M b o=some v->M2 b o=some v) (hn:∀ n,o=some n->∀ k v,w.cell? ⟨n,k,none⟩=some v->M2 n k=some v)
  (j:Nat) (d:PD) (u:Value) (hd:s.pd.cells[j]?=some d) (hu:arr[i * 3+j]?=some u):Rd M2 u d:=by
 obtain⟨⟨u1,k1,g1⟩,⟨u2,k2,g2⟩,k3⟩:=h;simp only[MS.pd,PD.cells]at hd;match j,hd,hu with
 | 0,hd,hu=>simp at hd;subst hd;rw[cH,k1]at hu;cases hu;exact g1.mono hM
 | 1,hd,hu=>simp at hd;subst hd;rw[k2]at hu;cases hu;exact g2.mono hM
 | 2,hd,hu =>
  simp at hd;subst hd;rcases k3 with⟨_,e|⟨e1,e2⟩⟩|⟨l,n,cp,ar,q0,q1,q2,q3,q4,q5,q6,q7,q8⟩
  ·exact(hs e).elim
  ·rw[e2]at hu;cases hu;rw[e1];exact .sl 0 0 rfl (bP _) (by simp[maxLen]) (fun h=>(h rfl).elim) (fun i e h=>by simp at h) (fun i e j h=>by simp at h) (fun i e j d u h=>by simp at h)
  rw[q2]at hu;cases hu;rw[q0];simp only[dM];have hc:=hn n q1;have hcell:∀ j,w.cell? ⟨n,j,none⟩=ar[j]?:=fun j=>zQ q3;refine .sl n 0 (by simp) q5 q6 (fun _=>rfl) (fun i e he => ?_) (fun i e j he hj => ?_) (fun i e j d u he hd hu => ?_)
  ·rw[bG]at he;obtain⟨z,_,rfl⟩:=bF.1 he;rfl
  ·rw[bG]at he;obtain⟨z,hz,rfl⟩:=bF.1 he;have:j=0:=by omega
   subst this;rw[eB,cH,dK];exact⟨_,hc i _ (by rw[hcell];exact(q8 i z hz).1),rfl⟩
  rw[bG]at he;obtain⟨z,hz,rfl⟩:=bF.1 he;have hj0:j=0:=by have:=(bB.1 hd).1;simpa[PD.cells]using this
  subst hj0;simp[PD.cells]at hd;subst hd;rw[eB,cH,dK,hc i _ (by rw[hcell];exact(q8 i z hz).1)]at hu;cases hu;exact .int (q8 i z hz).2.1 (q8 i z hz).2.2
theorem zHX {M M2:qY} {μ:Mu} {w:World} {id:Nat} {es en:TypeId} {ss:List MS} (r:RBox M μ w id (.mach es en ss)) (hs:∀ s∈ss,s.2.2≠none) (hM:∀ b o v,M b o=some v->M2 b o=some v)
  (hc:∀ b,(μ id).has b->∀ o v,w.cell? ⟨b,o,none⟩=some v->M2 b o=some v):Rd M2 (μ id).val (.sl 3 (ss.map MS.pd)):=by
 rcases r.mcells with⟨rfl,_,hv,_⟩|⟨b,cap,arr,h0,hv,hh,has,hlc,hcm,hone,hbn,hN⟩
 ·rw[hv];exact .sl 0 0 rfl (bP _) (by simp[maxLen]) (fun h=>(h rfl).elim) (fun i e h=>by simp at h) (fun i e j h=>by simp at h) (fun i e j d u h=>by simp at h)
 rw[hv];have hcell:∀ j,w.cell? ⟨b,j,none⟩=arr[j]?:=fun j=>zQ hh;have hlt:∀ i j,i<ss.length->j<3->i * 3+j<arr.size:=fun i j hi hj=>by omega
 refine .sl b 0 (by simp) hlc hcm (fun _=>rfl) (fun i e he => ?_) (fun i e j he hj => ?_) (fun i e j d u he hd hu => ?_)
 ·rw[bG]at he;obtain⟨s,_,rfl⟩:=bF.1 he;rfl
 ·rw[bG]at he;obtain⟨s,hz,rfl⟩:=bF.1 he;have hl:=hlt i j (bB.1 hz).1 hj;refine⟨arr[i * 3+j], ?_,hone (i * 3+j) _ (by simp[hl])⟩;rw[dK];exact hc b (.inl h0) _ _ (by rw[hcell];simp[hl])
 rw[bG]at he;obtain⟨s,hz,rfl⟩:=bF.1 he;have hj:j<3:=(bB.1 hd).1;have hl:=hlt i j (bB.1 hz).1 hj;rw[dK,hc b (.inl h0) _ arr[i * 3+j] (by rw[hcell];simp[hl])]at hu;obtain⟨o,hS,hos,_⟩:=hN.set hz;exact hS.reads (hs s (bH hz)) hM (fun n hn k v hv=>hc n (.inr (hos n hn)) k v hv) j d u hd (by rw[<-hu];simp[hl])
instance (l:Loc) (b:Nat):Decidable (l.has b):=inferInstanceAs (Decidable (_\/_))
theorem Rel.freezeAs {c:Ctx} {M:qY} {μ:Mu} {st:St} {tmps:Array Value} {w:World} (r:Rel c M μ st tmps w) {id:Nat} {d:PD} (hk:qM id st.H=true)
  (hd:∀ M2:qY,(∀ b o v,M b o=some v->M2 b o=some v)->(∀ b,(μ id).has b->∀ o v,w.cell? ⟨b,o,none⟩=some v->M2 b o=some v)->Rd M2 (μ id).val d) :
  ∃ M',Rel c M' μ { st with tmps:=lP id d st.tmps,pins:=st.pins.filter (· != id),H:=qNV id d st.H } tmps w:=by
 let M2:qY:=fun b o=>if(μ id).has b then w.cell? ⟨b,o,none⟩ else M b o
 have e1:∀ b o,(μ id).has b->M2 b o=w.cell? ⟨b,o,none⟩:=fun b o h=>bE h;have e2:∀ b o, ¬ (μ id).has b->M2 b o=M b o:=fun b o h=>bD h;have hM:∀ b o v,M b o=some v->M2 b o=some v:=by
  intro b o v hv;by_cases h:(μ id).has b
  ·rw[e1 b o h];exact r.mem b o v hv
  rw[e2 b o h];exact hv
 have hd:=hd M2 hM fun b h o v hv=>by rw[e1 b o h];exact hv
 refine⟨M2, ?_,fun b o v hv=>hM _ _ _ (r.ext b o v hv),fun b o hb => ?_,⟨by simp[lH,r.slots.1],fun i u x hu hx => ?_⟩,fun i hi=>r.pins i (eN.1 hi).1,fun i b hi => ?_, ?_,fun i j b hi hj => ?_,fun i b hi hib => ?_,r.size,r.below⟩
 ·intro b o v hv;by_cases h:(μ id).has b
  ·rw[e1 b o h]at hv;exact hv
  rw[e2 b o h]at hv;exact r.mem b o v hv
 ·rw[e2 b o fun h=>hb (r.own id b hk h).1];exact r.old b o hb
 ·simp only[lH]at hx;rw[bG]at hx;obtain⟨y,hy,rfl⟩:=bF.1 hx;exact(r.slots.2 i u y hu hy).frz hM hd
 ·obtain⟨_,b',h2,rfl⟩:=qHS hi;exact(r.box i b' h2).frz hM hd
 ·show((qNV id d st.H).map (·.1)).Nodup
  rw[qIW];exact r.nodup.filter _
 ·exact r.inj i j b (uX hi).2 (uX hj).2
 obtain⟨h1,h2⟩:=uX hi;have h3:=r.own i b h2 hib;exact⟨h3.1,h3.2.1,fun o=>by rw[e2 b o fun h=>h1 (r.inj i id b h2 hk hib h)];exact h3.2.2 o⟩
theorem pD {P:Program} {G:qT} {Q:Exit->St->Prop} {st st':St} {c:Code} (id:Nat) {es en:TypeId} {ss:List MS} (hb:zS id st.H=some (.mach es en ss)) (hs:∀ s∈ss,s.2.2≠none)
  (h:({ st with tmps:=lP id (.sl 3 (ss.map MS.pd)) st.tmps,pins:=st.pins.filter (· != id),H:=qNV id (.sl 3 (ss.map MS.pd)) st.H }:St)=st') (k:AW P G c Q st'):AW P G c Q st:=fun x M μ tmps w hg r=>by
 have hm:=zD hb;obtain⟨M',r'⟩:=r.freezeAs (qH.2 ⟨_,hm⟩) fun M2 h1 h2=>zHX (r.box id _ hm) hs h1 h2;exact k x M' μ tmps w hg (h ▸ r')
section
variable {P:Program} {T:Tab} {G:qT} {st st':St}
def zDP:V->Option Bool
 | .nilsl=>some true
 | .p (.sl _ (_::_))=>some false
 | _=>none
theorem qYK (hT:TOK P T) (b:Bool) {o:Oper} {t ty el:TypeId} {x:Operand} {p:Prop} {v:V} (ho:o.op = .binOp .neq t x (.const (.slice none 0 0)) ty) (ht:wC T t=some (.sl el)) (ha:st.arg G x=(p,v)) (hp:p) (hv:zDP v=some (!b)) :
  Yields P G o st (.p (.bool b)) st:=by
 have hd:=hT.sl ht;intro c M μ tmps w hg r;have h1:=qF hg r ha hp;generalize hu:Act.eval ⟨tmps,[]⟩ x=u at h1;have key:∃ a n cp,u = .slice a n cp/\a.isNone = !b:=by
  unfold zDP at hv;split at hv
  ·cases h1;exact⟨_,_,_,rfl,by simpa using hv⟩
  ·cases h1 with
   | p h1 =>
   cases h1 with
   | @sl a n c' sz es b' o' hn hnc hcm ha' _ _ _ =>
   have:=ha' (by simp at hn;omega);subst this;exact⟨_,_,_,rfl,by simpa using hv⟩
  cases hv
 obtain⟨a,n,cp,rfl,hb⟩:=key;have he:(Op.equal t (.slice a n cp) (.slice none 0 0)).run P w = .ok (!b) w:=by
  rw[<-hb];have:∀ k,(Op.equalIn (k+1) t (.slice a n cp) (.slice none 0 0)).run P w = .ok a.isNone w:=fun k=>by cases a <;> simp[Op.equalIn,run_underlying hd]
  exact this 9999
 have hg':(eqGuard .neq t x (.const (.slice none 0 0)) (.slice a n cp) (.slice none 0 0)).run P w = .ok () w:=by simp only[eqGuard];rfl
 have hb2:(binOp .neq t (.slice a n cp) (.slice none 0 0)).run P w = .ok (.bool b) w:=by
  show(do pure (.bool (!(<-Op.equal t (.slice a n cp) (.slice none 0 0)))):Sem Value).run P w=_
  simp only[Sem.run_bind,he,Result.andThen,Sem.run_pure,Bool.not_not]
 have e1:(execOp (Act.eval ⟨tmps,[]⟩) o).run P w = .ok (.value (.bool b)) w:=by
  simp[execOp,ho,hu,hg',hb2,show Act.eval ⟨tmps,[]⟩ (.const (.slice none 0 0)) = .slice none 0 0 from rfl]
 rw[e1];exact⟨M,μ,r,.p (.bool b)⟩
def qCH (b:ByteArray):Nat->Nat->List Int
 | 0,_=>[]
 | n+1,i=>if i<b.size then((Utf8.decode b i).1:Int)::qCH b n (i+(Utf8.decode b i).2) else[]
def wG (s:List UInt8):List Int:=qCH ⟨s.toArray⟩ s.length 0
theorem qRX (b:ByteArray):∀ n i,(qCH b n i).length<=n
 | 0,_=>by simp[qCH]
 | n+1,i=>by
  unfold qCH;split
  ·have:=qRX b n (i+(Utf8.decode b i).2);simp;omega
  simp
theorem qKD (s:List UInt8):(wG s).length<=s.length:=qRX _ _ _
theorem qWB (b:ByteArray):∀ n i, ∀ c∈qCH b n i,0<=c/\c<=1114111
 | 0,_,c,h=>by simp[qCH]at h
 | n+1,i,c,h=>by
  unfold qCH at h;split at h
  ·rcases bM.1 h with rfl|h
   ·have:=qGF b i;omega
   exact qWB b n _ c h
  simp at h
theorem qWA (s:List UInt8):∀ c∈wG s,0<=c/\c<=1114111:=qWB _ _ _
theorem qLJ (b:ByteArray):∀ n i (acc:Array Value),(Conv.runesFrom b n i acc).toList=acc.toList++(qCH b n i).map fun c => .int .i32 c
 | 0,_,acc=>by simp[Conv.runesFrom,qCH]
 | n+1,i,acc=>by
  unfold Conv.runesFrom qCH;split
  ·rw[qLJ b n];simp
  simp
abbrev pr (z:Int):PD := .int .i32 z
theorem qVH (hT:TOK P T) {o:Oper} {s d e:TypeId} {x:Operand} (ho:o.op = .convert s d x) {p:Prop} {bs:List UInt8} (ha:st.arg G x=(p,.p (.str bs))) (hp:p) (hs:wC T s=some .str) (hd:wC T d=some (.sl e)) (he:wC T e=some (.int .i32)) (hl:bs.length<=1000000) (id:Nat) (hf:st.fresh id=true)
  (h:({ st with H:=(id,.row e 1 ((wG bs).map pr))::st.H }:St)=st'):Yields P G o st (.ms id) st':=by
 subst h;intro c M μ tmps w hg r;have h1:=(qF hg r ha hp).p_inv;generalize hu:Act.eval ⟨tmps,[]⟩ x=u at h1;cases h1 with
 | @str ba _ hbb hbl =>
 have hba:ba=⟨bs.toArray⟩:=by
  cases ba with
  | mk a=>simp only at hbb;subst hbb;simp
 have hsz:ba.size=bs.length:=by rw[hba];show bs.toArray.size=_;simp
 have hrn:(Conv.runesFrom ba ba.size 0 #[]).toList=(wG bs).map fun c => .int .i32 c:=by
  rw[qLJ,hsz,hba];simp[wG]
 have hrs:(Conv.runesFrom ba ba.size 0 #[]).size=(wG bs).length:=by
  rw[<-Array.length_toList,hrn];simp
 have hll:=qKD bs;have hge:=grownCap_ge w (wG bs).length 0 e;have hcm:=grownCap_le_maxLen w (wG bs).length 0 e (by simp[maxLen];omega);have hrun:=run_runes_of_string w s d e ba (hT.str hs) (hT.sl hd) (hT.int he) (by rw[hrs];omega);rw[hrs]at hrun;have e1:(execOp (Act.eval ⟨tmps,[]⟩) o).run P w = .ok (.value (.slice (some ⟨w.heap.size,0,none⟩) (wG bs).length (grownCap w (wG bs).length 0 e))) (w.drew.alloc (.cells (Conv.runesFrom ba ba.size 0 #[]++Array.replicate (grownCap w (wG bs).length 0 e-(wG bs).length) (.int .i32 0)) e)):=by
  simp[execOp,ho,hu,hrun]
 rw[e1];refine⟨M,upd μ id ⟨some w.heap.size,.slice (some ⟨w.heap.size,0,none⟩) (wG bs).length (grownCap w (wG bs).length 0 e),[]⟩, ?_,.ms (by rw[qK]) rfl⟩;refine r.newBox hf ((Grows.drew w).trans (Grows.alloc _ _)) (fun b hb=>by cases hb;exact⟨bP _,by simp⟩) ?_ rfl;have hone:∀ (i:Nat) u,(Conv.runesFrom ba ba.size 0 #[]++Array.replicate (grownCap w (wG bs).length 0 e-(wG bs).length) (Value.int .i32 0))[i]?=some u->u.oneCell'=true:=fun i u hu=>by
  rw[eX]at hu;split at hu
  ·rw[<-eJ,hrn,bG]at hu;obtain⟨z,_,rfl⟩:=bF.1 hu;rfl
  rw[Array.getElem?_replicate]at hu;split at hu
  ·cases hu;rfl
  cases hu
 refine .row (b:=w.heap.size) (cap:=grownCap w (wG bs).length 0 e) (by rw[qK]) (by rw[qK];simp) (heap_alloc_new w.drew _) ?_ (by simp;exact hge) hcm hone (fun i e' he' => ?_) (fun i e' j d' u he' hd' hu => ?_)
 ·simp[hrs];omega
 ·rw[bG]at he';obtain⟨z,_,rfl⟩:=bF.1 he';rfl
 rw[bG]at he';obtain⟨z,hz,rfl⟩:=bF.1 he';have hj0:j=0:=by have:=(bB.1 hd').1;simpa[PD.cells]using this
 subst hj0;simp[PD.cells]at hd';subst hd';have hi:=(bB.1 hz).1;rw[eB,cH,eS (by omega),<-eJ,hrn,bG,hz]at hu;cases hu;have:=qWA bs z (bH hz);exact lA (by simp only[kS];omega) (by simp only[kT];omega)
def qDD (r:Int):List UInt8:=(Utf8.encode r).data.toList
theorem zIU (r:Int) (hv:Utf8.valid r=true) (h:128<=r):2<=(qDD r).length/\(qDD r).length<=4/\∀ c,(qDD r)[(qDD r).length-1]?=some c->128<=c.toNat:=by
 obtain⟨h1,h2,h3⟩:=encode_facts r hv h;have e:(qDD r).length=(Utf8.encode r).size:=by simp[qDD]
 refine⟨by omega,by omega,fun c hc => ?_⟩;have h4:=h3 (by omega);rw[e]at hc;have:(qDD r)[(Utf8.encode r).size-1]?=some ((Utf8.encode r)[(Utf8.encode r).size-1]'(by omega)):=by
  unfold qDD;rw[cI (by simp;omega)];rfl
 rw[this]at hc;cases hc;exact h4
theorem zMW (hT:TOK P T) {o:Oper} {s d:TypeId} {x:Operand} (ho:o.op = .convert s d x) {p:Prop} {n:Int} (ha:st.arg G x=(p,.p (.int .i32 n))) (hp:p) (hs:wC T s=some (.int .i32)) (hd:wC T d=some .str) (hl:(qDD n).length<=4):Yields P G o st (.p (.str (qDD n))) st:=by
 intro c M μ tmps w hg r;have h1:=(qF hg r ha hp).p_inv;generalize hu:Act.eval ⟨tmps,[]⟩ x=u at h1;cases h1;have e1:(execOp (Act.eval ⟨tmps,[]⟩) o).run P w = .ok (.value (.string (Utf8.encode n))) w:=by
  simp[execOp,ho,hu,run_convert_int_string w s d .i32 n (by rw[hT.int hs];rfl) (hT.str hd)]
 rw[e1];exact⟨M,μ,r,.p (.str rfl (by simp only[maxLen];have:=hl;unfold qDD at this;omega))⟩
end
end Go.Proofs.YtgcbapchinideaaGreatDoor.Sy
namespace Go.Proofs.YtgcbapchinideaaGreatDoor
open Sy Go
structure Sp where
 lo:Int
 hi:Int
def spC (s:Sp):PD := .agg [.int .i32 s.lo,.int .i32 s.hi]
def inR (l:List Sp) (c:Int):Bool:=l.any fun s=>decide (s.lo<=c) && decide (c<=s.hi)
inductive Tk where
 | no|any|one (c:Int)|cls (l:List Sp)|items (l:List Sp) (neg:Bool)
 deriving Inhabited
inductive Pl where
 | no|beg|fin
 deriving Inhabited
def Tk.enc:Tk->PD
 | .no => .nilf
 | .any => .fn 246
 | .one c => .clo 260 [.ref [.int .i32 c]]
 | .cls l => .clo 258 [.ref [.sl 2 (l.map spC)]]
 | .items l b => .clo 256 [.ref [.sl 2 (l.map spC)],.ref [.bool b]]
def Pl.enc:Pl->PD
 | .no => .nilf
 | .beg => .fn 248
 | .fin => .fn 249
def Tk.run:Tk->Int->Bool
 | .no,_=>false
 | .any,c=>decide (c≠10)
 | .one d,c=>decide (c=d)
 | .cls l,c=>inR l c
 | .items l b,c=>inR l c != b
def Pl.run:Pl->Int->Int->Bool
 | .no,_,_=>true
 | .beg,a,_=>decide (a=0)
 | .fin,a,e=>decide (a=e)
def Tk.is:Tk->Bool
 | .no=>false
 | _=>true
def Pl.is:Pl->Bool
 | .no=>false
 | _=>true
structure XS where
 tk:Tk := .no
 pl:Pl := .no
 next:List Nat:=[]
 deriving Inhabited
abbrev noX:XS:=⟨.no,.no,[]⟩
def XS.ms (x:XS):MS:=(x.tk.enc,x.pl.enc,some (x.next.map fun(k:Nat)=>(k:Int)))
structure RG where
 ss:List XS
 left:List Int
 deep:Int
 bad:Bool
abbrev Pt:=Nat × Nat
def toX (ss:List XS) (i z:Nat):List XS:=match ss[i]? with
 | some x=>ss.set i { x with next:=x.next++[z] }
 | none=>ss
def uF (ss:List XS) (d:Tk):List XS:=ss++[noX,⟨d,.no,[ss.length]⟩]
def qAT (ss:List XS) (d:Pl):List XS:=ss++[noX,⟨.no,d,[ss.length]⟩]
def yF (ss:List XS):Pt:=(ss.length+1,ss.length)
def qBC (ss:List XS) (p:Pt) (sign:Int):List XS :=
 let a:=toX (ss++[noX,⟨.no,.no,[p.1]⟩]) p.2 ss.length
 let b:=if sign=63 then a else toX a p.2 p.1
 if sign=43 then b else toX b (ss.length+1) ss.length
def qOL (ss:List XS) (p q:Pt):List XS:=toX (toX (ss++[noX,⟨.no,.no,[p.1,q.1]⟩]) p.2 ss.length) q.2 ss.length
def zL (s:RG):Int:=if s.bad=true\/s.left=[] then -1 else s.left.headD 0
def qEW (w:List UInt8) (c:Int):Bool:=decide (0<=c) && decide (c<128) && decide (0<=Lib.indexByte w c.toNat.toUInt8)
def wY (n:Nat) (s:RG):RG:={ s with left:=s.left.drop n }
def qVC (s:RG):RG:={ s with bad:=true }
def wR (b:Bool) (s:RG):RG:={ s with bad:=s.bad || b }
def wQ (ss:List XS) (s:RG):RG:={ s with ss:=ss }
def jA (n:Int) (s:RG):RG:={ s with deep:=s.deep+n }
def wD (w:List UInt8) (s:RG):Bool := !(decide (zL s<0) || !qEW w (zL s))
def qW (w:List UInt8) (s:RG):RG:=if wD w s=true then wY 1 s else s
def qTB:List Sp:=[⟨48,57⟩,⟨97,122⟩,⟨65,90⟩]
def zM (s:RG):Int × RG :=
 if zL s=110 then(10,wY 1 s) else if zL s=116 then(9,wY 1 s) else
 if zL s<=32\/126<zL s\/inR qTB (zL s)=true then(0,qVC s) else(zL s,wY 1 s)
def zH (s:RG):Int × RG :=
 if wD [92] s=true then zM (qW [92] s) else
 if zL s<0\/qEW [91,93,94,45] (zL s)=true then(0,qVC s) else(zL s,wY 1 s)
def wJ (c:Int):List Sp :=
 if c=100 then[⟨48,57⟩] else if c=119 then[⟨48,57⟩,⟨97,122⟩,⟨65,90⟩,⟨95,95⟩] else if c=115 then[⟨32,32⟩,⟨9,9⟩,⟨10,10⟩,⟨13,13⟩] else[]
def jO (s:RG):Sp × RG :=
 let a:=zH s
 let b:=qW [45] a.2
 let c:=if wD [45] a.2=true then zH b else(a.1,b)
 (⟨a.1,c.1⟩,wR (decide (c.1<a.1)) c.2)
def kF:Nat->List Sp->RG->List Sp × RG
 | 0,l,s=>(l,s)
 | n+1,l,s =>
  if s.bad=true then(l,s) else if wD [93] s=true then(l,qW [93] s) else
  let t:=qW [93] s
  if 1<t.left.length/\t.left.headD 0=92/\wJ (t.left.getD 1 0)≠[] then kF n (l++wJ (t.left.getD 1 0)) (wY 2 t) else
  kF n (l++[(jO t).1]) (jO t).2
def qCT (s:RG):Pt × RG :=
 let a:=kF ((qW [94] s).left.length+1) [] (qW [94] s)
 let b:=wR (decide (a.1.length=0)) a.2
 (yF b.ss,wQ (uF b.ss (.items a.1 (wD [94] s))) b)
def qLQ (c:Int) (s:RG):Pt × RG:=(yF s.ss,wQ (uF s.ss (.one c)) s)
def kK (s:RG):Pt × RG :=
 if wJ (zL s)≠[] then(yF s.ss,wQ (uF s.ss (.cls (wJ (zL s)))) (wY 1 s)) else qLQ (zM s).1 (zM s).2
mutual
def qBO:Nat->RG->Pt × RG
 | 0,s=>((s.ss.length,s.ss.length),wQ (s.ss++[noX]) s)
 | n+1,s=>qMS n (xX n s).1 (xX n s).2
def qMS:Nat->Pt->RG->Pt × RG
 | 0,p,s=>(p,s)
 | n+1,p,s =>
  if wD [124] s=true then
   let q:=xX n (qW [124] s)
   qMS n (yF q.2.ss) (wQ (qOL q.2.ss p q.1) q.2)
  else(p,qW [124] s)
def xX:Nat->RG->Pt × RG
 | 0,s=>((s.ss.length,s.ss.length),wQ (s.ss++[noX]) s)
 | n+1,s=>qJB n (s.ss.length,s.ss.length) (wQ (s.ss++[noX]) s)
def qJB:Nat->Pt->RG->Pt × RG
 | 0,p,s=>(p,s)
 | n+1,p,s =>
  if 0<=zL s/\qEW [124,41] (zL s)=false then
   let q:=qDE n s
   let t:=qW [42,43,63] q.2
   let k:Pt × RG:=if wD [42,43,63] q.2=true then(yF t.ss,wQ (qBC t.ss q.1 (zL q.2)) t) else(q.1,t)
   qJB n (p.1,k.1.2) (wQ (toX k.2.ss p.2 k.1.1) k.2)
  else(p,s)
def qDE:Nat->RG->Pt × RG
 | 0,s=>((0,0),wY 1 s)
 | n+1,s =>
  let c:=s.left.headD 0
  let t:=wY 1 s
  if c=40 then
   let u:=wR (decide (6<t.deep+1)) (jA 1 t)
   if u.bad=true then((0,0),u) else
   let p:=qBO n u
   (p.1,jA (-1) (wR (!wD [41] p.2) (qW [41] p.2)))
  else if c=91 then qCT t
  else if c=46 then(yF t.ss,wQ (uF t.ss .any) t)
  else if c=94 then(yF t.ss,wQ (qAT t.ss .beg) t)
  else if c=36 then(yF t.ss,wQ (qAT t.ss .fin) t)
  else if c=92 then kK t
  else qLQ c (wR (qEW [41,93,123,125,42,43,63,124] c) t)
end
def GS (ss:List XS):Prop:=∀ x∈ss,(∀ k∈x.next,k<ss.length)/\(x.tk.is=true->x.next≠[]/\x.pl = .no)
def qAP (ss:List XS) (p:Pt):Prop:=p.1<ss.length/\p.2<ss.length
theorem qAP.le {ss ss':List XS} {p:Pt} (h:qAP ss p) (hl:ss.length<=ss'.length):qAP ss' p:=⟨dR h.1 hl,dR h.2 hl⟩
@[simp] theorem qFN (ss:List XS) (i z:Nat):(toX ss i z).length=ss.length:=by unfold toX;split <;> simp
@[simp] theorem wDZ (ss:List XS) (d:Tk):(uF ss d).length=ss.length+2:=by simp[uF]
@[simp] theorem wBT (ss:List XS) (d:Pl):(qAT ss d).length=ss.length+2:=by simp[qAT]
@[simp] theorem zOV (ss:List XS) (p:Pt) (c:Int):(qBC ss p c).length=ss.length+2:=by unfold qBC;split <;> split <;> simp
@[simp] theorem wHJ (ss:List XS) (p q:Pt):(qOL ss p q).length=ss.length+2:=by simp[qOL]
def W (ss:List XS):Nat:=ss.length+(ss.map fun x=>x.next.length).sum
theorem qUI (ss qs:List XS):W (ss++qs)=W ss+W qs:=by simp[W];omega
theorem wAL (ss:List XS):ss.length<=W ss:=by simp[W]
theorem zXG (l:List Nat):∀ (i a b:Nat),l[i]?=some a->(l.set i b).sum+a=l.sum+b:=by
 induction l with
 | nil=>intro i a b h;simp at h
 | cons y l ih =>
  intro i a b h;cases i with
  | zero=>simp at h;subst h;simp;omega
  | succ i=>simp at h;have:=ih i a b h;simp;omega
theorem qQE (ss:List XS) (i z:Nat):W (toX ss i z)<=W ss+1:=by
 unfold toX;split
 ·rename_i x hx;have:=zXG (ss.map fun x=>x.next.length) i x.next.length (x.next.length+1) (by simp[hx]);simp only[W,eO,gZ,bU,dA]at this ⊢;omega
 omega
theorem wCF {l:List Nat}:∀ {a:Nat},a∈l->a<=l.sum:=by
 induction l with
 | nil=>intro a h;simp at h
 | cons y l ih =>
  intro a h;rcases bM.1 h with rfl|h
  ·simp
  have:=ih h;simp;omega
theorem zVS {ss:List XS} {x:XS} (h:x∈ss):x.next.length<=W ss:=by
 have:x.next.length<=(ss.map fun x=>x.next.length).sum:=wCF (cO.2 ⟨x,h,rfl⟩);simp only[W];omega
theorem zMP (ss:List XS):W (ss++[noX])=W ss+1:=by simp[qUI,W] <;> omega
theorem wDF (ss:List XS) (d:Tk):W (uF ss d)=W ss+3:=by simp[uF,qUI,W] <;> omega
theorem zZP (ss:List XS) (d:Pl):W (qAT ss d)=W ss+3:=by simp[qAT,qUI,W] <;> omega
theorem zVT (ss:List XS) (p:Pt) (c:Int):W (qBC ss p c)<=W ss+6:=by
 have h0:W (ss++[noX,⟨.no,.no,[p.1]⟩])=W ss+3:=by simp[qUI,W] <;> omega
 have h1:=qQE (ss++[noX,⟨.no,.no,[p.1]⟩]) p.2 ss.length;have h2:=qQE (toX (ss++[noX,⟨.no,.no,[p.1]⟩]) p.2 ss.length) p.2 p.1;have h3:=qQE (toX (ss++[noX,⟨.no,.no,[p.1]⟩]) p.2 ss.length) (ss.length+1) ss.length;have h4:=qQE (toX (toX (ss++[noX,⟨.no,.no,[p.1]⟩]) p.2 ss.length) p.2 p.1) (ss.length+1) ss.length;unfold qBC;split <;> split <;> simp only <;> omega
theorem wAM (ss:List XS) (p q:Pt):W (qOL ss p q)<=W ss+6:=by
 have h0:W (ss++[noX,⟨.no,.no,[p.1,q.1]⟩])=W ss+4:=by simp[qUI,W] <;> omega
 have h1:=qQE (ss++[noX,⟨.no,.no,[p.1,q.1]⟩]) p.2 ss.length;have h2:=qQE (toX (ss++[noX,⟨.no,.no,[p.1,q.1]⟩]) p.2 ss.length) q.2 ss.length;unfold qOL;omega
theorem GS.to {ss:List XS} (h:GS ss) {i z:Nat} (hz:z<ss.length):GS (toX ss i z):=by
 intro x hx;rw[qFN];unfold toX at hx;split at hx
 ·rename_i y hy;have hym:=bH hy;rcases List.mem_or_eq_of_mem_set hx with e|rfl
  ·exact h x e
  refine⟨fun k hk => ?_,fun e=>⟨by simp,((h y hym).2 e).2⟩⟩;rcases bL.1 hk with e|e
  ·exact(h y hym).1 k e
  rw[cG.1 e];exact hz
 exact h x hx
theorem GS.more {ss qs:List XS} (h:GS ss) (k:∀ x∈qs,(∀ k∈x.next,k<ss.length+qs.length)/\(x.tk.is=true->x.next≠[]/\x.pl = .no)):GS (ss++qs):=by
 intro x hx;rw[bU];rcases bL.1 hx with e|e
 ·exact⟨fun k hk=>dR ((h x e).1 k hk) (by omega),(h x e).2⟩
 exact k x e
theorem GS.new {ss:List XS} (h:GS ss):GS (ss++[noX]):=h.more fun x hx=>by
 rw[cG.1 hx];exact⟨fun k hk=>by simp at hk,fun e=>by simp[Tk.is]at e⟩
theorem GS.rune {ss:List XS} (h:GS ss) (d:Tk):GS (uF ss d):=h.more fun x hx=>by
 simp at hx;rcases hx with rfl|rfl
 ·exact⟨fun k hk=>by simp at hk,fun e=>by simp[Tk.is]at e⟩
 exact⟨fun k hk=>by simp at hk;subst hk;simp,fun _=>⟨by simp,rfl⟩⟩
theorem GS.place {ss:List XS} (h:GS ss) (d:Pl):GS (qAT ss d):=h.more fun x hx=>by
 simp at hx;rcases hx with rfl|rfl
 ·exact⟨fun k hk=>by simp at hk,fun e=>by simp[Tk.is]at e⟩
 exact⟨fun k hk=>by simp at hk;subst hk;simp,fun e=>by simp[Tk.is]at e⟩
theorem GS.many {ss:List XS} (h:GS ss) {p:Pt} (hp:qAP ss p) (c:Int):GS (qBC ss p c):=by
 have h0:GS (ss++[noX,⟨.no,.no,[p.1]⟩]):=h.more fun x hx=>by
  simp at hx;rcases hx with rfl|rfl
  ·exact⟨fun k hk=>by simp at hk,fun e=>by simp[Tk.is]at e⟩
  exact⟨fun k hk=>by simp at hk;subst hk;have:=hp.1;simp;omega,fun e=>by simp[Tk.is]at e⟩
 have h1:=h0.to (i:=p.2) (z:=ss.length) (by simp);have h2:=h1.to (i:=p.2) (z:=p.1) (by simp;have:=hp.1;omega);have h3:=h1.to (i:=ss.length+1) (z:=ss.length) (by simp);have h4:=h2.to (i:=ss.length+1) (z:=ss.length) (by simp);unfold qBC;split <;> split <;> assumption
theorem GS.alt {ss:List XS} (h:GS ss) {p q:Pt} (hp:qAP ss p) (hq:qAP ss q):GS (qOL ss p q):=by
 have h0:GS (ss++[noX,⟨.no,.no,[p.1,q.1]⟩]):=h.more fun x hx=>by
  simp at hx;rcases hx with rfl|rfl
  ·exact⟨fun k hk=>by simp at hk,fun e=>by simp[Tk.is]at e⟩
  refine⟨fun k hk => ?_,fun e=>by simp[Tk.is]at e⟩;have:=hp.1;have:=hq.1;simp at hk;rcases hk with rfl|rfl <;> simp <;> omega
 exact(h0.to (by simp)).to (by simp)
theorem qFS (ss:List XS) {ss':List XS} (h:ss'.length=ss.length+2):qAP ss' (yF ss):=⟨by simp[yF];omega,by simp[yF];omega⟩
def qDT (l:List Int):Prop:=∀ c∈l,0<=c/\c<=1114111
structure Gr (k:Int) (s s':RG):Prop where
 len:s.ss.length<=s'.ss.length
 left:s'.left.length<=s.left.length
 few:(W s'.ss:Int)+8 * s'.left.length<=W s.ss+8 * s.left.length+k
 d0:s.deep<=s'.deep
 d1:s'.deep+s'.left.length<=s.deep+s.left.length
 runes:qDT s.left->qDT s'.left
 g:GS s.ss->GS s'.ss
theorem Gr.refl (s:RG):Gr 0 s s:=⟨by omega,by omega,by omega,by omega,by omega,id,id⟩
theorem Gr.trans {a b:Int} {s t u:RG} (h:Gr a s t) (k:Gr b t u):Gr (a+b) s u :=
 ⟨by have:=h.len;have:=k.len;omega,by have:=h.left;have:=k.left;omega,by have:=h.few;have:=k.few;omega,by have:=h.d0;have:=k.d0;omega,by have:=h.d1;have:=k.d1;omega,fun e=>k.runes (h.runes e),fun e=>k.g (h.g e)⟩
theorem Gr.weak {a b:Int} {s t:RG} (h:Gr a s t) (hab:a<=b):Gr b s t:=⟨h.len,h.left,by have:=h.few;omega,h.d0,h.d1,h.runes,h.g⟩
theorem Gr.drop (n:Nat) (s:RG):Gr 0 s (wY n s) :=
 ⟨by simp[wY],by simp[wY],by simp[wY] <;> omega,by simp[wY],by simp[wY] <;> omega,fun h c hc=>h c (cQ hc),id⟩
theorem nL {s:RG} (h:s.left≠[]):Gr (-8) s (wY 1 s) :=
 have h0:=Gr.drop 1 s
 ⟨h0.len,h0.left,by have:=bV.2 h;simp[wY] <;> omega,h0.d0,h0.d1,h0.runes,h0.g⟩
theorem Gr.bad (s:RG):Gr 0 s (qVC s):=⟨bP _,bP _,by simp[qVC],iH _,iH _,id,id⟩
theorem Gr.or (b:Bool) (s:RG):Gr 0 s (wR b s):=⟨bP _,bP _,by simp[wR],iH _,iH _,id,id⟩
theorem Gr.next (w:List UInt8) (s:RG):Gr 0 s (qW w s):=by
 unfold qW;split
 ·exact Gr.drop 1 s
 exact Gr.refl s
theorem kB {s:RG} (h:0<=zL s):s.left≠[]/\s.bad=false:=by
 unfold zL at h;split at h
 ·omega
 rename_i e;refine⟨fun x=>e (.inr x), ?_⟩;cases hb:s.bad with
 | false=>rfl
 | true=>exact(e (.inl hb)).elim
theorem qJX {w:List UInt8} {s:RG} (h:wD w s=true):s.left≠[]/\s.bad=false:=by
 unfold wD at h;exact kB (Int.not_lt.1 fun e=>by simp[e]at h)
theorem mD {w:List UInt8} {s:RG} (h:wD w s=true):Gr (-8) s (qW w s):=by
 unfold qW;rw[bE h];exact nL (qJX h).1
theorem qSU {w:List UInt8} {s:RG} (h:wD w s=true):(qW w s).left.length+1=s.left.length:=by
 unfold qW;rw[bE h];have:=bV.2 (qJX h).1;simp[wY];omega
theorem oE (s:RG):Gr 0 s (zM s).2:=by
 unfold zM;split
 ·exact Gr.drop 1 s
 split
 ·exact Gr.drop 1 s
 split
 ·exact Gr.bad s
 exact Gr.drop 1 s
theorem mY (s:RG):Gr 0 s (zH s).2:=by
 unfold zH;split
 ·exact(Gr.next _ s).trans (oE _)
 split
 ·exact Gr.bad s
 exact Gr.drop 1 s
theorem oA (s:RG):Gr 0 s (jO s).2:=by
 unfold jO;simp only;refine(((mY s).trans (Gr.next [45] _)).trans (b:=0) ?_).trans (Gr.or _ _);split
 ·exact mY _
 exact Gr.refl _
theorem qTH:∀ n l s,Gr 0 s (kF n l s).2/\(kF n l s).2.ss=s.ss
 | 0,l,s=>⟨Gr.refl s,rfl⟩
 | n+1,l,s=>by
  have hn:(qW [93] s).ss=s.ss:=by unfold qW;split <;> rfl
  unfold kF;split
  ·exact⟨Gr.refl s,rfl⟩
  split
  ·exact⟨Gr.next _ s,hn⟩
  simp only;split
  ·obtain⟨h1,h2⟩:=qTH n (l++wJ ((qW [93] s).left.getD 1 0)) (wY 2 (qW [93] s));exact⟨((Gr.next [93] s).trans (Gr.drop 2 _)).trans h1,h2.trans hn⟩
  obtain⟨h1,h2⟩:=qTH n (l++[(jO (qW [93] s)).1]) (jO (qW [93] s)).2;refine⟨((Gr.next [93] s).trans (oA _)).trans h1,h2.trans (Eq.trans ?_ hn)⟩;have e1:∀ s,(zM s).2.ss=s.ss:=fun s=>by unfold zM;split;rfl;split;rfl;split <;> rfl
  have e2:∀ w s,(qW w s).ss=s.ss:=fun w s=>by unfold qW;split <;> rfl
  have e3:∀ s,(zH s).2.ss=s.ss:=fun s=>by
   unfold zH;split
   ·rw[e1,e2]
   split <;> rfl
  unfold jO;simp only[wR];split
  ·rw[e3,e2,e3]
  rw[e2,e3]
theorem Gr.put {s:RG} {ss:List XS} {k:Int} (hl:s.ss.length<=ss.length) (hw:(W ss:Int)<=W s.ss+k) (hg:GS s.ss->GS ss):Gr k s (wQ ss s):=⟨hl,bP _,by simp only[wQ];omega,iH _,iH _,id,hg⟩
theorem Gr.rune (s:RG) (d:Tk):Gr 3 s (wQ (uF s.ss d) s):=Gr.put (by simp) (by rw[wDF];omega) fun h=>h.rune d
theorem Gr.place (s:RG) (d:Pl):Gr 3 s (wQ (qAT s.ss d) s):=Gr.put (by simp) (by rw[zZP];omega) fun h=>h.place d
theorem zEN (s:RG):Gr 3 s (qCT s).2/\qAP (qCT s).2.ss (qCT s).1:=by
 unfold qCT;simp only;refine⟨?_,qFS _ (by simp[wQ])⟩;exact((((Gr.next [94] s).trans (qTH _ _ _).1).trans (Gr.or _ _)).trans (Gr.rune _ _)).weak (by omega)
theorem zHN (c:Int) (s:RG):Gr 3 s (qLQ c s).2/\qAP (qLQ c s).2.ss (qLQ c s).1:=⟨Gr.rune s _,qFS _ (by simp[qLQ,wQ])⟩
theorem qRV (s:RG):Gr 3 s (kK s).2/\qAP (kK s).2.ss (kK s).1:=by
 unfold kK;split
 ·exact⟨((Gr.drop 1 s).trans (Gr.rune (wY 1 s) _)).weak (by omega),qFS _ (by simp[wQ])⟩
 obtain⟨h1,h2⟩:=zHN (zM s).1 (zM s).2;exact⟨((oE s).trans h1).weak (by omega),h2⟩
structure RegOK (n:Nat):Prop where
 alt:∀ s,Gr 1 s (qBO n s).2/\qAP (qBO n s).2.ss (qBO n s).1
 altl:∀ p s,qAP s.ss p->Gr 0 s (qMS n p s).2/\qAP (qMS n p s).2.ss (qMS n p s).1
 seq:∀ s,Gr 1 s (xX n s).2/\qAP (xX n s).2.ss (xX n s).1
 seql:∀ p s,qAP s.ss p->Gr 0 s (qJB n p s).2/\qAP (qJB n p s).2.ss (qJB n p s).1
 atom:∀ s,0<s.ss.length->s.left≠[]->Gr (-4) s (qDE n s).2/\qAP (qDE n s).2.ss (qDE n s).1
theorem qHF:∀ n,RegOK n
 | 0=>by
  refine⟨fun s => ?_,fun p s hp=>⟨Gr.refl s,hp⟩,fun s => ?_,fun p s hp=>⟨Gr.refl s,hp⟩,fun s h0 hl => ?_⟩
  ·simp only[qBO];exact⟨Gr.put (by simp) (by rw[zMP];omega) fun h=>h.new,by simp[wQ],by simp[wQ]⟩
  ·simp only[xX];exact⟨Gr.put (by simp) (by rw[zMP];omega) fun h=>h.new,by simp[wQ],by simp[wQ]⟩
  simp only[qDE];exact⟨(nL hl).weak (by omega),h0,h0⟩
 | n+1=>by
  have ih:=qHF n;refine⟨fun s => ?_,fun p s hp => ?_,fun s => ?_,fun p s hp => ?_,fun s h0 hl => ?_⟩
  ·simp only[qBO];obtain⟨a1,a2⟩:=ih.seq s;obtain⟨b1,b2⟩:=ih.altl _ _ a2;exact⟨(a1.trans b1).weak (by omega),b2⟩
  ·simp only[qMS];split
   ·rename_i ht;have n1:=mD ht;obtain⟨a1,a2⟩:=ih.seq (qW [124] s);have hp1:qAP (xX n (qW [124] s)).2.ss p:=(hp.le n1.len).le a1.len;have hg:Gr 6 (xX n (qW [124] s)).2 (wQ (qOL (xX n (qW [124] s)).2.ss p (xX n (qW [124] s)).1) (xX n (qW [124] s)).2) :=
     Gr.put (by simp) (by have:=wAM (xX n (qW [124] s)).2.ss p (xX n (qW [124] s)).1;omega) fun h=>h.alt hp1 a2
    obtain⟨b1,b2⟩:=ih.altl (yF (xX n (qW [124] s)).2.ss) (wQ (qOL (xX n (qW [124] s)).2.ss p (xX n (qW [124] s)).1) (xX n (qW [124] s)).2) (qFS _ (by simp[wQ]));exact⟨(n1.trans ((a1.trans hg).trans b1)).weak (by omega),b2⟩
   exact⟨Gr.next _ s,hp.le (Gr.next _ s).len⟩
  ·simp only[xX];have h1:Gr 1 s (wQ (s.ss++[noX]) s):=Gr.put (by simp) (by rw[zMP];omega) fun h=>h.new;obtain⟨b1,b2⟩:=ih.seql (s.ss.length,s.ss.length) (wQ (s.ss++[noX]) s) ⟨by simp[wQ],by simp[wQ]⟩;exact⟨(h1.trans b1).weak (by omega),b2⟩
  ·simp only[qJB];split
   ·rename_i hc;have hl:=(kB hc.1).1;obtain⟨a1,a2⟩:=ih.atom s (by have:=hp.1;omega) hl;generalize ht:qDE n s=q at *;have key:∀ k:Pt × RG,k=(if wD [42,43,63] q.2=true then(yF (qW [42,43,63] q.2).ss,wQ (qBC (qW [42,43,63] q.2).ss q.1 (zL q.2)) (qW [42,43,63] q.2)) else(q.1,qW [42,43,63] q.2)) ->
      Gr 0 q.2 k.2/\qAP k.2.ss k.1:=by
     rintro k rfl;split
     ·rename_i htk;have n1:=mD htk;have hg:Gr 6 (qW [42,43,63] q.2) (wQ (qBC (qW [42,43,63] q.2).ss q.1 (zL q.2)) (qW [42,43,63] q.2)) :=
       Gr.put (by simp) (by have:=zVT (qW [42,43,63] q.2).ss q.1 (zL q.2);omega) fun h=>h.many (a2.le n1.len) _
      exact⟨(n1.trans hg).weak (by omega),qFS _ (by simp[wQ])⟩
     have n1:=Gr.next [42,43,63] q.2;exact⟨n1,a2.le n1.len⟩
    obtain⟨k1,k2⟩:=key _ rfl;generalize (if wD [42,43,63] q.2=true then(yF (qW [42,43,63] q.2).ss,wQ (qBC (qW [42,43,63] q.2).ss q.1 (zL q.2)) (qW [42,43,63] q.2)) else(q.1,qW [42,43,63] q.2))=k at *;have hg:Gr 1 k.2 (wQ (toX k.2.ss p.2 k.1.1) k.2):=Gr.put (by simp) (by have:=qQE k.2.ss p.2 k.1.1;omega) fun h=>h.to k2.1;have hp1:=(hp.le a1.len).le k1.len;obtain⟨b1,b2⟩:=ih.seql (p.1,k.1.2) (wQ (toX k.2.ss p.2 k.1.1) k.2) ⟨by simp[wQ];exact hp1.1,by simp[wQ];exact k2.2⟩;exact⟨(((a1.trans k1).trans hg).trans b1).weak (by omega),b2⟩
   exact⟨Gr.refl s,hp⟩
  have hd:=nL hl;have hdl:(wY 1 s).left.length+1=s.left.length:=by have:=bV.2 hl;simp[wY];omega
  have hdd:(wY 1 s).deep=s.deep:=rfl;have h0':0<(wY 1 s).ss.length:=h0;simp only[qDE];generalize wY 1 s=t at *;split
  ·have gu:Gr (-8) s (wR (decide (6<t.deep+1)) (jA 1 t)) :=
    ⟨hd.len,hd.left,hd.few,by have:=hd.d0;simp only[wR,jA];omega,by have:=hd.d1;simp only[wR,jA];omega,hd.runes,hd.g⟩
   split
   ·exact⟨gu.weak (by omega),h0',h0'⟩
   have hud:(wR (decide (6<t.deep+1)) (jA 1 t)).deep=s.deep+1:=by simp[wR,jA,hdd]
   have hul:(wR (decide (6<t.deep+1)) (jA 1 t)).left.length+1=s.left.length:=hdl;generalize wR (decide (6<t.deep+1)) (jA 1 t)=u at *;obtain⟨a1,a2⟩:=ih.alt u;have n1:=Gr.next [41] (qBO n u).2;have A:=(gu.trans a1).trans n1;have B:=a1.trans n1;have B0:=B.d0;have B1:=B.d1;generalize qW [41] (qBO n u).2=v at *;refine⟨⟨A.len,A.left, ?_, ?_, ?_,A.runes,A.g⟩,a2.le n1.len⟩
   ·have:=A.few;simp only[jA,wR];omega
   ·simp only[jA,wR];omega
   simp only[jA,wR];omega
  split
  ·obtain⟨a1,a2⟩:=zEN t;exact⟨(hd.trans a1).weak (by omega),a2⟩
  split
  ·exact⟨(hd.trans (Gr.rune t _)).weak (by omega),qFS _ (by simp[wQ])⟩
  split
  ·exact⟨(hd.trans (Gr.place t _)).weak (by omega),qFS _ (by simp[wQ])⟩
  split
  ·exact⟨(hd.trans (Gr.place t _)).weak (by omega),qFS _ (by simp[wQ])⟩
  split
  ·obtain⟨a1,a2⟩:=qRV t;exact⟨(hd.trans a1).weak (by omega),a2⟩
  obtain⟨a1,a2⟩:=zHN (s.left.headD 0) (wR (qEW [41,93,123,125,42,43,63,124] (s.left.headD 0)) t);exact⟨((hd.trans (Gr.or _ _)).trans a1).weak (by omega),a2⟩
set_option maxRecDepth 100000
variable {G:qT}
def kG (s p:List UInt8):Bool:=decide (p.length<=s.length) && decide (s.take p.length=p)
@[simp] theorem zWE (s p:List UInt8):AFn Tryz.prog G 103 [.str s,.str p] (.bool (kG s p)):=by
 refine AFn.intro tok Tryz.func103 (by kernel_rfl) rfl ?_;simp only[Tryz.f103,lC];refine iM tok [] (by intro C;conv=>lhs;simp) trivial ?_;refine iM tok [] (by intro C;conv=>lhs;simp) (by simp +contextual) ?_;exact AW.ret ⟨.inr rfl,_,_,by(conv=>lhs;simp),trivial,by simp[kG]⟩
@[simp] theorem zBI (s p:List UInt8):AFn Tryz.prog G 72 [.str s,.str p] (.bool (kG s p)):=by
 refine AFn.intro tok Tryz.func72 (by kernel_rfl) rfl ?_;simp only[Tryz.f72,lC];refine iM tok [] (by intro C;conv=>lhs;simp) trivial ?_;refine iM tok [.tup [.str s,.str p],.bool (kG s p)] (by intro C;conv=>lhs;simp) (by simp) ?_;exact AW.ret ⟨.inr rfl,_,_,by(conv=>lhs;simp),trivial,by simp⟩
def qDZ (s p:List UInt8):List UInt8:=if kG s p then s.drop p.length else s
@[simp] theorem zWF (s p:List UInt8):AFn Tryz.prog G 144 [.str s,.str p] (.tup [.str (qDZ s p),.bool (kG s p)]):=by
 refine AFn.intro tok Tryz.func144 (by kernel_rfl) rfl ?_;simp only[Tryz.f144,lC];refine iM tok [] (by intro C;conv=>lhs;simp) trivial ?_;refine AW.seq ?_;refine iM tok [.tup [.str s,.str p],.bool (kG s p)] (by intro C;conv=>lhs;simp) (by simp) ?_;refine AW.cond (c := .tmp 9) (by conv=>lhs;simp) trivial ?_ ?_
 ·intro h1;simp at h1;refine iM tok [] (by intro C;conv=>lhs;simp) trivial ?_;exact AW.ret ⟨.inr rfl,_,_,by(conv=>lhs;simp),trivial,by simp[qDZ,h1]⟩
 intro h1;simp at h1;refine AW.skip ?_;refine iM tok [] (by intro C;conv=>lhs;simp) (by simp[kG]at h1 ⊢; omega) ?_;exact AW.ret ⟨.inr rfl,_,_,by(conv=>lhs;simp),trivial,by simp[qDZ,h1]⟩
@[simp] theorem qMV (s p:List UInt8):AFn Tryz.prog G 105 [.str s,.str p] (.tup [.str (qDZ s p),.bool (kG s p)]):=by
 refine AFn.intro tok Tryz.func105 (by kernel_rfl) rfl ?_;simp only[Tryz.f105,lC];refine iM tok [] (by intro C;conv=>lhs;simp) trivial ?_;refine iM tok [.tup [.str s,.str p],.tup [.str (qDZ s p),.bool (kG s p)]] (by intro C;conv=>lhs;simp) (by simp) ?_;exact AW.ret ⟨.inr rfl,_,_,by(conv=>lhs;simp),trivial,by simp⟩
theorem wGZ:zMS Tryz.prog 226 Extern.BytealgIndexByte.indexByte:=fun args w=>run_callFunc_extern Tryz.func226 (by kernel_rfl) (by kernel_rfl) (by kernel_rfl) (by kernel_rfl) args w
@[simp] theorem qUP (s:List UInt8) (n:Int):AFn Tryz.prog G 198 [.str s,.int .u8 n] (.int .i64 (Lib.indexByte s n.toNat.toUInt8)):=by
 refine AFn.intro tok Tryz.func198 (by kernel_rfl) rfl ?_;simp only[Tryz.f198,lC];refine iM tok [] (by intro C;conv=>lhs;simp) trivial ?_;refine pB tok 2 [] [] rfl rfl (by intro C;conv=>lhs;simp) trivial (zBL (s:=s) (n:=n) (p:=True) (q:=True) (r:=True) wGZ rfl (by simp) trivial (by simp) trivial (by simp) trivial) (by intro C;conv=>lhs;simp) trivial ?_;exact AW.ret ⟨.inr rfl,_,_,by(conv=>lhs;simp),trivial,by simp⟩
@[simp] theorem qGQ (s:List UInt8) (n:Int):AFn Tryz.prog G 155 [.str s,.int .u8 n] (.int .i64 (Lib.indexByte s n.toNat.toUInt8)):=by
 refine AFn.intro tok Tryz.func155 (by kernel_rfl) rfl ?_;simp only[Tryz.f155,lC];refine iM tok [] (by intro C;conv=>lhs;simp) trivial ?_;refine iM tok [.tup [.str s,.int .u8 n],.int .i64 (Lib.indexByte s n.toNat.toUInt8)] (by intro C;conv=>lhs;simp) (by simp) ?_;exact AW.ret ⟨.inr rfl,_,_,by(conv=>lhs;simp),trivial,by simp⟩
theorem qUW (l:List UInt8) (c:UInt8):0<=Lib.indexByte l c↔c∈l:=by
 induction l with
 | nil=>simp[Lib.indexByte]
 | cons b l ih =>
  have hge:=Lib.indexByte_ge l c;unfold Lib.indexByte;by_cases h:b=c
  ·subst h;simp
  simp only[dD,h,if_false,bM,Ne.symm h,false_or,<-ih];by_cases h2:Lib.indexByte l c = -1
  ·simp[h2]
  simp only[h2,if_false];omega
theorem qMI {s:List UInt8} {pos:Nat} (h:pos<s.length):1<=(qAW s pos).2:=Lib.decode_width_pos _ _ (by simpa[ByteArray.size]using h)
theorem qKQ {s:List UInt8} {pos:Nat} (h:pos<s.length) (ha:(s.getD pos 0).toNat<128):qAW s pos=((s.getD pos 0).toNat,1):=by
 have hs:pos<(⟨s.toArray⟩:ByteArray).size:=by simpa[ByteArray.size]using h
 have e:(⟨s.toArray⟩:ByteArray)[pos]'hs=s.getD pos 0:=by simp[bJ,h];rfl
 unfold qAW;rw[decode_ascii _ _ hs (by rw[e];exact ha),e]
theorem zUK {s:List UInt8} {pos:Nat} (h:pos<s.length) (ha:128<=(s.getD pos 0).toNat):128<=(qAW s pos).1:=by
 have e:((⟨s.toArray⟩:ByteArray).get! (pos+0)).toNat=(s.getD pos 0).toNat:=by
  simp[ByteArray.get!,bJ,h]
 unfold qAW Utf8.decode;simp only[e];rw[bD (by omega)];split
 ·split
  ·simp only[ge_iff_le]at *; omega
  simp[Utf8.runeError]
 split
 ·split
  ·rename_i hc;simp only[ge_iff_le,bI,bY]at hc;omega
  simp[Utf8.runeError]
 split
 ·split
  ·rename_i hc;simp only[ge_iff_le,bI,bY]at hc;omega
  simp[Utf8.runeError]
 simp[Utf8.runeError]
def qTJ (p:Int->Bool) (s:List UInt8):Nat->Nat->Int
 | 0,_ => -1
 | f+1,pos=>if pos<s.length then(if p (qAW s pos).1 then(pos:Int) else qTJ p s f (pos+(qAW s pos).2)) else -1
def qDY (p:Int->Bool) (s:List UInt8):Int:=qTJ p s (s.length+1) 0
theorem qXI (p:Int->Bool) (s:List UInt8):∀ (f g pos:Nat),s.length<pos+f->s.length<pos+g->qTJ p s f pos=qTJ p s g pos
 | 0,0,_,_,_=>rfl
 | 0,g+1,pos,h,_=>by simp only[qTJ];rw[bD (by omega)]
 | f+1,0,pos,_,h=>by simp only[qTJ];rw[bD (by omega)]
 | f+1,g+1,pos,hf,hg=>by
  simp only[qTJ];by_cases h:pos<s.length
  ·rw[bE h,bE h];split
   ·rfl
   have:=qMI h;exact qXI p s f g _ (by omega) (by omega)
  rw[bD h,bD h]
def qGU (p:Int->Bool) (s:List UInt8) (pos:Nat):Int:=qTJ p s (s.length+1-pos) pos
theorem qXJ {p:Int->Bool} {s:List UInt8} {pos:Nat} (h:¬ pos<s.length):qGU p s pos = -1:=by
 unfold qGU;cases hf:s.length+1-pos with
 | zero=>rfl
 | succ f=>simp only[qTJ];rw[bD h]
theorem qNU {p:Int->Bool} {s:List UInt8} {pos:Nat} (h:pos<s.length) (hp:p (qAW s pos).1=true):qGU p s pos=pos:=by
 unfold qGU;rw[show s.length+1-pos=(s.length-pos)+1 by omega];simp only[qTJ];rw[bE h,bE hp]
theorem qTK {p:Int->Bool} {s:List UInt8} {pos:Nat} (h:pos<s.length) (hp:p (qAW s pos).1=false):qGU p s pos=qGU p s (pos+(qAW s pos).2):=by
 unfold qGU;rw[show s.length+1-pos=(s.length-pos)+1 by omega];simp only[qTJ];have:=qMI h;rw[bE h,bD (by simp[hp])];exact qXI p s _ _ _ (by omega) (by omega)
theorem qXG (p:Int->Bool) (s:List UInt8):qDY p s=qGU p s 0:=by simp[qDY,qGU]
theorem qPM {p:Int->Bool} (hbig:∀ n:Int,128<=n->p n=true) (s:List UInt8):∀ (f pos:Nat),f=s.length-pos->pos<=s.length->qGU p s pos=if(s.drop pos).all (fun b => !p b.toNat) then -1 else((pos+((s.drop pos).takeWhile fun b => !p b.toNat).length:Nat):Int)
 | 0,pos,hf,hp=>by
  rw[qXJ (by omega),dQ (by omega)];simp
 | f+1,pos,hf,hp=>by
  have hlt:pos<s.length:=by omega
  have hd:s.drop pos=s.getD pos 0::s.drop (pos+1):=by
   rw[cJ hlt];congr 1;simp[bJ,hlt]
  rw[hd];have hda0:=fun h=>qKQ (s:=s) (pos:=pos) hlt h;have hdb0:=fun h=>zUK (s:=s) (pos:=pos) hlt h;clear hd
  generalize s.getD pos 0=c at *;by_cases ha:c.toNat<128
  ·have hda:=hda0 ha;cases hpb:p ((c.toNat:Nat):Int)with
   | true=>rw[qNU hlt (by rw[hda];exact hpb)];simp[hpb]
   | false =>
    rw[qTK hlt (by rw[hda];exact hpb),hda,qPM hbig s f (pos+1) (by omega) (by omega)];simp only[eF,hpb,Bool.not_false,Bool.true_and,fJ,if_true,cA];split <;> first|rfl|(congr 1;omega)
  have hb:=hdb0 (by omega);rw[qNU hlt (hbig _ (by omega))];have:p ((c.toNat:Nat):Int)=true:=hbig _ (by omega);simp[this]
theorem zAH {p:Int->Bool} (hbig:∀ n:Int,128<=n->p n=true) (s:List UInt8):qDY p s=if s.all (fun b => !p b.toNat) then -1 else(((s.takeWhile fun b => !p b.toNat).length:Nat):Int):=by
 rw[qXG,qPM hbig s _ 0 rfl (by omega)];simp
end Go.Proofs.YtgcbapchinideaaGreatDoor
namespace Go.Proofs.YtgcbapchinideaaGreatDoor.Sy
open Go
section
variable {P:Program} {G:qT} {Q:Exit->St->Prop} {st:St}
def noGo (Q:Exit->St->Prop):Exit->St->Prop
 | .goto _,_=>False
 | e,s=>Q e s
theorem AW.scope {c:Code} (h:AW P G c (noGo Q) st):AW P G (.scope c) Q st:=fun x M μ tmps w hg r=>wp_scope_straight (wp_mono (h x M μ tmps w hg r) (by
 rintro e a w' ⟨s,M',μ',r',hd,q⟩;cases e <;> first|exact⟨s,M',μ',r',hd,q⟩|exact q.elim))
end
end Go.Proofs.YtgcbapchinideaaGreatDoor.Sy
namespace Go.Proofs.YtgcbapchinideaaGreatDoor
open Sy Go
set_option maxRecDepth 100000
set_option maxHeartbeats 4000000
variable {G:qT}
theorem wAY {c:Int} (h0:0<=c) (h1:c<128):IntKind.u8.wrap c=c:=by
 unfold IntKind.wrap;simp[IntKind.bits,IntKind.signed];omega
theorem zEQ (w:List UInt8) (c:Int) (h0:0<=c) (h1:c<128):AFn Tryz.prog G 233 [.str w,.int .i32 c] (.int .i64 (Lib.indexByte w c.toNat.toUInt8)):=by
 refine AFn.introU tok Tryz.func233 (by kernel_rfl) rfl rfl ?_;simp only[Tryz.f233,qG,bA,bC];have hw:=wAY h0 h1;have hI:=qGQ (G:=G) w c;refine rgn [] [[0,1]] ?_;refine op3 ?_;refine qA (AW.block (rgn [] [[],[],[],[],[],[0,1,166],[0,1,160]] ?_));iterate 3 refine op3 ?_
 iterate 2 refine op4 ?_
 iterate 2 refine op3 ?_
 refine qA (cnd ?_ ?_)
 ·intro h160;try simp at h160
  refine rgn [.nilp,.int .i64 (Lib.indexByte w c.toNat.toUInt8)] [[],[],[],[170],[4]] ?_;iterate 5 refine op3 ?_ (hv:=by first|exact True.intro|(simp[hw];done)|omega|simp)
  exact qA (AW.ret qI)
 intro h160;try simp at h160
 omega
theorem qYN (c:Int):AFn Tryz.prog G 243 [.int .i32 c] (.bool (Utf8.valid c)):=by
 refine AFn.introU tok Tryz.func243 (by kernel_rfl) rfl rfl ?_;simp only[Tryz.f243,qG,bA,bC];rw[validRune_eq c];refine rgn [] [[0]] ?_;refine op3 ?_;refine qA (AW.seq (AW.block (rgn [] [[],[],[],[],[],[0,9],[0,3]] ?_)));iterate 3 refine op3 ?_
 iterate 2 refine op4 ?_
 iterate 2 refine op3 ?_
 refine qA (cnd ?_ ?_)
 ·intro h3;try simp at h3
  refine rgn [] [[]] ?_;refine op3 ?_;refine qA ?_;exact AW.ret (qI (k:=by simp[validRune];omega))
 intro h3;try simp at h3
 refine rgn [] [[],[],[],[],[13,15],[],[10]] ?_;iterate 3 refine op3 ?_
 iterate 2 refine op4 ?_
 iterate 2 refine op3 ?_
 refine qA (cnd ?_ ?_)
 ·intro h10;try simp at h10
  refine rgn [] [[]] ?_;refine op3 ?_;refine qA ?_;exact AW.ret (qI (k:=by simp[validRune];omega))
 intro h10;try simp at h10
 refine AW.skip (rgn [] [[]] ?_);refine op3 ?_;refine qA ?_;exact AW.ret (qI (k:=by simp[validRune];omega))
theorem zTT {w:List UInt8} (hw:∀ b∈w,b.toNat<128) {k:UInt8} (hk:128<=k.toNat):Lib.indexByte w k = -1:=by
 have h:¬ 0<=Lib.indexByte w k:=fun h=>by
  have:=hw k ((qUW w k).1 h);omega
 have:=Lib.indexByte_ge w k;omega
theorem zSM {w:List UInt8} (hw:∀ b∈w,b.toNat<128) {pos:Nat} (h:pos<w.length):∃ b,w[pos]?=some b/\qAW w pos=(b.toNat,1)/\b.toNat<128:=by
 have hb:=hw w[pos] (dV h);refine⟨w[pos],by simp[h], ?_,hb⟩;have hg:w.getD pos 0=w[pos]:=by rw[bJ,cI h];rfl
 have:=qKQ (s:=w) (pos:=pos) h (by rw[hg];exact hb);rw[hg]at this;exact this
theorem zEP (w:List UInt8) (c:Int) (h0:128<=c) (h1:c<=1114111) (hw:∀ b∈w,b.toNat<128) (hl:w.length<=100):AFn Tryz.prog G 233 [.str w,.int .i32 c] (.int .i64 (-1)):=by
 refine AFn.introU tok Tryz.func233 (by kernel_rfl) rfl rfl ?_;simp only[Tryz.f233,qG,bA,bC];have hV:=qYN (G:=G) c;refine rgn [] [[0,1]] ?_;refine op3 ?_;refine qA (AW.block (rgn [] [[],[],[],[],[],[0,1,166],[0,1,160]] ?_));iterate 3 refine op3 ?_
 iterate 2 refine op4 ?_
 iterate 2 refine op3 ?_
 refine qA (cnd ?_ ?_)
 ·intro h160;try simp at h160
  omega
 intro h160;try simp at h160
 refine rgn [] [[],[],[0,1,171]] ?_;iterate 3 refine op3 ?_
 refine qA (cnd ?_ ?_)
 ·intro h171;try simp at h171
  refine AW.seq (rgn [] [[],[175]] ?_);iterate 2 refine op3 ?_
  refine qA (AW.block ?_);refine AW.loop (α:=Nat) (fun pos=>pos<=w.length) (fun pos=>⟨qZ 187 [(175,.it 175)],[],[(175,.iter w pos)],0⟩) (fun pos=>w.length-pos) (0) (by omega) ⟨qE (by simp),rfl,by simp,by simp⟩ ?_;rintro pos hp;by_cases hs38:pos<w.length
  ·
   refine rgn [.bool true] [[],[]] ?_;iterate 2 refine oq1 tok hs38 ?_
   refine qA (AW.seq (cnd ?_ ?_))
   ·intro h177;try simp at h177
    obtain⟨b,hb,hd1,hd2⟩:=zSM hw hs38;rw[hd1];refine AW.skip (AW.block (rgn [] [[],[],[],[5,6,175]] ?_));iterate 4 refine op3 ?_
    refine qA (rgn [] [[],[5,175,181]] ?_);iterate 2 refine op3 ?_
    refine qA (cnd ?_ ?_)
    ·intro h181;try simp at h181
     omega
    intro h181;try simp at h181
    refine AW.skip ?_;exact⟨pos+1,by omega,by omega,qE (by simp),rfl,by simp,by simp⟩
   intro h177;try simp at h177
  ·
   refine rgn [.bool false] [[],[]] ?_;iterate 2 refine oq1 tok hs38 ?_
   refine qA (AW.seq (cnd ?_ ?_))
   ·intro h177;try simp at h177
   intro h177;try simp at h177
   refine AW.exit ?_;simp;refine rgn [] [[]] ?_;refine op3 ?_;exact qA (AW.ret qI)
 intro h171;try simp at h171
 refine rgn [.nilp,.bool (Utf8.valid c)] [[],[],[],[0,1,183]] ?_;iterate 4 refine oq1 tok hV ?_
 refine qA (cnd ?_ ?_)
 ·intro h183;try simp at h183
  refine rgn [] [[]] ?_;refine op3 ?_;exact qA (AW.ret qI)
 intro h183;try simp at h183
 have hv:Utf8.valid c=true:=by simpa using h183
 obtain⟨e1,e2,e3⟩:=zIU c hv h0;obtain⟨k,hk⟩:∃ k,(qDD c)[(qDD c).length-1]?=some k:=⟨(qDD c)[(qDD c).length-1]'(by omega),by simp⟩;have hk8:=e3 k hk;refine AW.scope ?_;refine rgn [] [[]] ?_;refine op3 ?_;refine qJ ?_;refine qB.stepK [0,18] (zMW tok rfl (by simp;rfl) trivial rfl rfl (by omega)) (by conv=>lhs;simp) rfl ?_;refine qB.run [[0,7]] ?_;refine op3 ?_;refine qA (rgn [] [[],[],[],[0,7,8]] ?_);iterate 4 refine op3 ?_
 refine qA (rgn [] [[],[0,7,8,9]] ?_);iterate 2 refine op3 ?_
 refine qA (rgn [] [[0,7,8,9]] ?_);refine op3 ?_;refine qA (AW.seq (AW.block ?_));refine AW.loop (α:=Unit) (fun _=>True) (fun _=>⟨qZ 187 [(0,.p (.str w)),(7,.p (.str (qDD c))),(8,.p (.int .i64 (((qDD c).length:Int)-1))),(9,.p (.int .i64 (((qDD c).length:Int)-1)))],[],[],0⟩) (fun _=>0) (()) trivial ⟨qE (by simp),rfl,by simp,by simp⟩ ?_;rintro _ _;refine AW.seq (rgn [] [[],[],[],[0,7,8,9,26]] ?_);iterate 4 refine op3 ?_
 refine qA (cnd ?_ ?_)
 ·intro h26;try simp at h26
  obtain⟨b,hb⟩:∃ b,w[(qDD c).length-1]?=some b:=⟨w[(qDD c).length-1]'(by omega),by simp⟩;have hb8:=hw b (bH hb);have hI:=qGQ (G:=G) (w.drop (qDD c).length) k.toNat;have hI2:=zTT (w:=w.drop (qDD c).length) (fun x hx=>hw x (cQ hx)) hk8;rw[show(k.toNat:Int).toNat.toUInt8=k from by simp,hI2]at hI;refine AW.skip (AW.block ?_);refine AW.scope ?_;refine AW.seq ?_;refine iL tok mixed [0,7,8,9,33] 7 [[0],[9],[27,28],[7],[8],[30,31],[29,32]] [.int .u8 b.toNat,.int .u8 k.toNat] [] (by kernel_rfl) (by intro C;conv=>lhs;simp) (by exact⟨⟨by omega,b,by simpa using hb,rfl⟩,by omega,k,by simpa using hk,rfl⟩) (by simp[Sm.sum,Sm.foot,Sm.tch,Sm.refs];kernel_rfl) (by intro C;conv=>lhs;simp) (by first|exact True.intro|omega|simp) ?_;refine cnd ?_ ?_
  ·intro h33;try simp at h33
   refine iU tok mixed 8 [[0],[9],[35],[34,36],[7],[8],[38,39],[37,40]] [.int .u8 k.toNat,.nilp,.int .i64 (-1)] [] (by kernel_rfl) ?_;iterate 8 refine d1 ?_ (hv:=by first|exact True.intro|exact hI|exact⟨by omega,k,by simpa using hk,rfl⟩|omega;done|omega|simp)
   refine DGo.nil (by kernel_rfl) ⟨by kernel_rfl, ?_⟩;refine qB.run [[0,7,8,9,11]] ?_;refine op3 ?_;refine qA (AW.seq (rgn [] [[],[0,7,8,9,11,43]] ?_));iterate 2 refine op3 ?_
   refine qA (cnd ?_ ?_)
   ·intro h43;try simp at h43
    refine rgn [] [[]] ?_;refine op3 ?_;exact qA (AW.ret qI)
   intro h43;try simp at h43
  intro h33;try simp at h33
  omega
 intro h26;try simp at h26
 refine AW.exit ?_;simp;refine AW.seq (rgn [] [[]] ?_);refine op3 ?_;exact qA (AW.ret qI)
theorem qFZ (w:List UInt8) (c:Int) (h0:0<=c) (h1:c<=1114111) (hw:∀ b∈w,b.toNat<128) (hl:w.length<=100):AFn Tryz.prog G 210 [.str w,.int .i32 c] (.bool (qEW w c)):=by
 refine AFn.introU tok Tryz.func210 (by kernel_rfl) rfl rfl ?_;simp only[Tryz.f210,qG,bA,bC];obtain⟨n,hn,hI⟩:∃ n:Int,qEW w c=decide (0<=n)/\AFn Tryz.prog G 233 [.str w,.int .i32 c] (.int .i64 n):=by
  by_cases hc:c<128
  ·exact⟨_,by simp[qEW,h0,hc],zEQ w c h0 hc⟩
  exact⟨-1,by simp[qEW,hc],zEP w c (by omega) h1 hw hl⟩
 rw[hn];refine rgn [] [[0,1]] ?_;refine op3 ?_;refine qA (rgn [.nilp,.int .i64 n] [[],[],[7],[],[4]] ?_);iterate 5 refine oq1 tok hI ?_
 exact qA (AW.ret qI)
theorem wCH (s:Sp) (c:Int):AFn Tryz.prog G 262 [.agg [.int .i32 s.lo,.int .i32 s.hi],.ref [.int .i32 c]] (.bool (decide (s.lo<=c) && decide (c<=s.hi))):=by
 refine AFn.introU tok Tryz.func262 (by kernel_rfl) rfl rfl ?_;simp only[Tryz.f262,qG,bA,bC];refine rgn [] [[],[1,2]] ?_;iterate 2 refine op3 ?_
 refine qA (rgn [] [[],[],[],[],[1,2,8],[],[],[],[8,12],[],[3]] ?_);iterate 5 refine op3 ?_
 iterate 4 refine op4 ?_
 iterate 2 refine op3 ?_
 exact qA (AW.ret qI)
theorem zIK (l:List Sp) (g:FuncId) (cs:List PD) (p:Sp->Bool) (hg:∀ v∈l,AFn Tryz.prog G g [spC v,.ref cs] (.bool (p v))):AFn Tryz.prog G 263 [.sl 2 (l.map spC),.clo g [.ref cs]] (.int .i64 (match l.findIdx? p with|some i=>(i:Int)|none => -1)):=by
 refine AFn.introU tok Tryz.func263 (by kernel_rfl) rfl rfl ?_;simp only[Tryz.f263,qG,bA,bC];refine rgn [] [[0,1]] ?_;refine op3 ?_;refine qA (AW.seq (rgn [] [[],[],[0,1,7,8]] ?_));iterate 3 refine op3 ?_
 refine qA (AW.block ?_);refine lG (i:=7) rfl (by decide) ?_;intro hlen;simp at hlen;refine AW.loop (α:=Nat) (fun k=>k<=l.length/\(l.take k).all (fun v => !p v)=true) (fun k=>⟨qZ 19 [(0,.p (.sl 2 (l.map spC))),(1,.p (.clo g [.ref cs])),(7,.p (.int .i64 l.length)),(8,.p (.int .i64 k))],[],[],0⟩) (fun k=>l.length-k) (0) ⟨by omega,rfl⟩ ⟨qE (by simp),rfl,by simp,by simp⟩ ?_;rintro k ⟨hk,hall⟩;refine rgn [] [[]] ?_;refine op3 ?_;refine qA (AW.seq (cnd ?_ ?_))
 ·intro h9;try simp at h9
  obtain⟨v,hv⟩:∃ v,l[k]?=some v:=⟨l[k],by simp[h9]⟩;have hgv:=hg v (bH hv);refine AW.skip (AW.seq (AW.block (rgn [] [[],[0,1,5,7,8]] ?_)));iterate 2 refine op3 ?_
  refine qA (rgn [spC v,.nilp,.bool (p v)] [[],[],[],[],[],[0,1,5,7,8,16]] ?_);iterate 6 refine op3 ?_ (hv:=by first|exact True.intro|(simp[hv];done)|(simp[spC];done)|(simp at hgv ⊢; exact hgv);done|omega|simp)
  refine qA (cnd ?_ ?_)
  ·intro h16;try simp at h16
   have hf:l.findIdx? p=some k:=by
    rw[dL];have h9':=h9;refine⟨h9, ?_,fun j hj => ?_⟩
    ·rw[cI h9]at hv;cases hv;exact h16
    have:=bR.1 hall (l[j]'(by omega)) (cP.2 ⟨j,by simp;omega,by simp⟩);simpa using this
   refine rgn [] [[],[4]] ?_;iterate 2 refine op3 ?_
   refine qA ?_;exact AW.ret (qI (k:=by simp[hf]))
  intro h16;try simp at h16
  refine AW.skip (rgz [] [[],[0,1,7,8]] ?_);iterate 2 refine op3 ?_
  refine qA ?_;exact⟨k+1,⟨by omega,by rw[bX,hv,dJ,hall];simpa using h16⟩,by omega,qE (by simp),rfl,by simp,by simp⟩
 intro h9;try simp at h9
 rw[bK h9]at hall;have hf:l.findIdx? p=none:=by
  rw[List.findIdx?_eq_none_iff];intro x hx;simpa using List.all_eq_true.1 hall x hx
 refine AW.exit ?_;simp;refine rgn [] [[]] ?_;refine op3 ?_;refine qA ?_;exact AW.ret (qI (k:=by simp[hf]))
theorem qUZ (l:List Sp) (g:FuncId) (cs:List PD) (p:Sp->Bool) (hg:∀ v∈l,AFn Tryz.prog G g [spC v,.ref cs] (.bool (p v))):AFn Tryz.prog G 261 [.sl 2 (l.map spC),.clo g [.ref cs]] (.bool (l.any p)):=by
 refine AFn.introU tok Tryz.func261 (by kernel_rfl) rfl rfl ?_;simp only[Tryz.f261,qG,bA,bC];have hi:=zIK l g cs p hg;have ha:l.any p=decide (0<=(match l.findIdx? p with|some i=>(i:Int)|none => -1)):=by
  cases h:l.findIdx? p with
  | none=>simp;intro x hx;simpa using List.findIdx?_eq_none_iff.1 h x hx
  | some i =>
   obtain⟨h1,h2,_⟩:=dL.1 h;simp;exact⟨_,dV h1,h2⟩
 rw[ha];generalize (match l.findIdx? p with|some i=>(i:Int)|none => -1)=n at *;refine rgn [] [[0,1]] ?_;refine op3 ?_;refine qA (rgn [.nilp,.int .i64 n] [[],[],[7],[],[4]] ?_);iterate 5 refine oq1 tok hi ?_
 exact qA (AW.ret qI)
theorem zTR (l:List Sp) (c:Int):AFn Tryz.prog G 257 [.sl 2 (l.map spC),.int .i32 c] (.bool (inR l c)):=by
 refine AFn.introU tok Tryz.func257 (by kernel_rfl) rfl rfl ?_;simp only[Tryz.f257,qG,bA,bC];have hi:=qUZ (G:=G) l 262 [.int .i32 c] (fun s=>decide (s.lo<=c) && decide (c<=s.hi)) fun v _=>wCH v c;have e:(l.any fun s=>decide (s.lo<=c) && decide (c<=s.hi))=inR l c:=rfl;rw[e]at hi;refine rgn [] [[],[0,3]] ?_;iterate 2 refine op3 ?_
 refine qA (rgn [.nilp,.bool (inR l c)] [[],[]] ?_);iterate 2 refine oq1 tok hi ?_
 refine qJ ?_;refine qB.freezeV 3 (by conv=>lhs;simp) ?_;refine qB.run [[7],[4]] ?_;iterate 2 refine oq1 tok hi ?_
 exact qA (AW.ret qI)
theorem wDC (c:Int):AFn Tryz.prog G 246 [.int .i32 c] (.bool (Tk.any.run c)):=by
 refine AFn.introU tok Tryz.func246 (by kernel_rfl) rfl rfl ?_;simp only[Tryz.f246,qG,bA,bC];refine rgn [] [[0]] ?_;refine op3 ?_;refine qA (rgn [] [[],[],[2]] ?_);iterate 3 refine op3 ?_
 refine qA ?_;exact AW.ret (qI (k:=by simp[Tk.run]))
theorem wCU (a e:Int):AFn Tryz.prog G 248 [.int .i64 a,.int .i64 e] (.bool (Pl.beg.run a e)):=by
 refine AFn.introU tok Tryz.func248 (by kernel_rfl) rfl rfl ?_;simp only[Tryz.f248,qG,bA,bC];refine rgn [] [[0]] ?_;refine op3 ?_;refine qA (rgn [] [[],[],[4]] ?_);iterate 3 refine op3 ?_
 refine qA ?_;exact AW.ret (qI (k:=by simp[Pl.run]))
theorem wCJ (a e:Int):AFn Tryz.prog G 249 [.int .i64 a,.int .i64 e] (.bool (Pl.fin.run a e)):=by
 refine AFn.introU tok Tryz.func249 (by kernel_rfl) rfl rfl ?_;simp only[Tryz.f249,qG,bA,bC];refine rgn [] [[0,1]] ?_;refine op3 ?_;refine qA (rgn [] [[],[],[7],[4]] ?_);iterate 4 refine op3 ?_
 refine qA ?_;exact AW.ret (qI (k:=by simp[Pl.run]))
theorem zXU (d c:Int):AFn Tryz.prog G 260 [.int .i32 c,.ref [.int .i32 d]] (.bool ((Tk.one d).run c)):=by
 refine AFn.introU tok Tryz.func260 (by kernel_rfl) rfl rfl ?_;simp only[Tryz.f260,qG,bA,bC];refine rgn [] [[0,1]] ?_;refine op3 ?_;refine qA (rgn [] [[],[],[6],[3]] ?_);iterate 4 refine op3 ?_
 refine qA ?_;exact AW.ret (qI (k:=by simp[Tk.run]))
theorem zZA (l:List Sp) (c:Int):AFn Tryz.prog G 258 [.int .i32 c,.ref [.sl 2 (l.map spC)]] (.bool ((Tk.cls l).run c)):=by
 refine AFn.introU tok Tryz.func258 (by kernel_rfl) rfl rfl ?_;simp only[Tryz.f258,qG,bA,bC];have hi:=zTR (G:=G) l c;refine rgn [] [[0,1]] ?_;refine op3 ?_;refine qA (rgn [.nilp,.bool (inR l c)] [[],[],[6],[3]] ?_);iterate 4 refine oq1 tok hi ?_
 refine qA ?_;exact AW.ret (qI (k:=by simp[Tk.run]))
theorem zPE (l:List Sp) (b:Bool) (c:Int):AFn Tryz.prog G 256 [.int .i32 c,.ref [.sl 2 (l.map spC)],.ref [.bool b]] (.bool ((Tk.items l b).run c)):=by
 refine AFn.introU tok Tryz.func256 (by kernel_rfl) rfl rfl ?_;simp only[Tryz.f256,qG,bA,bC];have hi:=zTR (G:=G) l c;refine rgn [] [[0,1,2]] ?_;refine op3 ?_;refine qA ?_;refine iL tok mixed [4] 5 [[1],[0],[5,6],[2],[7,8]] [.nilp,.bool (inR l c)] [] (by kernel_rfl) (by intro C;conv=>lhs;simp) (by exact hi) (by simp[Sm.sum,Sm.foot,Sm.tch,Sm.refs];kernel_rfl) (by intro C;conv=>lhs;simp) (by first|exact True.intro|omega|simp) ?_;exact AW.ret (qI (k:=by simp[Tk.run]))
theorem zFQ (c:Int) (h:wJ c≠[]):AFn Tryz.prog G 254 [.int .i32 c] (.sl 2 ((wJ c).map spC)):=by
 refine AFn.introU tok Tryz.func254 (by kernel_rfl) rfl rfl ?_;simp only[Tryz.f254,qG,bA,bC];refine rgn [] [[0]] ?_;refine op3 ?_;refine qA (AW.seq (rgn [] [[3]] ?_));refine op3 ?_;refine qA (AW.block (rgn [] [[],[3,4]] ?_));iterate 2 refine op3 ?_
 refine qA (cnd ?_ ?_)
 ·intro h4;try simp at h4
  refine rgn [.agg [.int .i32 48,.int .i32 57]] [[],[],[2]] ?_;iterate 3 refine op3 ?_
  refine qA ?_;exact AW.ret (qI (k:=by simp[wJ,h4,spC]))
 intro h4;try simp at h4
 refine rgn [] [[],[3,8]] ?_;iterate 2 refine op3 ?_
 refine qA (cnd ?_ ?_)
 ·intro h8;try simp at h8
  refine rgn [.agg [.int .i32 48,.int .i32 57],.agg [.int .i32 97,.int .i32 122],.agg [.int .i32 65,.int .i32 90],.agg [.int .i32 95,.int .i32 95]] [[],[],[],[],[14],[2]] ?_;iterate 6 refine op3 ?_
  refine qA ?_;exact AW.ret (qI (k:=by simp[wJ,h8,spC]))
 intro h8;try simp at h8
 refine rgn [] [[],[15]] ?_;iterate 2 refine op3 ?_
 refine qA (cnd ?_ ?_)
 ·intro h15;try simp at h15
  refine rgn [.agg [.int .i32 32,.int .i32 32],.agg [.int .i32 9,.int .i32 9],.agg [.int .i32 10,.int .i32 10],.agg [.int .i32 13,.int .i32 13]] [[],[],[],[],[21],[2]] ?_;iterate 6 refine op3 ?_
  refine qA ?_;exact AW.ret (qI (k:=by simp[wJ,h15,spC]))
 intro h15;try simp at h15
 (exact(h (by simp[wJ,h4,h8,h15])).elim)
theorem zQA (c:Int) (h:wJ c=[]):AX Tryz.prog G 254 [.p (.int .i32 c)] [] (.nilsl) [] []:=by
 refine AX.introU tok 60 Tryz.func254 (by kernel_rfl) rfl rfl ?_;simp only[Tryz.f254,qG,bA,bC];refine rgn [] [[0]] ?_;refine op3 ?_;refine qA (AW.seq (rgn [] [[3]] ?_));refine op3 ?_;refine qA (AW.block (rgn [] [[],[3,4]] ?_));iterate 2 refine op3 ?_
 refine qA (cnd ?_ ?_)
 ·intro h4;try simp at h4
  (simp[wJ,h4]at h)
 intro h4;try simp at h4
 refine rgn [] [[],[3,8]] ?_;iterate 2 refine op3 ?_
 refine qA (cnd ?_ ?_)
 ·intro h8;try simp at h8
  (simp[wJ,h8]at h)
 intro h8;try simp at h8
 refine rgn [] [[],[15]] ?_;iterate 2 refine op3 ?_
 refine qA (cnd ?_ ?_)
 ·intro h15;try simp at h15
  (simp[wJ,h15]at h)
 intro h15;try simp at h15
 refine AW.skip (rgn [] [[]] ?_);refine op3 ?_;refine qA ?_;exact AW.ret zC
theorem pJ {P:Program} {code:Code} {Q:Exit->St->Prop} {st st':St} {d id:Nat} (e:TypeId) (sz:Nat) (hd:st.tmps[d]?=some .nilsl) (hf:st.fresh id=true) (h:({ st with tmps:=st.tmps.set d (.ms id),H:=(id,.row e sz [])::st.H }:St)=st') (k:AW P G code Q st'):AW P G code Q st:=AW.begin e sz hd hf (h ▸ k)
theorem mW {P:Program} {c:Code} {Q:Exit->St->Prop} {st st':St} (ks:List Nat) (h:st.keep ks=st') (k:AW P G c Q st'):AW P G c Q st:=AW.keep ks (h ▸ k)
abbrev bN (l:List Nat):List PD:=l.map fun(k:Nat)=>PD.int .i64 k
theorem wAK (l:List Nat):bN l=(l.map fun(k:Nat)=>(k:Int)).map Sy.pi:=by simp[bN]
theorem wBI {ss:List XS} {i z:Nat} {x:XS} (h:ss[i]?=some x):(toX ss i z).map XS.ms=(ss.map XS.ms).set i (x.tk.enc,x.pl.enc,some ((x.next.map fun(k:Nat)=>(k:Int))++[(z:Int)])):=by
 unfold toX;rw[h];simp[gZ,XS.ms]
theorem qMT (ss:List XS) (l:List Nat) (hl:ss.length<=100000):AX Tryz.prog G 218 [.ptr 5 0,.ms 7] [(5,.vars 207 [.ms 6]),(6,.mach 215 3 (ss.map XS.ms)),(7,.row 3 1 (bN l))] (.p (.int .i64 ss.length)) [5] [(5,.vars 207 [.ms 6]),(6,.mach 215 3 ((ss++[XS.mk .no .no l]).map XS.ms))]:=by
 refine AX.introU tok 900 Tryz.func218 (by kernel_rfl) rfl rfl ?_;simp only[Tryz.f218,qG,bA,bC];refine rgn [] [[0,1]] ?_;refine op3 ?_;refine qA (rgn [] [[],[],[],[],[],[0,5,9,10],[]] ?_);iterate 7 refine op3 ?_
 refine qJ ?_;refine qB.stepK [0,5,9,12] (qHB tok rfl rfl rfl rfl rfl rfl (by conv=>lhs;simp) trivial (by conv=>lhs;simp) (wAK l) 907 (by conv=>lhs;simp) (by conv=>lhs;simp)) (by conv=>lhs;simp) rfl ?_;refine qB.stepK [0,5,13] (qFJ tok rfl (by conv=>lhs;simp) trivial (by conv=>lhs;simp) trivial (by decide) rfl rfl rfl rfl rfl rfl (by decide) (by conv=>lhs;simp) (by conv=>lhs;simp) (by simp) (by simp;omega) 908 (by conv=>lhs;simp) (by conv=>lhs;simp)) (by conv=>lhs;simp) rfl ?_;refine qB.run [[],[],[0]] ?_;iterate 3 refine op3 ?_
 refine qA ?_;refine mW [0] (by conv=>lhs;simp) ?_;refine oK [5] (by simp) rfl ?_;refine lI 908 6 (by simp) (by conv=>lhs;simp) ?_;refine rgn [] [[],[],[],[19]] ?_;iterate 4 refine op3 ?_
 refine qJ ?_;refine qB.stepK [20] (qMX tok rfl rfl (by conv=>lhs;simp) trivial (by conv=>lhs;simp)) (by conv=>lhs;simp) rfl ?_;refine qB.run [[],[4]] ?_;iterate 2 refine op3 ?_
 refine qA ?_;exact AW.ret (zC (k:=by simp) (b:=by simp[XS.ms,Tk.enc,Pl.enc]))
theorem qGO (ss:List XS) (hl:ss.length<=100000):AX Tryz.prog G 218 [.ptr 5 0,.nilsl] [(5,.vars 207 [.ms 6]),(6,.mach 215 3 (ss.map XS.ms))] (.p (.int .i64 ss.length)) [5] [(5,.vars 207 [.ms 6]),(6,.mach 215 3 ((ss++[noX]).map XS.ms))]:=by
 refine AX.introU tok 900 Tryz.func218 (by kernel_rfl) rfl rfl ?_;simp only[Tryz.f218,qG,bA,bC];refine rgn [] [[0,1]] ?_;refine op3 ?_;refine qA ?_;refine pJ (d:=1) (id:=7) 3 1 (by simp) (by simp) (by conv=>lhs;simp) ?_;refine rgn [] [[],[],[],[],[],[0,5,9,10],[]] ?_;iterate 7 refine op3 ?_
 refine qJ ?_;refine qB.stepK [0,5,9,12] (qHB tok rfl rfl rfl rfl rfl rfl (by conv=>lhs;simp) trivial (by conv=>lhs;simp) (rs:=[]) (l:=[]) rfl 907 (by conv=>lhs;simp) (by conv=>lhs;simp)) (by conv=>lhs;simp) rfl ?_;refine qB.stepK [0,5,13] (qFJ tok rfl (by conv=>lhs;simp) trivial (by conv=>lhs;simp) trivial (by decide) rfl rfl rfl rfl rfl rfl (by decide) (by conv=>lhs;simp) (by conv=>lhs;simp) (by simp) (by simp;omega) 908 (by conv=>lhs;simp) (by conv=>lhs;simp)) (by conv=>lhs;simp) rfl ?_;refine qB.run [[],[],[0]] ?_;iterate 3 refine op3 ?_
 refine qA ?_;refine mW [0] (by conv=>lhs;simp) ?_;refine oK [5] (by simp) rfl ?_;refine lI 908 6 (by simp) (by conv=>lhs;simp) ?_;refine rgn [] [[],[],[],[19]] ?_;iterate 4 refine op3 ?_
 refine qJ ?_;refine qB.stepK [20] (qMX tok rfl rfl (by conv=>lhs;simp) trivial (by conv=>lhs;simp)) (by conv=>lhs;simp) rfl ?_;refine qB.run [[],[4]] ?_;iterate 2 refine op3 ?_
 refine qA ?_;exact AW.ret (zC (k:=by simp) (b:=by simp[XS.ms,Tk.enc,Pl.enc]))
theorem qOS (ss:List XS) (i z:Nat) (x:XS) (hx:ss[i]?=some x) (hz:z<=100000) (hn:x.next.length<=100000):AX Tryz.prog G 219 [.ptr 5 0,.p (.int .i64 i),.p (.int .i64 z)] [(5,.vars 207 [.ms 6]),(6,.mach 215 3 (ss.map XS.ms))] (.tuple []) [5,6] [(5,.vars 207 [.ms 6]),(6,.mach 215 3 ((toX ss i z).map XS.ms))]:=by
 refine AX.introU tok 900 Tryz.func219 (by kernel_rfl) rfl rfl ?_;simp only[Tryz.f219,qG,bA,bC];rw[wBI hx];have hxm:(ss.map XS.ms)[i]?=some (x.tk.enc,x.pl.enc,some (x.next.map fun(k:Nat)=>(k:Int))):=by simp[hx,XS.ms]
 have hil:i<(ss.map XS.ms).length:=(bB.1 hxm).1;have hxl:(x.next.map fun(k:Nat)=>(k:Int)).length<=100000:=by simpa using hn
 generalize x.tk.enc=d1 at *;generalize x.pl.enc=d2 at *;generalize (x.next.map fun(k:Nat)=>(k:Int))=L at *;generalize ss.map XS.ms=S at *;refine lR mixed 19 [[0],[6],[7],[8],[1],[0],[11],[12],[13],[1],[14,15],[16],[17],[2],[19],[18,20],[9,10],[22],[23,21]] [] (by kernel_rfl) ?_;iterate 10 refine iN tok (k := ?_)
 refine wI.y [(6,.mach 215 3 S)] [(6,.mach 215 3 S)] (.rptr 6 i 3 0) true rfl (qBQ tok i rfl rfl rfl rfl (by conv=>lhs;simp) trivial (by conv=>lhs;simp) trivial (by conv=>lhs;simp) hil rfl) (fun _=>rfl) (by simp) (by simp) (by kernel_rfl) (by kernel_rfl) (by conv=>lhs;simp) ?_;refine iN tok (k := ?_);refine oJ [(6,.mach 215 3 S)] [(912,.row 3 1 (L.map Sy.pi)),(6,.mach 215 3 (S.set i (d1,d2,none)))] (.ms 912) [6] [912] rfl (zGL tok rfl rfl rfl (by conv=>lhs;simp) trivial (by conv=>lhs;simp) hxm 912 (by kernel_rfl) (by conv=>lhs;simp)) (by simp) (by simp) (by simp) (by simp) (by simp) (by simp) (by kernel_rfl) (by kernel_rfl) (by conv=>lhs;simp) ?_;refine iN tok (k := ?_);refine iW tok (orc:=[.int .i64 z]) (k := ?_);refine iN tok (k := ?_);refine wI.y [(6,.mach 215 3 (S.set i (d1,d2,none)))] [(6,.mach 215 3 (S.set i (d1,d2,none)))] (.rptr 6 i 3 0) true rfl (qBQ tok i rfl rfl rfl rfl (by conv=>lhs;simp) trivial (by conv=>lhs;simp) trivial (by conv=>lhs;simp) (by simpa using hil) rfl) (fun _=>rfl) (by simp) (by simp) (by kernel_rfl) (by kernel_rfl) (by conv=>lhs;simp) ?_;refine iN tok (k := ?_);refine oJ [(6,.mach 215 3 (S.set i (d1,d2,none))),(921,.row 3 1 (L.map Sy.pi++[.int .i64 z]))] [(6,.mach 215 3 (S.set i (d1,d2,some (L++[(z:Int)]))))] .dead [6] [] rfl (zMX tok rfl rfl rfl (by conv=>lhs;simp) trivial (by conv=>lhs;simp) trivial (l:=L++[(z:Int)]) (by conv=>lhs;simp) (by rw[gK hil]) (by conv=>lhs;simp) (by simp) (by decide) (by conv=>lhs;simp)) (by simp) (by simp) (by simp) (by simp) (by simp) (by simp) (by kernel_rfl) (by kernel_rfl) (by conv=>lhs;simp) ?_;refine wI.nil (by kernel_rfl) ⟨by kernel_rfl, ?_⟩;refine qB.nil ?_;exact qDP
theorem zRY (ss:List XS) (d:Tk) (f:FuncId) (hd:d.enc = .fn f) (hl:ss.length<=50000):AX Tryz.prog G 245 [.ptr 5 0,.p (.fn f)] [(5,.vars 207 [.ms 6]),(6,.mach 215 3 (ss.map XS.ms))] (.agg [.p (.int .i64 (yF ss).1),.p (.int .i64 (yF ss).2)]) [5] [(5,.vars 207 [.ms 6]),(6,.mach 215 3 ((uF ss d).map XS.ms))]:=by
 refine AX.introU tok 900 Tryz.func245 (by kernel_rfl) rfl rfl ?_;simp only[Tryz.f245,qG,bA,bC];refine rgn [] [[]] ?_;refine op3 ?_;refine qA (rgn [] [[]] ?_);refine op3 ?_;refine qJ ?_;refine qB.stepK [0,1,4,8] (zI rfl (qGO ss (by omega)) (by simp)) (by conv=>lhs;simp) rfl ?_;refine qB.run [[0,1,4,5]] ?_;refine op3 ?_;refine qA (rgn [.int .i64 ss.length] [[],[],[]] ?_);iterate 3 refine op3 ?_
 refine qJ ?_;refine qB.take 911 7 (by conv=>lhs;simp) ?_;refine qB.stepK [0,1,4,5,12] (zI rfl (qMT (ss++[noX]) [ss.length] (by simp;omega)) (by simp)) (by conv=>lhs;simp) rfl ?_;refine qB.run [[0,1,4,5,6]] ?_;refine op3 ?_;refine qA (rgn [] [[],[],[],[1,4,5,6,16],[],[]] ?_);iterate 6 refine op3 ?_
 refine qJ ?_;refine qB.stepK [4,5,6,18,19] (qBQ tok (ss.length+1) rfl rfl rfl rfl (by conv=>lhs;simp) trivial (by conv=>lhs;simp) trivial (by conv=>lhs;simp) (by simp) (by simp)) (by conv=>lhs;simp) rfl ?_;refine qB.run [[]] ?_;refine op3 ?_;refine qJ ?_;refine qB.stepK [4,5,6] (qFH tok (f:=0) rfl rfl rfl (by decide) (by conv=>lhs;simp) trivial (by conv=>lhs;simp) trivial (by conv=>lhs;simp) (d:=d.enc) (by rw[hd];simp[iS,iP]) (by conv=>lhs;simp) (s:=(.nilf,.nilf,some [(ss.length:Int)])) (by simp[XS.ms,Tk.enc,Pl.enc]) (by conv=>lhs;simp)) (by conv=>lhs;simp) rfl ?_;refine qB.nil ?_;refine rgn [] [[],[],[4,23],[4]] ?_;iterate 4 refine op3 ?_
 refine qA ?_;exact AW.ret (zC (k:=by simp[yF]) (b:=by simp[uF,XS.ms,Tk.enc,Pl.enc,hd]))
theorem zCX (ss:List XS) (d:Tk) (f:FuncId) (c:List PD) (hd:d.enc = .clo f [.ref c]) (hl:ss.length<=50000):AX Tryz.prog G 245 [.ptr 5 0,.func (.func f) [] [.cptr c]] [(5,.vars 207 [.ms 6]),(6,.mach 215 3 (ss.map XS.ms))] (.agg [.p (.int .i64 (yF ss).1),.p (.int .i64 (yF ss).2)]) [5] [(5,.vars 207 [.ms 6]),(6,.mach 215 3 ((uF ss d).map XS.ms))]:=by
 refine AX.introU tok 900 Tryz.func245 (by kernel_rfl) rfl rfl ?_;simp only[Tryz.f245,qG,bA,bC];refine rgn [] [[]] ?_;refine op3 ?_;refine qA (rgn [] [[]] ?_);refine op3 ?_;refine qJ ?_;refine qB.stepK [0,1,4,8] (zI rfl (qGO ss (by omega)) (by simp)) (by conv=>lhs;simp) rfl ?_;refine qB.run [[0,1,4,5]] ?_;refine op3 ?_;refine qA (rgn [.int .i64 ss.length] [[],[],[]] ?_);iterate 3 refine op3 ?_
 refine qJ ?_;refine qB.take 911 7 (by conv=>lhs;simp) ?_;refine qB.stepK [0,1,4,5,12] (zI rfl (qMT (ss++[noX]) [ss.length] (by simp;omega)) (by simp)) (by conv=>lhs;simp) rfl ?_;refine qB.run [[0,1,4,5,6]] ?_;refine op3 ?_;refine qA (rgn [] [[],[],[],[1,4,5,6,16],[],[]] ?_);iterate 6 refine op3 ?_
 refine qJ ?_;refine qB.stepK [4,5,6,18,19] (qBQ tok (ss.length+1) rfl rfl rfl rfl (by conv=>lhs;simp) trivial (by conv=>lhs;simp) trivial (by conv=>lhs;simp) (by simp) (by simp)) (by conv=>lhs;simp) rfl ?_;refine qB.run [[]] ?_;refine op3 ?_;refine qJ ?_;refine qB.stepK [4,5,6] (qFH tok (f:=0) rfl rfl rfl (by decide) (by conv=>lhs;simp) trivial (by conv=>lhs;simp) trivial (by conv=>lhs;simp) (d:=d.enc) (by rw[hd];simp[iS,iP]) (by conv=>lhs;simp) (s:=(.nilf,.nilf,some [(ss.length:Int)])) (by simp[XS.ms,Tk.enc,Pl.enc]) (by conv=>lhs;simp)) (by conv=>lhs;simp) rfl ?_;refine qB.nil ?_;refine rgn [] [[],[],[4,23],[4]] ?_;iterate 4 refine op3 ?_
 refine qA ?_;exact AW.ret (zC (k:=by simp[yF]) (b:=by simp[uF,XS.ms,Tk.enc,Pl.enc,hd]))
theorem zCW (ss:List XS) (d:Tk) (f:FuncId) (c e:List PD) (hd:d.enc = .clo f [.ref c,.ref e]) (hl:ss.length<=50000):AX Tryz.prog G 245 [.ptr 5 0,.func (.func f) [] [.cptr c,.cptr e]] [(5,.vars 207 [.ms 6]),(6,.mach 215 3 (ss.map XS.ms))] (.agg [.p (.int .i64 (yF ss).1),.p (.int .i64 (yF ss).2)]) [5] [(5,.vars 207 [.ms 6]),(6,.mach 215 3 ((uF ss d).map XS.ms))]:=by
 refine AX.introU tok 900 Tryz.func245 (by kernel_rfl) rfl rfl ?_;simp only[Tryz.f245,qG,bA,bC];refine rgn [] [[]] ?_;refine op3 ?_;refine qA (rgn [] [[]] ?_);refine op3 ?_;refine qJ ?_;refine qB.stepK [0,1,4,8] (zI rfl (qGO ss (by omega)) (by simp)) (by conv=>lhs;simp) rfl ?_;refine qB.run [[0,1,4,5]] ?_;refine op3 ?_;refine qA (rgn [.int .i64 ss.length] [[],[],[]] ?_);iterate 3 refine op3 ?_
 refine qJ ?_;refine qB.take 911 7 (by conv=>lhs;simp) ?_;refine qB.stepK [0,1,4,5,12] (zI rfl (qMT (ss++[noX]) [ss.length] (by simp;omega)) (by simp)) (by conv=>lhs;simp) rfl ?_;refine qB.run [[0,1,4,5,6]] ?_;refine op3 ?_;refine qA (rgn [] [[],[],[],[1,4,5,6,16],[],[]] ?_);iterate 6 refine op3 ?_
 refine qJ ?_;refine qB.stepK [4,5,6,18,19] (qBQ tok (ss.length+1) rfl rfl rfl rfl (by conv=>lhs;simp) trivial (by conv=>lhs;simp) trivial (by conv=>lhs;simp) (by simp) (by simp)) (by conv=>lhs;simp) rfl ?_;refine qB.run [[]] ?_;refine op3 ?_;refine qJ ?_;refine qB.stepK [4,5,6] (qFH tok (f:=0) rfl rfl rfl (by decide) (by conv=>lhs;simp) trivial (by conv=>lhs;simp) trivial (by conv=>lhs;simp) (d:=d.enc) (by rw[hd];simp[iS,iP]) (by conv=>lhs;simp) (s:=(.nilf,.nilf,some [(ss.length:Int)])) (by simp[XS.ms,Tk.enc,Pl.enc]) (by conv=>lhs;simp)) (by conv=>lhs;simp) rfl ?_;refine qB.nil ?_;refine rgn [] [[],[],[4,23],[4]] ?_;iterate 4 refine op3 ?_
 refine qA ?_;exact AW.ret (zC (k:=by simp[yF]) (b:=by simp[uF,XS.ms,Tk.enc,Pl.enc,hd]))
theorem qWH (ss:List XS) (d:Pl) (f:FuncId) (hd:d.enc = .fn f) (hl:ss.length<=50000):AX Tryz.prog G 247 [.ptr 5 0,.p (.fn f)] [(5,.vars 207 [.ms 6]),(6,.mach 215 3 (ss.map XS.ms))] (.agg [.p (.int .i64 (yF ss).1),.p (.int .i64 (yF ss).2)]) [5] [(5,.vars 207 [.ms 6]),(6,.mach 215 3 ((qAT ss d).map XS.ms))]:=by
 refine AX.introU tok 900 Tryz.func247 (by kernel_rfl) rfl rfl ?_;simp only[Tryz.f247,qG,bA,bC];refine rgn [] [[]] ?_;refine op3 ?_;refine qA (rgn [] [[]] ?_);refine op3 ?_;refine qJ ?_;refine qB.stepK [0,1,4,8] (zI rfl (qGO ss (by omega)) (by simp)) (by conv=>lhs;simp) rfl ?_;refine qB.run [[0,1,4,5]] ?_;refine op3 ?_;refine qA (rgn [.int .i64 ss.length] [[],[],[]] ?_);iterate 3 refine op3 ?_
 refine qJ ?_;refine qB.take 911 7 (by conv=>lhs;simp) ?_;refine qB.stepK [0,1,4,5,12] (zI rfl (qMT (ss++[noX]) [ss.length] (by simp;omega)) (by simp)) (by conv=>lhs;simp) rfl ?_;refine qB.run [[0,1,4,5,6]] ?_;refine op3 ?_;refine qA (rgn [] [[],[],[],[1,4,5,6,16],[],[]] ?_);iterate 6 refine op3 ?_
 refine qJ ?_;refine qB.stepK [4,5,6,18,19] (qBQ tok (ss.length+1) rfl rfl rfl rfl (by conv=>lhs;simp) trivial (by conv=>lhs;simp) trivial (by conv=>lhs;simp) (by simp) (by simp)) (by conv=>lhs;simp) rfl ?_;refine qB.run [[]] ?_;refine op3 ?_;refine qJ ?_;refine qB.stepK [4,5,6] (qFH tok (f:=1) rfl rfl rfl (by decide) (by conv=>lhs;simp) trivial (by conv=>lhs;simp) trivial (by conv=>lhs;simp) (d:=d.enc) (by rw[hd];simp[iS,iP]) (by conv=>lhs;simp) (s:=(.nilf,.nilf,some [(ss.length:Int)])) (by simp[XS.ms,Tk.enc,Pl.enc]) (by conv=>lhs;simp)) (by conv=>lhs;simp) rfl ?_;refine qB.nil ?_;refine rgn [] [[],[],[4,23],[4]] ?_;iterate 4 refine op3 ?_
 refine qA ?_;exact AW.ret (zC (k:=by simp[yF]) (b:=by simp[qAT,XS.ms,Tk.enc,Pl.enc,hd]))
theorem qHP {ss:List XS} {i:Nat} (h:i<ss.length):∃ x,ss[i]?=some x/\x.next.length<=W ss:=⟨ss[i],by simp[h],zVS (dV h)⟩
theorem zTC (ss:List XS) (p:Pt) (c:Int) (hp:qAP ss p) (hw:W ss<=50000):AX Tryz.prog G 237 [.ptr 5 0,.p (.agg [.int .i64 p.1,.int .i64 p.2]),.p (.int .i32 c)] [(5,.vars 207 [.ms 6]),(6,.mach 215 3 (ss.map XS.ms))] (.agg [.p (.int .i64 (yF ss).1),.p (.int .i64 (yF ss).2)]) [5] [(5,.vars 207 [.ms 6]),(6,.mach 215 3 ((qBC ss p c).map XS.ms))]:=by
 refine AX.introU tok 900 Tryz.func237 (by kernel_rfl) rfl rfl ?_;simp only[Tryz.f237,qG,bA,bC];have hwl:=wAL ss;have c1:=qGO (G:=G) ss (by omega);have c2:=qMT (G:=G) (ss++[noX]) [p.1] (by simp;omega);have hM:qBC ss p c=(let b:=if c=63 then toX (ss++[noX]++[XS.mk .no .no [p.1]]) p.2 ss.length else toX (toX (ss++[noX]++[XS.mk .no .no [p.1]]) p.2 ss.length) p.2 p.1;if c=43 then b else toX b (ss.length+1) ss.length):=by
  unfold qBC;rw[cD];rfl
 have hl1:(ss++[noX]).length=ss.length+1:=by simp
 have hl2:(ss++[noX]++[XS.mk .no .no [p.1]]).length=ss.length+2:=by simp
 have w2:W (ss++[noX]++[XS.mk .no .no [p.1]])<=W ss+3:=by simp[qUI,W] <;> omega
 rw[hM];clear hM
 generalize ss++[noX]=S1 at *;rw[hl1]at c2;generalize S1++[XS.mk .no .no [p.1]]=A at *;have hp1:=hp.1;have hp2:=hp.2;obtain⟨x,hx,hxn⟩:=qHP (ss:=A) (i:=p.2) (by omega);have c3:=qOS (G:=G) A p.2 ss.length x hx (by omega) (by omega);have w3:=qQE A p.2 ss.length;have l3:=qFN A p.2 ss.length;generalize toX A p.2 ss.length=B at *;obtain⟨y,hy,hyn⟩:=qHP (ss:=B) (i:=p.2) (by omega);have c4:=qOS (G:=G) B p.2 p.1 y hy (by omega) (by omega);have w4:=qQE B p.2 p.1;have l4:=qFN B p.2 p.1;generalize toX B p.2 p.1=C at *;obtain⟨u,hu,hun⟩:=qHP (ss:=B) (i:=ss.length+1) (by omega);have c5:=qOS (G:=G) B (ss.length+1) ss.length u hu (by omega) (by omega);obtain⟨v,hv,hvn⟩:=qHP (ss:=C) (i:=ss.length+1) (by omega);have c6:=qOS (G:=G) C (ss.length+1) ss.length v hv (by omega) (by omega);refine rgn [] [[],[0,2,4,6]] ?_;iterate 2 refine op3 ?_
 refine qA (rgn [] [[]] ?_);refine op3 ?_;refine qJ ?_;refine qB.stepK [0,2,4,6,10] (zI rfl c1 (by simp)) (by conv=>lhs;simp) rfl ?_;refine qB.run [[0,2,4,6,7]] ?_;refine op3 ?_;refine qA (rgn [.int .i64 p.1] [[],[],[],[]] ?_);iterate 4 refine op3 ?_
 refine qJ ?_;refine qB.take 914 7 (by conv=>lhs;simp) ?_;refine qB.stepK [0,2,4,6,7,15] (zI rfl c2 (by simp)) (by conv=>lhs;simp) rfl ?_;refine qB.run [[0,2,4,6,7,8]] ?_;refine op3 ?_;refine qA (rgn [] [[],[],[],[]] ?_);iterate 4 refine op3 ?_
 refine qJ ?_;refine qB.stepK [0,2,4,6,7,8] (zI rfl c3 (by simp)) (by conv=>lhs;simp) rfl ?_;refine qB.nil ?_;refine AW.seq (rgn [] [[],[0,2,4,6,7,8,22]] ?_);iterate 2 refine op3 ?_
 refine qA (cnd ?_ ?_)
 ·intro h22;try simp at h22
  rw[bD h22];refine rgz [] [[],[],[],[],[]] ?_;iterate 5 refine op3 ?_
  refine qJ ?_;refine qB.stepK [0,2,6,7,8] (zI rfl c4 (by simp)) (by conv=>lhs;simp) rfl ?_;refine qB.nil ?_;refine AW.seq (rgn [] [[],[0,6,7,8,30]] ?_);iterate 2 refine op3 ?_
  refine qA (cnd ?_ ?_)
  ·intro h30;try simp at h30
   refine rgz [] [[],[],[]] ?_;iterate 3 refine op3 ?_
   refine qJ ?_;refine qB.stepK [6,7,8] (zI rfl c6 (by simp)) (by conv=>lhs;simp) rfl ?_;refine qB.nil ?_;refine rgn [] [[],[],[6,37],[6]] ?_;iterate 4 refine op3 ?_
   refine qA ?_;exact AW.ret (zC (k:=by simp[yF]) (b:=by simp[h30]))
  intro h30;try simp at h30
  refine AW.skip (rgn [] [[],[],[6,37],[6]] ?_);iterate 4 refine op3 ?_
  refine qA ?_;exact AW.ret (zC (k:=by simp[yF]) (b:=by simp[h30]))
 intro h22;try simp at h22
 rw[bE h22];refine AW.skip (AW.seq (rgn [] [[],[0,6,7,8,30]] ?_));iterate 2 refine op3 ?_
 refine qA (cnd ?_ ?_)
 ·intro h30;try simp at h30
  refine rgz [] [[],[],[]] ?_;iterate 3 refine op3 ?_
  refine qJ ?_;refine qB.stepK [6,7,8] (zI rfl c5 (by simp)) (by conv=>lhs;simp) rfl ?_;refine qB.nil ?_;refine rgn [] [[],[],[6,37],[6]] ?_;iterate 4 refine op3 ?_
  refine qA ?_;exact AW.ret (zC (k:=by simp[yF]) (b:=by simp[h30]))
 intro h30;try simp at h30
 refine AW.skip (rgn [] [[],[],[6,37],[6]] ?_);iterate 4 refine op3 ?_
 refine qA ?_;exact AW.ret (zC (k:=by simp[yF]) (b:=by simp[h30]))
end Go.Proofs.YtgcbapchinideaaGreatDoor
