import Derived.Test.YtgcbapchinideaaGreatDoorM1
import Derived.MapKept
import Derived.Laws.BytesArg
import Derived.Lib.ConvBytes
import Derived.Orders
import Derived.Lib.Bytealg
set_option linter.all false
namespace Go.Proofs.YtgcbapchinideaaGreatDoor.Sy
open Go
section
variable {P:Program} {T:Tab} {G:qT} {Q:Exit->St->Prop}
def qDI (l:List PD) (o:Nat) (xs:List V):List V:=splice (l.map .p) o xs
theorem zGM (hT:TOK P T) {o:Oper} {st:St} {t:TypeId} {a x:Operand} (ho:o.op = .store t a x) {ti:TI} (ht:T t=some ti) {p q:Prop} {id i sz off:Nat} {v:V}
  (ha:st.arg G a=(p,.rptr id i sz off)) (hp:p) (hx:st.arg G x=(q,v)) (hq:q) {e:TypeId} {es:List PD} (hb:zS id st.H=some (.row e sz es)) {xs:List V} (hxs:v.cells=some xs)
  (hsz:xs.length=ti.size) {e0 e1:PD} (he0:es[i]?=some e0) (hfit:off+xs.length<=e0.cells.length) (he1:iP [] (qDI e0.cells off xs) e1.cells) :
  Yields P G o st .dead { st with H:=zO id (.row e sz (es.set i e1)) st.H }:=by
 intro c M μ tmps w hg r;have h1:=qF hg r ha hp;have h2:=qF hg r hx hq;generalize hu1:Act.eval ⟨tmps,[]⟩ a=u1 at h1;generalize hu2:Act.eval ⟨tmps,[]⟩ x=u2 at h2;cases h1 with
 | @rptr _ _ _ _ b hbk =>
 have hc:=Cells.of h2 hxs;have hm:=zD hb;have hbx:=r.box id _ hm;cases hbx with
 | rowN h0 hv=>rw[hbk]at h0;cases h0
 | @row _ _ _ b' cap arr h0 hval hh hs hlc hcm ho1 hz hcc =>
 rw[hbk]at h0;cases h0;obtain⟨inf,d,hi,_,_,hszi,_⟩:=hT.get ht;have hil:=(bB.1 he0).1;have h0l:e0.cells.length=sz:=hz i e0 he0;have hend:i * sz+sz<=arr.size:=by
  have:(i+1) * sz<=cap * sz:=cM _ (by omega);rw[dC,eI]at this;omega
 have hul:u2.cells.toList.length=xs.length:=by simp[hc.size]
 have hst:=run_storeCells_at P b (i * sz+off) e u2.cells.toList 0 arr w hh (by
  simp only[cH,hul];omega) (fun v hv=>by
   obtain⟨j,hj,rfl⟩:=cP.1 hv;exact hc.one j _ (by simp at hj;simp[hj]))
 simp only[cH]at hst;generalize hnew:(arr.toList.take (i * sz+off)++u2.cells.toList++arr.toList.drop (i * sz+off+u2.cells.toList.length)).toArray=arr' at hst;have hget:∀ k,arr'[k]?=if i * sz+off<=k/\k<i * sz+off+xs.length then u2.cells[k-(i * sz+off)]? else arr[k]?:=by
  intro k;rw[<-hnew,cN];have hto:(arr.toList.take (i * sz+off)).length=i * sz+off:=by simp;omega
  rw[cD,cF,hto];split
  ·rename_i hk;rw[bD (by omega),bW,bE hk];simp
  rename_i hk;rw[cF,hul];split
  ·rw[bE ⟨by omega,by omega⟩];simp
  rw[bD (by omega),bZ];rw[show i * sz+off+xs.length+(k-(i * sz+off)-xs.length)=k from by omega];simp
 have hsize:arr'.size=arr.size:=by
  have hus:u2.cells.size=xs.length:=hc.size;rw[<-hnew];simp[hus];omega
 have e2:(execOp (Act.eval ⟨tmps,[]⟩) o).run P w = .ok .skip (w.setRow b arr'):=by
  have hs1:(sizeOf t).run P w = .ok ti.size w:=by simp[sizeOf,typeInfo,hi,hszi]
  have hcs:u2.cells.size=ti.size:=by rw[hc.size,hsz]
  simp only[execOp,ho,hu1,hu2];rw[Sem.run_bind];have:(Instr.storeAt t (.pointer (some ⟨b,i * sz+off,none⟩)) u2).run P w = .ok () (w.setRow b arr'):=by
   show(storeVar t ⟨b,i * sz+off,none⟩ u2).run P w=_
   unfold storeVar;rw[Sem.run_bind,hs1];simp only[Result.andThen_ok];rw[bD (by simp[hcs])];exact hst
  rw[this];rfl
 rw[e2];have hset:∀ (k:Nat) e',(es.set i e1)[k]?=some e'->(k=i/\e'=e1)\/(k≠i/\es[k]?=some e'):=by
  intro k e' hk;rw[dO]at hk;split at hk
  ·rename_i hik;subst hik;simp only[Option.some.injEq]at hk;exact .inl ⟨rfl,hk.symm⟩
  rename_i hik;exact .inr ⟨fun h=>hik h.symm,hk⟩
 have h1l:e1.cells.length=sz:=by
  rw[<-iX he1,<-h0l];simp[qDI,splice];omega
 refine⟨M,μ,r.write (qH.2 ⟨_,hm⟩) hbk (kP w b _) ?_,.dead⟩;refine .row hbk (by rw[eO];exact hval) (setRow_heap w b arr _ e (0,0) hh) (by rw[hsize];exact hs) (by rw[eO];exact hlc) hcm (fun k u hu => ?_) (fun k e' he' => ?_) (fun k e' j d u he' hd hu => ?_)
 ·rw[hget k]at hu;split at hu
  ·exact hc.one _ u hu
  exact ho1 k u hu
 ·rcases hset k e' he' with⟨rfl,rfl⟩|⟨_,h⟩
  ·exact h1l
  exact hz k e' h
 rcases hset k e' he' with⟨rfl,rfl⟩|⟨hne,h⟩
 ·have hj:j<sz:=by rw[<-h1l];exact(bB.1 hd).1
  have hlen:off+xs.length<=(e0.cells.map V.p).length:=by simpa using hfit
  have hspl:(qDI e0.cells off xs)[j]?=if off<=j/\j<off+xs.length then xs[j-off]? else(e0.cells.map V.p)[j]?:=qAU _ xs off j hlen
  have hjx:j<(qDI e0.cells off xs).length:=by rw[iX he1,h1l];exact hj
  have hx:(qDI e0.cells off xs)[j]?=some (qDI e0.cells off xs)[j]:=by simp[hjx]
  have hft:=iY he1 hx hd;rw[hget]at hu;rw[hspl]at hx;split at hu
  ·rename_i hin;rw[bE ⟨by omega,by omega⟩]at hx;rw[show k * sz+j-(k * sz+off)=j-off from by omega]at hu;exact kZ (hc.get _ u _ hu hx) hft
  rename_i hin;rw[bD (by omega),bG]at hx;obtain⟨d0,hd0,hd0e⟩:=bF.1 hx;rw[<-hd0e]at hft;simp only[iS]at hft;subst hft;exact hcc k e0 j _ u he0 hd0 hu
 have hj:j<sz:=by rw[<-hz k e' h];exact(bB.1 hd).1
 rw[hget]at hu;have hfar:¬ (i * sz+off<=k * sz+j/\k * sz+j<i * sz+off+xs.length):=by
  rcases Nat.lt_or_gt_of_ne hne with hlt|hgt
  ·have:(k+1) * sz<=i * sz:=cM _ hlt;rw[dC,eI]at this;omega
  have:(i+1) * sz<=k * sz:=cM _ hgt;rw[dC,eI]at this;omega
 rw[bD hfar]at hu;exact hcc k e' j d u h hd hu
def qAW (s:List UInt8) (pos:Nat):Nat × Nat:=Utf8.decode ⟨s.toArray⟩ pos
theorem zWL (hT:TOK P T) {o:Oper} {st:St} {t:TypeId} {x:Operand} (ho:o.op = .range t x) (ht:wC T t=some .str) {p:Prop} {s:List UInt8} (hx:st.arg G x=(p,.p (.str s))) (hp:p) (id:Nat)
  (hf:st.fresh id=true):Yields P G o st (.it id) { st with H:=(id,.iter s 0)::st.H }:=by
 intro c M μ tmps w hg r;have hd:=hT.str ht;have h1:=(qF hg r hx hp).p_inv;generalize hu1:Act.eval ⟨tmps,[]⟩ x=u1 at h1;cases h1 with
 | @str b _ hs hm =>
 have e1:(execOp (Act.eval ⟨tmps,[]⟩) o).run P w = .ok (.value (.pointer (some ⟨w.heap.size,0,none⟩))) (w.alloc (.stringIter b 0)):=by
  simp[execOp,ho,hu1,Instr.range,run_underlying hd]
 rw[e1];refine⟨M,upd μ id ⟨some w.heap.size,undef,[]⟩,r.newBox hf (Grows.alloc w _) (fun b hb => ?_) (.iter (by rw[qK]) (heap_alloc_new w _) hs hm) rfl,.it (by rw[qK])⟩;cases hb;exact⟨bP _,by simp⟩
theorem zLZ {b:ByteArray} {s:List UInt8} (h:b.data.toList=s) (pos:Nat):Utf8.decode b pos=qAW s pos:=by
 subst h;unfold qAW;congr 1
theorem qGF (b:ByteArray) (pos:Nat):(Utf8.decode b pos).1<=0x10FFFF:=by
 have hb:∀ k,(b.get! (pos+k)).toNat<256:=fun k=>(b.get! (pos+k)).toNat_lt;have h0:=hb 0;have h1:=hb 1;have h2:=hb 2;have h3:=hb 3;unfold Utf8.decode;simp only[];split
 ·simp only[];omega
 split
 ·split
  ·simp only[];omega
  simp[Utf8.runeError]
 split
 ·split
  ·simp only[];omega
  simp[Utf8.runeError]
 split
 ·split
  ·rename_i hv;simp only[bI,Utf8.valid,cX,bY]at hv;simp only[];omega
  simp[Utf8.runeError]
 simp[Utf8.runeError]
theorem zQY {o:Oper} {st:St} {it:Operand} (ho:o.op = .next it true) {p:Prop} {id:Nat} (hit:st.arg G it=(p,.it id)) (hp:p) {s:List UInt8} {pos:Nat} (hb:zS id st.H=some (.iter s pos)) (more:Bool)
  (hmore:more=decide (pos<s.length)):Yields P G o st (match more with
   | true => .tuple [.p (.bool true),.p (.int .i64 pos),.p (.int .i32 (qAW s pos).1)]
   | false => .tuple [.p (.bool false)]) { st with H:=zO id (.iter s (match more with|true=>pos+(qAW s pos).2|false=>pos)) st.H }:=by
 intro c M μ tmps w hg r;have h1:=qF hg r hit hp;generalize hu1:Act.eval ⟨tmps,[]⟩ it=u1 at h1;cases h1 with
 | @it _ b hbk =>
 have hm:=zD hb;have hbx:=r.box id _ hm;cases hbx with
 | @iter _ _ b' ba h0 hh hs hl =>
 rw[hbk]at h0;cases h0;have hz:=vB hs;have hnc:∀ {c e z},w.heap[b]?≠some (.cells c e z):=by intro c e z h;rw[hh]at h;cases h
 have hlt:b<w.heap.size:=(cC.1 hh).1;cases more with
 | true =>
  have hpos:pos<ba.size:=by rw[hz];simpa using hmore.symm
  have e1:(execOp (Act.eval ⟨tmps,[]⟩) o).run P w = .ok (.value (.tuple #[.bool true,.int .i64 pos,.int .i32 (Utf8.decode ba pos).1])) { w with heap:=w.heap.setIfInBounds b (.stringIter ba (pos+(Utf8.decode ba pos).2)) }:=by
   simp only[execOp,ho,hu1,Instr.next,getObj,setObj];simp[Sem.run,hh,hpos,goInt]
  rw[e1,zLZ hs];have hd:=qGF ba pos;rw[zLZ hs]at hd;refine⟨M,μ,r.write (qH.2 ⟨_,hm⟩) hbk ⟨rfl,rfl,rfl,by simp,fun k hk=>by simp[gC (Ne.symm hk)]⟩ (.iter hbk ?_ hs hl), ?_⟩
  ·show(w.heap.setIfInBounds b _)[b]?=_
   simp[hlt]
  refine .tuple rfl fun i u x hu hx => ?_;match i,hu,hx with
  | 0,hu,hx=>simp at hu hx;subst hu;subst hx;exact .p (.bool true)
  | 1,hu,hx=>simp at hu hx;subst hu;subst hx;exact .p (lA (by simp only[kS];omega) (by simp[kT,maxLen]at *; omega))
  | 2,hu,hx=>simp at hu hx;subst hu;subst hx;exact .p (lA (by simp only[kS];omega) (by simp only[kT];omega))
  | i+3,hu,hx=>simp at hu
 | false =>
  have hpos:¬ pos<ba.size:=by rw[hz];simpa using hmore.symm
  have e1:(execOp (Act.eval ⟨tmps,[]⟩) o).run P w = .ok (.value (.tuple #[.bool false])) w:=by
   simp only[execOp,ho,hu1,Instr.next,getObj];simp[Sem.run,hh,hpos]
  rw[e1];refine⟨M,μ,r.write (qH.2 ⟨_,hm⟩) hbk ⟨rfl,rfl,rfl,rfl,fun _ _=>rfl⟩ (.iter hbk hh hs hl), ?_⟩;refine .tuple rfl fun i u x hu hx => ?_;match i,hu,hx with
  | 0,hu,hx=>simp at hu hx;subst hu;subst hx;exact .p (.bool false)
  | i+1,hu,hx=>simp at hu
theorem Rel.begin {c:Ctx} {M:qY} {μ:Mu} {st:St} {tmps:Array Value} {w:World} (r:Rel c M μ st tmps w) {d id:Nat} (hd:st.tmps[d]?=some .nilsl) (hf:st.fresh id=true) (e:TypeId) (sz:Nat) :
  ∃ μ',Rel c M μ' { st with tmps:=st.tmps.set d (.ms id),H:=(id,.row e sz [])::st.H } tmps w:=by
 have hlt:d<st.tmps.length:=(bB.1 hd).1;have hlt':d<tmps.size:=by rw[r.slots.1];exact hlt
 have hv:=r.slots.2 d tmps[d] _ (by simp[hlt']) hd;generalize hu:tmps[d]=u at hv;cases hv with
 | nilsl =>
 refine⟨upd μ id ⟨none,.slice none 0 0,[]⟩, ?_⟩;have r1:=r.adopt (l:=⟨none,.slice none 0 0,[]⟩) hf (fun b hb=>by cases hb) (bx := .row e sz []) (.rowN (by rw[qK]) (by rw[qK]));have r2:=r1.put (u:=tmps[d]) (x := .ms id) (by rw[hu];exact .ms (by rw[qK]) rfl) (some d);have e:tmps.setIfInBounds d tmps[d]=tmps:=by
  apply Array.ext_getElem?;intro k;rw[gO];split
  ·rename_i h;subst h;simp[hlt']
  rfl
 simp only[e]at r2;exact r2
theorem AW.begin {code:Code} {st:St} {d id:Nat} (e:TypeId) (sz:Nat) (hd:st.tmps[d]?=some .nilsl) (hf:st.fresh id=true)
  (k:AW P G code Q { st with tmps:=st.tmps.set d (.ms id),H:=(id,.row e sz [])::st.H }):AW P G code Q st:=by
 intro c M μ tmps w hg r;obtain⟨μ',r'⟩:=r.begin hd hf e sz;exact k c M μ' tmps w hg r'
theorem zZ.begin {ops:Array Oper} {l:List Oper} {st:St} {d id:Nat} (e:TypeId) (sz:Nat) (hd:st.tmps[d]?=some .nilsl) (hf:st.fresh id=true)
  (k:zZ P G ops Q l { st with tmps:=st.tmps.set d (.ms id),H:=(id,.row e sz [])::st.H }):zZ P G ops Q l st:=by
 intro c M μ tmps w hg r;obtain⟨μ',r'⟩:=r.begin hd hf e sz;exact k c M μ' tmps w hg r'
end
mutual
def V.frz (id:Nat) (d:PD):V->V
 | .ms i=>if i=id then .p d else .ms i
 | .agg cs => .agg (lP id d cs)
 | .when b x => .when b (V.frz id d x)
 | .func f a b => .func f (lP id d a) (lP id d b)
 | .tuple cs => .tuple (lP id d cs)
 | .ptr i o=>if i=id then .dead else .ptr i o
 | .rptr i j k o=>if i=id then .dead else .rptr i j k o
 | .tl i j k=>if i=id then .dead else .tl i j k
 | .it i=>if i=id then .dead else .it i
 | .p d => .p d
 | .dead => .dead
 | .nilsl => .nilsl
 | .cptr cs => .cptr cs
def lP (id:Nat) (d:PD):List V->List V
 | []=>[]
 | x::xs=>V.frz id d x::lP id d xs
end
theorem lH (id:Nat) (d:PD):∀ l,lP id d l=l.map (V.frz id d)
 | []=>by simp only[lP,bC]
 | x::xs=>by simp only[lP,bA,lH id d xs]
theorem RV.frz {M M':qY} {μ:Mu} {id:Nat} {d:PD} (hM:∀ b o v,M b o=some v->M' b o=some v) (hd:Rd M' (μ id).val d) {u:Value} {x:V} (r:RV M μ u x):RV M' μ u (x.frz id d):=by
 induction r with
 | p r=>simp only[V.frz];exact .p (r.mono hM)
 | dead=>simp only[V.frz];exact .dead
 | nilsl=>simp only[V.frz];exact .nilsl
 | ptr h1 => simp only [V.frz]; split; · exact .dead
             exact .ptr h1
 | rptr h1 => simp only [V.frz]; split; · exact .dead
              exact .rptr h1
 | tl h1 h2 h3 => simp only [V.frz]; split; · exact .dead
                  exact .tl h1 h2 h3
 | cptr h1 h2 =>
  simp only[V.frz];refine .cptr (fun j d hd => ?_) (fun j d u hd hu => ?_)
  ·obtain⟨u,hu,hc⟩:=h1 j d hd;exact⟨u,hM _ _ _ hu,hc⟩
  obtain⟨u',hu',_⟩:=h1 j d hd;have:=hM _ _ _ hu';rw[this]at hu;cases hu;exact(h2 j d _ hd hu').mono hM
 | ms h1 h2 =>
  simp only[V.frz];split
  ·rename_i e;subst e;rw[h1];exact .p hd
  exact .ms h1 h2
 | it h1 => simp only [V.frz]; split; · exact .dead
            exact .it h1
 | func h1 h2 _ _ ih1 ih2 =>
  simp only[V.frz,lH];refine .func (by simpa using h1) (by simpa using h2) (fun i u x hu hx => ?_) (fun i u x hu hx => ?_)
  ·rw[bG]at hx;obtain⟨y,hy,rfl⟩:=bF.1 hx;exact ih1 i u y hu hy
  rw[bG]at hx;obtain⟨y,hy,rfl⟩:=bF.1 hx;exact ih2 i u y hu hy
 | agg h1 h2 _ ih =>
  simp only[V.frz,lH];refine .agg (by simpa using h1) h2 (fun i u x hu hx => ?_);rw[bG]at hx;obtain⟨y,hy,rfl⟩:=bF.1 hx;exact ih i u y hu hy
 | tuple h1 _ ih =>
  simp only[V.frz,lH];refine .tuple (by simpa using h1) (fun i u x hu hx => ?_);rw[bG]at hx;obtain⟨y,hy,rfl⟩:=bF.1 hx;exact ih i u y hu hy
 | when _ h2 ih=>simp only[V.frz];exact .when (fun hb=>ih hb) h2
def Box.frz (id:Nat) (d:PD):Box->Box
 | .vars e cs => .vars e (lP id d cs)
 | .row e sz es => .row e sz es
 | .iter s pos => .iter s pos
 | .mp ks vs => .mp ks (lP id d vs)
 | .mpx ks vs => .mpx ks (lP id d vs)
 | .obj b v o rs => .obj b v o rs
 | .brow e bs => .brow e bs
 | .mach es en ss => .mach es en ss
 | .prow e ps => .prow e (lP id d ps)
theorem RBox.frz {M M':qY} {μ:Mu} {w:World} {id i:Nat} {d:PD} (hM:∀ b o v,M b o=some v->M' b o=some v) (hd:Rd M' (μ id).val d) {bx:Box} (r:RBox M μ w i bx):RBox M' μ w i (bx.frz id d):=by
 cases r with
 | mach h0 hv h1 h2 h3 h4 h5 hn h6=>exact .mach h0 hv h1 h2 h3 h4 h5 hn (h6.mono hM fun _ _=>rfl)
 | machN h0 hv h1=>exact .machN h0 hv h1
 | vars h0 h1 h2 h3 h4 =>
  simp only[Box.frz,lH];refine .vars h0 h1 (by simpa using h2) h3 fun i u x hu hx => ?_;rw[bG]at hx;obtain⟨y,hy,rfl⟩:=bF.1 hx;exact(h4 i u y hu hy).frz hM hd
 | row h0 hv h1 h2 h3 h4 h5 h6 h7=>exact .row h0 hv h1 h2 h3 h4 h5 h6 fun i e' j d u he hd hu=>(h7 i e' j d u he hd hu).mono hM
 | rowN h0 hv=>exact .rowN h0 hv
 | iter h0 h1 h2 h3=>exact .iter h0 h1 h2 h3
 | obj h0 hv h1=>exact .obj h0 hv h1
 | brow h0 hv h1 h2 h3 h4 h5 h6=>exact .brow h0 hv h1 h2 h3 h4 h5 h6
 | prow h0 hv h1 h2 h3 h4 h5 h6 =>
  simp only[Box.frz,lH];refine .prow h0 (by simpa using hv) h1 h2 (by simpa using h3) h4 h5 fun i u x hu hx => ?_;rw[bG]at hx;obtain⟨y,hy,rfl⟩:=bF.1 hx;exact(h6 i u y hu hy).frz hM hd
 | mpx h0 hv h1 hB hl h2 h3 =>
  simp only[Box.frz,lH];refine .mpx h0 hv h1 hB (by simpa using hl) (fun e he => ?_) h3;obtain⟨i,ba,g1,g2,g3,g4⟩:=h2 e he;refine⟨i,ba,g1,g2,g3,fun x hx => ?_⟩;rw[bG]at hx;obtain⟨y,hy,rfl⟩:=bF.1 hx;exact(g4 y hy).frz hM hd
 | mp h0 hv h1 hB h2 h3 h4 h5 =>
  simp only[Box.frz,lH];refine .mp h0 hv h1 hB h2 (by simpa using h3) h4 fun i e x he hx => ?_;rw[bG]at hx;obtain⟨y,hy,rfl⟩:=bF.1 hx;exact(h5 i e y he hy).frz hM hd
def qNV (id:Nat) (d:PD):List (Nat × Box)->List (Nat × Box)
 | []=>[]
 | (i,b)::r=>if i=id then qNV id d r else(i,b.frz id d)::qNV id d r
theorem qHS {id:Nat} {d:PD}:∀ {H:List (Nat × Box)} {i:Nat} {b:Box},(i,b)∈qNV id d H->i≠id/\∃ b',(i,b')∈H/\b=b'.frz id d
 | (j,c)::r,i,b,h=>by
  simp only[qNV]at h;split at h
  ·obtain⟨h1,b',h2,h3⟩:=qHS h;exact⟨h1,b',bM.2 (.inr h2),h3⟩
  rename_i hj;rcases bM.1 h with e|e
  ·cases e;exact⟨hj,c,by simp,rfl⟩
  obtain⟨h1,b',h2,h3⟩:=qHS e;exact⟨h1,b',bM.2 (.inr h2),h3⟩
theorem qIW (id:Nat) (d:PD):∀ H:List (Nat × Box),(qNV id d H).map (·.1)=(H.map (·.1)).filter (· ≠ id)
 | []=>rfl
 | (j,c)::r=>by
  simp only[qNV];split
  ·rename_i h;simp[h,qIW id d r]
  rename_i h;simp[h,qIW id d r]
theorem uX {id i:Nat} {d:PD} {H:List (Nat × Box)} (h:qM i (qNV id d H)=true):i≠id/\qM i H=true:=by
 obtain⟨b,hb⟩:=qH.1 h;obtain⟨h1,b',h2,_⟩:=qHS hb;exact⟨h1,qH.2 ⟨b',h2⟩⟩
def St.freeze (st:St) (id:Nat):St :=
 match zS id st.H with
 | some (.row _ sz es)=>{ st with tmps:=lP id (.sl sz es) st.tmps,pins:=st.pins.filter (· != id),H:=qNV id (.sl sz es) st.H }
 | _=>st
theorem Rel.freeze {c:Ctx} {M:qY} {μ:Mu} {st:St} {tmps:Array Value} {w:World} (r:Rel c M μ st tmps w) (id:Nat):∃ M',Rel c M' μ (st.freeze id) tmps w:=by
 unfold St.freeze;split
 ·rename_i e sz es hb;have hm:=zD hb;have hk:qM id st.H=true:=qH.2 ⟨_,hm⟩;let M2:qY:=fun b o=>if(μ id).blk=some b then w.cell? ⟨b,o,none⟩ else M b o
  have e1:∀ b o,(μ id).blk=some b->M2 b o=w.cell? ⟨b,o,none⟩:=fun b o h=>bE h;have e2:∀ b o,(μ id).blk≠some b->M2 b o=M b o:=fun b o h=>bD h;have hM:∀ b o v,M b o=some v->M2 b o=some v:=by
   intro b o v hv;by_cases h:(μ id).blk=some b
   ·rw[e1 b o h];exact r.mem b o v hv
   rw[e2 b o h];exact hv
  have hd:Rd M2 (μ id).val (.sl sz es):=qIP (r.box id _ hm) hM fun b h o v hv=>by rw[e1 b o h];exact hv
  refine⟨M2, ?_,fun b o v hv=>hM _ _ _ (r.ext b o v hv),fun b o hb => ?_,⟨by simp[lH,r.slots.1],fun i u x hu hx => ?_⟩,fun i hi=>r.pins i (eN.1 hi).1,fun i b hi => ?_, ?_,fun i j b hi hj => ?_,fun i b hi hib => ?_,r.size,r.below⟩
  ·intro b o v hv;by_cases h:(μ id).blk=some b
   ·rw[e1 b o h]at hv;exact hv
   rw[e2 b o h]at hv;exact r.mem b o v hv
  ·rw[e2 b o fun h=>hb (r.own id b hk (.inl h)).1];exact r.old b o hb
  ·simp only[lH]at hx;rw[bG]at hx;obtain⟨y,hy,rfl⟩:=bF.1 hx;exact(r.slots.2 i u y hu hy).frz hM hd
  ·obtain⟨_,b',h2,rfl⟩:=qHS hi;exact(r.box i b' h2).frz hM hd
  ·show((qNV id (.sl sz es) st.H).map (·.1)).Nodup
   rw[qIW];exact r.nodup.filter _
  ·exact r.inj i j b (uX hi).2 (uX hj).2
  obtain⟨h1,h2⟩:=uX hi;have h3:=r.own i b h2 hib;exact⟨h3.1,h3.2.1,fun o=>by rw[e2 b o fun h=>h1 (r.inj i id b h2 hk hib (.inl h))];exact h3.2.2 o⟩
 exact⟨M,r⟩
def zF (ds:List PD):List V:=ds.map .p
def vE (n:Nat) (d:PD):List PD:=List.replicate n d
@[simp] theorem wBW (ds:List PD):(zF ds).length=ds.length:=by simp[zF]
@[simp] theorem wGM (n:Nat) (d:PD):(vE n d).length=n:=by simp[vE]
@[simp] theorem wAE (ds:List PD) (n:Nat):(zF ds).take n=zF (ds.take n):=by simp[zF,List.map_take]
@[simp] theorem wAF (ds:List PD) (n:Nat):(zF ds).drop n=zF (ds.drop n):=by simp[zF,List.map_drop]
@[simp] theorem wBV:zF []=[]:=rfl
@[simp] theorem wBX (ds:List PD) (n:Nat):(zF ds)[n]?=(ds[n]?).map .p:=by simp[zF]
@[simp] theorem wBU (ds:List PD) (n:Nat) (d:PD):(zF ds).set n (.p d)=zF (ds.set n d):=by simp[zF,gZ]
@[simp] theorem wEE (l:List V):jM l l=True:=eq_true (jM.refl l)
theorem TOK.map {P:Program} {T:Tab} (h:TOK P T) {t k e:TypeId} (ht:wC T t=some (.map k e)):P.underlying t=some (.map k e):=by
 obtain⟨d,hd,hd2⟩:=h.kind ht;rw[hd,pG hd2]
theorem wDB {a b:ByteArray} (h:a.data.toList=b.data.toList):a=b:=by
 cases a with
 | mk a=>cases b with
  | mk b=>congr 1;exact Array.toList_inj.1 h
theorem zNV {P:Program} {T:Tab} (hT:TOK P T) {t:TypeId} {ti:TI} (ht:T t=some ti) {d:PD} (hz:ti.zero = .p d) (M:qY) (μ:Mu) (w:World):∃ z,(zeroValue t).run P w = .ok z w/\RV M μ z (.p d):=by
 obtain⟨i,_,hi,_,_,_,_,hzero,_⟩:=hT.get ht;cases hzz:i.zero with
 | none=>rw[hzz]at hzero;simp at hzero;rw[hz]at hzero;cases hzero
 | some z =>
  rw[hzz]at hzero;simp at hzero;exact⟨z,by simp[zeroValue,typeInfo,hi,hzz],by rw[<-hz,<-hzero];exact vG M μ z⟩
def qQ (s:List UInt8):List PD:=s.map fun b => .int .u8 b.toNat
@[simp] theorem zJN (s:List UInt8):(qQ s).length=s.length:=by simp[qQ]
theorem qCX {s:List UInt8} {i:Nat} {b:UInt8} (h:s[i]?=some b):(qQ s)[i]?=some (.int .u8 b.toNat):=by simp[qQ,h]
theorem qUB {P:Program} {T:Tab} (hT:TOK P T) {s d e:TypeId} (hs:wC T s=some (.sl e)) (hd:wC T d=some .str) (he:wC T e=some (.int .u8)) {M:qY} {w:World} {a:Option Addr} {n c:Nat} {bs:List UInt8}
  (hmem:∀ b o v,M b o=some v->w.cell? ⟨b,o,none⟩=some v) (h:Rd M (.slice a n c) (.sl 1 (qQ bs))):∃ ba:ByteArray,(convert s d (.slice a n c)).run P w = .ok (.string ba) w/\ba.data.toList=bs/\bs.length<=maxLen:=by
 cases h with
 | sl b o hn hnc hcm ha h5 h6 h7 =>
 rw[zJN]at hn;have hl:bs.length<=maxLen:=by omega
 by_cases hne:n=0
 ·subst hne;obtain rfl:bs=[]:=bS hn.symm;refine⟨ByteArray.empty, ?_,rfl,hl⟩;cases a with
  | none=>exact run_convert_bytes_nil w s e (hT.sl hs) (hT.int he) 0 c d (hT.str hd)
  | some a =>
   obtain⟨b',o',k⟩:=a;rw[run_convert_bytes_string w s d e _ 0 c (hT.sl hs) (hT.int he) (hT.str hd),run_bytesToString w _ 0 c [] (by simp[loadCells,loadCellsFrom])];rfl
 obtain rfl:=ha hne;refine⟨strOfNums (bs.map fun b=>(b.toNat:Int)),run_convert_bytes_arg w s e (hT.sl hs) (hT.int he) b o n c (bs.map fun b=>(b.toNat:Int)) (by simpa using hn.symm) (fun i hi => ?_) d (hT.str hd), ?_,hl⟩
 ·have hi':i<bs.length:=by omega
  have hg:(qQ bs)[i]?=some (.int .u8 (bs[i]).toNat):=qCX (by simp[hi']);obtain⟨u,hu,_⟩:=h6 i _ 0 hg (by omega);have h8:=h7 i _ 0 _ u hg rfl hu;cases h8;have:=hmem _ _ _ hu;simp only[eB,cH]at this;rw[this];simp[bJ,bG,hi']
 rw[strOfNums_data];simp[dT,Function.comp_def]
theorem qUL.push {es:Array MapEntry} {clock:Nat} (h:qUL es clock) (k v:Value):qUL (es.push { key:=k,val:=v,born:=clock }) (clock+1):=by
 obtain⟨h1,h2⟩:=h;refine⟨fun x hx => ?_, ?_⟩
 ·rw[Array.toList_push,bL]at hx;rcases hx with hx|hx
  ·exact Nat.lt_succ_of_lt (h1 x hx)
  rw[cG]at hx;subst hx;exact Nat.lt_succ_self _
 rw[Array.toList_push,fW,gS];refine⟨h2,by simp,fun a ha b hb => ?_⟩;simp only[bA,bC,cG]at hb;obtain⟨x,hx,rfl⟩:=cO.1 ha;have:=h1 x hx;omega
def qFE (T:Tab) (G:qT) (st:St) (op:Op) (orc:List PD):Option (Prop × V × List PD) :=
 match op with
 | .indexAddr t x i=>match wC T t,st.arg G x,st.arg G i with
  | some (.ar n el),(p,.ptr id a),(q,.p (.int _ m))=>match T el with
   | some ti=>some (p/\q/\0<=m/\m<n,.rptr id m.toNat ti.size a,orc)
   | none=>none
  | some (.ar n el),(p,.cptr cs),(q,.p (.int _ m))=>match T el,orc with
   | some ti,e::orc'=>some (p/\q/\0<=m/\m<n/\(cs.drop (m.toNat * ti.size)).take ti.size=e.cells,.cptr e.cells,orc')
   | _,_=>none
  | _,_,_=>none
 | .load t x=>match T t,st.arg G x,orc with
  | some ti,(p,.rptr id i sz o),e::orc'=>match zS id st.H,ti.k.agg with
   | some (.vars _ cells),false=>some (p/\cells[i * sz+o]?=some (.p e),.p e,orc')
   | _,_=>none
  | _,_,_=>none
 | .lookup t m k ok=>match wC T t,st.arg G m,st.arg G k,orc with
  | some (.map kt et),(p,.ms id),(q,.p (.str s)),e::orc'=>match wC T kt,T et,zS id st.H with
   | some .str,some ti,some (.mp ks vs)=>some (p/\q/\(∀ (i:Nat),ks[i]?=some s->vs[i]?=some (.p e))/\(s ∉ ks->ti.zero = .p e),if ok then .tuple [.p e,.p (.bool (decide (s∈ks)))] else .p e,orc')
   | _,_,_=>none
  | _,_,_,_=>none
 | .convert s d x=>match wC T s,wC T d,st.arg G x,orc with
  | some (.sl e),some .str,(p,.p (.sl 1 es)),.str b::orc'=>if wC T e=some (.int .u8) then some (p/\es=qQ b,.p (.str b),orc') else none
  | some (.sl e),some .str,(p,.ms id),.str b::orc'=>match zS id st.H with
   | some (.row _ 1 es)=>if wC T e=some (.int .u8) then some (p/\es=qQ b,.p (.str b),orc') else none
   | _=>none
  | _,_,_,_=>none
 | .field t x i=>match T t,st.arg G x with
  | some ti,(p,.p (.agg cs))=>match ti.k with
   | .st fs=>match fs[i]? with
    | some (off,ft)=>match T ft with
     | some tf=>match tf.k.agg with
      | true=>some (p/\off+tf.size<=cs.length,.p (.agg ((cs.drop off).take tf.size)),orc)
      | false=>match cs.drop off with
       | d::_=>some (p,.p d,orc)
       | []=>none
     | none=>none
    | none=>none
   | _=>none
  | _,_=>none
 | _=>none
section
variable {P:Program} {T:Tab} {G:qT} {c:Ctx} {M:qY} {μ:Mu} {st:St} {tmps:Array Value} {w:World}
theorem qUF (hT:TOK P T) (hg:qAD G c) (r:Rel c M μ st tmps w) {o:Oper} {orc orc':List PD} {v:Prop} {x:V} (h:qFE T G st o.op orc=some (v,x,orc')) (hv:v) :
  ∃ u,(execOp (Act.eval ⟨tmps,[]⟩) o).run P w = .ok (.value u) w/\RV M μ u x:=by
 obtain⟨dst,op,ty,pos,after,guard⟩:=o;simp only at h;unfold qFE at h;split at h
 ·rename_i t a i;split at h
  ·rename_i n el p id off q k m hk h1 h2;split at h
   ·rename_i ti hti;simp only[Option.some.injEq,Prod.mk.injEq]at h;obtain⟨rfl,rfl,rfl⟩:=h;obtain⟨hp,hq,h0,hm⟩:=hv;have hd:=hT.ar hk;obtain⟨ie,de,hi',_,_,hsz',_⟩:=hT.get hti;have e1:=qF hg r h1 hp;have e2:=(qF hg r h2 hq).p_inv;generalize hu1:Act.eval ⟨tmps,[]⟩ a=u1 at e1;generalize hu2:Act.eval ⟨tmps,[]⟩ i=u2 at e2;cases e1 with
    | @ptr _ _ b hb =>
    cases e2;have hso:(sizeOf el).run P w = .ok ti.size w:=by simp[sizeOf,typeInfo,hi',hsz']
    refine⟨.pointer (some ⟨b,m.toNat * ti.size+off,none⟩), ?_,.rptr hb⟩;simp[execOp,hu1,hu2,Instr.indexAt,asIntOf,run_underlying hd,h0,hm,hso,jX,Instr.sureAddr,fY]
   cases h
  ·rename_i n el p cs q k m hk h1 h2;split at h
   ·rename_i ti e orc2 hti;simp only[Option.some.injEq,Prod.mk.injEq]at h;obtain⟨rfl,rfl,rfl⟩:=h;obtain⟨hp,hq,h0,hm,hcs⟩:=hv;have hd:=hT.ar hk;obtain⟨ie,de,hi',_,_,hsz',_⟩:=hT.get hti;have e1:=qF hg r h1 hp;have e2:=(qF hg r h2 hq).p_inv;generalize hu1:Act.eval ⟨tmps,[]⟩ a=u1 at e1;generalize hu2:Act.eval ⟨tmps,[]⟩ i=u2 at e2;cases e1 with
    | @cptr b o _ h3 h4 =>
    cases e2;have hso:(sizeOf el).run P w = .ok ti.size w:=by simp[sizeOf,typeInfo,hi',hsz']
    have hget:∀ (j:Nat) d,e.cells[j]?=some d->cs[m.toNat * ti.size+j]?=some d:=fun j d hd'=>by
     rw[<-hcs,bW]at hd';split at hd'
     ·rw[bZ]at hd';exact hd'
     cases hd'
    refine⟨.pointer (some ⟨b,o+m.toNat * ti.size,none⟩), ?_,.cptr (fun j d hd' => ?_) (fun j d u hd' hu' => ?_)⟩
    ·simp[execOp,hu1,hu2,Instr.indexAt,asIntOf,run_underlying hd,h0,hm,hso,jX,Instr.sureAddr]
    ·rw[fM];exact h3 _ d (hget j d hd')
    rw[fM]at hu';exact h4 _ d u (hget j d hd') hu'
   cases h
  cases h
 ·rename_i t a;split at h
  ·rename_i ti p id i sz off e orc2 hti h1;split at h
   ·rename_i e0 cells hb hag;simp only[Option.some.injEq,Prod.mk.injEq]at h;obtain⟨rfl,rfl,rfl⟩:=h;obtain⟨hp,hce⟩:=hv;obtain⟨it,d,hi,hd,hk,hsz,_⟩:=hT.get hti;have e1:=qF hg r h1 hp;generalize hu1:Act.eval ⟨tmps,[]⟩ a=u1 at e1;cases e1 with
    | @rptr _ _ _ _ b hbk =>
    have hbx:=r.box id _ (zD hb);cases hbx with
    | @vars _ _ bk' arr h0 hh hs ho hc =>
    rw[hbk]at h0;cases h0;have hlt:i * sz+off<arr.size:=by rw[hs];exact(bB.1 hce).1
    have hcell:w.cell? ⟨b,i * sz+off,none⟩=arr[i * sz+off]?:=zQ hh;refine⟨_, ?_,hc (i * sz+off) arr[i * sz+off] (.p e) (by simp[hlt]) hce⟩;have:=xH hd hi b (i * sz+off) (fun _=>arr[i * sz+off]) w (fun j hj=>by
     rw[hk,hag]at hj;have:j=0:=by simpa using hj
     subst this;rw[cH,hcell];simp[hlt])
    rw[hk,hag]at this;simp[execOp,hu1,this]
   cases h
  cases h
 ·rename_i t m k ok;split at h
  ·rename_i kt et p id q s e orc2 hk h1 h2;split at h
   ·rename_i ti ks vs hkt hti hb;simp only[Option.some.injEq,Prod.mk.injEq]at h;obtain⟨rfl,rfl,rfl⟩:=h;obtain⟨hp,hq,hin,hno⟩:=hv;have hd:=hT.map hk;have hdk:=hT.str hkt;have e1:=qF hg r h1 hp;have e2:=(qF hg r h2 hq).p_inv;generalize hu1:Act.eval ⟨tmps,[]⟩ m=u1 at e1;generalize hu2:Act.eval ⟨tmps,[]⟩ k=u2 at e2;cases e1 with
    | ms hval hone =>
    cases e2 with
    | @str ba _ hba hlen =>
    have hbx:=r.box id _ (zD hb);cases hbx with
    | @mp _ _ b clock es h0 hv h3 hB h4 h5 h6 h7 =>
    rw[hv]at hval;subst hval;have hks:∀ x∈es.toList,MapKept.IsKey .string x.key:=by
     intro x hx;obtain⟨i,hi,rfl⟩:=cP.1 hx;have hi':i<es.size:=by simpa using hi
     obtain⟨ba',he,_⟩:=h6 i es[i] ks[i] (by simp[hi']) (by simp[show i<ks.length by omega]);simp only[Array.getElem_toList];rw[he];trivial
    have hik:MapKept.IsKey .string (.string ba):=trivial;rcases MapKept.findNow_spec hik es.toList 0 hks with⟨g1,g2⟩|⟨j,e',g1,g2,g3⟩
    ·have hnk:s ∉ ks:=by
      intro hm;obtain⟨i,hi,rfl⟩:=cP.1 hm;have hi':i<es.size:=by omega
      obtain⟨ba',he,hbs⟩:=h6 i es[i] ks[i] (by simp[hi']) (by simp[hi]);refine g2 es[i] (by simp) ?_;rw[he];congr 1
      exact wDB (hbs.1.trans hba.symm)
     obtain⟨z,hz,hrz⟩:=zNV hT hti (hno hnk) M μ w;refine⟨if ok then .tuple #[z,.bool false] else z,by cases ok <;> simp[execOp,hu1,hu2,Instr.lookup,run_underlying hd,MapKept.run_getObj_map h3,MapKept.run_checkKey hdk hik,MapKept.run_findKey hdk g1,hz,Result.andThen], ?_⟩;cases ok with
     | false=>exact hrz
     | true =>
      refine .tuple rfl fun i u x hu hx => ?_;match i with
      | 0=>simp at hu hx;subst hu;subst hx;exact hrz
      | 1=>simp at hu hx;subst hu;subst hx;rw[show decide (s∈ks)=false by simpa using hnk];exact .p (.bool _)
      | i+2=>simp at hu
    have hje:es[j]?=some e':=by simpa using g2
    have hj:j<es.size:=(cC.1 hje).1;have hkj:ks[j]?=some s:=by
     obtain⟨ba',he,hbs⟩:=h6 j e' ks[j] hje (by simp[show j<ks.length by omega]);rw[g3]at he;cases he;rw[cI (by omega),<-hbs.1,hba]
    have hrv:=h7 j e' _ hje (hin j hkj);refine⟨if ok then .tuple #[e'.val,.bool true] else e'.val,by cases ok <;> simp[execOp,hu1,hu2,Instr.lookup,run_underlying hd,MapKept.run_getObj_map h3,MapKept.run_checkKey hdk hik,MapKept.run_findKey hdk g1,Result.andThen], ?_⟩;cases ok with
    | false=>exact hrv
    | true =>
     refine .tuple rfl fun i u x hu hx => ?_;match i with
     | 0=>simp at hu hx;subst hu;subst hx;exact hrv
     | 1=>simp at hu hx;subst hu;subst hx;rw[show decide (s∈ks)=true by simpa using List.mem_of_getElem? hkj];exact .p (.bool _)
     | i+2=>simp at hu
   cases h
  cases h
 ·rename_i s d a;split at h
  ·rename_i e p es b orc2 hs hd h1;split at h
   ·rename_i he;simp only[Option.some.injEq,Prod.mk.injEq]at h;obtain⟨rfl,rfl,rfl⟩:=h;obtain⟨hp,rfl⟩:=hv;have e1:=(qF hg r h1 hp).p_inv;generalize hu1:Act.eval ⟨tmps,[]⟩ a=u1 at e1;have e1':=e1;cases e1' with
    | sl b0 o0 _ _ _ _ _ _ _ =>
    obtain⟨ba,hrun,hba,hlen⟩:=qUB hT hs hd he r.mem e1;exact⟨.string ba,by simp[execOp,hu1,hrun],.p (.str hba hlen)⟩
   cases h
  ·rename_i e p id b orc2 hs hd h1;split at h
   ·rename_i e' es hb;split at h
    ·rename_i he;simp only[Option.some.injEq,Prod.mk.injEq]at h;obtain⟨rfl,rfl,rfl⟩:=h;obtain⟨hp,rfl⟩:=hv;have e1:=qF hg r h1 hp;generalize hu1:Act.eval ⟨tmps,[]⟩ a=u1 at e1;cases e1 with
     | ms hval hone =>
     have hbx:=r.box id _ (zD hb);let M2:qY:=fun b o=>if(μ id).blk=some b then w.cell? ⟨b,o,none⟩ else M b o
     have hM:∀ b o v,M b o=some v->M2 b o=some v:=by
      intro b o v hv;show(if(μ id).blk=some b then w.cell? ⟨b,o,none⟩ else M b o)=some v
      split
      ·exact r.mem b o v hv
      exact hv
     have hmem:∀ b o v,M2 b o=some v->w.cell? ⟨b,o,none⟩=some v:=by
      intro b o v hv;have hv':(if(μ id).blk=some b then w.cell? ⟨b,o,none⟩ else M b o)=some v:=hv;split at hv'
      ·exact hv'
      exact r.mem b o v hv'
     have hrd:Rd M2 (μ id).val (.sl 1 (qQ b)):=qIP hbx hM fun b h o v hv=>by
      show(if(μ id).blk=some b then w.cell? ⟨b,o,none⟩ else M b o)=some v
      rw[bE h];exact hv
     rw[<-hval]at hrd;have hrd':=hrd;cases hrd' with
     | sl b0 o0 _ _ _ _ _ _ _ =>
     obtain⟨ba,hrun,hba,hlen⟩:=qUB hT hs hd he hmem hrd;exact⟨.string ba,by simp[execOp,hu1,hrun],.p (.str hba hlen)⟩
    cases h
   cases h
  cases h
 ·rename_i t a i;split at h
  ·rename_i ti p cs hti h1;split at h
   ·rename_i fs hk;split at h
    ·rename_i off ft hf;split at h
     ·rename_i tf htf;obtain⟨i0,d0,_,hd0,hd2,_⟩:=hT.get hti;rw[hk]at hd2;obtain⟨l,rfl,hl⟩:=mM hd2;subst hl;obtain⟨ie,de,hie,hde,hdek,hszi,_⟩:=hT.get htf;rw[bG]at hf;obtain⟨fd,hfd,hfe⟩:=bF.1 hf;cases hfe;rw[eJ]at hfd;have key:∀ (hp:p) (v:Value),(∀ (arr:Array Value),Act.eval ⟨tmps,[]⟩ a = .agg arr->(part fd.type arr fd.offset).run P w = .ok v w) ->
        (execOp (Act.eval ⟨tmps,[]⟩) ⟨dst,.field t a i,ty,pos,after,guard⟩).run P w = .ok (.value v) w:=by
       intro hp v hpa;have e1:=(qF hg r h1 hp).p_inv;generalize hu:Act.eval ⟨tmps,[]⟩ a=u at e1 hpa;cases e1 with
       | @agg arr _ h2 h3 h4=>simp[execOp,hu,Instr.field,run_underlying hd0,hfd,asAgg,hpa arr rfl]
      split at h
      ·rename_i hag;simp only[Option.some.injEq,Prod.mk.injEq]at h;obtain⟨rfl,rfl,rfl⟩:=h;obtain⟨hp,hle⟩:=hv;have e1:=(qF hg r h1 hp).p_inv;generalize hu:Act.eval ⟨tmps,[]⟩ a=u at e1 key;cases e1 with
       | @agg arr _ h2 h3 h4 =>
       have hso:(sizeOf fd.type).run P w = .ok tf.size w:=by simp[sizeOf,typeInfo,hie,hszi]
       refine⟨.agg (arr.extract fd.offset (fd.offset+tf.size)),key hp _ fun arr' e => ?_, ?_⟩
       ·cases e;unfold part;rw[Sem.run_bind,qIO hde,Result.andThen_ok,hdek,hag];simp[hso]
       refine .p (.agg (by simp;omega) (fun k u' hu' => ?_) fun k u' d' hu' hd' => ?_)
       ·rw[Array.getElem?_extract]at hu';split at hu'
        ·exact h3 _ _ hu'
        cases hu'
       rw[Array.getElem?_extract]at hu';rw[bW]at hd';split at hu'
       ·split at hd'
        ·rw[bZ]at hd';exact h4 _ _ _ hu' hd'
        cases hd'
       cases hu'
      rename_i hag;split at h
      ·rename_i d rest hdr;simp only[Option.some.injEq,Prod.mk.injEq]at h;obtain⟨rfl,rfl,rfl⟩:=h;have hd:cs[fd.offset]?=some d:=by
        have:=congrArg (fun l=>l[0]?) hdr;simpa[bZ]using this
       have e1:=(qF hg r h1 hv).p_inv;generalize hu:Act.eval ⟨tmps,[]⟩ a=u at e1 key;cases e1 with
       | @agg arr _ h2 h3 h4 =>
       have hlt:fd.offset<cs.length:=(bB.1 hd).1;obtain⟨v,hv'⟩:∃ v,arr[fd.offset]?=some v:=⟨arr[fd.offset]'(by omega),by simp⟩;refine⟨v,key hv _ fun arr' e => ?_,.p (h4 _ _ _ hv' hd)⟩;cases e;unfold part;rw[Sem.run_bind,qIO hde,Result.andThen_ok,hdek,hag];simp[hv']
      cases h
     cases h
    cases h
   cases h
  cases h
 cases h
theorem qRS (cells:List V) (off:Nat) (y:V) (h:off<cells.length):splice cells off [y]=cells.set off y:=by
 simp only[splice,dA];rw[List.set_eq_take_append_cons_drop,bE h];simp
theorem zGN (hT:TOK P T) {o:Oper} {st:St} {t:TypeId} {a x:Operand} (ho:o.op = .store t a x) {ti:TI} (ht:T t=some ti) {p q:Prop} {id i sz off:Nat} {v:V}
  (ha:st.arg G a=(p,.rptr id i sz off)) (hp:p) (hx:st.arg G x=(q,v)) (hq:q) {e:TypeId} {cells:List V} (hb:zS id st.H=some (.vars e cells)) {xs:List V} (hxs:v.cells=some xs)
  (hsz:xs.length=ti.size) (hfit:i * sz+off+xs.length<=cells.length):Yields P G o st .dead { st with H:=zO id (.vars e (splice cells (i * sz+off) xs)) st.H }:=by
 intro c M μ tmps w hg r;have h1:=qF hg r ha hp;refine qQT hT ho ht (off:=i * sz+off) (id:=id) hx hq hb hxs hsz hfit c M μ tmps w hg r ?_;generalize Act.eval ⟨tmps,[]⟩ a=u1 at h1;cases h1 with
 | rptr hb=>exact .ptr hb
def zAW (T:Tab) (G:qT) (st:St) (op:Op) (orc:List PD):Option (Prop × V × St × List PD) :=
 match op with
 | .store t a x=>match T t,st.arg G a,st.arg G x with
  | some ti,(p,.rptr id i sz off),(q,v)=>match zS id st.H,v.cells with
   | some (.vars e cells),some [y]=>some (p/\q/\ti.size=1/\i * sz+off<cells.length,.dead,{ st with H:=zO id (.vars e (cells.set (i * sz+off) y)) st.H },orc)
   | _,_=>none
  | _,_,_=>none
 | .mapUpdate t m k x=>match wC T t,st.arg G m,st.arg G k,st.arg G x with
  | some (.map kt _),(p,.ms id),(q,.p (.str s)),(q',v)=>match wC T kt,zS id st.H with
   | some .str,some (.mp ks vs)=>some (p/\q/\q'/\s ∉ ks,.dead,{ st with H:=zO id (.mp (ks++[s]) (vs++[v])) st.H },orc)
   | _,_=>none
  | _,_,_,_=>none
 | _=>none
theorem zAV (hT:TOK P T) {st st':St} {o:Oper} {orc orc':List PD} {vc:Prop} {x:V} (h:zAW T G st o.op orc=some (vc,x,st',orc')) (hv:vc):Yields P G o st x st':=by
 unfold zAW at h;split at h
 ·rename_i t a y ho;split at h
  ·rename_i ti p id i sz off q v hti ha hy;split at h
   ·rename_i e cells z hb hz;simp only[Option.some.injEq,Prod.mk.injEq]at h;obtain⟨rfl,rfl,rfl,rfl⟩:=h;obtain⟨hp,hq,h1,h2⟩:=hv;have:=zGN hT ho hti ha hp hy hq hb hz (by simp[h1]) (by simp only[dA];omega);rw[qRS _ _ _ h2]at this;exact this
   cases h
  cases h
 ·rename_i t m k y ho;split at h
  ·rename_i kt et p id q s q' v hk h1 h2 h3;split at h
   ·rename_i ks vs hkt hb;simp only[Option.some.injEq,Prod.mk.injEq]at h;obtain⟨rfl,rfl,rfl,rfl⟩:=h;obtain⟨hp,hq,hq',hnk⟩:=hv;intro c M μ tmps w hg r;have hd:=hT.map hk;have hdk:=hT.str hkt;have e1:=qF hg r h1 hp;have e2:=(qF hg r h2 hq).p_inv;have e3:=qF hg r h3 hq';generalize hu1:Act.eval ⟨tmps,[]⟩ m=u1 at e1;generalize hu2:Act.eval ⟨tmps,[]⟩ k=u2 at e2;generalize hu3:Act.eval ⟨tmps,[]⟩ y=u3 at e3;cases e1 with
    | ms hval hone =>
    cases e2 with
    | @str ba _ hba hlen =>
    have hm:=zD hb;have hbx:=r.box id _ hm;cases hbx with
    | @mp _ _ b clock es h0 hv h3 hB h4 h5 h6 h7 =>
    rw[hv]at hval;subst hval;have hks:∀ x∈es.toList,MapKept.IsKey .string x.key:=by
     intro x hx;obtain⟨i,hi,rfl⟩:=cP.1 hx;have hi':i<es.size:=by simpa using hi
     obtain⟨ba',he,_⟩:=h6 i es[i] ks[i] (by simp[hi']) (by simp[show i<ks.length by omega]);simp only[Array.getElem_toList];rw[he];trivial
    have hik:MapKept.IsKey .string (.string ba):=trivial;have hbl:b<w.heap.size:=(r.own id b (qH.2 ⟨_,hm⟩) (.inl h0)).2.1;rcases MapKept.findNow_spec hik es.toList 0 hks with⟨g1,g2⟩|⟨j,e',g1,g2,g3⟩
    ·have e:(execOp (Act.eval ⟨tmps,[]⟩) o).run P w = .ok .skip { w with heap:=w.heap.setIfInBounds b (.map (es.push { key := .string ba,val:=u3,born:=clock }) (clock+1)) }:=by
      simp[execOp,ho,hu1,hu2,hu3,Instr.mapUpdate,run_underlying hd,MapKept.run_getObj_map h3,MapKept.run_checkKey hdk hik,MapKept.run_findKey hdk g1,MapKept.run_setObj_map _ h3,Result.andThen]
     rw[e];refine⟨M,μ,r.write (qH.2 ⟨_,hm⟩) h0 ⟨rfl,rfl,rfl,by simp,fun k hk=>by simp[gC (Ne.symm hk)]⟩ (.mp (clock:=clock+1) (es:=es.push { key := .string ba,val:=u3,born:=clock }) h0 hv ?_ (hB.push _ _) (by simp[h4]) (by simp[h5]) ?_ ?_),.dead⟩
     ·simp[gO,hbl]
     ·intro i e k he hk';rw[Array.getElem?_push]at he;split at he
      ·rename_i hi;cases he;rw[cU (by omega),hi,h4]at hk';simp at hk';subst hk';exact⟨ba,rfl,hba,hlen⟩
      have hi:i<es.size:=(cC.1 he).1;rw[cW (by omega)]at hk';exact h6 i e k he hk'
     intro i e x he hx;rw[Array.getElem?_push]at he;split at he
     ·rename_i hi;cases he;rw[cU (by omega),hi,h5]at hx;simp at hx;subst hx;exact e3
     have hi:i<es.size:=(cC.1 he).1;rw[cW (by omega)]at hx;exact h7 i e x he hx
    exfalso;have hje:es[j]?=some e':=by simpa using g2
    have hj:j<es.size:=(cC.1 hje).1;obtain⟨ba',he,hbs⟩:=h6 j e' ks[j] hje (by simp[show j<ks.length by omega]);rw[g3]at he;cases he;exact hnk (by rw[<-hba,hbs.1];exact dV _)
   cases h
  cases h
 cases h
theorem zWP (hT:TOK P T) {o:Oper} {st:St} {s d e:TypeId} {x:Operand} (ho:o.op = .convert s d x) {p:Prop} {bs:List UInt8} (ha:st.arg G x=(p,.p (.str bs))) (hp:p) (hs:wC T s=some .str) (hd:wC T d=some (.sl e)) (he:wC T e=some (.int .u8)) :
  Yields P G o st (.p (.sl 1 (qQ bs))) st:=by
 intro c M μ tmps w hg r;have e1:=(qF hg r ha hp).p_inv;generalize hu1:Act.eval ⟨tmps,[]⟩ x=u1 at e1;cases e1 with
 | @str ba _ hba hlen =>
 have hsz:ba.size=bs.length:=vB hba;have hrun:(execOp (Act.eval ⟨tmps,[]⟩) o).run P w = .ok (.value (.slice (some ⟨w.heap.size,0,none⟩) ba.size (grownCap w ba.size 0 e))) (Lib.bytesWorld w e ba):=by
  simp[execOp,ho,hu1,Lib.run_convert_string_bytes w s d e ba (hT.str hs) (hT.sl hd) (hT.int he)]
 rw[hrun];let M2:qY:=fun b o=>if b=w.heap.size then(Lib.bytesWorld w e ba).cell? ⟨b,o,none⟩ else M b o
 have hlt:∀ b o v,M b o=some v->b<w.heap.size:=fun b o v hv=>kE (r.mem b o v hv);have hM:∀ b o v,M b o=some v->M2 b o=some v:=fun b o v hv=>by
  have:=hlt b o v hv;show(if b=w.heap.size then _ else M b o)=some v
  rw[bD (by omega)];exact hv
 have hgrow:Grows w (Lib.bytesWorld w e ba):=⟨rfl,rfl,rfl,by rw[Lib.bytesWorld_size];omega,fun k hk=>Lib.bytesWorld_at_old w e ba k hk⟩;refine⟨M2,μ,r.grows hgrow hM (fun b o v hv => ?_) (fun b o hb => ?_),.p ?_⟩
 ·have hv':(if b=w.heap.size then(Lib.bytesWorld w e ba).cell? ⟨b,o,none⟩ else M b o)=some v:=hv;split at hv'
  ·exact hv'
  have h2:=r.mem b o v hv';rw[<-h2];exact Lib.bytesWorld_old w e ba ⟨b,o,none⟩ (hlt b o v hv')
 ·show(if b=w.heap.size then _ else M b o)=M b o
  rw[bD (by omega)]
 have hcell:∀ i,i<bs.length->M2 w.heap.size i=some (.int .u8 (bs.getD i 0).toNat):=fun i hi=>by
  show(if w.heap.size=w.heap.size then _ else M w.heap.size i)=_
  rw[bE rfl,Lib.bytesWorld_cell w e ba i (by omega),hba]
 refine .sl w.heap.size 0 (by simp[hsz]) (grownCap_ge _ _ _ _) (grownCap_le_maxLen _ _ _ _ (by omega)) (fun _=>rfl) (fun i e' he' => ?_) (fun i e' j he' hj => ?_) (fun i e' j d u he' hd' hu => ?_)
 ·simp[qQ]at he';obtain⟨b,_,rfl⟩:=he';rfl
 ·have hi:i<bs.length:=by have:=(bB.1 he').1;simpa using this
  have:j=0:=by omega
  subst this;exact⟨_,by simpa using hcell i hi,rfl⟩
 have hi:i<bs.length:=by have:=(bB.1 he').1;simpa using this
 simp[qQ,hi]at he';subst he';cases j with
 | succ j=>simp[PD.cells]at hd'
 | zero =>
  simp[PD.cells]at hd';subst hd';simp at hu;rw[hcell i hi]at hu;cases hu;rw[show bs.getD i 0=bs[i] by simp[bJ,hi]];exact .int (by rw[xC];simp[kS]) (by rw[jI];have:=bs[i].toNat_lt;simp only[kT];omega)
attribute [simp] qFE zAW
end
def qFY (st:St) (dst:Option Nat):Nat :=
 match dst with
 | some d=>st.base+d
 | none=>0
def qII:List Prop->Prop
 | []=>True
 | p::ps=>p/\qII ps
theorem qAO:∀ {l:List Prop},qII l->∀ p∈l,p
 | [],_,p,h=>by cases h
 | q::l,h,p,hp=>by
  rcases bM.1 hp with e|e
  ·rw[e];exact h.1
  exact qAO h.2 p e
def wDH (M':qY) (w w':World) (v:Value) (e:TypeId) (sz:Nat) (es:List PD):Prop :=
 ∃ l:Loc,l.val=v/\v.oneCell'=true/\RBox M' (fun _=>l) w' 0 (.row e sz es)/\∀ b,l.blk=some b->w.heap.size<=b/\b<w'.heap.size/\∀ o,M' b o=none
def AR (P:Program) (G:qT) (f:FuncId) (args:List PD) (e:TypeId) (sz:Nat) (es:List PD):Prop :=
 qDC P f/\∀ (M:qY) (w:World) (vs:Array Value),GOK G M w->(∀ b o v,M b o=some v->w.cell? ⟨b,o,none⟩=some v)->vs.size=args.length->(∀ (i:Nat) u d,vs[i]?=some u->args[i]?=some d->Rd M u d) ->
  Calls P f vs w fun e' w'=>∃ v M',e' = .returned v/\(∀ b o v,M' b o=some v->w'.cell? ⟨b,o,none⟩=some v)/\(∀ b o v,M b o=some v->M' b o=some v)/\(∀ b o,b<w.heap.size->M' b o=M b o)/\RowKit.Below w.heap.size w w'/\wDH M' w w' v e sz es
def yI (μ:Mu) (H:List (Nat × Box)) (b:Nat):Prop:=∃ id,qM id H=true/\(μ id).has b
def AX (P:Program) (G:qT) (f:FuncId) (xs:List V) (H:List (Nat × Box)) (r:V) (ps:List Nat) (H':List (Nat × Box)):Prop :=
 qDC P f/\∀ (M:qY) (μ:Mu) (w:World) (vs:Array Value),GOK G M w->Rel ⟨w.heap.size,w,M,μ,yI μ H⟩ M μ ⟨xs,H.map (·.1),H,0⟩ vs w ->
  Calls P f vs w fun e w'=>∃ v M' μ',e = .returned v/\Rel ⟨w.heap.size,w,M,μ,yI μ H⟩ M' μ' ⟨[r],ps,H',0⟩ #[v] w'
structure Know where
 fn:FuncId->List PD->PD->Prop
 row:FuncId->List PD->TypeId->Nat->List PD->Prop
 bx:FuncId->List V->List (Nat × Box)->V->List Nat->List (Nat × Box)->Prop
abbrev kn (P:Program) (G:qT):Know:=⟨AFn P G,AR P G,AX P G⟩
def zTZ (T:Tab):Nat->TypeId->List TypeId
 | 0,t=>[t]
 | f+1,t=>match T t with
  | some ti=>match ti.k with
   | .st fs=>fs.flatMap fun p=>zTZ T f p.2
   | _=>[t]
  | none=>[t]
def zCB (T:Tab) (t:TypeId):V->Option PD
 | .p d=>some d
 | .nilsl=>match wC T t with
  | some (.sl e)=>match T e with
   | some te=>some (.sl te.size [])
   | none=>none
  | _=>none
 | .cptr cs=>some (.ref cs)
 | .func (.func f) [] caps=>match qCW caps with
  | some ds=>some (.clo f ds)
  | none=>none
 | _=>none
def qOT (T:Tab):List TypeId->List V->Option (List PD)
 | t::ts,v::vs=>match zCB T t v,qOT T ts vs with
  | some d,some ds=>some (d::ds)
  | _,_=>none
 | [],[]=>some []
 | _,_=>none
def oL (T:Tab) (t:TypeId):V->Option PD
 | .agg cs=>match qOT T (zTZ T 5 t) cs with
  | some ds=>some (.agg ds)
  | none=>none
 | v=>zCB T t v
def qLC (T:Tab):List TypeId->List V->Option (List PD)
 | t::ts,v::vs=>match oL T t v,qLC T ts vs with
  | some d,some ds=>some (d::ds)
  | _,_=>none
 | [],[]=>some []
 | _,_=>none
theorem qRM {T:Tab} {t:TypeId} {v:V} {d:PD} (h:zCB T t v=some d):iS [] v d:=by
 unfold zCB at h;split at h
 ·cases h;simp only[iS]
 ·split at h
  ·split at h
   ·cases h;simp only[iS]
   cases h
  cases h
 ·cases h;simp only[iS]
 ·split at h
  ·rename_i ds hds;cases h;simp only[iS];exact⟨trivial,trivial,qAL hds⟩
  cases h
 cases h
theorem qRL {T:Tab}:∀ {ts:List TypeId} {vs:List V} {ds:List PD},qOT T ts vs=some ds->iP [] vs ds
 | t::ts,v::vs,ds,h=>by
  simp only[qOT]at h;split at h
  ·rename_i d ds' h1 h2;cases h;simp only[iP];exact⟨qRM h1,qRL h2⟩
  cases h
 | [],[],ds,h=>by simp only[qOT,Option.some.injEq]at h;subst h;simp only[iP]
 | [],_::_,ds,h=>by simp[qOT]at h
 | _::_,[],ds,h=>by simp[qOT]at h
theorem zNG {T:Tab} {t:TypeId} {v:V} {d:PD} (h:oL T t v=some d):iS [] v d:=by
 unfold oL at h;split at h
 ·split at h
  ·rename_i ds hd;cases h;simp only[iS];exact qRL hd
  cases h
 exact qRM h
theorem qJV {T:Tab}:∀ {ts:List TypeId} {vs:List V} {ds:List PD},qLC T ts vs=some ds->iP [] vs ds
 | t::ts,v::vs,ds,h=>by
  simp only[qLC]at h;split at h
  ·rename_i d ds' h1 h2;cases h;simp only[iP];exact⟨zNG h1,qJV h2⟩
  cases h
 | [],[],ds,h=>by simp only[qLC,Option.some.injEq]at h;subst h;simp only[iP]
 | [],_::_,ds,h=>by simp[qLC]at h
 | _::_,[],ds,h=>by simp[qLC]at h
attribute [simp] zTZ zCB qOT oL qLC qCW qUA
def qOJ (C:Know) (T:Tab) (G:qT) (st:St) (op:Op) (orc:List PD):Option (Prop × V × List PD) :=
 match op with
 | .call { callee := .value x,args,argTypes }=>match st.arg G x with
  | (p,cal)=>match qUA cal,orc with
   | some (f,ds),.tup as::r::orc'=>some (p/\qII (args.toList.map fun y=>(st.arg G y).1)/\iP [] (args.toList.map fun y=>(st.arg G y).2) as/\C.fn f (as++ds) r,.p r,orc')
   | some (f,ds),.nilp::r::orc'=>match qLC T argTypes.toList (args.toList.map fun y=>(st.arg G y).2)with
    | some as=>some (p/\qII (args.toList.map fun y=>(st.arg G y).1)/\C.fn f (as++ds) r,.p r,orc')
    | none=>none
   | _,_=>none
 | _=>none
theorem zFU {C:Know} {T:Tab} {G:qT} {st:St} {op:Op} {orc orc':List PD} {vc:Prop} {x:V} (h:qOJ C T G st op orc=some (vc,x,orc')) (hv:vc) :
  ∃ y args tys p cal f as ds r,op = .call { callee := .value y,args:=args,argTypes:=tys }/\st.arg G y=(p,cal)/\qUA cal=some (f,ds)/\p/\qII (args.toList.map fun y=>(st.arg G y).1)/\iP [] (args.toList.map fun y=>(st.arg G y).2) as/\C.fn f (as++ds) r/\x = .p r:=by
 unfold qOJ at h;split at h
 ·rename_i y args tys;split at h;rename_i p cal hf;split at h
  ·rename_i f ds as r orc2 hcal;simp only[Option.some.injEq,Prod.mk.injEq]at h;obtain⟨rfl,rfl,rfl⟩:=h;exact⟨_,_,_,p,cal,f,as,ds,r,rfl,hf,hcal,hv.1,hv.2.1,hv.2.2.1,hv.2.2.2,rfl⟩
  ·rename_i f ds r orc2 hcal;split at h
   ·rename_i as has;simp only[Option.some.injEq,Prod.mk.injEq]at h;obtain⟨rfl,rfl,rfl⟩:=h;exact⟨_,_,_,p,cal,f,as,ds,r,rfl,hf,hcal,hv.1,hv.2.1,qJV has,hv.2.2,rfl⟩
   cases h
  cases h
 cases h
theorem qHA {α β γ:Type} (l:List γ) (f:γ->α) (g:γ->β):l.map (fun y=>(f y,g y))=(l.map f).zip (l.map g):=by
 induction l with
 | nil=>rfl
 | cons a l ih=>simp[ih]
theorem qMP {P:Program} {T:Tab} {G:qT} {st:St} {o:Oper} {orc orc':List PD} {vc:Prop} {x:V} (h:qOJ (kn P G) T G st o.op orc=some (vc,x,orc')) (hv:vc):Yields P G o st x st:=by
 obtain⟨y,args,tys,p,cal,f,as,ds,r,ho,hf,hcal,hp,hall,hfit,hc,rfl⟩:=zFU h hv;exact zWO ho hf hp hcal hc (q:=args.toList.map fun y=>(st.arg G y).1) (ys:=args.toList.map fun y=>(st.arg G y).2) (qHA args.toList _ _) (by simp) (fun p hp=>qAO hall p hp) hfit
def eff (T:Tab) (G:qT) (st:St) (o:Oper) (orc:List PD):Option (Prop × V × St × List PD) :=
 let id:=qFY st o.dst
 match o.op with
 | .alloc e=>match T e with
  | some ti=>match ti.zero.cells with
   | some zs=>some (st.fresh id=true/\iO id zs=true,.ptr id 0,{ st with H:=(id,.vars e zs)::st.H },orc)
   | none=>none
  | none=>none
 | .box e x=>match st.arg G x with
  | (p,v)=>match v.cells with
   | some zs=>some (p/\st.fresh id=true/\iO id zs=true,.ptr id 0,{ st with H:=(id,.vars e zs)::st.H },orc)
   | none=>none
 | .store t a x=>match T t,st.arg G a,st.arg G x with
  | some ti,(p,.ptr bid off),(q,v)=>match zS bid st.H,v.cells with
   | some (.vars e cells),some xs=>some (p/\q/\xs.length=ti.size/\off+xs.length<=cells.length,.dead,{ st with H:=zO bid (.vars e (splice cells off xs)) st.H },orc)
   | _,_=>none
  | some ti,(p,.rptr bid i sz off),(q,v)=>match zS bid st.H,v.cells,orc with
   | some (.row e sz' es), some xs, e0 :: e1 :: orc' => some (p ∧ q ∧ sz' = sz ∧ xs.length = ti.size ∧ es[i]? = some e0 ∧ off + xs.length ≤ e0.cells.length ∧ iP [] (qDI e0.cells off xs) e1.cells, .dead,
     { st with H:=zO bid (.row e sz' (es.set i e1)) st.H },orc')
   | _,_,_=>none
  | _,_,_=>none
 | .buildSlice t n parts=>match wC T t with
  | some (.sl el)=>match T el with
   | some ti=>match ti.zero.cells,qAF st G ti.size 0 parts.toList orc with
    | some zs,some (q,es,orc')=>some (parts.toList.length=n/\zs.length=ti.size/\q/\n * ti.size<=16777216/\n<=16777216/\st.fresh id=true,.ms id,{ st with H:=(id,.row el ti.size es)::st.H },orc')
    | _,_=>none
   | none=>none
  | _=>none
 | .makeSlice t l c=>match wC T t,st.arg G l,st.arg G c,orc with
  | some (.sl el),(p,.p (.int _ n)),(q,.p (.int _ m)),e0::orc'=>match T el with
   | some ti=>match ti.zero.cells with
    | some zs => some (p ∧ q ∧ n = m ∧ zs.length = ti.size ∧ iP [] zs e0.cells ∧ 0 ≤ n ∧ (ti.bytes : Int) * n ≤ 140737488355328 ∧ 0 < ti.bytes ∧ st.fresh id = true, .ms id,
      { st with H:=(id,.row el ti.size (List.replicate n.toNat e0))::st.H },orc')
    | none=>none
   | none=>none
  | _,_,_,_=>none
 | .call { callee := .builtin b,args,argTypes }=>match b,args.toList,argTypes.toList with
  | .append,[s,x],[t,tx]=>match wC T t,st.arg G s,st.arg G x with
   | some (.sl el),(p,v),(q,y)=>match T el with
    | some ti=>match ti.zero.cells,zCJ st (wC T tx) y with
     | some zs,some (sz,fs)=>match v with
      | .nilsl=>some (p/\q/\zs.length=ti.size/\0<ti.bytes/\ti.size=sz/\(fs.length) * ti.bytes<=140737488355328/\st.fresh id=true,.ms id,{ st with H:=(id,.row el sz fs)::st.H },orc)
      | .ms id0=>match zS id0 st.H with
       | some (.row e' sz' es) => some (p ∧ q ∧ zs.length = ti.size ∧ 0 < ti.bytes ∧ ti.size = sz ∧ e' = el ∧ sz' = sz ∧ (es.length + fs.length) * ti.bytes ≤ 140737488355328, .ms id0,
         { st.kill id0 with H:=(id0,.row el sz (es++fs))::(st.kill id0).H },orc)
       | _=>none
      | _=>none
     | _,_=>none
    | none=>none
   | _,_,_=>none
  | _,_,_=>none
 | .range t x=>match wC T t,st.arg G x with
  | some .str,(p,.p (.str s))=>some (p/\st.fresh id=true,.it id,{ st with H:=(id,.iter s 0)::st.H },orc)
  | _,_=>none
 | .next it true=>match st.arg G it,orc with
  | (p,.it bid),.bool more::orc'=>match zS bid st.H with
   | some (.iter s pos)=>match more with
    | true=>some (p/\pos<s.length,.tuple [.p (.bool true),.p (.int .i64 pos),.p (.int .i32 (qAW s pos).1)],{ st with H:=zO bid (.iter s (pos+(qAW s pos).2)) st.H },orc')
    | false=>some (p/\¬ pos<s.length,.tuple [.p (.bool false)],{ st with H:=zO bid (.iter s pos) st.H },orc')
   | _=>none
  | _,_=>none
 | .convert s d x=>match wC T s,wC T d,st.arg G x with
  | some .str,some (.sl e),(p,.p (.str b))=>if wC T e=some (.int .u8) then some (p,.p (.sl 1 (qQ b)),st,orc) else none
  | _,_,_=>none
 | .makeMap _ none=>some (st.fresh id=true,.ms id,{ st with H:=(id,.mp [] [])::st.H },orc)
 | _=>none
theorem zPO {P:Program} {T:Tab} {G:qT} (hT:TOK P T) {st st':St} {o:Oper} {orc orc':List PD} {vc:Prop} {x:V} (h:eff T G st o orc=some (vc,x,st',orc')) (hv:vc):Yields P G o st x st':=by
 unfold eff at h;simp only at h;split at h
 ·rename_i e ho;split at h
  ·rename_i ti hti;split at h
   ·rename_i zs hz;simp only[Option.some.injEq,Prod.mk.injEq]at h;obtain⟨rfl,rfl,rfl,rfl⟩:=h;exact zWQ hT ho hti hz _ hv.1 hv.2
   cases h
  cases h
 ·rename_i e y ho;have hy:st.arg G y=((st.arg G y).1,(st.arg G y).2):=rfl;split at h
  ·rename_i zs hz;simp only[Option.some.injEq,Prod.mk.injEq]at h;obtain⟨rfl,rfl,rfl,rfl⟩:=h;exact wEG hT ho hy hv.1 hz _ hv.2.1 hv.2.2
  cases h
 ·rename_i t a y ho;split at h
  ·rename_i ti p bid off q v hti ha hy;split at h
   ·rename_i e cells xs hb hxs;simp only[Option.some.injEq,Prod.mk.injEq]at h;obtain⟨rfl,rfl,rfl,rfl⟩:=h;exact zWK hT ho hti ha hv.1 hy hv.2.1 hb hxs hv.2.2.1 hv.2.2.2
   cases h
  ·rename_i ti p bid i sz off q v hti ha hy;split at h
   ·rename_i e sz' es xs e0 e1 orc2 hb hxs;simp only[Option.some.injEq,Prod.mk.injEq]at h;obtain⟨rfl,rfl,rfl,rfl⟩:=h;obtain⟨hp,hq,rfl,h1,h2,h3,h4⟩:=hv;exact zGM hT ho hti ha hp hy hq hb hxs h1 h2 h3 h4
   cases h
  cases h
 ·rename_i t n parts ho;split at h
  ·rename_i el ht;split at h
   ·rename_i ti hti;split at h
    ·rename_i zs q es orc2 hz hpt;simp only[Option.some.injEq,Prod.mk.injEq]at h;obtain⟨rfl,rfl,rfl,rfl⟩:=h;obtain⟨h1,h2,h3,h4,h5,h6⟩:=hv;exact qKU hT ho h1 ht hti hz h2 hpt h3 h4 h5 _ h6
    cases h
   cases h
  cases h
 ·rename_i t l cc ho;split at h
  ·rename_i el p _ n q _ m e0 orc2 ht hl hc;split at h
   ·rename_i ti hti;split at h
    ·rename_i zs hz;simp only[Option.some.injEq,Prod.mk.injEq]at h;obtain⟨rfl,rfl,rfl,rfl⟩:=h;obtain⟨hp,hq,rfl,h1,h2,h3,h4,h5,h6⟩:=hv;exact zBK hT ho hl hp hc hq ht hti hz h1 h2 h3 h4 h5 _ h6
    cases h
   cases h
  cases h
 ·rename_i b args tys ho;split at h
  ·rename_i s y t tx hargs htys;split at h
   ·rename_i el p v q yv ht hs hy;split at h
    ·rename_i ti hti;split at h
     ·rename_i zs sz fs hz hsrc;split at h
      ·simp only[Option.some.injEq,Prod.mk.injEq]at h;obtain⟨rfl,rfl,rfl,rfl⟩:=h;obtain⟨hp,hq,h1,h2,h3,h4,h5⟩:=hv;have:=zBO (es:=[]) (st1:=st) hT ho hargs htys hs hp hy hq ht hti hz h1 h2 hsrc h3 (.inl ⟨rfl,rfl,rfl⟩) (by simpa using h4) _ h5;simpa using this
      ·rename_i id0;split at h
       ·rename_i e' sz' es hb;simp only[Option.some.injEq,Prod.mk.injEq]at h;obtain⟨rfl,rfl,rfl,rfl⟩:=h;obtain⟨hp,hq,h1,h2,h3,rfl,rfl,h4⟩:=hv;exact zBO hT ho hargs htys hs hp hy hq ht hti hz h1 h2 hsrc h3 (.inr ⟨id0,rfl,hb,rfl⟩) h4 _ (qCV st id0)
       cases h
      cases h
     cases h
    cases h
   cases h
  cases h
 ·rename_i t y ho;split at h
  ·rename_i p s ht hy;simp only[Option.some.injEq,Prod.mk.injEq]at h;obtain⟨rfl,rfl,rfl,rfl⟩:=h;exact zWL hT ho ht hy hv.1 _ hv.2
  cases h
 ·rename_i it ho;split at h
  ·rename_i p bid more orc2 hit;split at h
   ·rename_i s pos hb;split at h
    ·simp only[Option.some.injEq,Prod.mk.injEq]at h;obtain⟨rfl,rfl,rfl,rfl⟩:=h;exact zQY ho hit hv.1 hb true (by simp[hv.2])
    simp only[Option.some.injEq,Prod.mk.injEq]at h;obtain⟨rfl,rfl,rfl,rfl⟩:=h;exact zQY ho hit hv.1 hb false (by simp[hv.2])
   cases h
  cases h
 ·rename_i s d y ho;split at h
  ·rename_i e p b hs hd hy;split at h
   ·rename_i he;simp only[Option.some.injEq,Prod.mk.injEq]at h;obtain⟨rfl,rfl,rfl,rfl⟩:=h;exact zWP hT ho hy hv hs hd he
   cases h
  cases h
 ·rename_i t ho;simp only[Option.some.injEq,Prod.mk.injEq]at h;obtain⟨rfl,rfl,rfl,rfl⟩:=h;intro c M μ tmps w hg r;have e:(execOp (Act.eval ⟨tmps,[]⟩) o).run P w = .ok (.value (.map (some w.heap.size))) (w.alloc (.map #[] 0)):=by
   have e1:(Instr.makeMap t none).run P w = .ok (.map (some w.heap.size)) (w.alloc (.map #[] 0)):=rfl;simp[execOp,ho,e1]
  rw[e];refine⟨M,upd μ _ ⟨some w.heap.size,.map (some w.heap.size),[]⟩,r.newBox hv (Grows.alloc w _) (fun b hb => ?_) (.mp (clock:=0) (es := #[]) (by rw[qK]) (by rw[qK]) (heap_alloc_new w _) ⟨by simp,by simp⟩ rfl rfl (fun i e k he=>by simp at he) (fun i e k he=>by simp at he)) rfl,.ms (by rw[qK]) rfl⟩;simp only[Option.some.injEq]at hb;subst hb;exact⟨bP _,by simp⟩
 cases h
theorem qUE {P:Program} {T:Tab} {G:qT} (hT:TOK P T) {st:St} {o:Oper} {orc orc':List PD} {v:Prop} {x:V} (h:qFE T G st o.op orc=some (v,x,orc')) (hv:v):Yields P G o st x st:=by
 intro c M μ tmps w hg r;obtain⟨u,e,hu⟩:=qUF hT hg r h hv;rw[e];exact⟨M,μ,r,hu⟩
def qQI (C:Know) (T:Tab) (G:qT) (st:St) (o:Oper) (orc:List PD):Option (Prop × V × St × List PD) :=
 match o.op with
 | .call { callee := .value x,args,argTypes }=>match st.arg G x with
  | (p,cal)=>match qUA cal,orc with
   | some (f,ds),.nilf :: .sl sz es :: .clo e _::orc'=>match qLC T argTypes.toList (args.toList.map fun y=>(st.arg G y).2)with
    | some as=>some (p/\qII (args.toList.map fun y=>(st.arg G y).1)/\C.row f (as++ds) e sz es/\st.fresh (qFY st o.dst)=true,.ms (qFY st o.dst),{ st with H:=(qFY st o.dst,.row e sz es)::st.H },orc')
    | none=>none
   | _,_=>none
 | _=>none
theorem RBox.row_at {M:qY} {μ:Mu} {w:World} {l:Loc} {id:Nat} {e:TypeId} {sz:Nat} {es:List PD} (hl:(μ id).blk=l.blk/\(μ id).val=l.val) (r:RBox M (fun _=>l) w 0 (.row e sz es)):RBox M μ w id (.row e sz es):=by
 cases r with
 | row h0 hv h1 h2 h3 h4 h5 h6 h7=>exact .row (by rw[hl.1];exact h0) (by rw[hl.2];exact hv) h1 h2 h3 h4 h5 h6 h7
 | rowN h0 hv=>exact .rowN (by rw[hl.1];exact h0) (by rw[hl.2];exact hv)
theorem qUR {P:Program} {T:Tab} {G:qT} {st st':St} {o:Oper} {orc orc':List PD} {vc:Prop} {x:V} (h:qQI (kn P G) T G st o orc=some (vc,x,st',orc')) (hv:vc):Yields P G o st x st':=by
 unfold qQI at h;split at h
 ·rename_i y args tys ho;split at h;rename_i p cal hf;split at h
  ·rename_i f ds sz es e _ orc2 hcal;split at h
   ·rename_i as has;simp only[Option.some.injEq,Prod.mk.injEq]at h;obtain⟨rfl,rfl,rfl,rfl⟩:=h;obtain⟨hp,hall,hc,hfr⟩:=hv;intro c M μ tmps w hg rel;obtain⟨vs,he,hsz,hrd⟩:=qTZ ho hf hp hcal hc.1 (q:=args.toList.map fun y=>(st.arg G y).1) (ys:=args.toList.map fun y=>(st.arg G y).2) (qHA args.toList _ _) (by simp) (fun p hp=>qAO hall p hp) (qJV has) hg rel;rw[he];refine(hc.2 M w _ (hg.go rel) rel.mem hsz hrd).mono ?_;rintro e' w' ⟨v,M',rfl,hmem,hM,hold,hbel,l,rfl,hone,hbx,hblk⟩;have r1:=rel.grows (lX hbel) hM hmem hold;refine⟨_,rfl,M',upd μ (qFY st o.dst) ⟨l.blk,l.val,[]⟩,r1.adopt (l:=⟨l.blk,l.val,[]⟩) hfr (fun b hb => ?_) (hbx.row_at (by rw[qK];exact⟨rfl,rfl⟩)),.ms (by rw[qK]) hone⟩;obtain⟨h1,h2,h3⟩:=hblk b hb;exact⟨.inl (dB rel.size h1),h2,h3,fun j hj hjb=>by have:=(rel.own j b hj hjb).2.1;omega⟩
   cases h
  cases h
 cases h
def qPP (C:Know) (T:Tab) (G:qT) (st:St) (o:Oper) (orc:List PD):Option (Prop × V × St × List PD) :=
 match eff T G st o orc with
 | some r=>some r
 | none=>match zAW T G st o.op orc with
  | some r=>some r
  | none=>qQI C T G st o orc
theorem xL {P:Program} {T:Tab} {G:qT} (hT:TOK P T) {st st':St} {o:Oper} {orc orc':List PD} {vc:Prop} {x:V} (h:qPP (kn P G) T G st o orc=some (vc,x,st',orc')) (hv:vc):Yields P G o st x st':=by
 unfold qPP at h;split at h
 ·rename_i r hr;cases h;exact zPO hT hr hv
 split at h
 ·rename_i r hr;cases h;exact zAV hT hr hv
 exact qUR h hv
theorem qLM {P:Program} {T:Tab} {G:qT} (hT:TOK P T) {st:St} {o:Oper} {orc orc':List PD} {v:Prop} {x:V} (h:qSK T G st o.op orc=some (v,x,orc')) (hv:v):Yields P G o st x st:=by
 intro c M μ tmps w hg r;obtain⟨u,e,hu⟩:=qOZ hT hg r h hv;rw[e];exact⟨M,μ,r,hu⟩
def qDH (C:Know) (T:Tab) (G:qT) (st:St) (op:Op) (orc:List PD):Option (Prop × V × List PD) :=
 match qSK T G st op orc with
 | some r=>some r
 | none=>match qFE T G st op orc with
  | some r=>some r
  | none=>qOJ C T G st op orc
def oT:V->List Nat
 | .ms i=>[i]
 | _=>[]
def qRZ (G:qT) (st:St):List Operand->List Nat
 | []=>[]
 | y::ys=>oT (st.arg G y).2++qRZ G st ys
def yE (st:St):List Nat->St
 | []=>st
 | i::l=>yE (st.freeze i) l
def qDK (G:qT) (st:St) (op:Op):Option St :=
 match op with
 | .call { callee := .value _,args,argTypes:=_ }=>some (yE st (qRZ G st args.toList))
 | _=>some st
theorem qAV {c:Ctx} {M:qY} {μ:Mu} {tmps:Array Value} {w:World}:∀ (l:List Nat) {st:St},Rel c M μ st tmps w->∃ M',Rel c M' μ (yE st l) tmps w
 | [],_,r=>⟨M,r⟩
 | i::l,_,r=>by
  obtain⟨M',r'⟩:=r.freeze i;exact qAV l r'
theorem qJJ {c:Ctx} {M:qY} {μ:Mu} {tmps:Array Value} {w:World} {G:qT} {st st':St} {op:Op} (r:Rel c M μ st tmps w) (h:qDK G st op=some st'):∃ M',Rel c M' μ st' tmps w:=by
 unfold qDK at h;split at h
 ·cases h;exact qAV _ r
 cases h;exact⟨M,r⟩
theorem zZ.pre {P:Program} {G:qT} {Q:Exit->St->Prop} {ops:Array Oper} {l:List Oper} {st st':St} {op:Op} (h:qDK G st op=some st') (k:zZ P G ops Q l st'):zZ P G ops Q l st:=by
 intro x M μ tmps w hg r;obtain⟨M',r'⟩:=qJJ r h;exact k x M' μ tmps w hg r'
def jV (C:Know) (T:Tab) (G:qT) (ops:List Oper):List Oper->St->List PD->Option (Prop × St)
 | [],st,_=>some (True,st)
 | o::rest,st,orc=>match qDK G st o.op with
  | none=>none
  | some st=>match o.guard with
   | none=>match qDH C T G st o.op orc with
    | some (v,x,orc')=>match jV C T G ops rest (st.put o.dst x) orc' with
     | some (vs,st2)=>some (v/\vs,st2)
     | none=>none
    | none=>match qPP C T G st o orc with
     | some (v,x,st',orc')=>match jV C T G ops rest (st'.put o.dst x) orc' with
      | some (vs,st2)=>some (v/\vs,st2)
      | none=>none
     | none=>none
   | some (j,pol)=>match (ops[j]?).bind (·.dst)with
    | none=>none
    | some d=>match iZ pol (st.tmps.getD d .dead)with
     | none=>none
     | some b=>match qDH C T G st o.op orc with
      | some (v,x,orc')=>match jV C T G ops rest (st.put o.dst (.when b x)) orc' with
       | some (vs,st2)=>some (d<st.tmps.length/\(b=true->v)/\vs,st2)
       | none=>none
      | none=>match b with
       | true=>match qPP C T G st o orc with
        | some (v,x,st',orc')=>match jV C T G ops rest (st'.put o.dst (.when true x)) orc' with
         | some (vs,st2)=>some (d<st.tmps.length/\v/\vs,st2)
         | none=>none
        | none=>none
       | false=>match jV C T G ops rest (st.put o.dst (.when false (.p (.bool false)))) orc with
        | some (vs,st2)=>some (d<st.tmps.length/\vs,st2)
        | none=>none
theorem vC {P:Program} {T:Tab} {G:qT} (hT:TOK P T) {st:St} {o:Oper} {orc orc':List PD} {v:Prop} {x:V} (h:qDH (kn P G) T G st o.op orc=some (v,x,orc')) (hv:v):Yields P G o st x st:=by
 unfold qDH at h;split at h
 ·rename_i r hr;cases h;exact qLM hT hr hv
 split at h
 ·rename_i r hr;cases h;exact qUE hT hr hv
 exact qMP h hv
theorem yK {P:Program} {T:Tab} {G:qT} {Q:Exit->St->Prop} (hT:TOK P T) (ops:List Oper):∀ (l more:List Oper) (st:St) (orc:List PD) (v:Prop) (st':St),
  jV (kn P G) T G ops l st orc=some (v,st')->v->zZ P G ops.toArray Q more st'->zZ P G ops.toArray Q (l++more) st
 | [],more,st,orc,v,st',h,_,k=>by
  simp only[jV,Option.some.injEq,Prod.mk.injEq]at h;obtain⟨rfl,rfl⟩:=h;exact k
 | o::rest,more,st,orc,v,st',h,hv,k=>by
  simp only[jV]at h;split at h
  ·cases h
  rename_i st0 hpre;refine zZ.pre hpre ?_;split at h
  ·rename_i hgd;split at h
   ·rename_i v1 x orc1 hs;split at h
    ·rename_i vs st2 hr;simp only[Option.some.injEq,Prod.mk.injEq]at h;obtain⟨rfl,rfl⟩:=h;exact zZ.step hgd (vC hT hs hv.1) (yK hT ops rest more _ orc1 vs st2 hr hv.2 k)
    cases h
   split at h
   ·rename_i v1 x st1 orc1 hs;split at h
    ·rename_i vs st2 hr;simp only[Option.some.injEq,Prod.mk.injEq]at h;obtain⟨rfl,rfl⟩:=h;exact zZ.step hgd (xL hT hs hv.1) (yK hT ops rest more _ orc1 vs st2 hr hv.2 k)
    cases h
   cases h
  rename_i j pol hgd;split at h
  ·cases h
  rename_i d hd;split at h
  ·cases h
  rename_i b hb;split at h
  ·rename_i v1 x orc1 hs;split at h
   ·rename_i vs st2 hr;simp only[Option.some.injEq,Prod.mk.injEq]at h;obtain⟨rfl,rfl⟩:=h;exact mG hgd (by simpa using hd) hv.1 hb (fun hbt=>vC hT hs (hv.2.1 hbt)) (yK hT ops rest more _ orc1 vs st2 hr hv.2.2 k)
   cases h
  split at h
  ·split at h
   ·rename_i v1 x st1 orc1 hs;split at h
    ·rename_i vs st2 hr;simp only[Option.some.injEq,Prod.mk.injEq]at h;obtain⟨rfl,rfl⟩:=h;exact mR hgd (by simpa using hd) hv.1 hb (xL hT hs hv.2.1) (yK hT ops rest more _ orc1 vs st2 hr hv.2.2 k)
    cases h
   cases h
  split at h
  ·rename_i vs st2 hr;simp only[Option.some.injEq,Prod.mk.injEq]at h;obtain⟨rfl,rfl⟩:=h;exact nM hgd (by simpa using hd) hv.1 hb (yK hT ops rest more _ orc vs st2 hr hv.2 k)
  cases h
section
variable {P:Program} {T:Tab} {G:qT} {Q:Exit->St->Prop} {st st':St}
theorem AW.run (hT:TOK P T) (orc:List PD) {id:Nat} {l:List Oper} {v:Know->Prop} (h:∀ C,jV C T G l l st orc=some (v C,st')) (hv:v (kn P G)) (k:Q .normal st'):AW P G (.region id l.toArray false) Q st:=by
 refine AW.region ?_;have:=yK (Q:=Q) hT l l [] st orc _ st' (h (kn P G)) hv (zZ.nil k);simpa using this
theorem iM (hT:TOK P T) (orc:List PD) {id:Nat} {l:List Oper} {b:Code} {v:Know->Prop} (h:∀ C,jV C T G l l st orc=some (v C,st')) (hv:v (kn P G)) (k:AW P G b Q st') :
  AW P G (.seq (.region id l.toArray false) b) Q st :=
 AW.seq (AW.run hT orc h hv k)
theorem AW.cond {c:Operand} {x y:Code} {p:Prop} {b:Bool} (hc:st.arg G c=(p,.p (.bool b))) (hp:p) (h1:b=true->AW P G x Q st) (h2:b=false->AW P G y Q st):AW P G (.cond c x y) Q st:=by
 intro ctx M μ tmps w hg r;have h:=(qF hg r hc hp).p_inv;generalize hu:Act.eval ⟨tmps,[]⟩ c=u at h;cases h;exact wp_cond_split hu (fun e=>h1 e ctx M μ tmps w hg r) (fun e=>h2 e ctx M μ tmps w hg r)
theorem pI {c:Code} {i sz:Nat} {es:List PD} (h:st.tmps[i]?=some (.p (.sl sz es))) (k:es.length<=9223372036854775807->AW P G c Q st):AW P G c Q st:=by
 intro x M μ tmps w hg r;have hlt:i<tmps.size:=by rw[r.slots.1];exact(bB.1 h).1
 have hv:=(r.slots.2 i tmps[i] _ (by simp[hlt]) h).p_inv;generalize tmps[i]=u at hv;cases hv with
 | sl b o hn hnc hcm=>exact k (by simp[maxLen]at hcm;omega) x M μ tmps w hg r
theorem pA {c:Code} {i:Nat} {s:List UInt8} (h:st.tmps[i]?=some (.p (.str s))) (k:s.length<=9223372036854775807->AW P G c Q st):AW P G c Q st:=by
 intro x M μ tmps w hg r;have hlt:i<tmps.size:=by rw[r.slots.1];exact(bB.1 h).1
 have hv:=(r.slots.2 i tmps[i] _ (by simp[hlt]) h).p_inv;generalize tmps[i]=u at hv;cases hv with
 | str hs hm=>exact k (by simpa[maxLen]using hm) x M μ tmps w hg r
theorem pC {c:Code} {i:Nat} {kd:IntKind} {n:Int} (h:st.tmps[i]?=some (.p (.int kd n))) (k:kS kd<=n/\n<=kT kd->AW P G c Q st):AW P G c Q st:=by
 intro x M μ tmps w hg r;have hlt:i<tmps.size:=by rw[r.slots.1];exact(bB.1 h).1
 have hv:=(r.slots.2 i tmps[i] _ (by simp[hlt]) h).p_inv;generalize tmps[i]=u at hv;cases hv with
 | int h1 h2=>exact k ⟨by rw[<-xC];exact h1,by rw[<-jI];exact h2⟩ x M μ tmps w hg r
attribute [simp] qDK yE qRZ oT St.freeze V.frz lP Box.frz qNV qPP qQI jV qDH qSK qOJ eff St.arg St.ev V.strip V.pur zHK qIT qKE St.put oQ zIH qHO zGZ zAU qPO nZ zFW qZB qLZ qWV wC iZ qFY TK.agg zS zO splice qDI V.cells PD.ite St.fresh iO V.noRef kX Box.noRef qM kS kT PD.cells qAF iS iP zCJ St.kill qET qAH Box.kill qGI qII qNQ qYQ andThen inBlock VLe jM IntKind.signed mX mO
end
mutual
def V.ids:V->List Nat
 | .ptr i _=>[i]
 | .rptr i _ _ _=>[i]
 | .tl i _ _=>[i]
 | .ms i=>[i]
 | .it i=>[i]
 | .func _ a b=>lT a++lT b
 | .agg cs=>lT cs
 | .tuple cs=>lT cs
 | .when _ x=>V.ids x
 | .p _=>[]
 | .dead=>[]
 | .nilsl=>[]
 | .cptr _=>[]
def lT:List V->List Nat
 | []=>[]
 | x::xs=>V.ids x++lT xs
end
mutual
theorem V.ids_of {id:Nat}:∀ (x:V),V.noRef id x=false->id∈V.ids x
 | .ptr i _,h=>by simp[V.noRef]at h;simp[V.ids,h]
 | .rptr i _ _ _,h=>by simp[V.noRef]at h;simp[V.ids,h]
 | .tl i _ _,h=>by simp[V.noRef]at h;simp[V.ids,h]
 | .ms i,h=>by simp[V.noRef]at h;simp[V.ids,h]
 | .it i,h=>by simp[V.noRef]at h;simp[V.ids,h]
 | .func _ a b,h=>by
  simp only[V.noRef,Bool.and_eq_false_iff]at h;simp only[V.ids,bL];rcases h with h|h
  ·exact .inl (lQ a h)
  exact .inr (lQ b h)
 | .agg cs,h=>by simp only[V.noRef]at h;simp only[V.ids];exact lQ cs h
 | .tuple cs,h=>by simp only[V.noRef]at h;simp only[V.ids];exact lQ cs h
 | .when _ x,h=>by simp only[V.noRef]at h;simp only[V.ids];exact V.ids_of x h
 | .p _,h=>by simp[V.noRef]at h
 | .dead,h=>by simp[V.noRef]at h
 | .nilsl,h=>by simp[V.noRef]at h
 | .cptr _,h=>by simp[V.noRef]at h
theorem lQ {id:Nat}:∀ (l:List V),iO id l=false->id∈lT l
 | [],h=>by simp[iO]at h
 | x::xs,h=>by
  simp only[iO,Bool.and_eq_false_iff]at h;simp only[lT,bL];rcases h with h|h
  ·exact .inl (V.ids_of x h)
  exact .inr (lQ xs h)
end
def Box.ids:Box->List Nat
 | .vars _ cs=>lT cs
 | .row .. => []
 | .iter .. => []
 | .mp _ vs=>lT vs
 | .mpx _ vs=>lT vs
 | .obj _ _ _ rs=>rs
 | .brow .. => []
 | .mach .. => []
 | .prow _ ps=>lT ps
theorem Box.ids_of {id:Nat} {b:Box} (h:b.noRef id=false):id∈b.ids:=by
 cases b with
 | vars e cs=>exact lQ cs h
 | mp ks vs=>exact lQ vs h
 | mpx ks vs=>exact lQ vs h
 | obj b v o rs=>simpa[Box.noRef,Box.ids]using h
 | prow e ps=>exact lQ ps h
 | _=>simp[Box.noRef]at h
def xR:List (Nat × Box)->List Nat
 | []=>[]
 | (i,b)::r=>i::(b.ids++xR r)
theorem qME {i:Nat} {b:Box}:∀ {H:List (Nat × Box)},(i,b)∈H->∀ j∈b.ids,j∈xR H
 | (k,c)::r,h,j,hj=>by
  rcases bM.1 h with e|e
  ·cases e;simp[xR,hj]
  simp[xR,qME e j hj]
theorem qCU {i:Nat}:∀ {H:List (Nat × Box)},qM i H=true->i∈xR H
 | [],h=>by simp[qM]at h
 | (k,c)::r,h=>by
  simp only[qM,cX,dD]at h;rcases h with rfl|h
  ·simp[xR]
  simp[xR,qCU h]
def zZW (T:Tab) (rs:List ResultVar) (r:V) (ps:List Nat) (H':List (Nat × Box)) (e:Exit) (st:St):Prop :=
 (e = .normal\/e = .ret)/\∃ p l,qNQ T st rs=some (p,l)/\p/\VLe (qYQ l) r/\(∀ i∈ps,i∈st.pins)/\(∀ x∈H',x∈st.H)/\(H'.map (·.1)).Nodup
def mN (n base:Nat) (xs:List V) (H:List (Nat × Box)):St:=⟨xs++List.replicate (n-xs.length) .dead,H.map (·.1),H,base⟩
section
variable {P:Program} {T:Tab} {G:qT}
theorem AX.intro (hT:TOK P T) {f:FuncId} {fn:Func} {c:Code} {xs:List V} {H:List (Nat × Box)} {r:V} {ps:List Nat} {H':List (Nat × Box)} (base:Nat) (hf:P.funcs[f]?=some fn)
  (hn : (fn.name == "runtime.NumGoroutine") = false) (hb : fn.body = some c) (h : AW P G c (zZW T fn.results.toList r ps H') (mN fn.ntmps base xs H)) : AX P G f xs H r ps H' := by
 refine⟨⟨fn,c,hf,hn,hb⟩,fun M μ w vs hg rel => ?_⟩;refine calls_of_wp hf hb ?_;have hsz:vs.size=xs.length:=rel.slots.1;have hrel:Rel ⟨w.heap.size,w,M,μ,yI μ H⟩ M μ (mN fn.ntmps base xs H) (vs++Array.replicate (fn.ntmps-vs.size) undef) w:=by
  refine⟨rel.mem,rel.ext,rel.old,⟨by simp[mN,hsz],fun i u x hu hx => ?_⟩,rel.pins,rel.box,rel.nodup,rel.inj,rel.own,rel.size,rel.below⟩;simp only[mN]at hx;rw[cF]at hx;split at hx
  ·rename_i hi;rw[eS (by rw[hsz];exact hi)]at hu;exact rel.slots.2 i u x hu hx
  have:x = .dead:=by
   have:=bH hx;exact(eY.1 this).2
  subst this;exact .dead
 refine wp_mono (h _ M _ _ w (hg.ctxL μ (yI μ H) (fun b hb o=>by obtain⟨id,h1,h2⟩:=hb;exact(rel.own id b h1 h2).2.2 o)) hrel) ?_;rintro e a w' ⟨st,M',μ',r',hd,hfin⟩;obtain⟨he,p,l,hres,hp,hle,hps,hH,hnd⟩:=hfin;obtain⟨v,hv,hrv⟩:=qOX hT r' hres hp;have hrel2:Rel ⟨w.heap.size,w,M,μ,yI μ H⟩ M' μ' ⟨[r],ps,H',0⟩ #[v] w':=by
  refine⟨r'.mem,r'.ext,r'.old,⟨rfl,fun i u x hu hx => ?_⟩,fun i hi=>r'.pins i (hps i hi),fun i b hb=>r'.box i b (hH _ hb),hnd,fun i j b hi hj => ?_,fun i b hi => ?_,r'.size,r'.below⟩
  ·cases i with
   | zero =>
    simp at hu hx;subst hu;subst hx;rcases hle.cases with e|e
    ·rw[<-e];exact hrv
    rw[e];exact .dead
   | succ i=>simp at hx
  ·obtain⟨b1,h1⟩:=qH.1 hi;obtain⟨b2,h2⟩:=qH.1 hj;exact r'.inj i j b (qH.2 ⟨b1,hH _ h1⟩) (qH.2 ⟨b2,hH _ h2⟩)
  obtain⟨b1,h1⟩:=qH.1 hi;exact r'.own i b (qH.2 ⟨b1,hH _ h1⟩)
 rcases he with rfl|rfl
 ·exact⟨hd,v,hv,v,M',μ',rfl,hrel2⟩
 exact⟨hd,v,hv,v,M',μ',rfl,hrel2⟩
def St.killAll:List Nat->St->St
 | [],st=>st
 | i::l,st=>St.killAll l (st.kill i)
theorem Rel.killAll {c:Ctx} {M:qY} {μ:Mu} {tmps:Array Value} {w:World}:∀ (l:List Nat) {st:St},Rel c M μ st tmps w->Rel c M μ (st.killAll l) tmps w
 | [],_,r=>r
 | i::l,_,r=>Rel.killAll l (r.kill i)
def zN (ks:List Nat):List (Nat × Box)->List (Nat × Box)
 | []=>[]
 | (i,b)::r=>if ks.contains i then zN ks r else(i,b)::zN ks r
theorem kN {ks:List Nat} {i:Nat} {b:Box}:∀ {H:List (Nat × Box)},(i,b)∈zN ks H->i ∉ ks/\(i,b)∈H
 | (k,c)::r,h=>by
  simp only[zN]at h;split at h
  ·exact⟨(kN h).1,bM.2 (.inr (kN h).2)⟩
  rename_i hk;rcases bM.1 h with e|e
  ·cases e;exact⟨by simpa using hk,by simp⟩
  exact⟨(kN e).1,bM.2 (.inr (kN e).2)⟩
theorem qBK (ks:List Nat):∀ H:List (Nat × Box),(zN ks H).Sublist H
 | [] => .slnil
 | (k,c)::r=>by
  simp only[zN];split
  ·exact(qBK ks r).cons _
  exact(qBK ks r).cons_cons _
theorem qPK:∀ (l:List Nat) {st:St} {i:Nat},qM i (st.killAll l).H=true->qM i st.H=true
 | [],_,_,h=>h
 | _::l,_,_,h=>(kM (qPK l h)).2
def St.rest (st:St) (H:List (Nat × Box)) (ps:List Nat):St :=
 let s:=st.killAll ((H.map (·.1)).filter fun i => !ps.contains i)
 { s with H:=zN (H.map (·.1)) s.H }
def qIB (x:V) (as:List V):Option (FuncId × List V) :=
 match x with
 | .p (.fn f)=>some (f,as)
 | .func (.func f) a b=>some (f,a++as++b)
 | _=>none
theorem zWN {o:Oper} {st:St} {x:Operand} {args:Array Operand} {tys:Array TypeId} {f:FuncId} {xs xs':List V} {H:List (Nat × Box)} {r:V} {ps:List Nat} {H':List (Nat × Box)}
  (ho:o.op = .call { callee := .value x,args:=args,argTypes:=tys }) (hp:(st.arg G x).1) (hc:AX P G f xs H r ps H')
  (hq:qII (args.toList.map fun y=>(st.arg G y).1)) (hcal:qIB (st.arg G x).2 (args.toList.map fun y=>(st.arg G y).2)=some (f,xs')) (hle:jM xs' xs)
  (hH:qII (H.map fun p=>zS p.1 st.H=some p.2)) (hnd:(H.map (·.1)).Nodup) (hps:∀ i∈ps,i∈H.map (·.1))
  (hids:∀ i∈V.ids r++xR H',i∈ps\/(st.rest H ps).fresh i=true) :
  Yields P G o st r { st.rest H ps with H:=H'++(st.rest H ps).H }:=by
 intro c M μ tmps w hg rel;have hfx:=qF (x:=x) (y:=(st.arg G x).2) (p:=(st.arg G x).1) hg rel rfl hp;have has:RL M μ (args.map (Act.eval ⟨tmps,[]⟩)) (args.toList.map fun y=>(st.arg G y).2):=by
  refine⟨by simp,fun i u y hu hy => ?_⟩;rw[fQ]at hu;obtain⟨a,ha,rfl⟩:=bF.1 hu;have ha':args.toList[i]?=some a:=by simpa using ha
  rw[bG,ha']at hy;cases hy;refine qF hg rel rfl (qAO hq _ ?_);exact cO.2 ⟨a,bH ha',rfl⟩
 obtain⟨vs,hrun,hvs⟩:∃ vs,(execOp (Act.eval ⟨tmps,[]⟩) o).run P w = .ok (.enter f vs) w/\RL M μ vs xs:=by
  generalize hu:Act.eval ⟨tmps,[]⟩ x=u at hfx;generalize hy:(st.arg G x).2=y at hfx hcal;unfold qIB at hcal;split at hcal
  ·cases hcal;cases hfx with
   | p hfx =>
    cases hfx;refine⟨_,by simp[execOp,ho,resolve,Deferred.ofValue,hu,invoke,uG hc.1],has.weaken hle⟩
  ·rename_i f' a b;cases hcal;cases hfx with
   | @func fn fa ca fs cs h1 h2 h3 h4 =>
    refine⟨fa++args.map (Act.eval ⟨tmps,[]⟩)++ca,by simp[execOp,ho,resolve,Deferred.ofValue,hu,invoke,uG hc.1],RL.weaken ?_ hle⟩;refine⟨by simp[h1,h2],fun i u y hu hy => ?_⟩;rw[eX]at hu;rw[cF]at hy;have hs1:(fa++args.map (Act.eval ⟨tmps,[]⟩)).size=(a++args.toList.map fun y=>(st.arg G y).2).length:=by simp[h1]
    rw[hs1]at hu;split at hu
    ·rename_i hlt;rw[bE hlt]at hy;rw[eX]at hu;rw[cF]at hy;rw[h1]at hu;split at hu
     ·rename_i hlt2;rw[bE hlt2]at hy;exact h3 _ _ _ hu hy
     rename_i hlt2;rw[bD hlt2]at hy;exact has.2 _ _ _ hu hy
    rename_i hlt;rw[bD hlt]at hy;exact h4 _ _ _ hu hy
  cases hcal
 rw[hrun];have hbox:∀ id bx,(id,bx)∈H->(id,bx)∈st.H:=fun id bx h=>zD (qAO hH _ (cO.2 ⟨_,h,rfl⟩));have hkey:∀ id,qM id H=true->qM id st.H=true:=fun id h=>by
  obtain⟨b,hb⟩:=qH.1 h;exact qH.2 ⟨b,hbox _ _ hb⟩
 have hlent:∀ b,yI μ H b->c.mine b/\b<w.heap.size:=fun b ⟨id,h1,h2⟩=>by
  have:=rel.own id b (hkey id h1) h2;exact⟨this.1,this.2.1⟩
 have hcallee:Rel ⟨w.heap.size,w,M,μ,yI μ H⟩ M μ ⟨xs,H.map (·.1),H,0⟩ vs w :=
  ⟨rel.mem,fun _ _ _ h=>h,fun _ _ _=>rfl,hvs,fun _ _=>rfl,fun id bx h=>rel.box id bx (hbox id bx h),hnd,fun i j b hi hj=>rel.inj i j b (hkey i hi) (hkey j hj),
   fun id b h hb=>⟨.inr ⟨id,h,hb⟩,(rel.own id b (hkey id h) hb).2⟩,bP _,Kept.refl _ _⟩
 refine(hc.2 M μ w vs (hg.go rel) hcallee).mono ?_;rintro e w' ⟨v,M',μ',rfl,r'⟩;refine⟨v,rfl,M', ?_⟩;generalize hR:st.rest H ps=R at hids ⊢;have relR:Rel c M μ R tmps w:=by
  rw[<-hR];have r1:=rel.killAll ((H.map (·.1)).filter fun i => !ps.contains i);exact r1.weaken ⟨jM.refl _,rfl,fun p hp=>(kN hp).2,(List.Sublist.map _ (qBK _ _)).nodup r1.nodup⟩
 have hRkey:∀ i,qM i R.H=true->qM i H=false/\qM i st.H=true:=by
  intro i hi;rw[<-hR]at hi;obtain⟨b,hb⟩:=qH.1 hi;have h1:=kN hb;refine⟨?_,qPK _ (qH.2 ⟨b,h1.2⟩)⟩;cases hk:qM i H with
  | false=>rfl
  | true=>exact(h1.1 (wH.1 hk)).elim
 have hRblk:∀ i b,qM i R.H=true->(μ i).has b->b<w.heap.size/\¬ (w.heap.size<=b\/yI μ H b):=by
  intro i b hi hb;have h1:=hRkey i hi;have h2:=(rel.own i b h1.2 hb).2.1;refine⟨h2,fun h=>h.elim (fun h=>by omega) fun⟨j,hj,hjb⟩ => ?_⟩;have:=rel.inj i j b h1.2 (hkey j hj) hb hjb;subst this;rw[h1.1]at hj;cases hj
 let μ'':Mu:=fun i=>if(R.fresh i || qM i H')=true then μ' i else μ i
 have hat:∀ i,i∈ps->(μ' i).at=(μ i).at:=fun i h=>r'.pins i h;have hold:∀ i,R.fresh i=false->(μ'' i).at=(μ i).at:=fun i h=>by
  show(if(R.fresh i || qM i H')=true then μ' i else μ i).at=(μ i).at
  rw[h];split
  ·rename_i hk;rcases hids i (bL.2 (.inr (qCU (by simpa using hk))))with h1|h1
   ·exact hat i h1
   rw[h]at h1;cases h1
  rfl
 have hnew:∀ i,(i∈ps\/R.fresh i=true)->(μ'' i).at=(μ' i).at:=by
  intro i h;show(if(R.fresh i || qM i H')=true then μ' i else μ i).at=(μ' i).at
  split
  ·rfl
  rename_i hf;exact(hat i (h.resolve_right fun e=>hf (by rw[e];rfl))).symm
 have hnew2:∀ i,i∈V.ids r++xR H'->(μ'' i).at=(μ' i).at:=fun i h=>hnew i (hids i h);have fr1:∀ i,iO i R.tmps=false->R.fresh i=false:=fun i h=>by simp only[St.fresh,h,gH]
 have fr2:∀ i,kX i R.H=false->R.fresh i=false:=fun i h=>by simp only[St.fresh,h,gH,fA]
 have fr3:∀ i,qM i R.H=true->R.fresh i=false:=fun i h=>by simp only[St.fresh,h,Bool.not_true,fA]
 have fr4:∀ i,i∈R.pins->R.fresh i=false:=fun i h=>by simp[St.fresh,h]
 have hkH':∀ i,qM i H'=true->μ'' i=μ' i:=fun i h=>bE (by rw[h];simp);have hdis:∀ i,qM i H'=true->qM i R.H=true->False:=by
  intro i h1 h2;rcases hids i (bL.2 (.inr (qCU h1)))with h|h
  ·have:=wH.2 (hps i h);rw[(hRkey i h2).1]at this;cases this
  rw[fr3 i h2]at h;cases h
 have hkR:∀ i,qM i R.H=true->μ'' i=μ i:=fun i h=>bD (by
  rw[fr3 i h];cases hk:qM i H' with
  | false=>simp
  | true=>exact(hdis i hk h).elim)
 have hH'blk:∀ i b,qM i H'=true->(μ' i).has b->(w.heap.size<=b\/yI μ H b):=fun i b hi hb=>(r'.own i b hi hb).1;have hkeyApp:∀ i,qM i (H'++R.H)=true->qM i H'=true\/qM i R.H=true:=by
  intro i h;obtain⟨b,hb⟩:=qH.1 h;rcases bL.1 hb with h|h
  ·exact .inl (qH.2 ⟨b,h⟩)
  exact .inr (qH.2 ⟨b,h⟩)
 have hrr:RV M' μ'' v r:=by
  have h0:=r'.slots.2 0 v r (by simp) (by simp);exact h0.mono (fun _ _ _ h=>h) fun i hi=>hnew2 i (bL.2 (.inl (V.ids_of r hi)))
 refine⟨μ'', ?_,hrr⟩;refine⟨r'.mem,fun b o v hv=>r'.ext b o v (rel.ext b o v hv),fun b o hb => ?_, ?_,fun i hi => ?_,fun i bx hi => ?_, ?_,fun i j b hi hj hib hjb => ?_,fun i b hi hib => ?_,dB rel.size r'.size, ?_⟩
 ·have h1:¬ (w.heap.size<=b\/yI μ H b):=fun h=>h.elim (fun h=>hb (.inl (dB rel.size h))) fun h=>hb (hlent b h).1;exact(r'.old b o h1).trans (rel.old b o hb)
 ·exact relR.slots.mono r'.ext fun i hi=>hold i (fr1 i hi)
 ·exact(hold i (fr4 i hi)).trans (relR.pins i hi)
 ·rcases bL.1 hi with h|h
  ·exact(r'.box i bx h).mono (fun _ _ _ h=>h) (hkH' i (qH.2 ⟨bx,h⟩)) (fun j hj=>hnew2 j (bL.2 (.inr (qME h j (Box.ids_of hj))))) fun _ _=>rfl
  have hk:=qH.2 ⟨bx,h⟩;refine(relR.box i bx h).mono r'.ext (hkR i hk) (fun j hj=>hold j (fr2 j ?_)) fun b hb => ?_
  ·cases hn:kX j R.H with
   | false=>rfl
   | true=>rw[vQ hn h]at hj;cases hj
  exact r'.below.block b (hRblk i b hk hb).2
 ·rw[fW,gS];refine⟨r'.nodup,relR.nodup,fun i h1 j h2 => ?_⟩;rintro rfl;exact hdis _ (wH.2 h1) (wH.2 h2)
 ·rcases hkeyApp i hi with h1|h1 <;> rcases hkeyApp j hj with h2|h2
  ·rw[hkH' i h1]at hib;rw[hkH' j h2]at hjb;exact r'.inj i j b h1 h2 hib hjb
  ·rw[hkH' i h1]at hib;rw[hkR j h2]at hjb;exact((hRblk j b h2 hjb).2 (hH'blk i b h1 hib)).elim
  ·rw[hkR i h1]at hib;rw[hkH' j h2]at hjb;exact((hRblk i b h1 hib).2 (hH'blk j b h2 hjb)).elim
  rw[hkR i h1]at hib;rw[hkR j h2]at hjb;exact relR.inj i j b h1 h2 hib hjb
 ·rcases hkeyApp i hi with h1|h1
  ·rw[hkH' i h1]at hib;obtain⟨h2,h3,h4⟩:=r'.own i b h1 hib;exact⟨h2.elim (fun h => .inl (dB rel.size h)) fun h=>(hlent b h).1,h3,h4⟩
  rw[hkR i h1]at hib;obtain⟨h2,h3,h4⟩:=relR.own i b h1 hib;exact⟨h2,dR h3 r'.size,fun o=>(r'.old b o (hRblk i b h1 hib).2).trans (h4 o)⟩
 refine rel.below.trans ⟨r'.below.os,r'.below.tape,r'.below.output,r'.below.size,fun k hk=>r'.below.block k ?_⟩;exact fun h=>h.elim (fun h=>hk (.inl (dB rel.size h))) fun h=>hk (hlent k h).1
variable {Q:Exit->St->Prop} {st st1 st2 st':St}
theorem pO (hT:TOK P T) (n:Nat) (orc1 orc2:List PD) {id:Nat} {l:List Oper} {o:Oper} {r:V} {v1 v2:Know->Prop} (ho:l[n]?=some o) (hgd:o.guard=none)
  (h1:∀ C,jV C T G l (l.take n) st orc1=some (v1 C,st1)) (hv1:v1 (kn P G)) (y:Yields P G o st1 r st2)
  (h2:∀ C,jV C T G l (l.drop (n+1)) (st2.put o.dst r) orc2=some (v2 C,st')) (hv2:v2 (kn P G)) (k:Q .normal st'):AW P G (.region id l.toArray false) Q st:=by
 refine AW.region ?_;have hl:l=l.take n++(o::l.drop (n+1)):=by
  have:=cE n l;rw[<-this];congr 1
  ·rw[cE]
  rw[cE,cJ (bB.1 ho).1,(bB.1 ho).2]
 have hend:=yK (Q:=Q) hT l (l.drop (n+1)) [] _ orc2 _ st' (h2 (kn P G)) hv2 (zZ.nil k);rw[cR]at hend;have:=yK (Q:=Q) hT l (l.take n) (o::l.drop (n+1)) st orc1 _ st1 (h1 (kn P G)) hv1 (zZ.step hgd y hend);rw[<-hl]at this;exact this
theorem pB (hT:TOK P T) (n:Nat) (orc1 orc2:List PD) {id:Nat} {l:List Oper} {o:Oper} {b:Code} {r:V} {v1 v2:Know->Prop} (ho:l[n]?=some o) (hgd:o.guard=none)
  (h1:∀ C,jV C T G l (l.take n) st orc1=some (v1 C,st1)) (hv1:v1 (kn P G)) (y:Yields P G o st1 r st2)
  (h2:∀ C,jV C T G l (l.drop (n+1)) (st2.put o.dst r) orc2=some (v2 C,st')) (hv2:v2 (kn P G)) (k:AW P G b Q st'):AW P G (.seq (.region id l.toArray false) b) Q st :=
 AW.seq (pO hT n orc1 orc2 ho hgd h1 hv1 y h2 hv2 k)
theorem AW.freeze {c:Code} (id:Nat) (k:AW P G c Q (st.freeze id)):AW P G c Q st:=by
 intro x M μ tmps w hg r;obtain⟨M',r'⟩:=r.freeze id;exact k x M' μ tmps w hg r'
attribute [simp] V.ids lT Box.ids xR qIB St.rest St.killAll zN
end
def qYI (P:Program) (G:qT) (o:Oper) (st:St) (x:V):Prop :=
 ∀ (c:Ctx) (M:qY) (μ:Mu) (tmps:Array Value) (w:World),qAD G c->Rel c M μ st tmps w ->
  zJU P (fun u w'=>Grows w w'/\∃ M',(∀ b o v,M b o=some v->M' b o=some v)/\(∀ b o v,M' b o=some v->w'.cell? ⟨b,o,none⟩=some v)/\(∀ b o,b<w.heap.size->M' b o=M b o)/\RV M' μ u x)
   ((execOp (Act.eval ⟨tmps,[]⟩) o).run P w)
theorem qYI.le {P:Program} {G:qT} {o:Oper} {st st':St} {x:V} (h:St.Le st st') (k:qYI P G o st' x):qYI P G o st x :=
 fun c M μ tmps w hg r=>k c M μ tmps w hg (r.weaken h)
def wS (l:List V) (ts:List Nat):List V:=(List.range l.length).map fun i=>if ts.contains i then l.getD i .dead else .dead
theorem qEQ (l:List V) (ts:List Nat):(wS l ts).length=l.length:=by simp[wS]
theorem qWQ (l:List V) (ts:List Nat) (t:Nat):(wS l ts)[t]?=if t<l.length then some (if ts.contains t then l.getD t .dead else .dead) else none:=by
 simp only[wS,bG];by_cases h:t<l.length
 ·simp[h]
 simp[h]
theorem qFV (l:List V) (ts:List Nat) (t:Nat):(wS l ts).getD t .dead=if ts.contains t then l.getD t .dead else .dead:=by
 rw[bJ,qWQ];by_cases h:t<l.length
 ·simp[h]
 simp[h]
def xD (o:Oper) (j:Nat):Bool:=o.after.any fun e=>Region.binds .any e && e.on == j
def kH (l:List Oper) (j:Nat):Option Nat:=(l[j]?).bind (·.dst)
def wO (l:List Oper) (m:Nat) (tss:List (List Nat)):Bool :=
 decide (m<=l.length) &&
 (List.range m).all (fun i=>match l[i]? with
  | some o => decide (tss[i]? = some (o.looksAt l.toArray)) && (List.range m).all fun j => (j == i || (o.dst.isNone || kH l j != o.dst)) && (match kH l j with
    | some d => !(o.looksAt l.toArray).contains d || (decide (j < i) && xD o j) || (decide (i < j) && match l[j]? with
      | some o'=>xD o' i
      | none=>false)
    | none=>true)
  | none=>false) &&
 (List.range l.length).all (fun i=>match l[i]? with
  | some o=>(decide (i<m) || (List.range i).all fun j=>xD o j) && o.after.all fun e => !Region.binds .any e || decide (e.on<i)
  | none=>false)
def zKN (l:List Oper) (m:Nat):Bool:=(List.range m).all fun i=>match l[i]? with
 | some o => (List.range m).all fun j => match kH l j with
   | some d => !(o.looksAt l.toArray).contains d || decide (j<i)
   | none=>true
 | none=>false
def zVN (l:List Oper) (m:Nat) (tss:List (List Nat)):Bool:=wO l m tss && zKN l m
section
variable {P:Program} {T:Tab} {G:qT} {Q:Exit->St->Prop} {l:List Oper} {m:Nat} {tss:List (List Nat)}
theorem zWG (h:zVN l m tss=true) {i j:Nat} {o:Oper} {t:Nat} (hi:i<m) (hj:j<m) (ho:l[i]?=some o) (hd:kH l j=some t) (ht:t∈o.looksAt l.toArray):j<i:=by
 simp only[zVN,zKN,bI,bR,eL]at h;have h1:=h.2 i hi;rw[ho]at h1;simp only[bR,eL]at h1;have h2:=h1 j hj;rw[hd]at h2;simpa[ht]using h2
theorem qFF (h:wO l m tss=true):m<=l.length:=by
 simp only[wO,bI,bY]at h;exact h.1.1
theorem uO (h:wO l m tss=true) {i:Nat} (hi:i<m):∃ o,l[i]?=some o/\tss[i]?=some (o.looksAt l.toArray) /\
  ∀ j,j<m->(j≠i->∀ d,o.dst=some d->kH l j≠some d)/\∀ t,kH l j=some t->t∈o.looksAt l.toArray->(j<i/\xD o j=true)\/(i<j/\∃ o',l[j]?=some o'/\xD o' i=true):=by
 simp only[wO,bI,bR,eL]at h;have h1:=h.1.2 i hi;split at h1
 ·rename_i o ho;simp only[bI,bR,eL,bY]at h1;obtain⟨h3,h4⟩:=h1;refine⟨o,ho,h3,fun j hj=>⟨fun hne d hd => ?_,fun t ht hm => ?_⟩⟩
  ·have:=(h4 j hj).1;simp only[cX,dD,iJ,ne_eq]at this;have h5:=this.resolve_left hne;rw[hd]at h5;exact h5.resolve_left (by simp)
  have:=(h4 j hj).2;rw[ht]at this;simp only[cX,fF,bI,bY]at this;rcases this with(h|h)|h
  ·simp[hm]at h
  ·exact .inl h
  refine .inr ⟨h.1, ?_⟩;have h2:=h.2;split at h2
  ·rename_i o' ho';exact⟨o',ho',h2⟩
  cases h2
 cases h1
theorem qAN (h:wO l m tss=true) {i:Nat} {o:Oper} (ho:l[i]?=some o):(m<=i->∀ j,j<i->xD o j=true)/\∀ e∈o.after,Region.binds .any e=true->e.on<i:=by
 simp only[wO,bI,bR,eL]at h;have hi:i<l.length:=(bB.1 ho).1;have h1:=h.2 i hi;rw[ho]at h1;simp only[bI,cX,bY,bR,eL,Array.all_eq_true_iff_forall_mem,fF]at h1;exact⟨fun hm j hj=>h1.1.resolve_left (by omega) j hj,fun e he hb=>(h1.2 e he).resolve_left (by simp[hb])⟩
theorem qBJ {o:Oper} {j:Nat} (h:xD o j=true):∃ e∈o.after,Region.binds .any e=true/\e.on=j:=by
 obtain⟨e,he,hb⟩:=Array.any_eq_true'.1 h;simp only[bI,dD]at hb;exact⟨e,he,hb.1,hb.2⟩
structure Done (l:List Oper) (m:Nat) (xs:List V) (t0:List V) (L:Nat->Bool) (ys:List V):Prop where
 len:ys.length=t0.length
 done:∀ j d,j<m->kH l j=some d->L j=true->d<ys.length->ys[d]?=xs[j]?
 else':∀ t,(∀ j,j<m->kH l j=some t->L j=false)->ys[t]?=t0[t]?
def qUT (l:List V) (q:Option Nat) (x:V):List V:=match q with
 | some d=>l.set d x
 | none=>l
theorem oV (st:St) (q:Option Nat) (x:V):st.put q x={ st with tmps:=qUT st.tmps q x }:=by cases q <;> rfl
theorem Done.put (hchk:wO l m tss=true) {xs t0 ys:List V} {L L':Nat->Bool} (D:Done l m xs t0 L ys) {i:Nat} {q:Option Nat} {x:V} (hi:i<m) (hd:kH l i=q) (hx:xs[i]?=some x)
  (hL:∀ j,L' j=(L j || j == i)):Done l m xs t0 L' (qUT ys q x):=by
 obtain⟨o,ho,_,hsep⟩:=uO hchk hi;cases q with
 | none =>
  refine⟨D.len,fun j e hj he hLj hlt=>D.done j e hj he ?_ hlt,fun t ht=>D.else' t fun j hj hjt => ?_⟩
  ·have hji:j≠i:=by rintro rfl;rw[hd]at he;cases he
   rw[hL]at hLj;simpa[hji]using hLj
  have:=ht j hj hjt;rw[hL]at this;simp only[fZ]at this;exact this.1
 | some d' =>
 have hd':o.dst=some d':=by simpa only[kH,ho,Option.bind_some]using hd
 refine⟨by simp[qUT,D.len],fun j e hj he hLj hlt => ?_,fun t ht => ?_⟩
 ·simp only[qUT]at hlt ⊢;by_cases hji:j=i
  ·subst hji;rw[hd]at he;cases he;rw[gK (by simpa using hlt),hx]
  have hne:e≠d':=by rintro rfl;exact(hsep j hj).1 hji e hd' he
  rw[fB (Ne.symm hne)];refine D.done j e hj he ?_ (by simpa using hlt);rw[hL]at hLj;simpa[hji]using hLj
 have hne:t≠d':=by
  rintro rfl;have:=ht i hi hd;rw[hL]at this;simp at this
 simp only[qUT];rw[fB (Ne.symm hne)];refine D.else' t fun j hj hjt => ?_;have:=ht j hj hjt;rw[hL]at this;simp only[fZ]at this;exact this.1
def wDI (P:Program) (G:qT) (l:List Oper) (o:Oper) (W:St) (x:V):Prop :=
 match o.guard with
 | none=>qYI P G o W x
 | some (j,pol)=>∃ d b y,kH l j=some d/\d<W.tmps.length/\iZ pol (W.tmps.getD d .dead)=some b/\x = .when b y/\(b=true->qYI P G o W y)
theorem wDI.wp {o:Oper} {W st:St} {x:V} {i:Nat} (h:wDI P G l o W x) (hle:St.Le st W) (ho:l[i]?=some o) {c:Ctx} {M:qY} {μ:Mu} {tmps:Array Value} {w:World} (hg:qAD G c)
  (r:Rel c M μ st tmps w) {R:Exit->Act->World->Prop} {K:Act->World->Prop}
  (k:∀ u w' M',Rel c M' μ st tmps w'->RV M' μ u x->K (Act.put ⟨tmps,[]⟩ o.dst u) w'):wpOp P l.toArray R i K ⟨tmps,[]⟩ w:=by
 have fin:∀ {y:V},qYI P G o W y->(∀ u w' M',Rel c M' μ st tmps w'->RV M' μ u y->K (Act.put ⟨tmps,[]⟩ o.dst u) w')->o.wp P ⟨tmps,[]⟩ w K R:=by
  intro y hs hk;refine xG ((hs.le hle) c M μ tmps w hg r) ?_;rintro u w' ⟨hgr,M',h1,h2,h3,hv⟩;exact hk u w' M' (r.grows hgr h1 h2 h3) hv
 unfold wpOp;rw[show l.toArray[i]?=some o by simpa using ho];show if Region.wanted o (yielded l.toArray tmps)=true then _ else _
 unfold wDI at h;split at h
 ·rename_i hgd;rw[bE (by simp[Region.wanted,hgd])];exact .inl (fin h k)
 rename_i j pol hgd;obtain⟨d,b,y,hd,hlt,hb,rfl,hs⟩:=h;have hlt':d<st.tmps.length:=by rw[hle.tmps.len];exact hlt
 have hget:∃ u,tmps[d]?=some u:=by
  have:=r.slots.1;exact⟨tmps[d]'(by omega),by simp[show d<tmps.size by omega]⟩
 obtain⟨u0,hu0⟩:=hget;have hx0:W.tmps[d]?=some (W.tmps.getD d .dead):=by simp[List.getD,hlt]
 obtain⟨hb1,hb2⟩:=lW ((r.weaken hle).slots.2 d u0 _ hu0 hx0) hb;have hy:yielded l.toArray tmps j=vV u0:=by
  have e1:∀ o:Option Value,o=some u0->(match o with|some (.bool b)=>some b|_=>none)=vV u0:=by
   rintro _ rfl;cases u0 <;> rfl
  unfold yielded;rw[show(l.toArray[j]?).bind (·.dst)=some d by simpa[kH]using hd];exact e1 _ hu0
 cases hbv:b with
 | true =>
  have hu:=hb1 hbv;subst hu;rw[bE (by simp[Region.wanted,hgd,hy,vV])];refine .inl (fin (hs hbv) fun u w' M' r' hv=>k u w' M' r' ?_);exact .when (fun _=>hv) (fun e=>by rw[hbv]at e;cases e)
 | false =>
  have hu:=hb2 hbv;rw[bD (by
   simp only[Region.wanted,hgd,hy];cases u0 with
   | bool t=>simp only[vV,dD,Option.some.injEq];rintro rfl;exact hu rfl
   | _=>simp[vV])]
  exact k undef w M r (.when (fun e=>by rw[hbv]at e;cases e) fun _=>rfl)
theorem qSH (hchk:wO l m tss=true) {k:Nat} (hk:m<=k) {listed:Array Bool} (hsz:listed.size=l.length) (hl:∀ j,j<l.length->listed.getD j false=decide (j<k)) :
  ∀ i,i∈Region.ready .any l.toArray listed->i=k:=by
 intro i hi;obtain⟨h0,o,ho,hall⟩:=mem_ready.1 hi;have ho':l[i]?=some o:=by simpa using ho
 have hil:i<l.length:=(bB.1 ho').1;have h0':listed.getD i false=false:=by
  have e1:i<listed.size:=by omega
  simp[e1]at h0 ⊢;exact h0
 rw[hl i hil]at h0';simp only[dZ]at h0';rcases Nat.lt_or_ge k i with h|h
 ·obtain⟨e,he,hb,hj⟩:=qBJ ((qAN hchk ho').1 (by omega) k h);have:=hall e he hb;rw[hj,hl k (by omega)]at this;simp at this
 omega
theorem zVM (hchk:wO l m tss=true) {R:Exit->Act->World->Prop}:∀ (n k:Nat) (fuel:Nat) (listed:Array Bool) (a:Act) (w:World),n=l.length-k->m<=k->k<=l.length->listed.size=l.length ->
  (∀ j,j<l.length->listed.getD j false=decide (j<k))->n<=fuel->wpList P l.toArray R (l.drop k) a w->wpAny P .any l.toArray R fuel listed a w:=by
 intro n;induction n with
 | zero =>
  intro k fuel listed a w hn hmk hkl hsz hl _ h;have hk:k=l.length:=by omega
  subst hk;refine wpAny_done ?_ (by simpa[wpList]using h) fuel;cases hr:Region.ready .any l.toArray listed with
  | nil=>rfl
  | cons i r =>
   have h1:i∈Region.ready .any l.toArray listed:=by rw[hr];simp
   have h2:=qSH hchk hmk hsz hl i h1;obtain⟨_,o,ho,_⟩:=mem_ready.1 h1;have ho':l[i]?=some o:=by simpa using ho
   have:=(bB.1 ho').1;omega
 | succ n ih =>
  intro k fuel listed a w hn hmk hkl hsz hl hf h;cases fuel with
  | zero=>omega
  | succ fuel =>
   have hkl':k<l.length:=by omega
   obtain⟨o,ho⟩:∃ o,l[k]?=some o:=⟨l[k],by simp[hkl']⟩;have hready:k∈Region.ready .any l.toArray listed:=by
    refine mem_ready.2 ⟨?_,o,by simpa using ho,fun e he hb => ?_⟩
    ·have:=hl k hkl';have e1:k<listed.size:=by omega
     simp[e1]at this ⊢;exact this
    have:=(qAN hchk ho).2 e he hb;rw[hl _ (by omega)];simpa using this
   refine⟨fun hr=>(by rw[hr]at hready;cases hready),fun i hi => ?_⟩;have hik:=qSH hchk hmk hsz hl i hi;subst hik;rw[cJ hkl',show l[i]=o from(bB.1 ho).2]at h;unfold wpOp;rw[show l.toArray[i]?=some o by simpa using ho];have hnext:∀ a' w',wpList P l.toArray R (l.drop (i+1)) a' w'->wpAny P .any l.toArray R fuel (listed.setIfInBounds i true) a' w':=fun a' w' h' =>
    ih (i+1) fuel _ a' w' (by omega) (by omega) (by omega) (by simp[hsz]) (fun j hj=>by
     by_cases hij:i=j
     ·subst hij;have:i<listed.size:=by omega
      simp[this]
     rw[getD_set_ne false hij,hl j hj];by_cases h1:j<i
     ·simp[h1,show j<i+1 by omega]
     simp[h1,show ¬ j<i+1 by omega]) (by omega) h'
   simp only[wpList]at h;show if Region.wanted o (yielded l.toArray a.tmps)=true then _ else _
   split
   ·rename_i hw;rw[bE hw]at h;exact h.imp (Oper.wp_mono hnext) fun h=>h
   rename_i hw;rw[bD hw]at h;exact hnext _ _ h
theorem qXM {p q:Nat->Bool} (h:∀ j,q j=true->p j=true):∀ ks:List Nat,(ks.filter q).length<=(ks.filter p).length
 | []=>by simp
 | k::ks=>by
  have ih:=qXM h ks;simp only[List.filter_cons];cases hq:q k with
  | true=>rw[h k hq];simp;exact ih
  | false=>cases p k <;> simp <;> omega
theorem qXL {p q:Nat->Bool} {i:Nat} (h:∀ j,q j=true->p j=true) (hp:p i=true) (hq:q i=false):∀ {ks:List Nat},i∈ks->(ks.filter q).length<(ks.filter p).length
 | k::ks,hm=>by
  simp only[List.filter_cons];have hle:=qXM h ks;rcases bM.1 hm with rfl|hm
  ·rw[hp,hq];simp;omega
  have ih:=qXL h hp hq hm;cases hqk:q k with
  | true=>rw[h k hqk];simp;exact ih
  | false=>cases p k <;> simp <;> omega
attribute [simp] qFV
end
mutual
def V.ren (i j:Nat):V->V
 | .ms k=>if k=i then .ms j else .ms k
 | .agg cs => .agg (lL i j cs)
 | .when b x => .when b (V.ren i j x)
 | .func f a b => .func f (lL i j a) (lL i j b)
 | .tuple cs => .tuple (lL i j cs)
 | .ptr k o=>if k=i then .ptr j o else .ptr k o
 | .rptr k n s o=>if k=i then .rptr j n s o else .rptr k n s o
 | .tl k n s=>if k=i then .tl j n s else .tl k n s
 | .it k=>if k=i then .it j else .it k
 | .p d => .p d
 | .dead => .dead
 | .nilsl => .nilsl
 | .cptr cs => .cptr cs
def lL (i j:Nat):List V->List V
 | []=>[]
 | x::xs=>V.ren i j x::lL i j xs
end
theorem lK (i j:Nat):∀ l,lL i j l=l.map (V.ren i j)
 | []=>by simp only[lL,bC]
 | x::xs=>by simp only[lL,bA,lK i j xs]
theorem RV.ren {M:qY} {μ:Mu} {i j:Nat} {u:Value} {x:V} (r:RV M μ u x):V.noRef j x=true->RV M (upd μ j (μ i)) u (x.ren i j):=by
 have same:∀ k,k≠j->upd μ j (μ i) k=μ k:=fun k h=>yM _ _ h;have got:upd μ j (μ i) j=μ i:=qK _ _ _;induction r with
 | p r=>intro _;simp only[V.ren];exact .p r
 | dead=>intro _;simp only[V.ren];exact .dead
 | nilsl=>intro _;simp only[V.ren];exact .nilsl
 | @ptr id off b h1 =>
  intro h;simp only[V.noRef,iJ,ne_eq]at h;simp only[V.ren];split
  ·rename_i e;subst e;exact .ptr (by rw[got];exact h1)
  exact .ptr (by rw[same _ h];exact h1)
 | @rptr id n sz off b h1 =>
  intro h;simp only[V.noRef,iJ,ne_eq]at h;simp only[V.ren];split
  ·rename_i e;subst e;exact .rptr (by rw[got];exact h1)
  exact .rptr (by rw[same _ h];exact h1)
 | @tl id n sz b l c h1 h2 h3 =>
  intro h;simp only[V.noRef,iJ,ne_eq]at h;simp only[V.ren];split
  ·rename_i e;subst e;exact .tl (by rw[got];exact h1) h2 h3
  exact .tl (by rw[same _ h];exact h1) h2 h3
 | cptr h1 h2=>intro _;simp only[V.ren];exact .cptr h1 h2
 | @ms u id h1 h2 =>
  intro h;simp only[V.noRef,iJ,ne_eq]at h;simp only[V.ren];split
  ·rename_i e;subst e;exact .ms (by rw[got];exact h1) h2
  exact .ms (by rw[same _ h];exact h1) h2
 | @it id b h1 =>
  intro h;simp only[V.noRef,iJ,ne_eq]at h;simp only[V.ren];split
  ·rename_i e;subst e;exact .it (by rw[got];exact h1)
  exact .it (by rw[same _ h];exact h1)
 | func h1 h2 _ _ ih1 ih2 =>
  intro h;simp only[V.noRef,bI]at h;simp only[V.ren,lK];refine .func (by simpa using h1) (by simpa using h2) (fun k u x hu hx => ?_) (fun k u x hu hx => ?_)
  ·rw[bG]at hx;obtain⟨y,hy,rfl⟩:=bF.1 hx;exact ih1 k u y hu hy (iQ h.1 hy)
  rw[bG]at hx;obtain⟨y,hy,rfl⟩:=bF.1 hx;exact ih2 k u y hu hy (iQ h.2 hy)
 | agg h1 h2 _ ih =>
  intro h;simp only[V.noRef]at h;simp only[V.ren,lK];refine .agg (by simpa using h1) h2 (fun k u x hu hx => ?_);rw[bG]at hx;obtain⟨y,hy,rfl⟩:=bF.1 hx;exact ih k u y hu hy (iQ h hy)
 | tuple h1 _ ih =>
  intro h;simp only[V.noRef]at h;simp only[V.ren,lK];refine .tuple (by simpa using h1) (fun k u x hu hx => ?_);rw[bG]at hx;obtain⟨y,hy,rfl⟩:=bF.1 hx;exact ih k u y hu hy (iQ h hy)
 | when _ h2 ih=>intro h;simp only[V.noRef]at h;simp only[V.ren];exact .when (fun hb=>ih hb h) h2
def Box.ren (i j:Nat):Box->Box
 | .vars e cs => .vars e (lL i j cs)
 | .row e sz es => .row e sz es
 | .iter s pos => .iter s pos
 | .mp ks vs => .mp ks (lL i j vs)
 | .mpx ks vs => .mpx ks (lL i j vs)
 | .obj b v o rs => .obj b v o (rs.map fun k=>if k=i then j else k)
 | .brow e bs => .brow e bs
 | .mach es en ss => .mach es en ss
 | .prow e ps => .prow e (lL i j ps)
def qQA (i j:Nat):List (Nat × Box)->List (Nat × Box)
 | []=>[]
 | (k,b)::r=>(if k=i then j else k,b.ren i j)::qQA i j r
theorem qSD {i j:Nat}:∀ {H:List (Nat × Box)} {k:Nat} {b:Box},(k,b)∈qQA i j H->∃ k' b',(k',b')∈H/\k=(if k'=i then j else k')/\b=b'.ren i j
 | (n,c)::r,k,b,h=>by
  simp only[qQA]at h;rcases bM.1 h with e|e
  ·cases e;exact⟨n,c,by simp,rfl,rfl⟩
  obtain⟨k',b',h1,h2,h3⟩:=qSD e;exact⟨k',b',bM.2 (.inr h1),h2,h3⟩
theorem qWE (i j:Nat):∀ H:List (Nat × Box),(qQA i j H).map (·.1)=(H.map (·.1)).map fun k=>if k=i then j else k
 | []=>rfl
 | (n,c)::r=>by simp[qQA,qWE i j r]
theorem RBox.ren {M:qY} {μ:Mu} {w:World} {i j k:Nat} {bx:Box} (r:RBox M μ w k bx) (hk:k≠j) (hno:bx.noRef j=true):RBox M (upd μ j (μ i)) w (if k=i then j else k) (bx.ren i j):=by
 have hloc:upd μ j (μ i) (if k=i then j else k)=μ k:=by
  split
  ·rename_i e;rw[qK,e]
  exact yM _ _ hk
 cases r with
 | mach h0 hv h1 h2 h3 h4 h5 hn h6=>exact .mach (by rw[hloc];exact h0) (by rw[hloc];exact hv) h1 h2 h3 h4 h5 (by rw[hloc];exact hn) (by rw[hloc];exact h6)
 | machN h0 hv h1=>exact .machN (by rw[hloc];exact h0) (by rw[hloc];exact hv) (by rw[hloc];exact h1)
 | vars h0 h1 h2 h3 h4 =>
  simp only[Box.ren,lK];refine .vars (by rw[hloc];exact h0) h1 (by simpa using h2) h3 fun n u x hu hx => ?_;rw[bG]at hx;obtain⟨y,hy,rfl⟩:=bF.1 hx;exact(h4 n u y hu hy).ren (iQ hno hy)
 | row h0 hv h1 h2 h3 h4 h5 h6 h7=>exact .row (by rw[hloc];exact h0) (by rw[hloc];exact hv) h1 h2 h3 h4 h5 h6 h7
 | rowN h0 hv=>exact .rowN (by rw[hloc];exact h0) (by rw[hloc];exact hv)
 | iter h0 h1 h2 h3=>exact .iter (by rw[hloc];exact h0) h1 h2 h3
 | obj h0 hv h1=>exact .obj (by rw[hloc];exact h0) (by rw[hloc];exact hv) h1
 | brow h0 hv h1 h2 h3 h4 h5 h6=>exact .brow (by rw[hloc];exact h0) (by rw[hloc];exact hv) h1 h2 h3 h4 h5 h6
 | prow h0 hv h1 h2 h3 h4 h5 h6 =>
  simp only[Box.ren,lK];refine .prow (by rw[hloc];exact h0) (by rw[hloc];simpa using hv) h1 h2 (by simpa using h3) h4 h5 fun n u x hu hx => ?_;rw[bG]at hx;obtain⟨y,hy,rfl⟩:=bF.1 hx;exact(h6 n u y hu hy).ren (iQ hno hy)
 | mpx h0 hv h1 hB hl h2 h3 =>
  simp only[Box.ren,lK];refine .mpx (by rw[hloc];exact h0) (by rw[hloc];exact hv) h1 hB (by simpa using hl) (fun e he => ?_) h3;obtain⟨i,ba,g1,g2,g3,g4⟩:=h2 e he;refine⟨i,ba,g1,g2,g3,fun x hx => ?_⟩;rw[bG]at hx;obtain⟨y,hy,rfl⟩:=bF.1 hx;exact(g4 y hy).ren (iQ hno hy)
 | mp h0 hv h1 hB h2 h3 h4 h5 =>
  simp only[Box.ren,lK];refine .mp (by rw[hloc];exact h0) (by rw[hloc];exact hv) h1 hB h2 (by simpa using h3) h4 fun n e x he hx => ?_;rw[bG]at hx;obtain⟨y,hy,rfl⟩:=bF.1 hx;exact(h5 n e y he hy).ren (iQ hno hy)
def St.ren (st:St) (i j:Nat):St:={ st with tmps:=lL i j st.tmps,pins:=st.pins.filter (· != i),H:=qQA i j st.H }
theorem Rel.ren {c:Ctx} {M:qY} {μ:Mu} {st:St} {tmps:Array Value} {w:World} (r:Rel c M μ st tmps w) {i j:Nat} (hf:st.fresh j=true):Rel c M (upd μ j (μ i)) (st.ren i j) tmps w:=by
 obtain⟨f1,f2,f3,f4⟩:=lE hf;have hne:∀ {k b},(k,b)∈st.H->k≠j:=fun {k b} h=>by rintro rfl;rw[qH.2 ⟨b,h⟩]at f4;cases f4
 have hloc:∀ k,k≠j->upd μ j (μ i) (if k=i then j else k)=μ k:=fun k hk=>by
  split
  ·rename_i e;rw[qK,e]
  exact yM _ _ hk
 have hinj:∀ k k',k≠j->k'≠j->(if k=i then j else k)=(if k'=i then j else k')->k=k':=by
  intro k k' h1 h2 h;split at h <;> split at h
  ·omega
  ·omega
  ·omega
  exact h
 have hkey:∀ {k},qM k (qQA i j st.H)=true->∃ k',qM k' st.H=true/\k'≠j/\k=(if k'=i then j else k'):=fun {k} h=>by
  obtain⟨b,hb⟩:=qH.1 h;obtain⟨k',b',h1,h2,_⟩:=qSD hb;exact⟨k',qH.2 ⟨b',h1⟩,hne h1,h2⟩
 refine⟨r.mem,r.ext,r.old,⟨by simp[St.ren,lK,r.slots.1],fun k u x hu hx => ?_⟩,fun k hk => ?_,fun k b hb => ?_, ?_,fun k k' b h1 h2 hb hb' => ?_,fun k b hk hb => ?_,r.size,r.below⟩
 ·simp only[St.ren,lK]at hx;rw[bG]at hx;obtain⟨y,hy,rfl⟩:=bF.1 hx;exact(r.slots.2 k u y hu hy).ren (iQ f1 hy)
 ·obtain⟨h1,h2⟩:=eN.1 hk;rw[yM _ _ (by rintro rfl;exact f2 h1)];exact r.pins k h1
 ·obtain⟨k',b',h1,rfl,rfl⟩:=qSD hb;exact(r.box k' b' h1).ren (hne h1) (vQ f3 h1)
 ·show((qQA i j st.H).map (·.1)).Nodup
  rw[qWE];refine List.Pairwise.map _ (R:=fun a b=>a≠b/\a≠j/\b≠j) (fun a b h e=>h.1 (hinj a b h.2.1 h.2.2 e)) ?_;have hn:∀ k∈st.H.map (·.1),k≠j:=fun k hk=>by
   obtain⟨⟨k',b⟩,h,rfl⟩:=cO.1 hk;exact hne h
  exact List.Pairwise.imp_of_mem (fun {a b} ha hb h=>⟨h,hn a ha,hn b hb⟩) r.nodup
 ·obtain⟨n,hn,hnj,rfl⟩:=hkey h1;obtain⟨n',hn',hnj',rfl⟩:=hkey h2;rw[hloc n hnj]at hb;rw[hloc n' hnj']at hb';rw[r.inj n n' b hn hn' hb hb']
 obtain⟨n,hn,hnj,rfl⟩:=hkey hk;rw[hloc n hnj]at hb;exact r.own n b hn hb
section
variable {P:Program} {G:qT} {Q:Exit->St->Prop} {st:St}
theorem AW.ren {c:Code} (i j:Nat) (hf:st.fresh j=true) (k:AW P G c Q (st.ren i j)):AW P G c Q st :=
 fun x M _ tmps w hg r=>k x M _ tmps w hg (r.ren hf)
theorem AW.kill {c:Code} (i:Nat) (k:AW P G c Q (st.kill i)):AW P G c Q st :=
 fun x M μ tmps w hg r=>k x M μ tmps w hg (r.kill i)
theorem AW.take {c:Code} (i j:Nat) (k:AW P G c Q ((st.kill j).ren i j)):AW P G c Q st :=
 AW.kill j (AW.ren i j (qCV st j) k)
@[simp] theorem zHM (i j:Nat):∀ ds,lL i j (zF ds)=zF ds
 | []=>by simp[zF,lL]
 | d::ds=>by
  have:=zHM i j ds;simp only[zF,bA,lL,V.ren]at this ⊢; rw[this]
@[simp] theorem qSP:∀ ds,lT (zF ds)=[]
 | []=>by simp[zF,lT]
 | d::ds=>by
  have:=qSP ds;simp only[zF,bA,lT,V.ids,dH]at this ⊢; exact this
def CX (G:qT) (st:St) (x:Operand) (args:List Operand) (f:FuncId) (xs:List V) (H:List (Nat × Box)) (r:V) (ps:List Nat) (H':List (Nat × Box)):Prop :=
 (st.arg G x).1/\qII (args.map fun y=>(st.arg G y).1)/\(match qIB (st.arg G x).2 (args.map fun y=>(st.arg G y).2)with
  | some (g,xs')=>g=f/\jM xs' xs
  | none=>False)/\qII (H.map fun p=>zS p.1 st.H=some p.2)/\(H.map (·.1)).Nodup/\(∀ i∈ps,i∈H.map (·.1))/\∀ i∈V.ids r++xR H',i∈ps\/(st.rest H ps).fresh i=true
theorem zI {o:Oper} {x:Operand} {args:Array Operand} {tys:Array TypeId} {f:FuncId} {xs:List V} {H:List (Nat × Box)} {r:V} {ps:List Nat} {H':List (Nat × Box)}
  (ho:o.op = .call { callee := .value x,args:=args,argTypes:=tys }) (hc:AX P G f xs H r ps H') (h:CX G st x args.toList f xs H r ps H'):Yields P G o st r { st.rest H ps with H:=H'++(st.rest H ps).H }:=by
 obtain⟨h1,h2,h3,h4,h5,h6,h7⟩:=h;split at h3
 ·rename_i g xs' hcal;obtain⟨rfl,h3⟩:=h3;exact zWN ho h1 hc h2 hcal h3 h4 h5 h6 h7
 exact h3.elim
attribute [simp] CX St.ren V.ren lL Box.ren qQA
end
section
variable {P:Program} {T:Tab} {G:qT}
def zMS (P:Program) (f:FuncId) (e:Array Value->Sem Value):Prop:=∀ args w,(callFunc f args).run P w=((e args).run P w).andThen fun v w' => .ok (.value v) w'
theorem zBL {o:Oper} {st:St} {x a b:Operand} {tys:Array TypeId} {f:FuncId} (he:zMS P f Extern.BytealgIndexByte.indexByte)
  (ho:o.op = .call { callee := .value x,args := #[a,b],argTypes:=tys }) {p q r:Prop} {s:List UInt8} {n:Int} (hf:st.arg G x=(p,.p (.fn f))) (hp:p)
  (ha:st.arg G a=(q,.p (.str s))) (hq:q) (hb:st.arg G b=(r,.p (.int .u8 n))) (hr:r):Yields P G o st (.p (.int .i64 (Lib.indexByte s n.toNat.toUInt8))) st:=by
 intro c M μ tmps w hg rel;have h1:=(qF hg rel hf hp).p_inv;have h2:=(qF hg rel ha hq).p_inv;have h3:=(qF hg rel hb hr).p_inv;generalize hu1:Act.eval ⟨tmps,[]⟩ x=u1 at h1;generalize hu2:Act.eval ⟨tmps,[]⟩ a=u2 at h2;generalize hu3:Act.eval ⟨tmps,[]⟩ b=u3 at h3;cases h1;cases h3;cases h2 with
 | @str bb _ hs hm =>
 have e:(execOp (Act.eval ⟨tmps,[]⟩) o).run P w = .ok (.value (.int .i64 (Lib.indexByte s n.toNat.toUInt8))) w:=by
  have e1:=he #[.string bb,.int .u8 n] w;rw[Lib.run_indexByteString]at e1;subst hs;simp only[execOp,ho,resolve,Deferred.ofValue,hu1,invoke];simpa[hu2,hu3]using e1
 rw[e];refine⟨M,μ,rel,.p (.int ?_ ?_)⟩
 ·have:=Lib.indexByte_ge s n.toNat.toUInt8;rw[xC];simp only[kS];omega
 rw[jI];simp only[kT];have hlt:∀ (l:List UInt8) (c:UInt8),Lib.indexByte l c<=l.length:=by
  intro l c;induction l with
  | nil=>simp[Lib.indexByte]
  | cons b l ih =>
   unfold Lib.indexByte;simp only[cA];split
   ·omega
   split
   ·omega
   omega
 have:=hlt s n.toNat.toUInt8;simp[maxLen]at hm;have:s.length<=9223372036854775807:=by omega
 omega
@[simp] theorem wEA:maxLen=9223372036854775807:=rfl
@[simp] theorem wHP (a:Array UInt8):(ByteArray.mk a).size=a.size:=rfl
@[simp] theorem wAG (d:PD) (ds:List PD):zF (d::ds) = .p d::zF ds:=rfl
@[simp] theorem zYD (ds:List PD):ds.map V.p=zF ds:=rfl
variable {Q:Exit->St->Prop} {st st1:St}
theorem zZ.all (hT:TOK P T) (orc:List PD) {l m:List Oper} {v:Know->Prop} (h:∀ C,jV C T G l m st orc=some (v C,st1)) (hv:v (kn P G)) (k:Q .normal st1):zZ P G l.toArray Q m st:=by
 have:=yK (Q:=Q) hT l m [] st orc _ st1 (h (kn P G)) hv (zZ.nil k);rw[cR]at this;exact this
theorem AW.join {a b:Code} {α:Type} (I:α->Prop) (S:α->St) (ha:AW P G a (andThen (fun s=>∃ x,I x/\St.Le s (S x)) Q) st) (hb:∀ x,I x->AW P G b Q (S x)):AW P G (.seq a b) Q st:=by
 refine AW.seq (ha.mono fun e s h => ?_);cases e with
 | normal =>
  obtain⟨x,hx,hle⟩:=h;exact(hb x hx).weaken hle
 | _=>exact h
end
section
variable {P:Program} {T:Tab} {G:qT}
theorem zIL {c:Ctx} {M:qY} {μ:Mu} {st:St} {tmps:Array Value} {w:World} (rel:Rel c M μ st tmps w) {H:List (Nat × Box)} (hbox:∀ id bx,(id,bx)∈H->(id,bx)∈st.H)
  {ps news:List Nat} {H':List (Nat × Box)} {x:V} (hps:∀ i,qM i H'=true->i∈H.map (·.1)\/i∈news) (hids:∀ i∈V.ids x++xR H',i∈ps\/i∈news)
  (hnews:∀ i∈news,({ st with H:=zN (H.map (·.1)) st.H }:St).fresh i=true) {M':qY} {μ':Mu} {w':World} {u:Value} {tm:List V} {qs:List Nat} {b':Nat} {tms:Array Value}
  (hpin:∀ i∈ps,(μ' i).at=(μ i).at) (r':Rel ⟨w.heap.size,w,M,μ,yI μ H⟩ M' μ' ⟨tm,qs,H',b'⟩ tms w') (hu:RV M' μ' u x) :
  ∃ μ'',Rel c M' μ'' { st with H:=H'++zN (H.map (·.1)) st.H } tmps w'/\RV M' μ'' u x:=by
 have hkey:∀ id,qM id H=true->qM id st.H=true:=fun id h=>by
  obtain⟨b,hb⟩:=qH.1 h;exact qH.2 ⟨b,hbox _ _ hb⟩
 have hlent:∀ b,yI μ H b->c.mine b/\b<w.heap.size:=fun b ⟨id,h1,h2⟩=>by
  have:=rel.own id b (hkey id h1) h2;exact⟨this.1,this.2.1⟩
 generalize hR:({ st with H:=zN (H.map (·.1)) st.H }:St)=R at hnews;have relR:Rel c M μ R tmps w:=by
  rw[<-hR];exact rel.weaken ⟨jM.refl _,rfl,fun p hp=>(kN hp).2,(List.Sublist.map _ (qBK _ _)).nodup rel.nodup⟩
 have hRkey:∀ i,qM i R.H=true->qM i H=false/\qM i st.H=true:=by
  intro i hi;rw[<-hR]at hi;obtain⟨b,hb⟩:=qH.1 hi;have h1:=kN hb;refine⟨?_,qH.2 ⟨b,h1.2⟩⟩;cases hk:qM i H with
  | false=>rfl
  | true=>exact(h1.1 (wH.1 hk)).elim
 have hRblk:∀ i b,qM i R.H=true->(μ i).has b->b<w.heap.size/\¬ (w.heap.size<=b\/yI μ H b):=by
  intro i b hi hb;have h1:=hRkey i hi;have h2:=(rel.own i b h1.2 hb).2.1;refine⟨h2,fun h=>h.elim (fun h=>by omega) fun⟨j,hj,hjb⟩ => ?_⟩;have:=rel.inj i j b h1.2 (hkey j hj) hb hjb;subst this;rw[h1.1]at hj;cases hj
 let μ'':Mu:=fun i=>if(news.contains i || qM i H')=true then μ' i else μ i
 have hnn:∀ i,R.fresh i=false->news.contains i=false:=fun i h=>by
  cases hc:news.contains i with
  | false=>rfl
  | true =>
   have:=hnews i (by simpa using hc);rw[h]at this;cases this
 have hold:∀ i,R.fresh i=false->(μ'' i).at=(μ i).at:=fun i h=>by
  show(if(news.contains i || qM i H')=true then μ' i else μ i).at=(μ i).at
  rw[hnn i h];split
  ·rename_i hk;rcases hids i (bL.2 (.inr (qCU (by simpa using hk))))with h1|h1
   ·exact hpin i h1
   have:=hnews i h1;rw[h]at this;cases this
  rfl
 have hnew:∀ i,(i∈ps\/i∈news)->(μ'' i).at=(μ' i).at:=by
  intro i h;show(if(news.contains i || qM i H')=true then μ' i else μ i).at=(μ' i).at
  split
  ·rfl
  rename_i hf;exact(hpin i (h.resolve_right fun e=>hf (by simp[e]))).symm
 have hnew2:∀ i,i∈V.ids x++xR H'->(μ'' i).at=(μ' i).at:=fun i h=>hnew i (hids i h);have fr1:∀ i,iO i R.tmps=false->R.fresh i=false:=fun i h=>by simp only[St.fresh,h,gH]
 have fr2:∀ i,kX i R.H=false->R.fresh i=false:=fun i h=>by simp only[St.fresh,h,gH,fA]
 have fr3:∀ i,qM i R.H=true->R.fresh i=false:=fun i h=>by simp only[St.fresh,h,Bool.not_true,fA]
 have fr4:∀ i,i∈R.pins->R.fresh i=false:=fun i h=>by simp[St.fresh,h]
 have hkH':∀ i,qM i H'=true->μ'' i=μ' i:=fun i h=>bE (by rw[h];simp);have hdis:∀ i,qM i H'=true->qM i R.H=true->False:=by
  intro i h1 h2;rcases hps i h1 with h|h
  ·have:=wH.2 h;rw[(hRkey i h2).1]at this;cases this
  have:=hnews i h;rw[fr3 i h2]at this;cases this
 have hkR:∀ i,qM i R.H=true->μ'' i=μ i:=fun i h=>bD (by
  rw[hnn i (fr3 i h)];cases hk:qM i H' with
  | false=>simp
  | true=>exact(hdis i hk h).elim)
 have hH'blk:∀ i b,qM i H'=true->(μ' i).has b->(w.heap.size<=b\/yI μ H b):=fun i b hi hb=>(r'.own i b hi hb).1;have hkeyApp:∀ i,qM i (H'++R.H)=true->qM i H'=true\/qM i R.H=true:=by
  intro i h;obtain⟨b,hb⟩:=qH.1 h;rcases bL.1 hb with h|h
  ·exact .inl (qH.2 ⟨b,h⟩)
  exact .inr (qH.2 ⟨b,h⟩)
 have hrr:RV M' μ'' u x:=hu.mono (fun _ _ _ h=>h) fun i hi=>hnew2 i (bL.2 (.inl (V.ids_of x hi)));have hfin:Rel c M' μ'' { R with H:=H'++R.H } tmps w':=by
  refine⟨r'.mem,fun b o v hv=>r'.ext b o v (rel.ext b o v hv),fun b o hb => ?_, ?_,fun i hi => ?_,fun i bx hi => ?_, ?_,fun i j b hi hj hib hjb => ?_,fun i b hi hib => ?_,dB rel.size r'.size, ?_⟩
  ·have h1:¬ (w.heap.size<=b\/yI μ H b):=fun h=>h.elim (fun h=>hb (.inl (dB rel.size h))) fun h=>hb (hlent b h).1;exact(r'.old b o h1).trans (rel.old b o hb)
  ·exact relR.slots.mono r'.ext fun i hi=>hold i (fr1 i hi)
  ·exact(hold i (fr4 i hi)).trans (relR.pins i hi)
  ·rcases bL.1 hi with h|h
   ·exact(r'.box i bx h).mono (fun _ _ _ h=>h) (hkH' i (qH.2 ⟨bx,h⟩)) (fun j hj=>hnew2 j (bL.2 (.inr (qME h j (Box.ids_of hj))))) fun _ _=>rfl
   have hk:=qH.2 ⟨bx,h⟩;refine(relR.box i bx h).mono r'.ext (hkR i hk) (fun j hj=>hold j (fr2 j ?_)) fun b hb => ?_
   ·cases hn:kX j R.H with
    | false=>rfl
    | true=>rw[vQ hn h]at hj;cases hj
   exact r'.below.block b (hRblk i b hk hb).2
  ·rw[fW,gS];refine⟨r'.nodup,relR.nodup,fun i h1 j h2 => ?_⟩;rintro rfl;exact hdis _ (wH.2 h1) (wH.2 h2)
  ·rcases hkeyApp i hi with h1|h1 <;> rcases hkeyApp j hj with h2|h2
   ·rw[hkH' i h1]at hib;rw[hkH' j h2]at hjb;exact r'.inj i j b h1 h2 hib hjb
   ·rw[hkH' i h1]at hib;rw[hkR j h2]at hjb;exact((hRblk j b h2 hjb).2 (hH'blk i b h1 hib)).elim
   ·rw[hkR i h1]at hib;rw[hkH' j h2]at hjb;exact((hRblk i b h1 hib).2 (hH'blk j b h2 hjb)).elim
   rw[hkR i h1]at hib;rw[hkR j h2]at hjb;exact relR.inj i j b h1 h2 hib hjb
  ·rcases hkeyApp i hi with h1|h1
   ·rw[hkH' i h1]at hib;obtain⟨h2,h3,h4⟩:=r'.own i b h1 hib;exact⟨h2.elim (fun h => .inl (dB rel.size h)) fun h=>(hlent b h).1,h3,h4⟩
   rw[hkR i h1]at hib;obtain⟨h2,h3,h4⟩:=relR.own i b h1 hib;exact⟨h2,dR h3 r'.below.size,fun o=>(r'.old b o (hRblk i b h1 hib).2).trans (h4 o)⟩
  refine rel.below.trans ⟨r'.below.os,r'.below.tape,r'.below.output,r'.below.size,fun k hk=>r'.below.block k ?_⟩;exact fun h=>h.elim (fun h=>hk (.inl (dB rel.size h))) fun h=>hk (hlent k h).1
 rw[<-hR]at hfin;exact⟨μ'',hfin,hrr⟩
def unp:PD->V
 | .agg ds => .agg (zF ds)
 | d => .p d
theorem zWU (d:PD):V.ids (unp d)=[]:=by
 cases d <;> simp only[unp,V.ids,qSP]
def zAT (C:Know) (G:qT) (st:St) (o:Oper) (orc:List PD):Option (Prop × V × St × List PD) :=
 match o.op,orc,st.H with
 | .call { callee := .value x,args:=args,argTypes:=_ },.ref ds::r::orc',[(k,.vars e cs)] =>
  match qIB (st.arg G x).2 (args.toList.map fun y=>(st.arg G y).2)with
  | some (f,xs)=>some ((st.arg G x).1/\qII (args.toList.map fun y=>(st.arg G y).1)/\C.bx f xs [(k,.vars e cs)] (unp r) [k] [(k,.vars e (zF ds))],unp r,{ st with H:=[(k,.vars e (zF ds))] },orc')
  | none=>none
 | _,_,_=>none
theorem oC:∀ l,jM l l
 | []=>trivial
 | x::l=>⟨.refl x,oC l⟩
theorem zAS {st s':St} {o:Oper} {orc orc':List PD} {v:Prop} {x:V} (h:zAT (kn P G) G st o orc=some (v,x,s',orc')) (hv:v):Yields P G o st x s':=by
 unfold zAT at h;split at h
 ·rename_i op' orc0 H0 y args tys ds r orc1 k e cs ho hH;split at h
  ·rename_i f xs hcal;simp only[Option.some.injEq,Prod.mk.injEq]at h;obtain⟨rfl,rfl,rfl,rfl⟩:=h;obtain⟨h1,h2,h3⟩:=hv;have hy:=zI (P:=P) (G:=G) (o:=o) (st:=st) (x:=y) (args:=args) (tys:=tys) ho h3 ⟨h1,h2,by rw[hcal];exact⟨rfl,oC _⟩,by simp[qII,hH,zS],by simp,fun i hi=>by simpa using hi,fun i hi=>by
    left
    simpa[zWU,xR,Box.ids]using hi⟩
   have e1:({ st.rest [(k,.vars e cs)] [k]with H:=[(k,.vars e (zF ds))]++(st.rest [(k,.vars e cs)] [k]).H }:St)={ st with H:=[(k,.vars e (zF ds))] }:=by
    simp[St.rest,St.killAll,hH,zN]
   rw[e1]at hy;exact hy
  cases h
 cases h
def qZR (C:Know) (T:Tab) (G:qT) (st:St) (o:Oper) (orc:List PD):Option (Prop × V × St × List PD) :=
 match qDK G st o.op with
 | none=>none
 | some s=>match qDH C T G s o.op orc with
  | some (v,x,orc')=>some (v,x,s,orc')
  | none=>match qPP C T G s o orc with
   | some (v,x,s',orc')=>match x with
    | .ms i=>if i=qFY s o.dst then some (v,x,s',orc') else some (v/\s'.fresh (qFY s o.dst)=true,.ms (qFY s o.dst),s'.ren i (qFY s o.dst),orc')
    | _=>some (v,x,s',orc')
   | none=>none
theorem qZQ (hT:TOK P T) {st s':St} {o:Oper} {orc orc':List PD} {v:Prop} {x:V} (h:qZR (kn P G) T G st o orc=some (v,x,s',orc')) (hv:v):Yields P G o st x s':=by
 unfold qZR at h;split at h
 ·cases h
 rename_i s hpre;have pre:∀ {y:V} {t:St},Yields P G o s y t->Yields P G o st y t:=fun k c M μ tmps w hg r=>by
  obtain⟨M1,r1⟩:=qJJ r hpre;exact k c M1 μ tmps w hg r1
 split at h
 ·rename_i hs;simp only[Option.some.injEq,Prod.mk.injEq]at h;obtain⟨rfl,rfl,rfl,rfl⟩:=h;exact pre (vC hT hs hv)
 split at h
 ·rename_i v0 x0 s0 orc0 hs;split at h
  ·rename_i i;split at h
   ·simp only[Option.some.injEq,Prod.mk.injEq]at h;obtain⟨rfl,rfl,rfl,rfl⟩:=h;exact pre (xL hT hs hv)
   rename_i hij;simp only[Option.some.injEq,Prod.mk.injEq]at h;obtain⟨rfl,rfl,rfl,rfl⟩:=h;refine pre fun c M μ tmps w hg r => ?_;have:=xL hT hs hv.1 c M μ tmps w hg r;generalize (execOp (Act.eval ⟨tmps,[]⟩) o).run P w=res at this;have key:∀ u w',(∃ M' μ',Rel c M' μ' s0 tmps w'/\RV M' μ' u (.ms i))->∃ M' μ',Rel c M' μ' (s0.ren i (qFY s o.dst)) tmps w'/\RV M' μ' u (.ms (qFY s o.dst)):=by
    rintro u w' ⟨M',μ',r',hu⟩;refine⟨M',_,r'.ren hv.2, ?_⟩;have:=hu.ren (i:=i) (j:=qFY s o.dst) (by simpa[V.noRef]using hij);simpa[V.ren]using this
   cases res with
   | halt _ _=>exact this.elim
   | ok nx w' =>
    cases nx <;> simp only[zJU]at this ⊢
    case value u=>exact key _ _ this
    case skip=>exact key _ _ this
    case enter f args=>exact this.mono fun e w'' ⟨u,he,hk⟩=>⟨u,he,key _ _ hk⟩
  simp only[Option.some.injEq,Prod.mk.injEq]at h;obtain⟨rfl,rfl,rfl,rfl⟩:=h;exact pre (xL hT hs hv)
 cases h
def zKY (C:Know) (T:Tab) (G:qT) (st:St) (o:Oper) (orc:List PD):Option (Prop × V × St × List PD) :=
 match zAT C G st o orc with
 | some r=>some r
 | none=>qZR C T G st o orc
theorem zDK (hT:TOK P T) {st s':St} {o:Oper} {orc orc':List PD} {v:Prop} {x:V} (h:zKY (kn P G) T G st o orc=some (v,x,s',orc')) (hv:v):Yields P G o st x s':=by
 unfold zKY at h;split at h
 ·rename_i r hs;cases h;exact zAS hs hv
 exact qZQ hT h hv
def xI (ks:List Nat):List (Nat × Box)->List (Nat × Box)
 | []=>[]
 | (i,b)::r=>if ks.contains i then(i,b)::xI ks r else xI ks r
theorem jH (ks:List Nat):∀ H:List (Nat × Box),(xI ks H).Sublist H
 | [] => .slnil
 | (k,c)::r=>by
  simp only[xI];split
  ·exact(jH ks r).cons_cons _
  exact(jH ks r).cons _
theorem qLO {ks:List Nat} {H:List (Nat × Box)} {p:Nat × Box} (h:p∈xI ks H):p∈H:=(jH ks H).mem h
theorem jJ {ks:List Nat}:∀ {H:List (Nat × Box)} {p:Nat × Box},p∈zN ks H↔p∈H/\p.1 ∉ ks
 | [],p=>by simp[zN]
 | (k,c)::r,p=>by
  simp only[zN];split
  ·rename_i hk;rw[jJ,bM];constructor
   ·rintro⟨h1,h2⟩;exact⟨.inr h1,h2⟩
   rintro⟨h1|h1,h2⟩
   ·subst h1;exact(h2 (by simpa using hk)).elim
   exact⟨h1,h2⟩
  rename_i hk;rw[bM,bM,jJ];constructor
  ·rintro(h|⟨h1,h2⟩)
   ·subst h;exact⟨.inl rfl,by simpa using hk⟩
   exact⟨.inr h1,h2⟩
  rintro⟨h1|h1,h2⟩
  ·exact .inl h1
  exact .inr ⟨h1,h2⟩
structure Sm where
 x:V
 H:List (Nat × Box)
 H':List (Nat × Box)
 ps:List Nat
 new:List Nat
 q:Bool
def Sm.foot (s:Sm):List Nat:=s.H.map (·.1)++s.H'.map (·.1)
def Sm.tch (s:Sm):List Nat:=if s.q then[] else s.foot
def Sm.refs (s:Sm):List Nat:=V.ids s.x++xR s.H'++s.H.map (·.1)
def Sm.sum (s:Sm):List Nat × List Nat × List Nat × List Nat:=(s.foot,s.tch,s.new,s.refs)
def Sm.good (s:Sm):Prop:=qII ((V.ids s.x++xR s.H').map fun i=>i∈s.ps\/i∈s.new)
def qCL (C:Know) (T:Tab) (G:qT) (st:St) (op:Op) (orc:List PD):Option (Prop × V × List PD) :=
 match qSK T G st op orc with
 | some r=>some r
 | none=>match qFE T G st op orc with
  | some r=>some r
  | none=>match st.H with
   | []=>qOJ C T G st op orc
   | _::_=>none
theorem qSJ (hT:TOK P T) {st:St} {o:Oper} {orc orc':List PD} {v:Prop} {x:V} (h:qCL (kn P G) T G st o.op orc=some (v,x,orc')) (hv:v):Yields P G o st x st:=by
 unfold qCL at h;split at h
 ·rename_i hr;cases h;exact qLM hT hr hv
 split at h
 ·rename_i hr;cases h;exact qUE hT hr hv
 split at h
 ·exact qMP h hv
 cases h
def St.small (st:St) (ts:List Nat):St :=
 let H:=xI (ts.flatMap fun t=>V.ids (st.tmps.getD t .dead)) st.H
 ⟨wS st.tmps ts,H.map (·.1)++xR H,H,st.base⟩
def St.cutS (G:qT) (st:St) (o:Oper):St :=
 match st.H with
 | [_]=>st
 | _=>match o.op with
  | .store _ a _=>match (st.arg G a).2 with
   | .ptr bid _=>{ st with H:=xI [bid] st.H }
   | _=>st
  | _=>st
theorem oP (G:qT) (st:St) (o:Oper):∃ H,st.cutS G o={ st with H:=H }/\H.Sublist st.H:=by
 unfold St.cutS;split
 ·exact⟨_,rfl,List.Sublist.refl _⟩
 split
 ·split
  ·exact⟨_,rfl,jH _ _⟩
  exact⟨_,rfl,List.Sublist.refl _⟩
 exact⟨_,rfl,List.Sublist.refl _⟩
attribute [simp] St.cutS
def zTL (H H':List (Nat × Box)) (n:Nat):Prop:=qII (H'.map fun p=>p.1∈H.map (·.1)\/p.1=n)
def qGC (C:Know) (T:Tab) (G:qT) (st0 small:St) (o:Oper) (orc:List PD):Option (Prop × Sm × List PD) :=
 match qCL C T G small o.op orc with
 | some (v,x,orc') =>
  let s:Sm:=⟨x,small.H,small.H,small.pins,[],true⟩
  some (v/\s.good,s,orc')
 | none=>match zKY C T G (small.cutS G o) o orc with
  | some (v,x,s',orc') =>
   let s:Sm:=⟨x,(small.cutS G o).H,s'.H,s'.pins,[qFY small o.dst],false⟩
   some (v/\s.good/\zTL (small.cutS G o).H s'.H (qFY small o.dst)/\st0.fresh (qFY small o.dst)=true,s,orc')
  | none=>none
def St.after (st:St) (dst:Option Nat) (s:Sm):St:={ st.put dst s.x with H:=s.H'++zN (s.H.map (·.1)) st.H }
def yL (C:Know) (T:Tab) (G:qT) (ops:List Oper) (st0:St):List Oper->List (List Nat)->St->List PD->Option (Prop × List Sm × St)
 | [],_,st,_=>some ((st.H.map (·.1)).Nodup,[],st)
 | _::_,[],_,_=>none
 | o::rest,ts::tss,st,orc=>match o.guard with
  | none=>match qGC C T G st0 (st.small ts) o orc with
   | some (v,s,orc')=>match yL C T G ops st0 rest tss (st.after o.dst s) orc' with
    | some (vs,l,st2)=>some ((st.H.map (·.1)).Nodup/\v/\vs,s::l,st2)
    | none=>none
   | none=>none
  | some (j,pol)=>match (ops[j]?).bind (·.dst)with
   | none=>none
   | some d=>match iZ pol (st.tmps.getD d .dead)with
    | none=>none
    | some b=>match qCL C T G (st.small ts) o.op orc with
     | some (v,x,orc') =>
      let s:Sm:=⟨.when b x,(st.small ts).H,(st.small ts).H,(st.small ts).pins,[],true⟩
      match yL C T G ops st0 rest tss (st.after o.dst s) orc' with
      | some (vs,l,st2)=>some ((st.H.map (·.1)).Nodup/\d<st.tmps.length/\(b=true->v)/\s.good/\vs,s::l,st2)
      | none=>none
     | none=>match b with
      | true=>match qGC C T G st0 (st.small ts) o orc with
       | some (v,s,orc')=>match yL C T G ops st0 rest tss (st.after o.dst { s with x := .when true s.x }) orc' with
        | some (vs,l,st2)=>some ((st.H.map (·.1)).Nodup/\d<st.tmps.length/\v/\vs,{ s with x := .when true s.x }::l,st2)
        | none=>none
       | none=>none
      | false =>
       let s:Sm:=⟨.when false (.p (.bool false)),[],[],[],[],true⟩
       match yL C T G ops st0 rest tss (st.after o.dst s) orc with
       | some (vs,l,st2)=>some ((st.H.map (·.1)).Nodup/\d<st.tmps.length/\vs,s::l,st2)
       | none=>none
theorem qTE:∀ {H:List (Nat × Box)},(H.map (·.1)).Nodup->∀ {a b:Nat × Box},a∈H->b∈H->a.1=b.1->a=b
 | [],_,a,b,ha,_,_=>by cases ha
 | e::r,hn,a,b,ha,hb,hab=>by
  simp only[bA,fG]at hn;rcases bM.1 ha with h1|h1 <;> rcases bM.1 hb with h2|h2
  ·rw[h1,h2]
  ·exact(hn.1 (cO.2 ⟨b,h2,by rw[<-hab,h1]⟩)).elim
  ·exact(hn.1 (cO.2 ⟨a,h1,by rw[hab,h2]⟩)).elim
  exact qTE hn.2 h1 h2 hab
def zMT (P:Program) (G:qT) (l:List Oper) (i:Nat) (o:Oper) (tm:List V) (s:Sm):Prop :=
 ∀ (c:Ctx) (M:qY) (μ:Mu) (st:St) (tmps:Array Value) (w:World) (R:Exit->Act->World->Prop) (K:Act->World->Prop),qAD G c->Rel c M μ st tmps w->jM st.tmps tm->(∀ id bx,(id,bx)∈s.H->(id,bx)∈st.H) ->
  (∀ n∈s.new,({ st with H:=zN (s.H.map (·.1)) st.H }:St).fresh n=true) ->
  (∀ u w' M' μ' H2,Rel c M' μ' { st with H:=H2 } tmps w'->RV M' μ' u s.x->(∀ p,p∈H2↔p∈s.H'\/(p∈st.H/\p.1 ∉ s.H.map (·.1)))->K (Act.put ⟨tmps,[]⟩ o.dst u) w')->wpOp P l.toArray R i K ⟨tmps,[]⟩ w
theorem qAI {o:Oper} {small s':St} {x:V} {s:Sm} (hsx:s.H=small.H) (hsn:(small.H.map (·.1)).Nodup) (h2:s.H'=s'.H) (hps:∀ i∈s.ps,i∈s'.pins) (hky:∀ i,qM i s.H'=true->i∈s.H.map (·.1)\/i∈s.new)
  (hgood:∀ i∈V.ids x++xR s.H',i∈s.ps\/i∈s.new) (y:Yields P G o small x s') (c:Ctx) (M:qY) (μ:Mu) (st:St) (tmps:Array Value) (w:World) (R:Exit->Act->World->Prop) (K:Act->World->Prop) (hg:qAD G c) (rel:Rel c M μ st tmps w)
  (hle:jM st.tmps small.tmps) (hbox:∀ id bx,(id,bx)∈s.H->(id,bx)∈st.H) (hnew:∀ n∈s.new,({ st with H:=zN (s.H.map (·.1)) st.H }:St).fresh n=true)
  (k:∀ u w' M' μ' H2,Rel c M' μ' { st with H:=H2 } tmps w'->RV M' μ' u x->(∀ p,p∈H2↔p∈s.H'\/(p∈st.H/\p.1 ∉ s.H.map (·.1)))->K (Act.put ⟨tmps,[]⟩ o.dst u) w'):o.wp P ⟨tmps,[]⟩ w K R:=by
 have hkey:∀ id,qM id small.H=true->qM id st.H=true:=fun id h=>by
  obtain⟨b,hb⟩:=qH.1 h;exact qH.2 ⟨b,hbox _ _ (hsx ▸ hb)⟩
 have hin:Rel ⟨w.heap.size,w,M,μ,yI μ small.H⟩ M μ small tmps w :=
  ⟨rel.mem,fun _ _ _ h=>h,fun _ _ _=>rfl,rel.slots.weaken hle,fun _ _=>rfl,fun id bx h=>rel.box id bx (hbox id bx (hsx ▸ h)),hsn,fun i j b hi hj=>rel.inj i j b (hkey i hi) (hkey j hj),
   fun id b h hb=>⟨.inr ⟨id,h,hb⟩,(rel.own id b (hkey id h) hb).2⟩,bP _,Kept.refl _ _⟩
 refine xG (y _ M μ tmps w ((hg.go rel).ctxL μ (yI μ small.H) (fun b hb o=>by obtain⟨id,h1,h2⟩:=hb;exact(hin.own id b h1 h2).2.2 o)) hin) ?_;rintro u w' ⟨M',μ',r',hu⟩;obtain⟨μ'',r'',hu''⟩:=zIL rel (H:=s.H) hbox (ps:=s.ps) (news:=s.new) (H':=s.H') (x:=x) hky hgood hnew (fun i hi=>r'.pins i (hps i hi)) (by rw[h2,hsx];exact(show Rel _ M' μ' ⟨s'.tmps,s'.pins,s'.H,s'.base⟩ tmps w' from r')) hu;exact k u w' M' μ'' _ r'' hu'' fun p=>by rw[bL,jJ]
theorem qPN {l:List Oper} {i:Nat} {o:Oper} {tm:List V} {s:Sm} (ho:l[i]?=some o) (hgd:o.guard=none)
  (h:∀ c M μ st tmps w R K,qAD G c->Rel c M μ st tmps w->jM st.tmps tm->(∀ id bx,(id,bx)∈s.H->(id,bx)∈st.H)->(∀ n∈s.new,({ st with H:=zN (s.H.map (·.1)) st.H }:St).fresh n=true) ->
   (∀ u w' M' μ' H2,Rel c M' μ' { st with H:=H2 } tmps w'->RV M' μ' u s.x->(∀ p,p∈H2↔p∈s.H'\/(p∈st.H/\p.1 ∉ s.H.map (·.1)))->K (Act.put ⟨tmps,[]⟩ o.dst u) w')->o.wp P ⟨tmps,[]⟩ w K R):zMT P G l i o tm s:=by
 intro c M μ st tmps w R K hg rel hle hbox hnew k;unfold wpOp;rw[show l.toArray[i]?=some o by simpa using ho];show if Region.wanted o (yielded l.toArray tmps)=true then _ else _
 rw[bE (by simp[Region.wanted,hgd])];exact .inl (h c M μ st tmps w R K hg rel hle hbox hnew k)
theorem qHR {l:List Oper} {i j d:Nat} {pol b:Bool} {o:Oper} {tm:List V} {s:Sm} {y:V} (ho:l[i]?=some o) (hgd:o.guard=some (j,pol)) (hd:kH l j=some d) (hlt:d<tm.length)
  (hb:iZ pol (tm.getD d .dead)=some b) (hx:s.x = .when b y) (hno:b=false->(s.H'=s.H))
  (h:b=true->∀ c M μ st tmps w R K,qAD G c->Rel c M μ st tmps w->jM st.tmps tm->(∀ id bx,(id,bx)∈s.H->(id,bx)∈st.H)->(∀ n∈s.new,({ st with H:=zN (s.H.map (·.1)) st.H }:St).fresh n=true) ->
   (∀ u w' M' μ' H2,Rel c M' μ' { st with H:=H2 } tmps w'->RV M' μ' u y->(∀ p,p∈H2↔p∈s.H'\/(p∈st.H/\p.1 ∉ s.H.map (·.1)))->K (Act.put ⟨tmps,[]⟩ o.dst u) w')->o.wp P ⟨tmps,[]⟩ w K R):zMT P G l i o tm s:=by
 intro c M μ st tmps w R K hg rel hle hbox hnew k;unfold wpOp;rw[show l.toArray[i]?=some o by simpa using ho];show if Region.wanted o (yielded l.toArray tmps)=true then _ else _
 have hlt':d<st.tmps.length:=by rw[hle.len];exact hlt
 have hget:∃ u,tmps[d]?=some u:=by
  have:=rel.slots.1;exact⟨tmps[d]'(by omega),by simp[show d<tmps.size by omega]⟩
 obtain⟨u0,hu0⟩:=hget;have hx0:tm[d]?=some (tm.getD d .dead):=by simp[List.getD,hlt]
 obtain⟨hb1,hb2⟩:=lW ((rel.slots.weaken hle).2 d u0 _ hu0 hx0) hb;have hy:yielded l.toArray tmps j=vV u0:=by
  have e1:∀ o:Option Value,o=some u0->(match o with|some (.bool b)=>some b|_=>none)=vV u0:=by
   rintro _ rfl;cases u0 <;> rfl
  unfold yielded;rw[show(l.toArray[j]?).bind (·.dst)=some d by simpa[kH]using hd];exact e1 _ hu0
 cases hbv:b with
 | true =>
  have hu:=hb1 hbv;subst hu;rw[bE (by simp[Region.wanted,hgd,hy,vV])];refine .inl (h hbv c M μ st tmps w R K hg rel hle hbox hnew fun u w' M' μ' H2 r' hv hm=>k u w' M' μ' H2 r' ?_ hm);rw[hx];exact .when (fun _=>hv) (fun e=>by rw[hbv]at e;cases e)
 | false =>
  have hu:=hb2 hbv;rw[bD (by
   simp only[Region.wanted,hgd,hy];cases u0 with
   | bool t=>simp only[vV,dD,Option.some.injEq];rintro rfl;exact hu rfl
   | _=>simp[vV])]
  refine k undef w M μ st.H rel ?_ fun p => ?_
  ·rw[hx];exact .when (fun e=>by rw[hbv]at e;cases e) fun _=>rfl
  rw[hno hbv];constructor
  ·intro hp;by_cases hk:p.1∈s.H.map (·.1)
   ·obtain⟨q,hq,hqe⟩:=cO.1 hk;have h1:=hbox q.1 q.2 hq;have:q=p:=by
     have hn:=rel.nodup;exact qTE hn h1 hp hqe
    exact .inl (this ▸ hq)
   exact .inr ⟨hp,hk⟩
  rintro(hp|⟨hp,_⟩)
  ·exact hbox p.1 p.2 hp
  exact hp
end
def zQM (l:List Oper):Nat->Nat->Nat->Bool
 | 0,_,_=>false
 | f+1,i,k=>match l[i]? with
  | none=>false
  | some o=>xD o k || (List.range i).any fun j=>xD o j && zQM l f j k
inductive Anc (l:List Oper):Nat->Nat->Prop
 | edge {i k o}:l[i]?=some o->xD o k=true->Anc l i k
 | step {i j k o}:l[i]?=some o->xD o j=true->Anc l j k->Anc l i k
theorem qGM {l:List Oper}:∀ {f i k:Nat},zQM l f i k=true->Anc l i k
 | 0,_,_,h=>by cases h
 | f+1,i,k,h=>by
  simp only[zQM]at h;split at h
  ·cases h
  rename_i o ho;simp only[cX,List.any_eq_true,bI]at h;rcases h with h|⟨j,_,h1,h2⟩
  ·exact .edge ho h
  exact .step ho h1 (qGM h2)
abbrev qAX:=List (List Nat × List Nat × List Nat × List Nat)
def qAK (l:List Oper) (m:Nat) (ss:qAX):Bool :=
 (List.range m).all fun i=>(List.range m).all fun k=>k == i || match ss[i]?,ss[k]? with
  | some a,some b=>(a.1.all fun id => !b.2.1.contains id || (decide (k<i) && zQM l m i k) || (decide (i<k) && zQM l m k i)) && (a.2.2.1.all fun n => !b.2.2.2.contains n || zQM l m k i)
  | _,_=>false
section
variable {P:Program} {T:Tab} {G:qT} {Q:Exit->St->Prop} {l:List Oper} {m:Nat} {tss:List (List Nat)} {sms:List Sm}
theorem qOE (h:qAK l m (sms.map Sm.sum)=true) {i k:Nat} {a b:Sm} (hi:i<m) (hk:k<m) (hik:k≠i) (ha:sms[i]?=some a) (hb:sms[k]?=some b) {id:Nat} (h1:id∈a.foot) (h2:id∈b.tch) :
  (k<i/\Anc l i k)\/(i<k/\Anc l k i):=by
 simp only[qAK,bR,eL]at h;have:=h i hi k hk;simp only[bG,ha,hb,eV,cX,dD,bI,bR]at this;have:=(this.resolve_left hik).1 id h1;simp only[Sm.sum,fF,gU,dZ,bY]at this;rcases this with(h|h)|h
 ·exact(h h2).elim
 ·exact .inl ⟨h.1,qGM h.2⟩
 exact .inr ⟨h.1,qGM h.2⟩
theorem zFI (h:qAK l m (sms.map Sm.sum)=true) {i k:Nat} {a b:Sm} (hi:i<m) (hk:k<m) (hik:k≠i) (ha:sms[i]?=some a) (hb:sms[k]?=some b) {n:Nat} (h1:n∈a.new) (h2:n∈b.refs):Anc l k i:=by
 simp only[qAK,bR,eL]at h;have:=h i hi k hk;simp only[bG,ha,hb,eV,cX,dD,bI,bR]at this;have:=(this.resolve_left hik).2 n h1;simp only[Sm.sum,fF,gU,dZ]at this;exact qGM (this.resolve_left (fun h=>h h2))
def inH (m:Nat) (sms:List Sm) (H0:List (Nat × Box)) (L:Nat->Bool) (p:Nat × Box):Prop :=
 (∃ j s,j<m/\L j=true/\sms[j]?=some s/\s.q=false/\p∈s.H'/\∀ k s',k<m->L k=true->j<k->sms[k]?=some s'->p.1 ∉ s'.tch) \/
 (p∈H0/\∀ k s',k<m->L k=true->sms[k]?=some s'->p.1 ∉ s'.tch)
structure DoneD (l:List Oper) (m:Nat) (sms:List Sm) (st0:St) (L:Nat->Bool) (ys:List V) (H:List (Nat × Box)):Prop where
 slots:Done l m (sms.map Sm.x) st0.tmps L ys
 box:∀ p,p∈H↔inH m sms st0.H L p
theorem zHU {s:Sm} {p:Nat × Box} (h:p∈s.H):p.1∈s.foot:=bL.2 (.inl (cO.2 ⟨p,h,rfl⟩))
theorem qHK {s:Sm} {p:Nat × Box} (h:p∈s.H'):p.1∈s.foot:=bL.2 (.inr (cO.2 ⟨p,h,rfl⟩))
theorem DoneD.next (hchk:wO l m tss=true) {st0:St} {L L':Nat->Bool} {ys:List V} {H H2:List (Nat × Box)} (D:DoneD l m sms st0 L ys H) {i:Nat} {dq:Option Nat} {s:Sm} (hi:i<m) (hd:kH l i=dq) (hs:sms[i]?=some s)
  (hq:s.q=true->s.H'=s.H) (hLi:L i=false) (hL:∀ j,L' j=(L j || j == i)) (hsub:∀ p∈s.H,p∈H) (hnd:(H.map (·.1)).Nodup)
  (hord:∀ k s',k<m->L k=true->sms[k]?=some s'->i<k->∀ id∈s.foot,id ∉ s'.tch)
  (hord2:∀ k s',k<m->L k=true->sms[k]?=some s'->i<k->∀ id∈s.tch,id ∉ s'.foot) (hfresh:∀ p∈s.H',p.1∈s.H.map (·.1)\/∀ q∈H,q.1 ∉ s.H.map (·.1)->q.1≠p.1)
  (hH2:∀ p,p∈H2↔p∈s.H'\/(p∈H/\p.1 ∉ s.H.map (·.1))):DoneD l m sms st0 L' (qUT ys dq s.x) H2:=by
 refine⟨D.slots.put hchk hi hd (by simp[hs]) hL,fun p => ?_⟩;have hLk:∀ k,L' k=true->k=i\/L k=true:=fun k hk=>by
  rw[hL]at hk;simp only[cX,dD]at hk;exact hk.symm
 rw[hH2];by_cases hsq:s.q=true
 ·have hHH:=hq hsq;have htch:s.tch=[]:=by simp[Sm.tch,hsq]
  have e1:(p∈s.H'\/(p∈H/\p.1 ∉ s.H.map (·.1)))↔p∈H:=by
   rw[hHH];constructor
   ·rintro(h|h)
    ·exact hsub p h
    exact h.1
   intro h;by_cases hk:p.1∈s.H.map (·.1)
   ·obtain⟨q,hq',hqe⟩:=cO.1 hk;have:=qTE hnd (hsub q hq') h hqe;exact .inl (this ▸ hq')
   exact .inr ⟨h,hk⟩
  rw[e1,D.box];constructor
  ·rintro(⟨j,t,h1,h2,h3,h4,h5,h6⟩|⟨h1,h2⟩)
   ·refine .inl ⟨j,t,h1,by rw[hL,h2];rfl,h3,h4,h5,fun k s' hk hLk' hjk hs' => ?_⟩;rcases hLk k hLk' with rfl|h
    ·rw[hs]at hs';cases hs';rw[htch];simp
    exact h6 k s' hk h hjk hs'
   refine .inr ⟨h1,fun k s' hk hLk' hs' => ?_⟩;rcases hLk k hLk' with rfl|h
   ·rw[hs]at hs';cases hs';rw[htch];simp
   exact h2 k s' hk h hs'
  rintro(⟨j,t,h1,h2,h3,h4,h5,h6⟩|⟨h1,h2⟩)
  ·rcases hLk j h2 with rfl|h
   ·rw[hs]at h3;cases h3;rw[hsq]at h4;cases h4
   exact .inl ⟨j,t,h1,h,h3,h4,h5,fun k s' hk hLk' hjk hs'=>h6 k s' hk (by rw[hL,hLk'];rfl) hjk hs'⟩
  exact .inr ⟨h1,fun k s' hk hLk' hs'=>h2 k s' hk (by rw[hL,hLk'];rfl) hs'⟩
 have hsq':s.q=false:=by simpa using hsq
 have htch:s.tch=s.foot:=by simp[Sm.tch,hsq']
 constructor
 ·rintro(h|⟨h,hk⟩)
  ·refine .inl ⟨i,s,hi,by rw[hL];simp,hs,hsq',h,fun k s' hk hLk' hik hs' => ?_⟩;rcases hLk k hLk' with rfl|h'
   ·omega
   exact hord k s' hk h' hs' hik _ (qHK h)
  have hnt:p.1 ∉ s.tch:=by
   rw[htch];intro hf;rcases bL.1 hf with hf|hf
   ·exact hk hf
   obtain⟨q,hq',hqe⟩:=cO.1 hf;rcases hfresh q hq' with h1|h1
   ·rw[hqe]at h1;exact hk h1
   exact h1 p h hk hqe.symm
  rcases(D.box p).1 h with⟨j,t,h1,h2,h3,h4,h5,h6⟩|⟨h1,h2⟩
  ·refine .inl ⟨j,t,h1,by rw[hL,h2];rfl,h3,h4,h5,fun k s' hk' hLk' hjk hs' => ?_⟩;rcases hLk k hLk' with rfl|h'
   ·rw[hs]at hs';cases hs';exact hnt
   exact h6 k s' hk' h' hjk hs'
  refine .inr ⟨h1,fun k s' hk' hLk' hs' => ?_⟩;rcases hLk k hLk' with rfl|h'
  ·rw[hs]at hs';cases hs';exact hnt
  exact h2 k s' hk' h' hs'
 rintro(⟨j,t,h1,h2,h3,h4,h5,h6⟩|⟨h1,h2⟩)
 ·rcases hLk j h2 with rfl|h
  ·rw[hs]at h3;cases h3;exact .inl h5
  have hji:j≠i:=by rintro rfl;rw[hLi]at h;cases h
  have hnt:p.1 ∉ s.tch:=by
   rcases Nat.lt_or_gt_of_ne hji with hlt|hgt
   ·exact h6 i s hi (by rw[hL];simp) hlt hs
   exact fun hf=>hord2 j t h1 h h3 hgt _ hf (qHK h5)
  refine .inr ⟨(D.box p).2 (.inl ⟨j,t,h1,h,h3,h4,h5,fun k s' hk hLk' hjk hs'=>h6 k s' hk (by rw[hL,hLk'];rfl) hjk hs'⟩),fun hk=>hnt ?_⟩;rw[htch];exact bL.2 (.inl hk)
 have hnt:=h2 i s hi (by rw[hL];simp) hs;refine .inr ⟨(D.box p).2 (.inr ⟨h1,fun k s' hk hLk' hs'=>h2 k s' hk (by rw[hL,hLk'];rfl) hs'⟩),fun hk=>hnt ?_⟩;rw[htch];exact bL.2 (.inl hk)
theorem qIM (st:St) (ts:List Nat):∀ p∈(st.small ts).H,p∈st.H:=fun _ hp=>qLO hp
theorem qHQ {s:Sm} (h:s.good):∀ i∈V.ids s.x++xR s.H',i∈s.ps\/i∈s.new:=fun i hi=>qAO h _ (cO.2 ⟨i,hi,rfl⟩)
structure SmOK (P:Program) (G:qT) (st0 st:St) (ts:List Nat) (o:Oper) (s:Sm):Prop where
 H:∀ p∈s.H,p∈(st.small ts).H
 q:s.q=true->s.H'=s.H
 good:∀ i∈V.ids s.x++xR s.H',i∈s.ps\/i∈s.new
 ps:∀ i,qM i s.H'=true->i∈s.H.map (·.1)\/i∈s.new
 new:∀ n∈s.new,st0.fresh n=true
 goes:∀ c M μ st' tmps w R K,qAD G c->Rel c M μ st' tmps w->jM st'.tmps (wS st.tmps ts)->(∀ id bx,(id,bx)∈s.H->(id,bx)∈st'.H)->(∀ n∈s.new,({ st' with H:=zN (s.H.map (·.1)) st'.H }:St).fresh n=true) ->
   (∀ u w' M' μ' H2,Rel c M' μ' { st' with H:=H2 } tmps w'->RV M' μ' u s.x->(∀ p,p∈H2↔p∈s.H'\/(p∈st'.H/\p.1 ∉ s.H.map (·.1)))->K (Act.put ⟨tmps,[]⟩ o.dst u) w')->o.wp P ⟨tmps,[]⟩ w K R
theorem qSI (hT:TOK P T) {st0 st:St} {ts:List Nat} {o:Oper} {orc orc':List PD} {v:Prop} {x:V} (hnd:(st.H.map (·.1)).Nodup) (h:qCL (kn P G) T G (st.small ts) o.op orc=some (v,x,orc')) (hv:v)
  (hg:(Sm.mk x (st.small ts).H (st.small ts).H (st.small ts).pins [] true).good):SmOK P G st0 st ts o ⟨x,(st.small ts).H,(st.small ts).H,(st.small ts).pins,[],true⟩:=by
 have hsn:((st.small ts).H.map (·.1)).Nodup:=(List.Sublist.map _ (jH _ _)).nodup hnd;have y:=qSJ hT h hv;have hky:∀ i,qM i (st.small ts).H=true->i∈(st.small ts).H.map (·.1)\/i∈([]:List Nat):=fun i hi => .inl (wH.1 hi);refine⟨fun _ h=>h,fun _=>rfl,qHQ hg,hky,fun n hn=>(by cases hn),fun c M μ st' tmps w R K hG rel hle hbox hnew k => ?_⟩;exact qAI (s:=⟨x,(st.small ts).H,(st.small ts).H,(st.small ts).pins,[],true⟩) rfl hsn rfl (fun i hi=>hi) hky (qHQ hg) y c M μ st' tmps w R K hG rel hle hbox hnew k
theorem qGB (hT:TOK P T) {st0 st:St} {ts:List Nat} {o:Oper} {orc orc':List PD} {v:Prop} {s:Sm} (hnd:(st.H.map (·.1)).Nodup) (h:qGC (kn P G) T G st0 (st.small ts) o orc=some (v,s,orc')) (hv:v):SmOK P G st0 st ts o s:=by
 have hsn:((st.small ts).H.map (·.1)).Nodup:=(List.Sublist.map _ (jH _ _)).nodup hnd;unfold qGC at h;split at h
 ·rename_i v0 x orc0 hq;simp only[Option.some.injEq,Prod.mk.injEq]at h;obtain⟨rfl,rfl,rfl⟩:=h;exact qSI hT hnd hq hv.1 hv.2
 split at h
 ·rename_i v0 x s' orc0 hs;simp only[Option.some.injEq,Prod.mk.injEq]at h;obtain⟨rfl,rfl,rfl⟩:=h;have y:=zDK hT hs hv.1;obtain⟨Hc,hc1,hc2⟩:=oP G (st.small ts) o;have hcn:(((st.small ts).cutS G o).H.map (·.1)).Nodup:=by rw[hc1];exact(List.Sublist.map _ hc2).nodup hsn
  have hky:∀ i,qM i s'.H=true->i∈((st.small ts).cutS G o).H.map (·.1)\/i∈[qFY (st.small ts) o.dst]:=fun i hi=>by
   obtain⟨b,hb⟩:=qH.1 hi;have:=qAO hv.2.2.1 _ (cO.2 ⟨_,hb,rfl⟩);exact this.imp id fun h=>cG.2 h
  refine⟨fun p hp=>by rw[hc1]at hp;exact hc2.mem hp,(by intro h;cases h),qHQ hv.2.1,hky,fun n hn => ?_,fun c M μ st' tmps w R K hG rel hle hbox hnew k => ?_⟩
  ·rw[cG.1 hn];exact hv.2.2.2
  have hle':jM st'.tmps ((st.small ts).cutS G o).tmps:=by rw[hc1];exact hle
  exact qAI (s:=⟨x,((st.small ts).cutS G o).H,s'.H,s'.pins,[qFY (st.small ts) o.dst],false⟩) rfl hcn rfl (fun i hi=>hi) hky (qHQ hv.2.1) y c M μ st' tmps w R K hG rel hle' hbox hnew k
 cases h
def DC (l:List Oper) (m:Nat) (L:Nat->Bool):Prop:=∀ j o,j<m->L j=true->l[j]?=some o->∀ k,xD o k=true->L k=true
theorem zJR (hchk:wO l m tss=true) {i k:Nat} (h:Anc l i k):k<i:=by
 have e1:∀ {i k o},l[i]?=some o->xD o k=true->k<i:=fun ho he=>by
  obtain⟨e,h1,h2,h3⟩:=qBJ he;have:=(qAN hchk ho).2 e h1 h2;omega
 induction h with
 | edge ho he=>exact e1 ho he
 | step ho he _ ih=>have:=e1 ho he;omega
theorem DC.anc (hchk:wO l m tss=true) {L:Nat->Bool} (d:DC l m L) {i k:Nat} (h:Anc l i k):i<m->L i=true->L k=true:=by
 induction h with
 | edge ho he=>exact fun hi hL=>d _ _ hi hL ho _ he
 | @step i j k o ho he h ih =>
  intro hi hL;have:=zJR hchk (.edge ho he);exact ih (by omega) (d _ _ hi hL ho _ he)
theorem DC.below (hchk:wO l m tss=true) (k:Nat):DC l m fun j=>decide (j<k):=by
 intro j o hj hL ho n he;have:=zJR hchk (.edge ho he);simp only[bY]at hL ⊢;omega
structure Facts (st0:St) (s:Sm):Prop where
 q:s.q=true->s.H'=s.H
 good:∀ i∈V.ids s.x++xR s.H',i∈s.ps\/i∈s.new
 ps:∀ i,qM i s.H'=true->i∈s.H.map (·.1)\/i∈s.new
 new:∀ n∈s.new,st0.fresh n=true
theorem qXK {st0:St} (hchk:wO l m tss=true) (hconf:qAK l m (sms.map Sm.sum)=true) {L:Nat->Bool} (dc:DC l m L) {ys:List V} {H:List (Nat × Box)} (D:DoneD l m sms st0 L ys H) {i:Nat} {s:Sm} (hi:i<m) (hs:sms[i]?=some s) (hLi:L i=false)
  (F:Facts st0 s):∀ n∈s.new, ∀ q∈H,q.1≠n:=by
 rintro n hn q hq rfl;rcases(D.box q).1 hq with⟨j,t,h1,h2,h3,_,h5,_⟩|⟨h1,_⟩
 ·have hji:j≠i:=by rintro rfl;rw[hLi]at h2;cases h2
  have:=zFI hconf hi h1 hji hs h3 hn (bL.2 (.inl (bL.2 (.inr (qCU (qH.2 ⟨q.2,h5⟩))))));have:=dc.anc hchk this h1 h2;rw[hLi]at this;cases this
 have:=(lE (F.new _ hn)).2.2.2;rw[qH.2 ⟨q.2,h1⟩]at this;cases this
theorem DoneD.go {st0:St} (hchk:wO l m tss=true) (hconf:qAK l m (sms.map Sm.sum)=true) {L L':Nat->Bool} (dc:DC l m L) {ys:List V} {H H2:List (Nat × Box)} (D:DoneD l m sms st0 L ys H) {i:Nat} {dq:Option Nat} {s:Sm} (hi:i<m) (hd:kH l i=dq)
  (hs:sms[i]?=some s) (hLi:L i=false) (F:Facts st0 s) (hL:∀ j,L' j=(L j || j == i)) (hsub:∀ p∈s.H,p∈H) (hnd:(H.map (·.1)).Nodup) (hH2:∀ p,p∈H2↔p∈s.H'\/(p∈H/\p.1 ∉ s.H.map (·.1))):DoneD l m sms st0 L' (qUT ys dq s.x) H2:=by
 have no:∀ k,k<m->L k=true->¬ Anc l k i:=fun k hk hLk ha=>by
  have:=dc.anc hchk ha hk hLk;rw[hLi]at this;cases this
 refine D.next hchk hi hd hs F.q hLi hL hsub hnd (fun k s' hk hLk hs' hik id h1 h2 => ?_) (fun k s' hk hLk hs' hik id h1 h2 => ?_) (fun p hp => ?_) hH2
 ·rcases qOE hconf hi hk (by omega) hs hs' h1 h2 with⟨h,_⟩|⟨_,h⟩
  ·omega
  exact no k hk hLk h
 ·rcases qOE hconf hk hi (by omega) hs' hs h2 h1 with⟨_,h⟩|⟨h,_⟩
  ·exact no k hk hLk h
  omega
 rcases F.ps p.1 (qH.2 ⟨p.2,hp⟩)with h|h
 ·exact .inl h
 exact .inr fun q hq _=>qXK hchk hconf dc D hi hs hLi F _ h q hq
structure Told (P:Program) (G:qT) (l:List Oper) (m:Nat) (sms:List Sm) (st0:St) (i:Nat):Prop where
 ex:∃ o s ys H,l[i]?=some o/\sms[i]?=some s/\DoneD l m sms st0 (fun j=>decide (j<i)) ys H/\Facts st0 s/\(∀ p∈s.H,p∈H)/\zMT P G l i o (wS ys (o.looksAt l.toArray)) s
theorem zAP (hT:TOK P T) (hchk:wO l m tss=true) (hconf:qAK l m (sms.map Sm.sum)=true) (st0:St):∀ (k:Nat) (rest:List Oper) (ts:List (List Nat)) (st st2:St) (orc:List PD) (v:Prop) (zs:List Sm),
  rest=(l.take m).drop k->ts=tss.drop k->zs=sms.drop k->k<=m->sms.length=m->st.pins=st0.pins->st.base=st0.base->DoneD l m sms st0 (fun j=>decide (j<k)) st.tmps st.H ->
  yL (kn P G) T G l st0 rest ts st orc=some (v,zs,st2)->v ->
  (∀ i,k<=i->i<m->Told P G l m sms st0 i)/\st2.pins=st0.pins/\st2.base=st0.base/\DoneD l m sms st0 (fun j=>decide (j<m)) st2.tmps st2.H/\(st2.H.map (·.1)).Nodup:=by
 intro k rest;induction rest generalizing k with
 | nil =>
  intro ts st st2 orc v zs hr _ hz hk hxl hp hb D h hv;simp only[yL,Option.some.injEq,Prod.mk.injEq]at h;obtain⟨rfl,h2,rfl⟩:=h;have hkm:k=m:=by
   have h3:(List.drop k (List.take m l)).length=0:=by rw[<-hr];rfl
   have:=qFF hchk;simp at h3;omega
  subst hkm;exact⟨fun i h1 h2=>by omega,hp,hb,D,hv⟩
 | cons o rest ih =>
  intro ts st st2 orc v zs hr hts hz hk hxl hp hb D h hv;have hkm:k<m:=by
   have h3:(List.drop k (List.take m l)).length=rest.length+1:=by rw[<-hr];rfl
   simp at h3;omega
  obtain⟨o',ho',htk,hsep⟩:=uO hchk hkm;have hoo:o=o':=by
   have h3:(List.drop k (List.take m l))[0]?=some o:=by rw[<-hr];rfl
   rw[bZ,bW,cH,bE hkm,ho']at h3;cases h3;rfl
  subst hoo;have hrest:rest=(l.take m).drop (k+1):=by
   have:=congrArg (List.drop 1) hr;simpa[dG,fY]using this
  obtain⟨t1,tss1,hts'⟩:∃ t1 tss1,ts=t1::tss1:=by
   cases ts with
   | nil=>have:=congrArg List.length hts;simp at this;have:=(bB.1 htk).1;omega
   | cons a b=>exact⟨a,b,rfl⟩
  subst hts';have ht1:t1=o.looksAt l.toArray:=by
   have h3:(List.drop k tss)[0]?=some t1:=by rw[<-hts];rfl
   rw[bZ,cH,htk]at h3;cases h3;rfl
  have hts1:tss1=tss.drop (k+1):=by
   have:=congrArg (List.drop 1) hts;simpa[dG,fY]using this
  have hdk:kH l k=o.dst:=by simp[kH,ho']
  have next:∀ (s:Sm) (zs':List Sm) (vs:Prop) (orc':List PD),zs=s::zs'->yL (kn P G) T G l st0 rest tss1 (st.after o.dst s) orc'=some (vs,zs',st2)->vs->(st.H.map (·.1)).Nodup->Facts st0 s->(∀ p∈s.H,p∈st.H) ->
    zMT P G l k o (wS st.tmps (o.looksAt l.toArray)) s ->
    (∀ i,k<=i->i<m->Told P G l m sms st0 i)/\st2.pins=st0.pins/\st2.base=st0.base/\DoneD l m sms st0 (fun j=>decide (j<m)) st2.tmps st2.H/\(st2.H.map (·.1)).Nodup:=by
   intro s zs' vs orc' hzz hrun hvs hnd F hsub hgo;have hxk:sms[k]?=some s:=by
    have h3:(List.drop k sms)[0]?=some s:=by rw[<-hz,hzz];rfl
    rw[bZ,cH]at h3;exact h3
   have hz':zs'=sms.drop (k+1):=by
    have:=congrArg (List.drop 1) hz;rw[hzz]at this;simpa[dG,fY]using this
   have D':DoneD l m sms st0 (fun j=>decide (j<k+1)) (st.after o.dst s).tmps (st.after o.dst s).H:=by
    have:=D.go hchk hconf (DC.below hchk k) (L':=fun j=>decide (j<k+1)) hkm hdk hxk (by simp) F (fun j=>by
     by_cases h1:j<k
     ·simp[h1,show j<k+1 by omega]
     by_cases h2:j=k
     ·simp[h2]
     simp[h1,h2,show ¬ j<k+1 by omega]) hsub hnd (H2:=s.H'++zN (s.H.map (·.1)) st.H) (fun p=>by rw[bL,jJ])
    have e1:(st.after o.dst s).tmps=qUT st.tmps o.dst s.x:=by cases hq:o.dst <;> rfl
    rw[e1];exact this
   have e2:(st.after o.dst s).pins=st.pins:=by cases hq:o.dst <;> rfl
   have e3:(st.after o.dst s).base=st.base:=by cases hq:o.dst <;> rfl
   obtain⟨h1,h2,h3⟩:=ih (k+1) tss1 _ st2 orc' vs zs' hrest hts1 hz' hkm hxl (e2.trans hp) (e3.trans hb) D' hrun hvs;refine⟨fun i hi1 hi2 => ?_,h2,h3⟩;rcases Nat.eq_or_lt_of_le hi1 with e|e
   ·subst e;exact⟨o,s,st.tmps,st.H,ho',hxk,D,F,hsub,hgo⟩
   exact h1 i e hi2
  subst ht1;simp only[yL]at h;split at h
  ·rename_i hgd;split at h
   ·rename_i v1 s orc1 hs;split at h
    ·rename_i vs xs1 st3 hrun;simp only[Option.some.injEq,Prod.mk.injEq]at h;obtain⟨rfl,h5,rfl⟩:=h;have K:=qGB hT hv.1 hs hv.2.1;exact next s xs1 vs orc1 h5.symm hrun hv.2.2 hv.1 ⟨K.q,K.good,K.ps,K.new⟩ (fun p hp=>qIM st _ p (K.H p hp)) (qPN ho' hgd K.goes)
    cases h
   cases h
  rename_i j pol hgd;split at h
  ·cases h
  rename_i e he;have hmem:(o.looksAt l.toArray).contains e=true:=by
   simp only[Oper.looksAt,hgd,gU,bY,bL];right
   have:(l.toArray[j]?).bind (·.dst)=some e:=by simpa using he
   rw[this];simp
  have hde:kH l j=some e:=by simpa[kH]using he
  have hmask:(wS st.tmps (o.looksAt l.toArray)).getD e .dead=st.tmps.getD e .dead:=by rw[qFV,bE hmem]
  split at h
  ·cases h
  rename_i b hbg;rw[<-hmask]at hbg;split at h
  ·rename_i v1 x orc1 hs;split at h
   ·rename_i vs xs1 st3 hrun;simp only[Option.some.injEq,Prod.mk.injEq]at h;obtain⟨rfl,h5,rfl⟩:=h;obtain⟨hnd,hlt,hv1,hgood,hvs⟩:=hv;have hgood':(Sm.mk x (st.small (o.looksAt l.toArray)).H (st.small (o.looksAt l.toArray)).H (st.small (o.looksAt l.toArray)).pins [] true).good:=by
     have:V.ids (.when b x)=V.ids x:=by simp only[V.ids]
     simp only[Sm.good,this]at hgood ⊢; exact hgood
    refine next _ xs1 vs orc1 h5.symm hrun hvs hnd ⟨fun _=>rfl,qHQ hgood,fun i hi => .inl (wH.1 hi),fun n hn=>(by cases hn)⟩ (fun p hp=>qIM st _ p hp) ?_
    refine qHR ho' hgd hde (by rw[qEQ];exact hlt) hbg rfl (fun _=>rfl) fun hbt => ?_;have K:=qSI (st0:=st0) hT hnd hs (hv1 hbt) hgood';exact K.goes
   cases h
  split at h
  ·split at h
   ·rename_i v1 s orc1 hs;split at h
    ·rename_i vs xs1 st3 hrun;simp only[Option.some.injEq,Prod.mk.injEq]at h;obtain⟨rfl,h5,rfl⟩:=h;obtain⟨hnd,hlt,hv1,hvs⟩:=hv;have K:=qGB hT hnd hs hv1;have hids:V.ids (.when true s.x)=V.ids s.x:=by simp only[V.ids]
     refine next _ xs1 vs orc1 h5.symm hrun hvs hnd ⟨K.q,by rw[show({ s with x:=V.when true s.x }:Sm).x = .when true s.x from rfl,hids];exact K.good,K.ps,K.new⟩ (fun p hp=>qIM st _ p (K.H p hp)) ?_
     exact qHR ho' hgd hde (by rw[qEQ];exact hlt) hbg rfl (fun h=>by cases h) fun _=>K.goes
    cases h
   cases h
  split at h
  ·rename_i vs xs1 st3 hrun;simp only[Option.some.injEq,Prod.mk.injEq]at h;obtain⟨rfl,h5,rfl⟩:=h;obtain⟨hnd,hlt,hvs⟩:=hv;refine next _ xs1 vs orc h5.symm hrun hvs hnd ⟨fun _=>rfl,fun i hi=>(by simp[V.ids,xR]at hi),fun i hi => .inl (wH.1 hi),fun n hn=>(by cases hn)⟩ (fun p hp=>(by cases hp)) ?_
   exact qHR ho' hgd hde (by rw[qEQ];exact hlt) hbg rfl (fun _=>rfl) fun h=>by cases h
  cases h
theorem mQ (st0:St):DoneD l m sms st0 (fun j=>decide (j<0)) st0.tmps st0.H:=by
 refine⟨⟨rfl,fun j d _ _ h=>by simp at h,fun t _=>rfl⟩,fun p => ?_⟩;constructor
 ·exact fun h => .inr ⟨h,fun k s' _ hL=>by simp at hL⟩
 rintro(⟨j,s,_,h,_⟩|⟨h,_⟩)
 ·simp at h
 exact h
theorem Rel.nodupH {c:Ctx} {M:qY} {μ:Mu} {st:St} {tmps:Array Value} {w:World} (r:Rel c M μ st tmps w):(st.H.map (·.1)).Nodup:=r.nodup
theorem qTS (hchk:wO l m tss=true) (hconf:qAK l m (sms.map Sm.sum)=true) (st0:St) (hgo:∀ i,i<m->Told P G l m sms st0 i)
  (st2:St) (hp2:st2.pins=st0.pins) (D2:DoneD l m sms st0 (fun j=>decide (j<m)) st2.tmps st2.H) (hnd2:(st2.H.map (·.1)).Nodup) (late:zZ P G l.toArray Q (l.drop m) st2) {c:Ctx} (hg:qAD G c) :
  ∀ (n:Nat) (fuel:Nat) (listed:Array Bool) (M:qY) (μ:Mu) (ys:List V) (H:List (Nat × Box)) (tmps:Array Value) (w:World),n=((List.range l.length).filter fun j => !listed.getD j false).length->n<=fuel->listed.size=l.length ->
   (∀ j,m<=j->j<l.length->listed.getD j false=false)->DC l m (fun j=>listed.getD j false)->DoneD l m sms st0 (fun j=>listed.getD j false) ys H->Rel c M μ { st0 with tmps:=ys,H:=H } tmps w ->
   wpAny P .any l.toArray (zVX c Q) fuel listed ⟨tmps,[]⟩ w:=by
 intro n;induction n using Nat.strongRecOn with
 | _ n ih =>
 intro fuel listed M μ ys H tmps w hn hf hsz hlate dc D r;by_cases hall:∀ j,j<m->listed.getD j false=true
 ·have hys:ys=st2.tmps:=by
   refine dP fun t => ?_;by_cases hex:∃ j d,j<m/\kH l j=some d/\d=t
   ·obtain⟨j,d,hj,hd,rfl⟩:=hex;by_cases hlt:d<ys.length
    ·rw[D.slots.done j d hj hd (hall j hj) hlt,D2.slots.done j d hj hd (by simp[hj]) (by rw[D2.slots.len,<-D.slots.len];exact hlt)]
    rw[cL (by omega),cL (by rw[D2.slots.len,<-D.slots.len];omega)]
   have hno:∀ j,j<m->kH l j=some t->False:=fun j hj hd=>hex ⟨j,t,hj,hd,rfl⟩;rw[D.slots.else' t fun j hj hd=>(hno j hj hd).elim,D2.slots.else' t fun j hj hd=>(hno j hj hd).elim]
  have hHH:∀ p,p∈st2.H->p∈H:=fun p hp=>by
   rw[D.box];rcases(D2.box p).1 hp with⟨j,s,h1,_,h3,h4,h5,h6⟩|⟨h1,h2⟩
   ·exact .inl ⟨j,s,h1,hall j h1,h3,h4,h5,fun k s' hk _ hjk hs'=>h6 k s' hk (by simp[hk]) hjk hs'⟩
   exact .inr ⟨h1,fun k s' hk _ hs'=>h2 k s' hk (by simp[hk]) hs'⟩
  have hl:∀ j,j<l.length->listed.getD j false=decide (j<m):=fun j hj=>by
   by_cases h:j<m
   ·rw[hall j h];simp[h]
   rw[hlate j (by omega) hj];simp[h]
  have hcount:l.length-m<=fuel:=by
   have h1:∀ (p:Nat->Bool) k,(∀ j,j<k->p j=decide (m<=j))->((List.range k).filter p).length=k-m:=by
    intro p k hp;induction k with
    | zero=>simp
    | succ k ihk =>
     rw[List.range_succ,List.filter_append,bU,ihk fun j hj=>hp j (by omega)];simp only[List.filter_cons,List.filter_nil,hp k (by omega)];by_cases h:m<=k
     ·simp[h];omega
     simp[h];omega
   have h2:=h1 (fun j => !listed.getD j false) l.length fun j hj=>by
    show(!listed.getD j false)=_
    rw[hl j hj];by_cases h:j<m
    ·simp[h]
    simp[h,show m<=j by omega]
   omega
  refine zVM hchk (l.length-m) m fuel listed _ w rfl (bP _) (qFF hchk) hsz hl hcount ?_;refine late c M μ tmps w hg ?_;refine r.weaken ⟨?_,hp2,fun p hp=>hHH p hp,hnd2⟩;rw[<-hys];exact jM.refl _
 obtain⟨j0,hj0,hmin⟩:∃ j0,(j0<m/\listed.getD j0 false=false)/\∀ j,j<j0->listed.getD j false=true:=by
  have hex:∃ j,j<m/\listed.getD j false=false:=by
   refine Classical.byContradiction fun h=>hall fun j hj => ?_;cases hv:listed.getD j false with
   | true=>rfl
   | false=>exact(h ⟨j,hj,hv⟩).elim
  obtain⟨j,hj⟩:=hex;induction j using Nat.strongRecOn with
  | _ j ihj =>
   by_cases h:∃ k,k<j/\listed.getD k false=false
   ·obtain⟨k,hk,hkv⟩:=h;exact ihj k hk ⟨by omega,hkv⟩
   refine⟨j,hj,fun k hk => ?_⟩;cases hv:listed.getD k false with
   | true=>rfl
   | false=>exact(h ⟨k,hk,hv⟩).elim
 have hml:=qFF hchk;obtain⟨o0,ho0⟩:∃ o,l[j0]?=some o:=⟨l[j0]'(by omega),by simp[show j0<l.length by omega]⟩;have hr0:j0∈Region.ready .any l.toArray listed:=by
  refine mem_ready.2 ⟨?_,o0,by simpa using ho0,fun e he hb=>hmin _ ((qAN hchk ho0).2 e he hb)⟩;have e1:j0<listed.size:=by omega
  have:=hj0.2;simp[e1]at this ⊢;exact this
 cases fuel with
 | zero =>
  have hmem:j0∈(List.range l.length).filter fun j => !listed.getD j false:=by
   refine eN.2 ⟨by simp;omega, ?_⟩;show(!listed.getD j0 false)=true
   rw[hj0.2];rfl
  have:=List.length_pos_of_mem hmem;omega
 | succ fuel =>
  refine⟨fun hr=>(by rw[hr]at hr0;cases hr0),fun i hi => ?_⟩;obtain⟨h0,o,ho,hdeps⟩:=mem_ready.1 hi;have ho':l[i]?=some o:=by simpa using ho
  have hil:i<l.length:=(bB.1 ho').1;have hui:listed.getD i false=false:=by
   have e1:i<listed.size:=by omega
   simp[e1]at h0 ⊢;exact h0
  have him:i<m:=by
   rcases Nat.lt_or_ge i m with h|h
   ·exact h
   obtain⟨e,he,hb,hj⟩:=qBJ ((qAN hchk ho').1 h j0 (by omega));have:=hdeps e he hb;rw[hj,hj0.2]at this;cases this
  obtain⟨o1,s,zs,Hs,ho1,hs,Di,F,hsub,hg1⟩:=(hgo i him).ex;rw[ho']at ho1;cases ho1;obtain⟨o2,ho2,htk,hsep⟩:=uO hchk him;rw[ho']at ho2;cases ho2;have hdi:kH l i=o.dst:=by simp[kH,ho']
  have hready:∀ k,xD o k=true->listed.getD k false=true:=fun k hk=>by
   obtain⟨e,he,hb,hon⟩:=qBJ hk;have:=hdeps e he hb;rw[hon]at this;exact this
  have hanc:∀ k,Anc l i k->listed.getD k false=true:=fun k hk=>by
   cases hk with
   | edge h1 h2=>rw[ho']at h1;cases h1;exact hready k h2
   | @step _ j _ _ h1 h2 h3 =>
    rw[ho']at h1;cases h1;have hji:=zJR hchk (.edge ho' h2);exact dc.anc hchk h3 (by omega) (hready j h2)
  have no:∀ k,k<m->listed.getD k false=true->¬ Anc l k i:=fun k hk hLk ha=>by
   have:listed.getD i false=true:=dc.anc hchk ha hk hLk;rw[hui]at this;cases this
  have hsub':∀ p∈s.H,p∈H:=fun p hp=>by
   have ht:∀ k s',k<m->sms[k]?=some s'->p.1∈s'.tch->k≠i->(listed.getD k false=true↔k<i):=fun k s' hk hs' h1 hki=>by
    rcases qOE hconf him hk hki hs hs' (zHU hp) h1 with⟨h2,h3⟩|⟨h2,h3⟩
    ·exact⟨fun _=>h2,fun _=>hanc k h3⟩
    exact⟨fun h=>(no k hk h h3).elim,fun h=>by omega⟩
   rw[D.box];rcases(Di.box p).1 (hsub p hp)with⟨j,t,h1,h2,h3,h4,h5,h6⟩|⟨h1,h2⟩
   ·have hji:j<i:=by simpa using h2
    have htj:p.1∈t.tch:=by
     have:t.tch=t.foot:=by simp[Sm.tch,h4]
     rw[this];exact qHK h5
    refine .inl ⟨j,t,h1,(ht j t h1 h3 htj (by omega)).2 hji,h3,h4,h5,fun k s' hk hLk hjk hs' hin => ?_⟩;have hki:k≠i:=by
     rintro rfl;have h9:listed.getD k false=true:=hLk;rw[hui]at h9;cases h9
    exact h6 k s' hk (by simpa using(ht k s' hk hs' hin hki).1 hLk) hjk hs' hin
   refine .inr ⟨h1,fun k s' hk hLk hs' hin => ?_⟩;have hki:k≠i:=by
    rintro rfl;have h9:listed.getD k false=true:=hLk;rw[hui]at h9;cases h9
   exact h2 k s' hk (by simpa using(ht k s' hk hs' hin hki).1 hLk) hs' hin
  have hle:jM ys (wS zs (o.looksAt l.toArray)):=by
   have key:∀ (as bs:List V),as.length=bs.length->(∀ t,VLe (as.getD t .dead) (bs.getD t .dead))->jM as bs:=by
    intro as;induction as with
    | nil=>intro bs h _;cases bs with
     | nil=>trivial
     | cons=>simp at h
    | cons a as iha=>intro bs h h';cases bs with
     | nil=>simp at h
     | cons b bs =>
      refine⟨by simpa using h' 0,iha bs (by simpa using h) fun t => ?_⟩;have:=h' (t+1);simpa using this
   refine key _ _ (by rw[qEQ,D.slots.len,Di.slots.len]) fun t => ?_;rw[qFV];split
   ·rename_i hmem;have hmem':t∈o.looksAt l.toArray:=by simpa using hmem
    have heq:ys[t]?=zs[t]?:=by
     by_cases hex:∃ j,j<m/\kH l j=some t
     ·obtain⟨j,hj,hdt⟩:=hex;rcases(hsep j hj).2 t hdt hmem' with⟨hji,hedge⟩|⟨hij,oj,hoj,hedge⟩
      ·have hlj:=hready j hedge;by_cases hlt:t<ys.length
       ·rw[D.slots.done j t hj hdt hlj hlt,Di.slots.done j t hj hdt (by simp[hji]) (by rw[Di.slots.len,<-D.slots.len];exact hlt)]
       rw[cL (by omega),cL (by rw[Di.slots.len,<-D.slots.len];omega)]
      have huniq:∀ k,k<m->kH l k=some t->k=j:=fun k hk hkt=>by
       apply Classical.byContradiction;intro hne;obtain⟨oj2,hoj2,_,hsep2⟩:=uO hchk hj;rw[hoj]at hoj2;cases hoj2;exact(hsep2 k hk).1 hne t (by simpa only[kH,hoj,Option.bind_some]using hdt) hkt
      have hnj:listed.getD j false=false:=by
       rw[<-iA];intro hl;have:listed.getD i false=true:=dc.anc hchk (.edge hoj hedge) hj hl;rw[hui]at this;cases this
      rw[D.slots.else' t fun k hk hkt=>by rw[huniq k hk hkt];exact hnj,Di.slots.else' t fun k hk hkt=>by rw[huniq k hk hkt];simp;omega]
     have hno:∀ j,j<m->kH l j=some t->False:=fun j hj hd=>hex ⟨j,hj,hd⟩;rw[D.slots.else' t fun j hj hd=>(hno j hj hd).elim,Di.slots.else' t fun j hj hd=>(hno j hj hd).elim]
    rw[bJ,bJ,heq];exact VLe.refl _
   exact VLe.dead _
  have hfresh:∀ n∈s.new,({ st0 with tmps:=ys,H:=zN (s.H.map (·.1)) H }:St).fresh n=true:=fun n hn=>by
   obtain⟨f1,f2,f3,f4⟩:=lE (F.new n hn);have hkeys:=qXK hchk hconf dc D him hs hui F n hn;have href:∀ j t,j<m->listed.getD j false=true->sms[j]?=some t->n ∉ t.refs:=fun j t hj hL ht hin=>by
    have hji:j≠i:=by
     rintro rfl;have h9:listed.getD j false=true:=hL;rw[hui]at h9;cases h9
    exact no j hj hL (zFI hconf him hj hji hs ht hn hin)
   have a1:iO n ys=true:=by
    have key:∀ (as:List V),(∀ (t:Nat) x,as[t]?=some x->V.noRef n x=true)->iO n as=true:=by
     intro as;induction as with
     | nil=>intro _;simp only[iO]
     | cons a as iha =>
      intro h;simp only[iO,bI];exact⟨h 0 a rfl,iha fun t x hx=>h (t+1) x (by simpa using hx)⟩
    refine key ys fun t x hx => ?_;by_cases hex:∃ j,j<m/\kH l j=some t/\listed.getD j false=true
    ·obtain⟨j,hj,hdt,hL⟩:=hex;have hlt:t<ys.length:=(bB.1 hx).1;have:=D.slots.done j t hj hdt hL hlt;rw[hx,bG]at this;obtain⟨sj,hsj,hxj⟩:=bF.1 this.symm;cases hr:V.noRef n x with
     | true=>rfl
     | false=>exact(href j sj hj hL hsj (bL.2 (.inl (bL.2 (.inl (hxj ▸ V.ids_of x hr)))))).elim
    have:ys[t]?=st0.tmps[t]?:=D.slots.else' t fun j hj hd=>by
     cases hL:listed.getD j false with
     | false=>rfl
     | true=>exact(hex ⟨j,hj,hd,hL⟩).elim
    rw[this]at hx;exact iQ f1 hx
   have a3:kX n (zN (s.H.map (·.1)) H)=true:=by
    have key:∀ (as:List (Nat × Box)),(∀ p∈as,p.2.noRef n=true)->kX n as=true:=by
     intro as;induction as with
     | nil=>intro _;rfl
     | cons a as iha =>
      intro h;simp only[kX,bI];exact⟨h a (by simp),iha fun p hp=>h p (by simp[hp])⟩
    refine key _ fun p hp => ?_;rcases(D.box p).1 (jJ.1 hp).1 with⟨j,t,h1,h2,h3,_,h5,_⟩|⟨h1,_⟩
    ·cases hr:p.2.noRef n with
     | true=>rfl
     | false=>exact(href j t h1 h2 h3 (bL.2 (.inl (bL.2 (.inr (qME (i:=p.1) (b:=p.2) h5 n (Box.ids_of hr))))))).elim
    exact vQ f3 h1
   have a4:qM n (zN (s.H.map (·.1)) H)=false:=by
    cases hk:qM n (zN (s.H.map (·.1)) H)with
    | false=>rfl
    | true =>
     obtain⟨b,hb⟩:=qH.1 hk;exact(hkeys (n,b) (jJ.1 hb).1 rfl).elim
   simp only[St.fresh,a1,a3,a4,gP,Bool.not_false,Bool.true_and];simpa using f2
  refine hg1 c M μ { st0 with tmps:=ys,H:=H } tmps w _ _ hg r hle (fun id bx h=>hsub' _ h) hfresh ?_;intro u w' M' μ' H2 r' hv hm;rw[lO];have r2:=r'.put hv o.dst;rw[oV]at r2;have hLL:∀ j,(listed.setIfInBounds i true).getD j false=(listed.getD j false || j == i):=fun j=>by
   by_cases hij:i=j
   ·subst hij;have:i<listed.size:=by omega
    simp[this]
   rw[getD_set_ne false hij];simp[Ne.symm hij]
  have D':=D.go hchk hconf dc (L':=fun j=>(listed.setIfInBounds i true).getD j false) him hdi hs hui F hLL hsub' r.nodupH hm;have dc':DC l m (fun j=>(listed.setIfInBounds i true).getD j false):=fun j oj hj hLj hoj k hk=>by
   simp only[hLL]at hLj ⊢;by_cases hji:j=i
   ·subst hji;rw[ho']at hoj;cases hoj;rw[hready k hk];rfl
   have:listed.getD j false=true:=by simpa[hji]using hLj
   have:=dc j oj hj this hoj k hk;simp only[]at this;rw[this];rfl
  have hcnt:((List.range l.length).filter fun j => !(listed.setIfInBounds i true).getD j false).length<((List.range l.length).filter fun j => !listed.getD j false).length:=by
   refine qXL (fun j hj => ?_) ?_ ?_ (eL.2 hil)
   ·by_cases hij:i=j
    ·subst hij;rw[hui];rfl
    rw[getD_set_ne false hij]at hj;exact hj
   ·rw[hui];rfl
   have e1:i<listed.size:=by omega
   simp[e1]
  refine ih _ ?_ fuel (listed.setIfInBounds i true) M' μ' (qUT ys o.dst s.x) H2 _ w' rfl ?_ (by simp[hsz]) (fun j hj hjl => ?_) dc' D' r2
  ·omega
  ·omega
  rw[getD_set_ne false (by omega)];exact hlate j hj hjl
theorem nW (hT:TOK P T) (hmix:P.follows .mixedOrders=true) (m:Nat) (tss:List (List Nat)) (orc1:List PD) {id:Nat} {st st1:St} {sms:List Sm} {v1:Prop} (hchk:wO l m tss=true)
  (h1:yL (kn P G) T G l st (l.take m) tss st orc1=some (v1,sms,st1)) (hv1:v1) (hconf:qAK l m (sms.map Sm.sum)=true) (hlate:zZ P G l.toArray Q (l.drop m) st1) :
  AW P G (.region id l.toArray true) Q st:=by
 intro c M μ tmps w hg r;refine wp_region_any hmix ?_;have hml:=qFF hchk;have hxl:sms.length=m:=by
  have key:∀ (rest:List Oper) (ts:List (List Nat)) (s s2:St) (orc:List PD) (v:Prop) (zs:List Sm),yL (kn P G) T G l st rest ts s orc=some (v,zs,s2)->zs.length=rest.length:=by
   intro rest;induction rest with
   | nil=>intro ts s s2 orc v zs h;simp only[yL,Option.some.injEq,Prod.mk.injEq]at h;rw[<-h.2.1];rfl
   | cons o rest ih =>
    intro ts s s2 orc v zs h;cases ts with
    | nil=>simp[yL]at h
    | cons t ts =>
     simp only[yL]at h;repeat' split at h
     all_goals first
      | cases h;done
      | (rename_i hr;simp only[Option.some.injEq,Prod.mk.injEq]at h;rw[<-h.2.1];simp[ih _ _ _ _ _ _ hr])
  have:=key _ _ _ _ _ _ _ h1;rw[this];simp;omega
 obtain⟨hgo,hp2,_,D2,hnd2⟩:=zAP hT hchk hconf st 0 (l.take m) tss st st1 orc1 _ sms (by simp) (by simp) (by simp) (fC _) hxl rfl rfl (mQ st) h1 hv1;have hsize:l.toArray.size=l.length:=by simp
 refine qTS hchk hconf st (fun i hi=>hgo i (fC _) hi) st1 hp2 D2 hnd2 hlate hg _ _ _ M μ st.tmps st.H tmps _ rfl ?_ (by simp) (fun j _ hj=>by simp[Array.getD]) (fun j o _ h=>by simp[Array.getD]at h) ?_ (r.same ⟨rfl,rfl,rfl,bP _,fun _ _=>rfl⟩)
 ·rw[hsize];exact dB (List.length_filter_le _ _) (by simp)
 have:(fun j=>(Array.replicate l.toArray.size false).getD j false)=fun j=>decide (j<0):=by
  funext j;simp[Array.getD]
 rw[this];exact mQ st
attribute [simp] yL qGC qCL zKY qZR zAT unp St.small xI St.after Sm.good zTL qFY
end
end Go.Proofs.YtgcbapchinideaaGreatDoor.Sy
