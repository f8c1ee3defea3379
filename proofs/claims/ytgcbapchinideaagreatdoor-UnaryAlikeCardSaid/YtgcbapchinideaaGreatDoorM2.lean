import Derived.Test.YtgcbapchinideaaGreatDoorM1
import Derived.MapKept
import Derived.Laws.BytesArg
import Derived.Lib.ConvBytes
import Derived.Orders
import Derived.Lib.Bytealg
namespace Go.Proofs.YtgcbapchinideaaGreatDoor.Sy
open Go
section
variable {P:Program} {T:Tab} {G:qR}
theorem qYJ (hT:TOK P T) {o:Oper} {st st1:St} {args:Array Operand} {tys:Array TypeId} (ho:o.op = .call { callee := .builtin .append,args:=args,argTypes:=tys }) {s x:Operand} {t tx el:TypeId}
  (hargs:args.toList=[s,x]) (htys:tys.toList=[t,tx]) {p q:Prop} {v y:V} (hs:st.arg G s=(p,v)) (hp:p) (hx:st.arg G x=(q,y)) (hq:q)
  (ht:wA T t=some (.sl el)) {ti:TI} (hti:T el=some ti) {zs:List V} (hzs:ti.zero.cells=some zs) (hzl:zs.length=ti.size) (hby:0<ti.bytes) {sz:Nat} {es fs:List PD}
  (hsrc:qZI st (wA T tx) y=some (sz,fs)) (hsz:ti.size=sz) (hv:(v = .nilsl/\es=[]/\st1=st)\/(∃ id0,v = .ms id0/\zQ id0 st.H=some (.row el sz es)/\st1=st.kill id0))
  (hbound:(es.length+fs.length) * ti.bytes<=140737488355328) (id:Nat) (hf:st1.fresh id=true) :
  Yields P G o st (.ms id) { st1 with H:=(id,.row el sz (es++fs))::st1.H }:=by
 intro c M μ tmps w hg r
 subst hsz
 have ea:=qGN hargs
 have et:=qGN htys
 subst ea;subst et
 have hvv:=qF hg r hs hp
 have hyy:=qF hg r hx hq
 generalize hu1:Act.eval ⟨tmps,[]⟩ s=u1 at hvv
 generalize hu2:Act.eval ⟨tmps,[]⟩ x=u2 at hyy
 obtain⟨news,hsr,hrow⟩:=zSX hT r hsrc hyy
 have key:∃ u w' μ',(Builtin.append_ #[t,tx] o.type #[u1,u2]).run P w = .ok u w'/\Rel c M μ' { st1 with H:=(id,.row el ti.size (es++fs))::st1.H } tmps w'/\RV M μ' u (.ms id):=by
  rcases hv with⟨rfl,rfl,rfl⟩|⟨id0,rfl,hb,rfl⟩
  ·cases hvv
   exact qGO hT r ht hti hzs hzl hby hsr hrow hbound id hf (.inl ⟨rfl,rfl⟩)
  cases hvv with
  | ms hval _ =>
  have hm:=zB hb
  have hk:qM id0 st.H=true:=qH.2 ⟨_,hm⟩
  rcases(r.box id0 _ hm).cells with⟨rfl,h0,hva⟩|⟨b,cap,arr,h0,hva,hh,has,hlc,hcm,hone,hro⟩
  ·rw[hva]at hval;subst hval
   exact qGO hT (r.kill id0) ht hti hzs hzl hby hsr hrow hbound id hf (.inl ⟨rfl,rfl⟩)
  rw[hva]at hval;subst hval
  have hown:=r.own id0 b hk (.inl h0)
  exact qGO hT (r.kill id0) ht hti hzs hzl hby hsr hrow hbound id hf (.inr ⟨b,cap,arr,hown.1,hown.2.2,qQK r hk h0,rfl,hh,has,hlc,hcm,hone,hro⟩)
 obtain⟨u,w',μ',hrun,hr,hu⟩:=key
 have e1:(execOp (Act.eval ⟨tmps,[]⟩) o).run P w = .ok (.value u) w':=by
  simp[execOp,ho,resolve,invoke,builtin,hu1,hu2,hrun]
 rw[e1]
 exact⟨M,μ',hr,hu⟩
theorem zHE {c:Ctx} {M:qW} {μ:Mu} {st:St} {tmps:Array Value} {w:World} (r:Rel c M μ st tmps w) {id:Nat} (hf:st.fresh id=true) {e:TypeId} {sz:Nat} {es:List PD} {arr:Array Value}
  (h:RowOf M sz es arr.toList) (hm:es.length<=maxLen) :
  ∃ μ',Rel c M μ' { st with H:=(id,.row e sz es)::st.H } tmps (w.alloc (.cells arr e))/\RV M μ' (.slice (some ⟨w.heap.size,0,none⟩) es.length es.length) (.ms id):=by
 refine⟨upd μ id ⟨some w.heap.size,.slice (some ⟨w.heap.size,0,none⟩) es.length es.length,[]⟩,r.newBox hf (Grows.alloc w _) (fun b hb => ?_) ?_ rfl,.ms (by rw[qK]) rfl⟩
 ·cases hb;exact⟨Nat.le_refl _,by simp⟩
 have hl:arr.size=es.length * sz:=by have:=h.len;simpa using this
 exact h.box (b:=w.heap.size) (cap:=es.length) (by rw[qK]) (by rw[qK]) (heap_alloc_new w _) hl (Nat.le_refl _) hm (fun i u hu=>h.one u (by simpa using Array.mem_of_getElem? hu))
  (by rw[List.take_of_length_le (by simp[hl])])
theorem zBA {M:qW} {μ:Mu} {z:Array Value} {zs:List V} (hz:Cells M μ z zs) {e0:PD} {sz:Nat} (hzl:zs.length=sz) (hfit:V.fitsL [] zs e0.cells) (n:Nat) :
  RowOf M sz (List.replicate n e0) (madeCells z (n * sz)).toList:=by
 have hzs:z.size=sz:=by rw[hz.size,hzl]
 have hcl:e0.cells.length=sz:=by rw[<-V.fitsL_len hfit,hzl]
 have hget:∀ (k:Nat) (u:Value),(madeCells z (n * sz)).toList[k]?=some u->z[k % sz]?=some u:=by
  intro k u hu
  unfold madeCells at hu
  rw[Array.toList_map,List.getElem?_map]at hu
  obtain⟨k',hk',rfl⟩:=Option.map_eq_some_iff.1 hu
  rw[Array.toList_range]at hk'
  have h1:k<n * sz:=by
   have:=(List.getElem?_eq_some_iff.1 hk').1
   simpa using this
  rw[List.getElem?_range h1]at hk'
  cases hk'
  have hpos:0<sz:=by
   rcases Nat.eq_zero_or_pos sz with h0|h0
   ·subst h0;simp at h1
   exact h0
  have hlt:k % sz<z.size:=by rw[hzs];exact Nat.mod_lt _ hpos
  rw[hzs]
  simp[hlt]
 refine⟨by simp[size_madeCells],fun u hu => ?_,fun i e he => ?_,fun i e j d u he hd hu => ?_⟩
 ·obtain⟨k,hk⟩:=List.mem_iff_getElem?.1 hu
  exact hz.one _ u (hget k u hk)
 ·have:=List.mem_of_getElem? he
  rw[(List.mem_replicate.1 this).2];exact hcl
 have:=List.mem_of_getElem? he
 rw[(List.mem_replicate.1 this).2]at hd
 have hj:j<sz:=by rw[<-hcl];exact(List.getElem?_eq_some_iff.1 hd).1
 have:=hget _ u hu
 rw[Nat.mul_comm i sz,Nat.mul_add_mod,Nat.mod_eq_of_lt hj]at this
 have hx:zs[j]?=some zs[j]:=by simp[hzl,hj]
 exact kM (hz.get j u _ this hx) (V.fitsL_get hfit hx hd)
theorem qYF (hT:TOK P T) {o:Oper} {st:St} {t el:TypeId} {l cp:Operand} (ho:o.op = .makeSlice t l cp) {p q:Prop} {k k':IntKind} {n:Int} (hl:st.arg G l=(p,.p (.int k n))) (hp:p)
  (hc:st.arg G cp=(q,.p (.int k' n))) (hq:q) (ht:wA T t=some (.sl el)) {ti:TI} (hti:T el=some ti) {zs:List V} (hzs:ti.zero.cells=some zs) (hzl:zs.length=ti.size) {e0:PD} (hfit:V.fitsL [] zs e0.cells)
  (hn:0<=n) (hbound:ti.bytes * n<=140737488355328) (hby:0<ti.bytes) (id:Nat) (hf:st.fresh id=true) :
  Yields P G o st (.ms id) { st with H:=(id,.row el ti.size (List.replicate n.toNat e0))::st.H }:=by
 intro c M μ tmps w hg r
 obtain⟨z,hzr,hzc,i,hi,hz,hisz,hiby⟩:=qAW hT hti hzs M μ w
 have hd:=hT.sl ht
 have e1:=(qF hg r hl hp).p_inv
 have e2:=(qF hg r hc hq).p_inv
 generalize hu1:Act.eval ⟨tmps,[]⟩ l=u1 at e1
 generalize hu2:Act.eval ⟨tmps,[]⟩ cp=u2 at e2
 cases e1;cases e2
 have hn63:n<=140737488355328:=by
  have:1 * n<=ti.bytes * n:=Int.mul_le_mul_of_nonneg_right (by omega) hn
  omega
 have hrun:=run_make (P:=P) w t el i z hd hi hz k k' n n hn (Int.le_refl _) (by rw[hiby];omega) (by omega)
 have e3:(execOp (Act.eval ⟨tmps,[]⟩) o).run P w = .ok (.value (.slice (some ⟨w.heap.size,0,none⟩) n.toNat n.toNat)) (w.alloc (.cells (madeCells z.cells (n.toNat * i.size)) el)):=by
  simp[execOp,ho,hu1,hu2,hrun]
 rw[e3,hisz]
 obtain⟨μ',h1,h2⟩:=zHE r hf (e:=el) (zBA hzc hzl hfit n.toNat) (by simp[maxLen];omega)
 exact⟨M,μ',h1,by simpa using h2⟩
def uB (st:St) (G:qR) (sz:Nat):Nat->List (Nat × Operand)->List PD->Option (Prop × List PD × List PD)
 | _,[],orc=>some (True,[],orc)
 | k,(i,x)::r,orc=>match st.arg G x,orc with
  | (p,v),e::orc'=>match v.cells with
   | some xs=>match uB st G sz (k+1) r orc' with
    | some (q,es,orc2)=>some (p/\i=k/\V.fitsL [] xs e.cells/\xs.length=sz/\q,e::es,orc2)
    | none=>none
   | none=>none
  | _,_=>none
theorem zBO {c:Ctx} {M:qW} {μ:Mu} {st:St} {tmps:Array Value} {w:World} (hg:xY G c) (r:Rel c M μ st tmps w) (sz:Nat):∀ (parts:List (Nat × Operand)) (k:Nat) (orc:List PD) (q:Prop) (es orc':List PD) (arr:Array Value),
  uB st G sz k parts orc=some (q,es,orc')->q->(k+parts.length) * sz<=arr.size->(∀ (i:Nat) u,arr[i]?=some u->u.oneCell'=true) ->
  es.length=parts.length/\∃ arr',Instr.fill (fun i=>some (i * sz,sz)) arr (parts.map fun x=>(x.1,Act.eval ⟨tmps,[]⟩ x.2))=some arr'/\arr'.size=arr.size/\(∀ (i:Nat) u,arr'[i]?=some u->u.oneCell'=true) /\
   (∀ j,j<k * sz->arr'[j]?=arr[j]?)/\(∀ (i:Nat) e,es[i]?=some e->e.cells.length=sz)/\(∀ (i:Nat) e (j:Nat) d u,es[i]?=some e->e.cells[j]?=some d->arr'[(k+i) * sz+j]?=some u->Rd M u d)
 | [],k,orc,q,es,orc',arr,h,hq,hsz,hone=>by
  simp only[uB,Option.some.injEq,Prod.mk.injEq]at h
  obtain⟨rfl,rfl,rfl⟩:=h
  exact⟨rfl,arr,rfl,rfl,hone,fun _ _=>rfl,fun i e h=>by simp at h,fun i e j d u h=>by simp at h⟩
 | (i,x)::rest,k,orc,q,es,orc',arr,h,hq,hsz,hone=>by
  simp only[uB]at h
  split at h
  ·rename_i p v e orc1 harg
   split at h
   ·rename_i xs hxs
    split at h
    ·rename_i q2 es2 orc2 hrest
     simp only[Option.some.injEq,Prod.mk.injEq]at h
     obtain⟨rfl,rfl,rfl⟩:=h
     obtain⟨hp,rfl,hfit,hxl,hq2⟩:=hq
     have hv:=qF hg r harg hp
     have hcu:=Cells.of hv hxs
     generalize hu:Act.eval ⟨tmps,[]⟩ x=u at *
     obtain⟨f1,f2⟩:=qOI (i * sz) u.cells.toList 0 arr
     have efold:(u.cells.zipIdx.foldl (fun(cs:Array Value) (x:Value × Nat)=>match x with|(c,j)=>cs.setIfInBounds (i * sz+j) c) arr) =
       ((u.cells.toList.zipIdx 0).foldl (fun cs (x:Value × Nat)=>cs.setIfInBounds (i * sz+x.2) x.1) arr):=by
      rw[<-Array.foldl_toList];simp
     generalize hnew:((u.cells.toList.zipIdx 0).foldl (fun cs (x:Value × Nat)=>cs.setIfInBounds (i * sz+x.2) x.1) arr)=arr1 at *
     have hus:u.cells.toList.length=sz:=by simp[hcu.size,hxl]
     simp only[Nat.add_zero,hus]at f2
     have hroom:i * sz+sz<=arr.size:=by
      have h1:(i+1) * sz<=(i+(rest.length+1)) * sz:=Nat.mul_le_mul_right _ (by omega)
      simp only[List.length_cons]at hsz
      rw[Nat.add_mul,Nat.one_mul]at h1
      omega
     have hone1:∀ (j:Nat) u',arr1[j]?=some u'->u'.oneCell'=true:=by
      intro j u' hu'
      rw[f2 j]at hu'
      split at hu'
      ·exact hcu.one _ u' (by simpa using hu')
      exact hone j u' hu'
     obtain⟨g0,arr',g1,g2,g3,g4,g5,g6⟩:=zBO hg r sz rest (i+1) orc1 q2 es2 orc2 arr1 hrest hq2 (by rw[f1];simp only[List.length_cons]at hsz;rw[show i+1+rest.length=i+(rest.length+1) from by omega];exact hsz) hone1
     refine⟨by simp[g0],arr', ?_,by rw[g2,f1],g3,fun j hj => ?_,fun j e' he' => ?_,fun j e' l d u' he' hd hu' => ?_⟩
     ·simp only[List.map_cons,Instr.fill]
      rw[hu]
      rw[if_neg (by
       have:u.cells.size=sz:=by simpa using hus
       simp only[this];simp;exact hroom)]
      rw[efold]
      exact g1
     ·rw[g4 j (by rw[Nat.add_mul];omega),f2 j,if_neg (by omega)]
     ·cases j with
      | zero =>
       simp at he';subst he'
       rw[<-V.fitsL_len hfit,hxl]
      | succ j=>simp at he';exact g5 j e' he'
     cases j with
     | zero =>
      simp at he';subst he'
      have hl:l<sz:=by rw[<-hxl,V.fitsL_len hfit];exact(List.getElem?_eq_some_iff.1 hd).1
      rw[Nat.add_zero]at hu'
      rw[g4 _ (by rw[Nat.add_mul];omega),f2,if_pos ⟨by omega,by omega,by omega⟩]at hu'
      rw[show i * sz+l-i * sz=l from by omega]at hu'
      have hx:xs[l]?=some xs[l]:=by simp[hxl,hl]
      exact kM (hcu.get l u' _ (by simpa using hu') hx) (V.fitsL_get hfit hx hd)
     | succ j =>
      simp at he'
      exact g6 j e' l d u' he' hd (by rw[<-hu',show i+1+j=i+(j+1) from by omega])
    cases h
   cases h
  cases h
theorem qJA (hT:TOK P T) {o:Oper} {st:St} {t el:TypeId} {n:Nat} {parts:Array (Nat × Operand)} (ho:o.op = .buildSlice t n parts) (hn:parts.toList.length=n) (ht:wA T t=some (.sl el)) {ti:TI} (hti:T el=some ti)
  {zs:List V} (hzs:ti.zero.cells=some zs) (hzl:zs.length=ti.size) {orc orc' es:List PD} {q:Prop} (hpt:uB st G ti.size 0 parts.toList orc=some (q,es,orc')) (hq:q) (hb:n * ti.size<=16777216)
  (hn2:n<=16777216) (id:Nat) (hf:st.fresh id=true):Yields P G o st (.ms id) { st with H:=(id,.row el ti.size es)::st.H }:=by
 intro c M μ tmps w hg r
 obtain⟨z,hzr,hzc,i,hi,hz,hisz,hiby⟩:=qAW hT hti hzs M μ w
 have hd:=hT.sl ht
 have hone:∀ (j:Nat) u,(madeCells z.cells (n * ti.size))[j]?=some u->u.oneCell'=true:=by
  intro j u hu
  unfold madeCells at hu
  rw[Array.getElem?_map]at hu
  obtain⟨k',hk',rfl⟩:=Option.map_eq_some_iff.1 hu
  have hzs':z.cells.size=ti.size:=by rw[hzc.size,hzl]
  have hpos:0<ti.size:=by
   rcases Nat.eq_zero_or_pos ti.size with h0|h0
   ·rw[h0]at hk';simp at hk'
   exact h0
  have hlt:k' % z.cells.size<z.cells.size:=Nat.mod_lt _ (by omega)
  have:z.cells[k' % z.cells.size]! = z.cells[k' % z.cells.size]:=by simp[hlt]
  rw[this]
  exact hzc.one (k' % z.cells.size) _ (by simp[hlt])
 obtain⟨g0,arr',g1,g2,g3,_,g5,g6⟩:=zBO (tmps:=tmps) hg r ti.size parts.toList 0 orc q es orc' (madeCells z.cells (n * ti.size)) hpt hq (by rw[size_madeCells,Nat.zero_add,hn];exact Nat.le_refl _) hone
 rw[size_madeCells]at g2
 have e3:(execOp (Act.eval ⟨tmps,[]⟩) o).run P w = .ok (.value (.slice (some ⟨w.heap.size,0,none⟩) n n)) (w.alloc (.cells arr' el)):=by
  have hso:(sizeOf el).run P w = .ok ti.size w:=by simp[sizeOf,typeInfo,hi,hisz]
  have hmc:((Array.range (n * ti.size)).map (z.cells[· % z.cells.size]!))=madeCells z.cells (n * ti.size):=rfl
  have hrun:(Instr.buildSlice t n (parts.map fun x=>(x.1,Act.eval ⟨tmps,[]⟩ x.2))).run P w = .ok (.slice (some ⟨w.heap.size,0,none⟩) n n) (w.alloc (.cells arr' el)):=by
   unfold Instr.buildSlice
   rw[Sem.run_bind,run_underlying hd]
   simp only[Result.andThen_ok]
   rw[Sem.run_bind,hso]
   simp only[Result.andThen_ok]
   rw[if_neg (by omega)]
   by_cases h0:n * ti.size=0
   ·have hm0:madeCells z.cells (n * ti.size) = #[]:=by simp[madeCells,h0]
    rw[hm0]at g1
    have hr0:(Array.range 0).map (fun x=>(#[]:Array Value)[x % (#[]:Array Value).size]!) = #[]:=by apply Array.ext';simp
    simp only[h0,if_true,Sem.run_bind,Sem.run_pure,Result.andThen_ok,Array.toList_map]
    rw[hr0,g1]
    simp[newRow]
   rw[if_neg h0]
   simp only[Sem.run_bind,hzr,Sem.run_pure,Result.andThen_ok,hmc,Array.toList_map]
   rw[g1]
   simp[newRow]
  simp only[execOp,ho]
  rw[Sem.run_bind]
  simp only[hrun]
  rfl
 rw[e3]
 have hlen:es.length=n:=by rw[g0,hn]
 have hrow:RowOf M ti.size es arr'.toList:=⟨by simp[g2,hlen],fun u hu=>by
  obtain⟨k,hk,rfl⟩:=List.mem_iff_getElem.1 hu
  exact g3 k _ (by simp at hk;simp[hk]),g5,fun i e j d u he hd hu=>g6 i e j d u he hd (by rw[Nat.zero_add];simpa using hu)⟩
 obtain⟨μ',h1,h2⟩:=zHE r hf (e:=el) hrow (by simp[maxLen];omega)
 rw[hlen]at h2
 exact⟨M,μ',h1,h2⟩
end
section
variable {P:Program} {T:Tab} {G:qR} {Q:Exit->St->Prop}
def qBS (l:List PD) (o:Nat) (xs:List V):List V:=splice (l.map .p) o xs
theorem zDF (hT:TOK P T) {o:Oper} {st:St} {t:TypeId} {a x:Operand} (ho:o.op = .store t a x) {ti:TI} (ht:T t=some ti) {p q:Prop} {id i sz off:Nat} {v:V}
  (ha:st.arg G a=(p,.rptr id i sz off)) (hp:p) (hx:st.arg G x=(q,v)) (hq:q) {e:TypeId} {es:List PD} (hb:zQ id st.H=some (.row e sz es)) {xs:List V} (hxs:v.cells=some xs)
  (hsz:xs.length=ti.size) {e0 e1:PD} (he0:es[i]?=some e0) (hfit:off+xs.length<=e0.cells.length) (he1:V.fitsL [] (qBS e0.cells off xs) e1.cells) :
  Yields P G o st .dead { st with H:=zM id (.row e sz (es.set i e1)) st.H }:=by
 intro c M μ tmps w hg r
 have h1:=qF hg r ha hp
 have h2:=qF hg r hx hq
 generalize hu1:Act.eval ⟨tmps,[]⟩ a=u1 at h1
 generalize hu2:Act.eval ⟨tmps,[]⟩ x=u2 at h2
 cases h1 with
 | @rptr _ _ _ _ b hbk =>
 have hc:=Cells.of h2 hxs
 have hm:=zB hb
 have hbx:=r.box id _ hm
 cases hbx with
 | rowN h0 hv=>rw[hbk]at h0;cases h0
 | @row _ _ _ b' cap arr h0 hval hh hs hlc hcm ho1 hz hcc =>
 rw[hbk]at h0
 cases h0
 obtain⟨inf,d,hi,_,_,hszi,_⟩:=hT.get ht
 have hil:=(List.getElem?_eq_some_iff.1 he0).1
 have h0l:e0.cells.length=sz:=hz i e0 he0
 have hend:i * sz+sz<=arr.size:=by
  have:(i+1) * sz<=cap * sz:=Nat.mul_le_mul_right _ (by omega)
  rw[Nat.add_mul,Nat.one_mul]at this
  omega
 have hul:u2.cells.toList.length=xs.length:=by simp[hc.size]
 have hst:=run_storeCells_at P b (i * sz+off) e u2.cells.toList 0 arr w hh (by
  simp only[Nat.add_zero,hul]
  omega) (fun v hv=>by
   obtain⟨j,hj,rfl⟩:=List.mem_iff_getElem.1 hv
   exact hc.one j _ (by simp at hj;simp[hj]))
 simp only[Nat.add_zero]at hst
 generalize hnew:(arr.toList.take (i * sz+off)++u2.cells.toList++arr.toList.drop (i * sz+off+u2.cells.toList.length)).toArray=arr' at hst
 have hget:∀ k,arr'[k]?=if i * sz+off<=k/\k<i * sz+off+xs.length then u2.cells[k-(i * sz+off)]? else arr[k]?:=by
  intro k
  rw[<-hnew,List.getElem?_toArray]
  have hto:(arr.toList.take (i * sz+off)).length=i * sz+off:=by simp;omega
  rw[List.append_assoc,List.getElem?_append,hto]
  split
  ·rename_i hk
   rw[if_neg (by omega),List.getElem?_take,if_pos hk];simp
  rename_i hk
  rw[List.getElem?_append,hul]
  split
  ·rw[if_pos ⟨by omega,by omega⟩];simp
  rw[if_neg (by omega),List.getElem?_drop]
  rw[show i * sz+off+xs.length+(k-(i * sz+off)-xs.length)=k from by omega];simp
 have hsize:arr'.size=arr.size:=by
  have hus:u2.cells.size=xs.length:=hc.size
  rw[<-hnew]
  simp[hus]
  omega
 have e2:(execOp (Act.eval ⟨tmps,[]⟩) o).run P w = .ok .skip (w.setRow b arr'):=by
  have hs1:(sizeOf t).run P w = .ok ti.size w:=by simp[sizeOf,typeInfo,hi,hszi]
  have hcs:u2.cells.size=ti.size:=by rw[hc.size,hsz]
  simp only[execOp,ho,hu1,hu2]
  rw[Sem.run_bind]
  have:(Instr.storeAt t (.pointer (some ⟨b,i * sz+off,none⟩)) u2).run P w = .ok () (w.setRow b arr'):=by
   show(storeVar t ⟨b,i * sz+off,none⟩ u2).run P w=_
   unfold storeVar
   rw[Sem.run_bind,hs1]
   simp only[Result.andThen_ok]
   rw[if_neg (by simp[hcs])]
   exact hst
  rw[this]
  rfl
 rw[e2]
 have hset:∀ (k:Nat) e',(es.set i e1)[k]?=some e'->(k=i/\e'=e1)\/(k≠i/\es[k]?=some e'):=by
  intro k e' hk
  rw[List.getElem?_set]at hk
  split at hk
  ·rename_i hik
   subst hik
   simp only[Option.some.injEq]at hk
   exact .inl ⟨rfl,hk.symm⟩
  rename_i hik;exact .inr ⟨fun h=>hik h.symm,hk⟩
 have h1l:e1.cells.length=sz:=by
  rw[<-V.fitsL_len he1,<-h0l]
  simp[qBS,splice];omega
 refine⟨M,μ,r.write (qH.2 ⟨_,hm⟩) hbk (kB w b _) ?_,.dead⟩
 refine .row hbk (by rw[List.length_set];exact hval) (setRow_heap w b arr _ e (0,0) hh) (by rw[hsize];exact hs) (by rw[List.length_set];exact hlc) hcm (fun k u hu => ?_) (fun k e' he' => ?_) (fun k e' j d u he' hd hu => ?_)
 ·rw[hget k]at hu
  split at hu
  ·exact hc.one _ u hu
  exact ho1 k u hu
 ·rcases hset k e' he' with⟨rfl,rfl⟩|⟨_,h⟩
  ·exact h1l
  exact hz k e' h
 rcases hset k e' he' with⟨rfl,rfl⟩|⟨hne,h⟩
 ·have hj:j<sz:=by rw[<-h1l];exact(List.getElem?_eq_some_iff.1 hd).1
  have hlen:off+xs.length<=(e0.cells.map V.p).length:=by simpa using hfit
  have hspl:(qBS e0.cells off xs)[j]?=if off<=j/\j<off+xs.length then xs[j-off]? else(e0.cells.map V.p)[j]?:=uP _ xs off j hlen
  have hjx:j<(qBS e0.cells off xs).length:=by rw[V.fitsL_len he1,h1l];exact hj
  have hx:(qBS e0.cells off xs)[j]?=some (qBS e0.cells off xs)[j]:=by simp[hjx]
  have hft:=V.fitsL_get he1 hx hd
  rw[hget]at hu
  rw[hspl]at hx
  split at hu
  ·rename_i hin
   rw[if_pos ⟨by omega,by omega⟩]at hx
   rw[show k * sz+j-(k * sz+off)=j-off from by omega]at hu
   exact kM (hc.get _ u _ hu hx) hft
  rename_i hin
  rw[if_neg (by omega),List.getElem?_map]at hx
  obtain⟨d0,hd0,hd0e⟩:=Option.map_eq_some_iff.1 hx
  rw[<-hd0e]at hft
  simp only[V.fits]at hft
  subst hft
  exact hcc k e0 j _ u he0 hd0 hu
 have hj:j<sz:=by rw[<-hz k e' h];exact(List.getElem?_eq_some_iff.1 hd).1
 rw[hget]at hu
 have hfar:¬ (i * sz+off<=k * sz+j/\k * sz+j<i * sz+off+xs.length):=by
  rcases Nat.lt_or_gt_of_ne hne with hlt|hgt
  ·have:(k+1) * sz<=i * sz:=Nat.mul_le_mul_right _ hlt
   rw[Nat.add_mul,Nat.one_mul]at this
   omega
  have:(i+1) * sz<=k * sz:=Nat.mul_le_mul_right _ hgt
  rw[Nat.add_mul,Nat.one_mul]at this
  omega
 rw[if_neg hfar]at hu
 exact hcc k e' j d u h hd hu
def uR (s:List UInt8) (pos:Nat):Nat × Nat:=Utf8.decode ⟨s.toArray⟩ pos
theorem zRX (hT:TOK P T) {o:Oper} {st:St} {t:TypeId} {x:Operand} (ho:o.op = .range t x) (ht:wA T t=some .str) {p:Prop} {s:List UInt8} (hx:st.arg G x=(p,.p (.str s))) (hp:p) (id:Nat)
  (hf:st.fresh id=true):Yields P G o st (.it id) { st with H:=(id,.iter s 0)::st.H }:=by
 intro c M μ tmps w hg r
 have hd:=hT.str ht
 have h1:=(qF hg r hx hp).p_inv
 generalize hu1:Act.eval ⟨tmps,[]⟩ x=u1 at h1
 cases h1 with
 | @str b _ hs hm =>
 have e1:(execOp (Act.eval ⟨tmps,[]⟩) o).run P w = .ok (.value (.pointer (some ⟨w.heap.size,0,none⟩))) (w.alloc (.stringIter b 0)):=by
  simp[execOp,ho,hu1,Instr.range,run_underlying hd]
 rw[e1]
 refine⟨M,upd μ id ⟨some w.heap.size,undef,[]⟩,r.newBox hf (Grows.alloc w _) (fun b hb => ?_) (.iter (by rw[qK]) (heap_alloc_new w _) hs hm) rfl,.it (by rw[qK])⟩
 cases hb;exact⟨Nat.le_refl _,by simp⟩
theorem zIB {b:ByteArray} {s:List UInt8} (h:b.data.toList=s) (pos:Nat):Utf8.decode b pos=uR s pos:=by
 subst h
 unfold uR
 congr 1
theorem qEK (b:ByteArray) (pos:Nat):(Utf8.decode b pos).1<=0x10FFFF:=by
 have hb:∀ k,(b.get! (pos+k)).toNat<256:=fun k=>(b.get! (pos+k)).toNat_lt
 have h0:=hb 0;have h1:=hb 1;have h2:=hb 2;have h3:=hb 3
 unfold Utf8.decode
 simp only[]
 split
 ·simp only[];omega
 split
 ·split
  ·simp only[];omega
  simp[Utf8.runeError]
 split
 ·split
  ·simp only[];omega
  simp[Utf8.runeError]
 split
 ·split
  ·rename_i hv
   simp only[Bool.and_eq_true,Utf8.valid,Bool.or_eq_true,decide_eq_true_eq]at hv
   simp only[]
   omega
  simp[Utf8.runeError]
 simp[Utf8.runeError]
theorem zML {o:Oper} {st:St} {it:Operand} (ho:o.op = .next it true) {p:Prop} {id:Nat} (hit:st.arg G it=(p,.it id)) (hp:p) {s:List UInt8} {pos:Nat} (hb:zQ id st.H=some (.iter s pos)) (more:Bool)
  (hmore:more=decide (pos<s.length)):Yields P G o st (match more with
   | true => .tuple [.p (.bool true),.p (.int .i64 pos),.p (.int .i32 (uR s pos).1)]
   | false => .tuple [.p (.bool false)]) { st with H:=zM id (.iter s (match more with|true=>pos+(uR s pos).2|false=>pos)) st.H }:=by
 intro c M μ tmps w hg r
 have h1:=qF hg r hit hp
 generalize hu1:Act.eval ⟨tmps,[]⟩ it=u1 at h1
 cases h1 with
 | @it _ b hbk =>
 have hm:=zB hb
 have hbx:=r.box id _ hm
 cases hbx with
 | @iter _ _ b' ba h0 hh hs hl =>
 rw[hbk]at h0
 cases h0
 have hz:=xF hs
 have hnc:∀ {c e z},w.heap[b]?≠some (.cells c e z):=by intro c e z h;rw[hh]at h;cases h
 have hlt:b<w.heap.size:=(Array.getElem?_eq_some_iff.1 hh).1
 cases more with
 | true =>
  have hpos:pos<ba.size:=by rw[hz];simpa using hmore.symm
  have e1:(execOp (Act.eval ⟨tmps,[]⟩) o).run P w = .ok (.value (.tuple #[.bool true,.int .i64 pos,.int .i32 (Utf8.decode ba pos).1])) { w with heap:=w.heap.setIfInBounds b (.stringIter ba (pos+(Utf8.decode ba pos).2)) }:=by
   simp only[execOp,ho,hu1,Instr.next,getObj,setObj]
   simp[Sem.run,hh,hpos,goInt]
  rw[e1,zIB hs]
  have hd:=qEK ba pos
  rw[zIB hs]at hd
  refine⟨M,μ,r.write (qH.2 ⟨_,hm⟩) hbk ⟨rfl,rfl,rfl,by simp,fun k hk=>by simp[Array.getElem?_setIfInBounds_ne (Ne.symm hk)]⟩ (.iter hbk ?_ hs hl), ?_⟩
  ·show(w.heap.setIfInBounds b _)[b]?=_
   simp[hlt]
  refine .tuple rfl fun i u x hu hx => ?_
  match i,hu,hx with
  | 0,hu,hx=>simp at hu hx;subst hu;subst hx;exact .p (.bool true)
  | 1,hu,hx=>simp at hu hx;subst hu;subst hx;exact .p (Rd.intOf (by simp only[kD];omega) (by simp[kE,maxLen]at *; omega))
  | 2,hu,hx=>simp at hu hx;subst hu;subst hx;exact .p (Rd.intOf (by simp only[kD];omega) (by simp only[kE];omega))
  | i+3,hu,hx=>simp at hu
 | false =>
  have hpos:¬ pos<ba.size:=by rw[hz];simpa using hmore.symm
  have e1:(execOp (Act.eval ⟨tmps,[]⟩) o).run P w = .ok (.value (.tuple #[.bool false])) w:=by
   simp only[execOp,ho,hu1,Instr.next,getObj]
   simp[Sem.run,hh,hpos]
  rw[e1]
  refine⟨M,μ,r.write (qH.2 ⟨_,hm⟩) hbk ⟨rfl,rfl,rfl,rfl,fun _ _=>rfl⟩ (.iter hbk hh hs hl), ?_⟩
  refine .tuple rfl fun i u x hu hx => ?_
  match i,hu,hx with
  | 0,hu,hx=>simp at hu hx;subst hu;subst hx;exact .p (.bool false)
  | i+1,hu,hx=>simp at hu
theorem Rel.begin {c:Ctx} {M:qW} {μ:Mu} {st:St} {tmps:Array Value} {w:World} (r:Rel c M μ st tmps w) {d id:Nat} (hd:st.tmps[d]?=some .nilsl) (hf:st.fresh id=true) (e:TypeId) (sz:Nat) :
  ∃ μ',Rel c M μ' { st with tmps:=st.tmps.set d (.ms id),H:=(id,.row e sz [])::st.H } tmps w:=by
 have hlt:d<st.tmps.length:=(List.getElem?_eq_some_iff.1 hd).1
 have hlt':d<tmps.size:=by rw[r.slots.1];exact hlt
 have hv:=r.slots.2 d tmps[d] _ (by simp[hlt']) hd
 generalize hu:tmps[d]=u at hv
 cases hv with
 | nilsl =>
 refine⟨upd μ id ⟨none,.slice none 0 0,[]⟩, ?_⟩
 have r1:=r.adopt (l:=⟨none,.slice none 0 0,[]⟩) hf (fun b hb=>by cases hb) (bx := .row e sz []) (.rowN (by rw[qK]) (by rw[qK]))
 have r2:=r1.put (u:=tmps[d]) (x := .ms id) (by rw[hu];exact .ms (by rw[qK]) rfl) (some d)
 have e:tmps.setIfInBounds d tmps[d]=tmps:=by
  apply Array.ext_getElem?
  intro k
  rw[Array.getElem?_setIfInBounds]
  split
  ·rename_i h;subst h;simp[hlt']
  rfl
 simp only[e]at r2
 exact r2
theorem AW.begin {code:Code} {st:St} {d id:Nat} (e:TypeId) (sz:Nat) (hd:st.tmps[d]?=some .nilsl) (hf:st.fresh id=true)
  (k:AW P G code Q { st with tmps:=st.tmps.set d (.ms id),H:=(id,.row e sz [])::st.H }):AW P G code Q st:=by
 intro c M μ tmps w hg r
 obtain⟨μ',r'⟩:=r.begin hd hf e sz
 exact k c M μ' tmps w hg r'
theorem zE.begin {ops:Array Oper} {l:List Oper} {st:St} {d id:Nat} (e:TypeId) (sz:Nat) (hd:st.tmps[d]?=some .nilsl) (hf:st.fresh id=true)
  (k:zE P G ops Q l { st with tmps:=st.tmps.set d (.ms id),H:=(id,.row e sz [])::st.H }):zE P G ops Q l st:=by
 intro c M μ tmps w hg r
 obtain⟨μ',r'⟩:=r.begin hd hf e sz
 exact k c M μ' tmps w hg r'
end
mutual
def V.frz (id:Nat) (d:PD):V->V
 | .ms i=>if i=id then .p d else .ms i
 | .agg cs => .agg (V.frzL id d cs)
 | .when b x => .when b (V.frz id d x)
 | .func f a b => .func f (V.frzL id d a) (V.frzL id d b)
 | .tuple cs => .tuple (V.frzL id d cs)
 | .ptr i o=>if i=id then .dead else .ptr i o
 | .rptr i j k o=>if i=id then .dead else .rptr i j k o
 | .tl i j k=>if i=id then .dead else .tl i j k
 | .it i=>if i=id then .dead else .it i
 | .p d => .p d
 | .dead => .dead
 | .nilsl => .nilsl
 | .cptr cs => .cptr cs
def V.frzL (id:Nat) (d:PD):List V->List V
 | []=>[]
 | x::xs=>V.frz id d x::V.frzL id d xs
end
theorem V.frzL_eq (id:Nat) (d:PD):∀ l,V.frzL id d l=l.map (V.frz id d)
 | []=>by simp only[V.frzL,List.map_nil]
 | x::xs=>by simp only[V.frzL,List.map_cons,V.frzL_eq id d xs]
theorem RV.frz {M M':qW} {μ:Mu} {id:Nat} {d:PD} (hM:∀ b o v,M b o=some v->M' b o=some v) (hd:Rd M' (μ id).val d) {u:Value} {x:V} (r:RV M μ u x):RV M' μ u (x.frz id d):=by
 induction r with
 | p r=>simp only[V.frz];exact .p (r.mono hM)
 | dead=>simp only[V.frz];exact .dead
 | nilsl=>simp only[V.frz];exact .nilsl
 | ptr h1 => simp only [V.frz]; split; · exact .dead
             exact .ptr h1
 | rptr h1 => simp only [V.frz]; split; · exact .dead
              exact .rptr h1
 | tl h1 h2 h3 => simp only [V.frz]; split; · exact .dead
                  exact .tl h1 h2 h3
 | cptr h1 h2 =>
  simp only[V.frz]
  refine .cptr (fun j d hd => ?_) (fun j d u hd hu => ?_)
  ·obtain⟨u,hu,hc⟩:=h1 j d hd;exact⟨u,hM _ _ _ hu,hc⟩
  obtain⟨u',hu',_⟩:=h1 j d hd
  have:=hM _ _ _ hu'
  rw[this]at hu;cases hu
  exact(h2 j d _ hd hu').mono hM
 | ms h1 h2 =>
  simp only[V.frz];split
  ·rename_i e;subst e;rw[h1];exact .p hd
  exact .ms h1 h2
 | it h1 => simp only [V.frz]; split; · exact .dead
            exact .it h1
 | func h1 h2 _ _ ih1 ih2 =>
  simp only[V.frz,V.frzL_eq]
  refine .func (by simpa using h1) (by simpa using h2) (fun i u x hu hx => ?_) (fun i u x hu hx => ?_)
  ·rw[List.getElem?_map]at hx
   obtain⟨y,hy,rfl⟩:=Option.map_eq_some_iff.1 hx
   exact ih1 i u y hu hy
  rw[List.getElem?_map]at hx
  obtain⟨y,hy,rfl⟩:=Option.map_eq_some_iff.1 hx
  exact ih2 i u y hu hy
 | agg h1 h2 _ ih =>
  simp only[V.frz,V.frzL_eq]
  refine .agg (by simpa using h1) h2 (fun i u x hu hx => ?_)
  rw[List.getElem?_map]at hx
  obtain⟨y,hy,rfl⟩:=Option.map_eq_some_iff.1 hx
  exact ih i u y hu hy
 | tuple h1 _ ih =>
  simp only[V.frz,V.frzL_eq]
  refine .tuple (by simpa using h1) (fun i u x hu hx => ?_)
  rw[List.getElem?_map]at hx
  obtain⟨y,hy,rfl⟩:=Option.map_eq_some_iff.1 hx
  exact ih i u y hu hy
 | when _ h2 ih=>simp only[V.frz];exact .when (fun hb=>ih hb) h2
def Box.frz (id:Nat) (d:PD):Box->Box
 | .vars e cs => .vars e (V.frzL id d cs)
 | .row e sz es => .row e sz es
 | .iter s pos => .iter s pos
 | .mp ks vs => .mp ks (V.frzL id d vs)
 | .mpx ks vs => .mpx ks (V.frzL id d vs)
 | .obj b v o rs => .obj b v o rs
 | .brow e bs => .brow e bs
 | .mach es en ss => .mach es en ss
 | .prow e ps => .prow e (V.frzL id d ps)
theorem RBox.frz {M M':qW} {μ:Mu} {w:World} {id i:Nat} {d:PD} (hM:∀ b o v,M b o=some v->M' b o=some v) (hd:Rd M' (μ id).val d) {bx:Box} (r:RBox M μ w i bx):RBox M' μ w i (bx.frz id d):=by
 cases r with
 | mach h0 hv h1 h2 h3 h4 h5 hn h6=>exact .mach h0 hv h1 h2 h3 h4 h5 hn (h6.mono hM fun _ _=>rfl)
 | machN h0 hv h1=>exact .machN h0 hv h1
 | vars h0 h1 h2 h3 h4 =>
  simp only[Box.frz,V.frzL_eq]
  refine .vars h0 h1 (by simpa using h2) h3 fun i u x hu hx => ?_
  rw[List.getElem?_map]at hx
  obtain⟨y,hy,rfl⟩:=Option.map_eq_some_iff.1 hx
  exact(h4 i u y hu hy).frz hM hd
 | row h0 hv h1 h2 h3 h4 h5 h6 h7=>exact .row h0 hv h1 h2 h3 h4 h5 h6 fun i e' j d u he hd hu=>(h7 i e' j d u he hd hu).mono hM
 | rowN h0 hv=>exact .rowN h0 hv
 | iter h0 h1 h2 h3=>exact .iter h0 h1 h2 h3
 | obj h0 hv h1=>exact .obj h0 hv h1
 | brow h0 hv h1 h2 h3 h4 h5 h6=>exact .brow h0 hv h1 h2 h3 h4 h5 h6
 | prow h0 hv h1 h2 h3 h4 h5 h6 =>
  simp only[Box.frz,V.frzL_eq]
  refine .prow h0 (by simpa using hv) h1 h2 (by simpa using h3) h4 h5 fun i u x hu hx => ?_
  rw[List.getElem?_map]at hx
  obtain⟨y,hy,rfl⟩:=Option.map_eq_some_iff.1 hx
  exact(h6 i u y hu hy).frz hM hd
 | mpx h0 hv h1 hB hl h2 h3 =>
  simp only[Box.frz,V.frzL_eq]
  refine .mpx h0 hv h1 hB (by simpa using hl) (fun e he => ?_) h3
  obtain⟨i,ba,g1,g2,g3,g4⟩:=h2 e he
  refine⟨i,ba,g1,g2,g3,fun x hx => ?_⟩
  rw[List.getElem?_map]at hx
  obtain⟨y,hy,rfl⟩:=Option.map_eq_some_iff.1 hx
  exact(g4 y hy).frz hM hd
 | mp h0 hv h1 hB h2 h3 h4 h5 =>
  simp only[Box.frz,V.frzL_eq]
  refine .mp h0 hv h1 hB h2 (by simpa using h3) h4 fun i e x he hx => ?_
  rw[List.getElem?_map]at hx
  obtain⟨y,hy,rfl⟩:=Option.map_eq_some_iff.1 hx
  exact(h5 i e y he hy).frz hM hd
def qLV (id:Nat) (d:PD):List (Nat × Box)->List (Nat × Box)
 | []=>[]
 | (i,b)::r=>if i=id then qLV id d r else(i,b.frz id d)::qLV id d r
theorem qFZ {id:Nat} {d:PD}:∀ {H:List (Nat × Box)} {i:Nat} {b:Box},(i,b)∈qLV id d H->i≠id/\∃ b',(i,b')∈H/\b=b'.frz id d
 | (j,c)::r,i,b,h=>by
  simp only[qLV]at h
  split at h
  ·obtain⟨h1,b',h2,h3⟩:=qFZ h;exact⟨h1,b',List.mem_cons.2 (.inr h2),h3⟩
  rename_i hj
  rcases List.mem_cons.1 h with e|e
  ·cases e;exact⟨hj,c,by simp,rfl⟩
  obtain⟨h1,b',h2,h3⟩:=qFZ e;exact⟨h1,b',List.mem_cons.2 (.inr h2),h3⟩
theorem qHE (id:Nat) (d:PD):∀ H:List (Nat × Box),(qLV id d H).map (·.1)=(H.map (·.1)).filter (· ≠ id)
 | []=>rfl
 | (j,c)::r=>by
  simp only[qLV]
  split
  ·rename_i h;simp[h,qHE id d r]
  rename_i h;simp[h,qHE id d r]
theorem vV {id i:Nat} {d:PD} {H:List (Nat × Box)} (h:qM i (qLV id d H)=true):i≠id/\qM i H=true:=by
 obtain⟨b,hb⟩:=qH.1 h
 obtain⟨h1,b',h2,_⟩:=qFZ hb
 exact⟨h1,qH.2 ⟨b',h2⟩⟩
def St.freeze (st:St) (id:Nat):St :=
 match zQ id st.H with
 | some (.row _ sz es)=>{ st with tmps:=V.frzL id (.sl sz es) st.tmps,pins:=st.pins.filter (· != id),H:=qLV id (.sl sz es) st.H }
 | _=>st
theorem Rel.freeze {c:Ctx} {M:qW} {μ:Mu} {st:St} {tmps:Array Value} {w:World} (r:Rel c M μ st tmps w) (id:Nat):∃ M',Rel c M' μ (st.freeze id) tmps w:=by
 unfold St.freeze
 split
 ·rename_i e sz es hb
  have hm:=zB hb
  have hk:qM id st.H=true:=qH.2 ⟨_,hm⟩
  let M2:qW:=fun b o=>if(μ id).blk=some b then w.cell? ⟨b,o,none⟩ else M b o
  have e1:∀ b o,(μ id).blk=some b->M2 b o=w.cell? ⟨b,o,none⟩:=fun b o h=>if_pos h
  have e2:∀ b o,(μ id).blk≠some b->M2 b o=M b o:=fun b o h=>if_neg h
  have hM:∀ b o v,M b o=some v->M2 b o=some v:=by
   intro b o v hv
   by_cases h:(μ id).blk=some b
   ·rw[e1 b o h];exact r.mem b o v hv
   rw[e2 b o h];exact hv
  have hd:Rd M2 (μ id).val (.sl sz es):=qGX (r.box id _ hm) hM fun b h o v hv=>by rw[e1 b o h];exact hv
  refine⟨M2, ?_,fun b o v hv=>hM _ _ _ (r.ext b o v hv),fun b o hb => ?_,⟨by simp[V.frzL_eq,r.slots.1],fun i u x hu hx => ?_⟩,fun i hi=>r.pins i (List.mem_filter.1 hi).1,fun i b hi => ?_, ?_,fun i j b hi hj => ?_,fun i b hi hib => ?_,r.size,r.below⟩
  ·intro b o v hv
   by_cases h:(μ id).blk=some b
   ·rw[e1 b o h]at hv;exact hv
   rw[e2 b o h]at hv;exact r.mem b o v hv
  ·rw[e2 b o fun h=>hb (r.own id b hk (.inl h)).1];exact r.old b o hb
  ·simp only[V.frzL_eq]at hx
   rw[List.getElem?_map]at hx
   obtain⟨y,hy,rfl⟩:=Option.map_eq_some_iff.1 hx
   exact(r.slots.2 i u y hu hy).frz hM hd
  ·obtain⟨_,b',h2,rfl⟩:=qFZ hi
   exact(r.box i b' h2).frz hM hd
  ·show((qLV id (.sl sz es) st.H).map (·.1)).Nodup
   rw[qHE];exact r.nodup.filter _
  ·exact r.inj i j b (vV hi).2 (vV hj).2
  obtain⟨h1,h2⟩:=vV hi
  have h3:=r.own i b h2 hib
  exact⟨h3.1,h3.2.1,fun o=>by rw[e2 b o fun h=>h1 (r.inj i id b h2 hk hib (.inl h))];exact h3.2.2 o⟩
 exact⟨M,r⟩
set_option linter.all false
def pcells (ds:List PD):List V:=ds.map .p
def xJ (n:Nat) (d:PD):List PD:=List.replicate n d
@[simp] theorem zXK (ds:List PD):(pcells ds).length=ds.length:=by simp[pcells]
@[simp] theorem wBO (n:Nat) (d:PD):(xJ n d).length=n:=by simp[xJ]
@[simp] theorem zVO (ds:List PD) (n:Nat):(pcells ds).take n=pcells (ds.take n):=by simp[pcells,List.map_take]
@[simp] theorem zVP (ds:List PD) (n:Nat):(pcells ds).drop n=pcells (ds.drop n):=by simp[pcells,List.map_drop]
@[simp] theorem zXJ:pcells []=[]:=rfl
@[simp] theorem zXL (ds:List PD) (n:Nat):(pcells ds)[n]?=(ds[n]?).map .p:=by simp[pcells]
@[simp] theorem zXI (ds:List PD) (n:Nat) (d:PD):(pcells ds).set n (.p d)=pcells (ds.set n d):=by simp[pcells,List.map_set]
@[simp] theorem zZH (l:List V):kG l l=True:=eq_true (kG.refl l)
theorem TOK.map {P:Program} {T:Tab} (h:TOK P T) {t k e:TypeId} (ht:wA T t=some (.map k e)):P.underlying t=some (.map k e):=by
 obtain⟨d,hd,hd2⟩:=h.kind ht;rw[hd,TK.of_map hd2]
theorem zYG {a b:ByteArray} (h:a.data.toList=b.data.toList):a=b:=by
 cases a with
 | mk a=>cases b with
  | mk b=>congr 1;exact Array.toList_inj.1 h
theorem zJT {P:Program} {T:Tab} (hT:TOK P T) {t:TypeId} {ti:TI} (ht:T t=some ti) {d:PD} (hz:ti.zero = .p d) (M:qW) (μ:Mu) (w:World):∃ z,(zeroValue t).run P w = .ok z w/\RV M μ z (.p d):=by
 obtain⟨i,_,hi,_,_,_,_,hzero,_⟩:=hT.get ht
 cases hzz:i.zero with
 | none=>rw[hzz]at hzero;simp at hzero;rw[hz]at hzero;cases hzero
 | some z =>
  rw[hzz]at hzero;simp at hzero
  exact⟨z,by simp[zeroValue,typeInfo,hi,hzz],by rw[<-hz,<-hzero];exact xL M μ z⟩
def qP (s:List UInt8):List PD:=s.map fun b => .int .u8 b.toNat
@[simp] theorem zFX (s:List UInt8):(qP s).length=s.length:=by simp[qP]
theorem qBJ {s:List UInt8} {i:Nat} {b:UInt8} (h:s[i]?=some b):(qP s)[i]?=some (.int .u8 b.toNat):=by simp[qP,h]
theorem qRN {P:Program} {T:Tab} (hT:TOK P T) {s d e:TypeId} (hs:wA T s=some (.sl e)) (hd:wA T d=some .str) (he:wA T e=some (.int .u8)) {M:qW} {w:World} {a:Option Addr} {n c:Nat} {bs:List UInt8}
  (hmem:∀ b o v,M b o=some v->w.cell? ⟨b,o,none⟩=some v) (h:Rd M (.slice a n c) (.sl 1 (qP bs))):∃ ba:ByteArray,(convert s d (.slice a n c)).run P w = .ok (.string ba) w/\ba.data.toList=bs/\bs.length<=maxLen:=by
 cases h with
 | sl b o hn hnc hcm ha h5 h6 h7 =>
 rw[zFX]at hn
 have hl:bs.length<=maxLen:=by omega
 by_cases hne:n=0
 ·subst hne
  obtain rfl:bs=[]:=List.eq_nil_of_length_eq_zero hn.symm
  refine⟨ByteArray.empty, ?_,rfl,hl⟩
  cases a with
  | none=>exact run_convert_bytes_nil w s e (hT.sl hs) (hT.int he) 0 c d (hT.str hd)
  | some a =>
   obtain⟨b',o',k⟩:=a
   rw[run_convert_bytes_string w s d e _ 0 c (hT.sl hs) (hT.int he) (hT.str hd),run_bytesToString w _ 0 c [] (by simp[loadCells,loadCellsFrom])]
   rfl
 obtain rfl:=ha hne
 refine⟨strOfNums (bs.map fun b=>(b.toNat:Int)),run_convert_bytes_arg w s e (hT.sl hs) (hT.int he) b o n c (bs.map fun b=>(b.toNat:Int)) (by simpa using hn.symm) (fun i hi => ?_) d (hT.str hd), ?_,hl⟩
 ·have hi':i<bs.length:=by omega
  have hg:(qP bs)[i]?=some (.int .u8 (bs[i]).toNat):=qBJ (by simp[hi'])
  obtain⟨u,hu,_⟩:=h6 i _ 0 hg (by omega)
  have h8:=h7 i _ 0 _ u hg rfl hu
  cases h8
  have:=hmem _ _ _ hu
  simp only[Nat.mul_one,Nat.add_zero]at this
  rw[this]
  simp[List.getD_eq_getElem?_getD,List.getElem?_map,hi']
 rw[strOfNums_data];simp[List.map_map,Function.comp_def]
theorem qRU.push {es:Array MapEntry} {clock:Nat} (h:qRU es clock) (k v:Value):qRU (es.push { key:=k,val:=v,born:=clock }) (clock+1):=by
 obtain⟨h1,h2⟩:=h
 refine⟨fun x hx => ?_, ?_⟩
 ·rw[Array.toList_push,List.mem_append]at hx
  rcases hx with hx|hx
  ·exact Nat.lt_succ_of_lt (h1 x hx)
  rw[List.mem_singleton]at hx;subst hx;exact Nat.lt_succ_self _
 rw[Array.toList_push,List.map_append,List.nodup_append]
 refine⟨h2,by simp,fun a ha b hb => ?_⟩
 simp only[List.map_cons,List.map_nil,List.mem_singleton]at hb
 obtain⟨x,hx,rfl⟩:=List.mem_map.1 ha
 have:=h1 x hx
 omega
def qDG (T:Tab) (G:qR) (st:St) (op:Op) (orc:List PD):Option (Prop × V × List PD) :=
 match op with
 | .indexAddr t x i=>match wA T t,st.arg G x,st.arg G i with
  | some (.ar n el),(p,.ptr id a),(q,.p (.int _ m))=>match T el with
   | some ti=>some (p/\q/\0<=m/\m<n,.rptr id m.toNat ti.size a,orc)
   | none=>none
  | some (.ar n el),(p,.cptr cs),(q,.p (.int _ m))=>match T el,orc with
   | some ti,e::orc'=>some (p/\q/\0<=m/\m<n/\(cs.drop (m.toNat * ti.size)).take ti.size=e.cells,.cptr e.cells,orc')
   | _,_=>none
  | _,_,_=>none
 | .load t x=>match T t,st.arg G x,orc with
  | some ti,(p,.rptr id i sz o),e::orc'=>match zQ id st.H,ti.k.agg with
   | some (.vars _ cells),false=>some (p/\cells[i * sz+o]?=some (.p e),.p e,orc')
   | _,_=>none
  | _,_,_=>none
 | .lookup t m k ok=>match wA T t,st.arg G m,st.arg G k,orc with
  | some (.map kt et),(p,.ms id),(q,.p (.str s)),e::orc'=>match wA T kt,T et,zQ id st.H with
   | some .str,some ti,some (.mp ks vs)=>some (p/\q/\(∀ (i:Nat),ks[i]?=some s->vs[i]?=some (.p e))/\(s ∉ ks->ti.zero = .p e),if ok then .tuple [.p e,.p (.bool (decide (s∈ks)))] else .p e,orc')
   | _,_,_=>none
  | _,_,_,_=>none
 | .convert s d x=>match wA T s,wA T d,st.arg G x,orc with
  | some (.sl e),some .str,(p,.p (.sl 1 es)),.str b::orc'=>if wA T e=some (.int .u8) then some (p/\es=qP b,.p (.str b),orc') else none
  | some (.sl e),some .str,(p,.ms id),.str b::orc'=>match zQ id st.H with
   | some (.row _ 1 es)=>if wA T e=some (.int .u8) then some (p/\es=qP b,.p (.str b),orc') else none
   | _=>none
  | _,_,_,_=>none
 | .field t x i=>match T t,st.arg G x with
  | some ti,(p,.p (.agg cs))=>match ti.k with
   | .st fs=>match fs[i]? with
    | some (off,ft)=>match T ft with
     | some tf=>match tf.k.agg with
      | true=>some (p/\off+tf.size<=cs.length,.p (.agg ((cs.drop off).take tf.size)),orc)
      | false=>match cs.drop off with
       | d::_=>some (p,.p d,orc)
       | []=>none
     | none=>none
    | none=>none
   | _=>none
  | _,_=>none
 | _=>none
section
variable {P:Program} {T:Tab} {G:qR} {c:Ctx} {M:qW} {μ:Mu} {st:St} {tmps:Array Value} {w:World}
theorem qRQ (hT:TOK P T) (hg:xY G c) (r:Rel c M μ st tmps w) {o:Oper} {orc orc':List PD} {v:Prop} {x:V} (h:qDG T G st o.op orc=some (v,x,orc')) (hv:v) :
  ∃ u,(execOp (Act.eval ⟨tmps,[]⟩) o).run P w = .ok (.value u) w/\RV M μ u x:=by
 obtain⟨dst,op,ty,pos,after,guard⟩:=o
 simp only at h
 unfold qDG at h
 split at h
 ·rename_i t a i
  split at h
  ·rename_i n el p id off q k m hk h1 h2
   split at h
   ·rename_i ti hti
    simp only[Option.some.injEq,Prod.mk.injEq]at h
    obtain⟨rfl,rfl,rfl⟩:=h
    obtain⟨hp,hq,h0,hm⟩:=hv
    have hd:=hT.ar hk
    obtain⟨ie,de,hi',_,_,hsz',_⟩:=hT.get hti
    have e1:=qF hg r h1 hp
    have e2:=(qF hg r h2 hq).p_inv
    generalize hu1:Act.eval ⟨tmps,[]⟩ a=u1 at e1
    generalize hu2:Act.eval ⟨tmps,[]⟩ i=u2 at e2
    cases e1 with
    | @ptr _ _ b hb =>
    cases e2
    have hso:(sizeOf el).run P w = .ok ti.size w:=by simp[sizeOf,typeInfo,hi',hsz']
    refine⟨.pointer (some ⟨b,m.toNat * ti.size+off,none⟩), ?_,.rptr hb⟩
    simp[execOp,hu1,hu2,Instr.indexAt,asIntOf,run_underlying hd,h0,hm,hso,jF,Instr.sureAddr,Nat.add_comm]
   cases h
  ·rename_i n el p cs q k m hk h1 h2
   split at h
   ·rename_i ti e orc2 hti
    simp only[Option.some.injEq,Prod.mk.injEq]at h
    obtain⟨rfl,rfl,rfl⟩:=h
    obtain⟨hp,hq,h0,hm,hcs⟩:=hv
    have hd:=hT.ar hk
    obtain⟨ie,de,hi',_,_,hsz',_⟩:=hT.get hti
    have e1:=qF hg r h1 hp
    have e2:=(qF hg r h2 hq).p_inv
    generalize hu1:Act.eval ⟨tmps,[]⟩ a=u1 at e1
    generalize hu2:Act.eval ⟨tmps,[]⟩ i=u2 at e2
    cases e1 with
    | @cptr b o _ h3 h4 =>
    cases e2
    have hso:(sizeOf el).run P w = .ok ti.size w:=by simp[sizeOf,typeInfo,hi',hsz']
    have hget:∀ (j:Nat) d,e.cells[j]?=some d->cs[m.toNat * ti.size+j]?=some d:=fun j d hd'=>by
     rw[<-hcs,List.getElem?_take]at hd'
     split at hd'
     ·rw[List.getElem?_drop]at hd';exact hd'
     cases hd'
    refine⟨.pointer (some ⟨b,o+m.toNat * ti.size,none⟩), ?_,.cptr (fun j d hd' => ?_) (fun j d u hd' hu' => ?_)⟩
    ·simp[execOp,hu1,hu2,Instr.indexAt,asIntOf,run_underlying hd,h0,hm,hso,jF,Instr.sureAddr]
    ·rw[Nat.add_assoc];exact h3 _ d (hget j d hd')
    rw[Nat.add_assoc]at hu';exact h4 _ d u (hget j d hd') hu'
   cases h
  cases h
 ·rename_i t a
  split at h
  ·rename_i ti p id i sz off e orc2 hti h1
   split at h
   ·rename_i e0 cells hb hag
    simp only[Option.some.injEq,Prod.mk.injEq]at h
    obtain⟨rfl,rfl,rfl⟩:=h
    obtain⟨hp,hce⟩:=hv
    obtain⟨it,d,hi,hd,hk,hsz,_⟩:=hT.get hti
    have e1:=qF hg r h1 hp
    generalize hu1:Act.eval ⟨tmps,[]⟩ a=u1 at e1
    cases e1 with
    | @rptr _ _ _ _ b hbk =>
    have hbx:=r.box id _ (zB hb)
    cases hbx with
    | @vars _ _ bk' arr h0 hh hs ho hc =>
    rw[hbk]at h0
    cases h0
    have hlt:i * sz+off<arr.size:=by rw[hs];exact(List.getElem?_eq_some_iff.1 hce).1
    have hcell:w.cell? ⟨b,i * sz+off,none⟩=arr[i * sz+off]?:=zP hh
    refine⟨_, ?_,hc (i * sz+off) arr[i * sz+off] (.p e) (by simp[hlt]) hce⟩
    have:=jO hd hi b (i * sz+off) (fun _=>arr[i * sz+off]) w (fun j hj=>by
     rw[hk,hag]at hj
     have:j=0:=by simpa using hj
     subst this
     rw[Nat.add_zero,hcell];simp[hlt])
    rw[hk,hag]at this
    simp[execOp,hu1,this]
   cases h
  cases h
 ·rename_i t m k ok
  split at h
  ·rename_i kt et p id q s e orc2 hk h1 h2
   split at h
   ·rename_i ti ks vs hkt hti hb
    simp only[Option.some.injEq,Prod.mk.injEq]at h
    obtain⟨rfl,rfl,rfl⟩:=h
    obtain⟨hp,hq,hin,hno⟩:=hv
    have hd:=hT.map hk
    have hdk:=hT.str hkt
    have e1:=qF hg r h1 hp
    have e2:=(qF hg r h2 hq).p_inv
    generalize hu1:Act.eval ⟨tmps,[]⟩ m=u1 at e1
    generalize hu2:Act.eval ⟨tmps,[]⟩ k=u2 at e2
    cases e1 with
    | ms hval hone =>
    cases e2 with
    | @str ba _ hba hlen =>
    have hbx:=r.box id _ (zB hb)
    cases hbx with
    | @mp _ _ b clock es h0 hv h3 hB h4 h5 h6 h7 =>
    rw[hv]at hval
    subst hval
    have hks:∀ x∈es.toList,MapKept.IsKey .string x.key:=by
     intro x hx
     obtain⟨i,hi,rfl⟩:=List.mem_iff_getElem.1 hx
     have hi':i<es.size:=by simpa using hi
     obtain⟨ba',he,_⟩:=h6 i es[i] ks[i] (by simp[hi']) (by simp[show i<ks.length by omega])
     simp only[Array.getElem_toList]
     rw[he];trivial
    have hik:MapKept.IsKey .string (.string ba):=trivial
    rcases MapKept.findNow_spec hik es.toList 0 hks with⟨g1,g2⟩|⟨j,e',g1,g2,g3⟩
    ·have hnk:s ∉ ks:=by
      intro hm
      obtain⟨i,hi,rfl⟩:=List.mem_iff_getElem.1 hm
      have hi':i<es.size:=by omega
      obtain⟨ba',he,hbs⟩:=h6 i es[i] ks[i] (by simp[hi']) (by simp[hi])
      refine g2 es[i] (by simp) ?_
      rw[he]
      congr 1
      exact zYG (hbs.1.trans hba.symm)
     obtain⟨z,hz,hrz⟩:=zJT hT hti (hno hnk) M μ w
     refine⟨if ok then .tuple #[z,.bool false] else z,by cases ok <;> simp[execOp,hu1,hu2,Instr.lookup,run_underlying hd,MapKept.run_getObj_map h3,MapKept.run_checkKey hdk hik,MapKept.run_findKey hdk g1,hz,Result.andThen], ?_⟩
     cases ok with
     | false=>exact hrz
     | true =>
      refine .tuple rfl fun i u x hu hx => ?_
      match i with
      | 0=>simp at hu hx;subst hu;subst hx;exact hrz
      | 1=>simp at hu hx;subst hu;subst hx;rw[show decide (s∈ks)=false by simpa using hnk];exact .p (.bool _)
      | i+2=>simp at hu
    have hje:es[j]?=some e':=by simpa using g2
    have hj:j<es.size:=(Array.getElem?_eq_some_iff.1 hje).1
    have hkj:ks[j]?=some s:=by
     obtain⟨ba',he,hbs⟩:=h6 j e' ks[j] hje (by simp[show j<ks.length by omega])
     rw[g3]at he
     cases he
     rw[List.getElem?_eq_getElem (by omega),<-hbs.1,hba]
    have hrv:=h7 j e' _ hje (hin j hkj)
    refine⟨if ok then .tuple #[e'.val,.bool true] else e'.val,by cases ok <;> simp[execOp,hu1,hu2,Instr.lookup,run_underlying hd,MapKept.run_getObj_map h3,MapKept.run_checkKey hdk hik,MapKept.run_findKey hdk g1,Result.andThen], ?_⟩
    cases ok with
    | false=>exact hrv
    | true =>
     refine .tuple rfl fun i u x hu hx => ?_
     match i with
     | 0=>simp at hu hx;subst hu;subst hx;exact hrv
     | 1=>simp at hu hx;subst hu;subst hx;rw[show decide (s∈ks)=true by simpa using List.mem_of_getElem? hkj];exact .p (.bool _)
     | i+2=>simp at hu
   cases h
  cases h
 ·rename_i s d a
  split at h
  ·rename_i e p es b orc2 hs hd h1
   split at h
   ·rename_i he
    simp only[Option.some.injEq,Prod.mk.injEq]at h
    obtain⟨rfl,rfl,rfl⟩:=h
    obtain⟨hp,rfl⟩:=hv
    have e1:=(qF hg r h1 hp).p_inv
    generalize hu1:Act.eval ⟨tmps,[]⟩ a=u1 at e1
    have e1':=e1
    cases e1' with
    | sl b0 o0 _ _ _ _ _ _ _ =>
    obtain⟨ba,hrun,hba,hlen⟩:=qRN hT hs hd he r.mem e1
    exact⟨.string ba,by simp[execOp,hu1,hrun],.p (.str hba hlen)⟩
   cases h
  ·rename_i e p id b orc2 hs hd h1
   split at h
   ·rename_i e' es hb
    split at h
    ·rename_i he
     simp only[Option.some.injEq,Prod.mk.injEq]at h
     obtain⟨rfl,rfl,rfl⟩:=h
     obtain⟨hp,rfl⟩:=hv
     have e1:=qF hg r h1 hp
     generalize hu1:Act.eval ⟨tmps,[]⟩ a=u1 at e1
     cases e1 with
     | ms hval hone =>
     have hbx:=r.box id _ (zB hb)
     let M2:qW:=fun b o=>if(μ id).blk=some b then w.cell? ⟨b,o,none⟩ else M b o
     have hM:∀ b o v,M b o=some v->M2 b o=some v:=by
      intro b o v hv
      show(if(μ id).blk=some b then w.cell? ⟨b,o,none⟩ else M b o)=some v
      split
      ·exact r.mem b o v hv
      exact hv
     have hmem:∀ b o v,M2 b o=some v->w.cell? ⟨b,o,none⟩=some v:=by
      intro b o v hv
      have hv':(if(μ id).blk=some b then w.cell? ⟨b,o,none⟩ else M b o)=some v:=hv
      split at hv'
      ·exact hv'
      exact r.mem b o v hv'
     have hrd:Rd M2 (μ id).val (.sl 1 (qP b)):=qGX hbx hM fun b h o v hv=>by
      show(if(μ id).blk=some b then w.cell? ⟨b,o,none⟩ else M b o)=some v
      rw[if_pos h];exact hv
     rw[<-hval]at hrd
     have hrd':=hrd
     cases hrd' with
     | sl b0 o0 _ _ _ _ _ _ _ =>
     obtain⟨ba,hrun,hba,hlen⟩:=qRN hT hs hd he hmem hrd
     exact⟨.string ba,by simp[execOp,hu1,hrun],.p (.str hba hlen)⟩
    cases h
   cases h
  cases h
 ·rename_i t a i
  split at h
  ·rename_i ti p cs hti h1
   split at h
   ·rename_i fs hk
    split at h
    ·rename_i off ft hf
     split at h
     ·rename_i tf htf
      obtain⟨i0,d0,_,hd0,hd2,_⟩:=hT.get hti
      rw[hk]at hd2
      obtain⟨l,rfl,hl⟩:=TK.of_st hd2
      subst hl
      obtain⟨ie,de,hie,hde,hdek,hszi,_⟩:=hT.get htf
      rw[List.getElem?_map]at hf
      obtain⟨fd,hfd,hfe⟩:=Option.map_eq_some_iff.1 hf
      cases hfe
      rw[Array.getElem?_toList]at hfd
      have key:∀ (hp:p) (v:Value),(∀ (arr:Array Value),Act.eval ⟨tmps,[]⟩ a = .agg arr->(part fd.type arr fd.offset).run P w = .ok v w) ->
        (execOp (Act.eval ⟨tmps,[]⟩) ⟨dst,.field t a i,ty,pos,after,guard⟩).run P w = .ok (.value v) w:=by
       intro hp v hpa
       have e1:=(qF hg r h1 hp).p_inv
       generalize hu:Act.eval ⟨tmps,[]⟩ a=u at e1 hpa
       cases e1 with
       | @agg arr _ h2 h3 h4=>simp[execOp,hu,Instr.field,run_underlying hd0,hfd,asAgg,hpa arr rfl]
      split at h
      ·rename_i hag
       simp only[Option.some.injEq,Prod.mk.injEq]at h
       obtain⟨rfl,rfl,rfl⟩:=h
       obtain⟨hp,hle⟩:=hv
       have e1:=(qF hg r h1 hp).p_inv
       generalize hu:Act.eval ⟨tmps,[]⟩ a=u at e1 key
       cases e1 with
       | @agg arr _ h2 h3 h4 =>
       have hso:(sizeOf fd.type).run P w = .ok tf.size w:=by simp[sizeOf,typeInfo,hie,hszi]
       refine⟨.agg (arr.extract fd.offset (fd.offset+tf.size)),key hp _ fun arr' e => ?_, ?_⟩
       ·cases e
        unfold part
        rw[Sem.run_bind,qGW hde,Result.andThen_ok,hdek,hag]
        simp[hso]
       refine .p (.agg (by simp;omega) (fun k u' hu' => ?_) fun k u' d' hu' hd' => ?_)
       ·rw[Array.getElem?_extract]at hu'
        split at hu'
        ·exact h3 _ _ hu'
        cases hu'
       rw[Array.getElem?_extract]at hu'
       rw[List.getElem?_take]at hd'
       split at hu'
       ·split at hd'
        ·rw[List.getElem?_drop]at hd';exact h4 _ _ _ hu' hd'
        cases hd'
       cases hu'
      rename_i hag
      split at h
      ·rename_i d rest hdr
       simp only[Option.some.injEq,Prod.mk.injEq]at h
       obtain⟨rfl,rfl,rfl⟩:=h
       have hd:cs[fd.offset]?=some d:=by
        have:=congrArg (fun l=>l[0]?) hdr
        simpa[List.getElem?_drop]using this
       have e1:=(qF hg r h1 hv).p_inv
       generalize hu:Act.eval ⟨tmps,[]⟩ a=u at e1 key
       cases e1 with
       | @agg arr _ h2 h3 h4 =>
       have hlt:fd.offset<cs.length:=(List.getElem?_eq_some_iff.1 hd).1
       obtain⟨v,hv'⟩:∃ v,arr[fd.offset]?=some v:=⟨arr[fd.offset]'(by omega),by simp⟩
       refine⟨v,key hv _ fun arr' e => ?_,.p (h4 _ _ _ hv' hd)⟩
       cases e
       unfold part
       rw[Sem.run_bind,qGW hde,Result.andThen_ok,hdek,hag]
       simp[hv']
      cases h
     cases h
    cases h
   cases h
  cases h
 cases h
theorem qPI (cells:List V) (off:Nat) (y:V) (h:off<cells.length):splice cells off [y]=cells.set off y:=by
 simp only[splice,List.length_singleton]
 rw[List.set_eq_take_append_cons_drop,if_pos h]
 simp
theorem zDG (hT:TOK P T) {o:Oper} {st:St} {t:TypeId} {a x:Operand} (ho:o.op = .store t a x) {ti:TI} (ht:T t=some ti) {p q:Prop} {id i sz off:Nat} {v:V}
  (ha:st.arg G a=(p,.rptr id i sz off)) (hp:p) (hx:st.arg G x=(q,v)) (hq:q) {e:TypeId} {cells:List V} (hb:zQ id st.H=some (.vars e cells)) {xs:List V} (hxs:v.cells=some xs)
  (hsz:xs.length=ti.size) (hfit:i * sz+off+xs.length<=cells.length):Yields P G o st .dead { st with H:=zM id (.vars e (splice cells (i * sz+off) xs)) st.H }:=by
 intro c M μ tmps w hg r
 have h1:=qF hg r ha hp
 refine qOL hT ho ht (off:=i * sz+off) (id:=id) hx hq hb hxs hsz hfit c M μ tmps w hg r ?_
 generalize Act.eval ⟨tmps,[]⟩ a=u1 at h1
 cases h1 with
 | rptr hb=>exact .ptr hb
def qXT (T:Tab) (G:qR) (st:St) (op:Op) (orc:List PD):Option (Prop × V × St × List PD) :=
 match op with
 | .store t a x=>match T t,st.arg G a,st.arg G x with
  | some ti,(p,.rptr id i sz off),(q,v)=>match zQ id st.H,v.cells with
   | some (.vars e cells),some [y]=>some (p/\q/\ti.size=1/\i * sz+off<cells.length,.dead,{ st with H:=zM id (.vars e (cells.set (i * sz+off) y)) st.H },orc)
   | _,_=>none
  | _,_,_=>none
 | .mapUpdate t m k x=>match wA T t,st.arg G m,st.arg G k,st.arg G x with
  | some (.map kt _),(p,.ms id),(q,.p (.str s)),(q',v)=>match wA T kt,zQ id st.H with
   | some .str,some (.mp ks vs)=>some (p/\q/\q'/\s ∉ ks,.dead,{ st with H:=zM id (.mp (ks++[s]) (vs++[v])) st.H },orc)
   | _,_=>none
  | _,_,_,_=>none
 | _=>none
theorem qXS (hT:TOK P T) {st st':St} {o:Oper} {orc orc':List PD} {vc:Prop} {x:V} (h:qXT T G st o.op orc=some (vc,x,st',orc')) (hv:vc):Yields P G o st x st':=by
 unfold qXT at h
 split at h
 ·rename_i t a y ho
  split at h
  ·rename_i ti p id i sz off q v hti ha hy
   split at h
   ·rename_i e cells z hb hz
    simp only[Option.some.injEq,Prod.mk.injEq]at h
    obtain⟨rfl,rfl,rfl,rfl⟩:=h
    obtain⟨hp,hq,h1,h2⟩:=hv
    have:=zDG hT ho hti ha hp hy hq hb hz (by simp[h1]) (by simp only[List.length_singleton];omega)
    rw[qPI _ _ _ h2]at this
    exact this
   cases h
  cases h
 ·rename_i t m k y ho
  split at h
  ·rename_i kt et p id q s q' v hk h1 h2 h3
   split at h
   ·rename_i ks vs hkt hb
    simp only[Option.some.injEq,Prod.mk.injEq]at h
    obtain⟨rfl,rfl,rfl,rfl⟩:=h
    obtain⟨hp,hq,hq',hnk⟩:=hv
    intro c M μ tmps w hg r
    have hd:=hT.map hk
    have hdk:=hT.str hkt
    have e1:=qF hg r h1 hp
    have e2:=(qF hg r h2 hq).p_inv
    have e3:=qF hg r h3 hq'
    generalize hu1:Act.eval ⟨tmps,[]⟩ m=u1 at e1
    generalize hu2:Act.eval ⟨tmps,[]⟩ k=u2 at e2
    generalize hu3:Act.eval ⟨tmps,[]⟩ y=u3 at e3
    cases e1 with
    | ms hval hone =>
    cases e2 with
    | @str ba _ hba hlen =>
    have hm:=zB hb
    have hbx:=r.box id _ hm
    cases hbx with
    | @mp _ _ b clock es h0 hv h3 hB h4 h5 h6 h7 =>
    rw[hv]at hval
    subst hval
    have hks:∀ x∈es.toList,MapKept.IsKey .string x.key:=by
     intro x hx
     obtain⟨i,hi,rfl⟩:=List.mem_iff_getElem.1 hx
     have hi':i<es.size:=by simpa using hi
     obtain⟨ba',he,_⟩:=h6 i es[i] ks[i] (by simp[hi']) (by simp[show i<ks.length by omega])
     simp only[Array.getElem_toList]
     rw[he];trivial
    have hik:MapKept.IsKey .string (.string ba):=trivial
    have hbl:b<w.heap.size:=(r.own id b (qH.2 ⟨_,hm⟩) (.inl h0)).2.1
    rcases MapKept.findNow_spec hik es.toList 0 hks with⟨g1,g2⟩|⟨j,e',g1,g2,g3⟩
    ·have e:(execOp (Act.eval ⟨tmps,[]⟩) o).run P w = .ok .skip { w with heap:=w.heap.setIfInBounds b (.map (es.push { key := .string ba,val:=u3,born:=clock }) (clock+1)) }:=by
      simp[execOp,ho,hu1,hu2,hu3,Instr.mapUpdate,run_underlying hd,MapKept.run_getObj_map h3,MapKept.run_checkKey hdk hik,MapKept.run_findKey hdk g1,MapKept.run_setObj_map _ h3,Result.andThen]
     rw[e]
     refine⟨M,μ,r.write (qH.2 ⟨_,hm⟩) h0 ⟨rfl,rfl,rfl,by simp,fun k hk=>by simp[Array.getElem?_setIfInBounds_ne (Ne.symm hk)]⟩ (.mp (clock:=clock+1) (es:=es.push { key := .string ba,val:=u3,born:=clock }) h0 hv ?_ (hB.push _ _) (by simp[h4]) (by simp[h5]) ?_ ?_),.dead⟩
     ·simp[Array.getElem?_setIfInBounds,hbl]
     ·intro i e k he hk'
      rw[Array.getElem?_push]at he
      split at he
      ·rename_i hi;cases he
       rw[List.getElem?_append_right (by omega),hi,h4]at hk'
       simp at hk';subst hk'
       exact⟨ba,rfl,hba,hlen⟩
      have hi:i<es.size:=(Array.getElem?_eq_some_iff.1 he).1
      rw[List.getElem?_append_left (by omega)]at hk'
      exact h6 i e k he hk'
     intro i e x he hx
     rw[Array.getElem?_push]at he
     split at he
     ·rename_i hi;cases he
      rw[List.getElem?_append_right (by omega),hi,h5]at hx
      simp at hx;subst hx
      exact e3
     have hi:i<es.size:=(Array.getElem?_eq_some_iff.1 he).1
     rw[List.getElem?_append_left (by omega)]at hx
     exact h7 i e x he hx
    exfalso
    have hje:es[j]?=some e':=by simpa using g2
    have hj:j<es.size:=(Array.getElem?_eq_some_iff.1 hje).1
    obtain⟨ba',he,hbs⟩:=h6 j e' ks[j] hje (by simp[show j<ks.length by omega])
    rw[g3]at he
    cases he
    exact hnk (by rw[<-hba,hbs.1];exact List.getElem_mem _)
   cases h
  cases h
 cases h
theorem zSB (hT:TOK P T) {o:Oper} {st:St} {s d e:TypeId} {x:Operand} (ho:o.op = .convert s d x) {p:Prop} {bs:List UInt8} (ha:st.arg G x=(p,.p (.str bs))) (hp:p) (hs:wA T s=some .str) (hd:wA T d=some (.sl e)) (he:wA T e=some (.int .u8)) :
  Yields P G o st (.p (.sl 1 (qP bs))) st:=by
 intro c M μ tmps w hg r
 have e1:=(qF hg r ha hp).p_inv
 generalize hu1:Act.eval ⟨tmps,[]⟩ x=u1 at e1
 cases e1 with
 | @str ba _ hba hlen =>
 have hsz:ba.size=bs.length:=xF hba
 have hrun:(execOp (Act.eval ⟨tmps,[]⟩) o).run P w = .ok (.value (.slice (some ⟨w.heap.size,0,none⟩) ba.size (grownCap w ba.size 0 e))) (Lib.bytesWorld w e ba):=by
  simp[execOp,ho,hu1,Lib.run_convert_string_bytes w s d e ba (hT.str hs) (hT.sl hd) (hT.int he)]
 rw[hrun]
 let M2:qW:=fun b o=>if b=w.heap.size then(Lib.bytesWorld w e ba).cell? ⟨b,o,none⟩ else M b o
 have hlt:∀ b o v,M b o=some v->b<w.heap.size:=fun b o v hv=>yM (r.mem b o v hv)
 have hM:∀ b o v,M b o=some v->M2 b o=some v:=fun b o v hv=>by
  have:=hlt b o v hv
  show(if b=w.heap.size then _ else M b o)=some v
  rw[if_neg (by omega)];exact hv
 have hgrow:Grows w (Lib.bytesWorld w e ba):=⟨rfl,rfl,rfl,by rw[Lib.bytesWorld_size];omega,fun k hk=>Lib.bytesWorld_at_old w e ba k hk⟩
 refine⟨M2,μ,r.grows hgrow hM (fun b o v hv => ?_) (fun b o hb => ?_),.p ?_⟩
 ·have hv':(if b=w.heap.size then(Lib.bytesWorld w e ba).cell? ⟨b,o,none⟩ else M b o)=some v:=hv
  split at hv'
  ·exact hv'
  have h2:=r.mem b o v hv'
  rw[<-h2]
  exact Lib.bytesWorld_old w e ba ⟨b,o,none⟩ (hlt b o v hv')
 ·show(if b=w.heap.size then _ else M b o)=M b o
  rw[if_neg (by omega)]
 have hcell:∀ i,i<bs.length->M2 w.heap.size i=some (.int .u8 (bs.getD i 0).toNat):=fun i hi=>by
  show(if w.heap.size=w.heap.size then _ else M w.heap.size i)=_
  rw[if_pos rfl,Lib.bytesWorld_cell w e ba i (by omega),hba]
 refine .sl w.heap.size 0 (by simp[hsz]) (grownCap_ge _ _ _ _) (grownCap_le_maxLen _ _ _ _ (by omega)) (fun _=>rfl) (fun i e' he' => ?_) (fun i e' j he' hj => ?_) (fun i e' j d u he' hd' hu => ?_)
 ·simp[qP]at he';obtain⟨b,_,rfl⟩:=he';rfl
 ·have hi:i<bs.length:=by have:=(List.getElem?_eq_some_iff.1 he').1;simpa using this
  have:j=0:=by omega
  subst this
  exact⟨_,by simpa using hcell i hi,rfl⟩
 have hi:i<bs.length:=by have:=(List.getElem?_eq_some_iff.1 he').1;simpa using this
 simp[qP,hi]at he'
 subst he'
 cases j with
 | succ j=>simp[PD.cells]at hd'
 | zero =>
  simp[PD.cells]at hd'
  subst hd'
  simp at hu
  rw[hcell i hi]at hu
  cases hu
  rw[show bs.getD i 0=bs[i] by simp[List.getD_eq_getElem?_getD,hi]]
  exact .int (by rw[jK];simp[kD]) (by rw[kV];have:=bs[i].toNat_lt;simp only[kE];omega)
attribute [simp] qDG qXT
end
def qED (st:St) (dst:Option Nat):Nat :=
 match dst with
 | some d=>st.base+d
 | none=>0
def qGQ:List Prop->Prop
 | []=>True
 | p::ps=>p/\qGQ ps
theorem uK:∀ {l:List Prop},qGQ l->∀ p∈l,p
 | [],_,p,h=>by cases h
 | q::l,h,p,hp=>by
  rcases List.mem_cons.1 hp with e|e
  ·rw[e];exact h.1
  exact uK h.2 p e
def zYL (M':qW) (w w':World) (v:Value) (e:TypeId) (sz:Nat) (es:List PD):Prop :=
 ∃ l:Loc,l.val=v/\v.oneCell'=true/\RBox M' (fun _=>l) w' 0 (.row e sz es)/\∀ b,l.blk=some b->w.heap.size<=b/\b<w'.heap.size/\∀ o,M' b o=none
def AR (P:Program) (G:qR) (f:FuncId) (args:List PD) (e:TypeId) (sz:Nat) (es:List PD):Prop :=
 qBN P f/\∀ (M:qW) (w:World) (vs:Array Value),GOK G M w->(∀ b o v,M b o=some v->w.cell? ⟨b,o,none⟩=some v)->vs.size=args.length->(∀ (i:Nat) u d,vs[i]?=some u->args[i]?=some d->Rd M u d) ->
  Calls P f vs w fun e' w'=>∃ v M',e' = .returned v/\(∀ b o v,M' b o=some v->w'.cell? ⟨b,o,none⟩=some v)/\(∀ b o v,M b o=some v->M' b o=some v)/\(∀ b o,b<w.heap.size->M' b o=M b o)/\RowKit.Below w.heap.size w w'/\zYL M' w w' v e sz es
def wZ (μ:Mu) (H:List (Nat × Box)) (b:Nat):Prop:=∃ id,qM id H=true/\(μ id).has b
def AX (P:Program) (G:qR) (f:FuncId) (xs:List V) (H:List (Nat × Box)) (r:V) (ps:List Nat) (H':List (Nat × Box)):Prop :=
 qBN P f/\∀ (M:qW) (μ:Mu) (w:World) (vs:Array Value),GOK G M w->Rel ⟨w.heap.size,w,M,μ,wZ μ H⟩ M μ ⟨xs,H.map (·.1),H,0⟩ vs w ->
  Calls P f vs w fun e w'=>∃ v M' μ',e = .returned v/\Rel ⟨w.heap.size,w,M,μ,wZ μ H⟩ M' μ' ⟨[r],ps,H',0⟩ #[v] w'
structure Know where
 fn:FuncId->List PD->PD->Prop
 row:FuncId->List PD->TypeId->Nat->List PD->Prop
 bx:FuncId->List V->List (Nat × Box)->V->List Nat->List (Nat × Box)->Prop
abbrev kn (P:Program) (G:qR):Know:=⟨AFn P G,AR P G,AX P G⟩
def zPH (T:Tab):Nat->TypeId->List TypeId
 | 0,t=>[t]
 | f+1,t=>match T t with
  | some ti=>match ti.k with
   | .st fs=>fs.flatMap fun p=>zPH T f p.2
   | _=>[t]
  | none=>[t]
def qYX (T:Tab) (t:TypeId):V->Option PD
 | .p d=>some d
 | .nilsl=>match wA T t with
  | some (.sl e)=>match T e with
   | some te=>some (.sl te.size [])
   | none=>none
  | _=>none
 | .cptr cs=>some (.ref cs)
 | .func (.func f) [] caps=>match qBI caps with
  | some ds=>some (.clo f ds)
  | none=>none
 | _=>none
def qMQ (T:Tab):List TypeId->List V->Option (List PD)
 | t::ts,v::vs=>match qYX T t v,qMQ T ts vs with
  | some d,some ds=>some (d::ds)
  | _,_=>none
 | [],[]=>some []
 | _,_=>none
def V.toPD (T:Tab) (t:TypeId):V->Option PD
 | .agg cs=>match qMQ T (zPH T 5 t) cs with
  | some ds=>some (.agg ds)
  | none=>none
 | v=>qYX T t v
def qJG (T:Tab):List TypeId->List V->Option (List PD)
 | t::ts,v::vs=>match V.toPD T t v,qJG T ts vs with
  | some d,some ds=>some (d::ds)
  | _,_=>none
 | [],[]=>some []
 | _,_=>none
theorem qPC {T:Tab} {t:TypeId} {v:V} {d:PD} (h:qYX T t v=some d):V.fits [] v d:=by
 unfold qYX at h
 split at h
 ·cases h;simp only[V.fits]
 ·split at h
  ·split at h
   ·cases h;simp only[V.fits]
   cases h
  cases h
 ·cases h;simp only[V.fits]
 ·split at h
  ·rename_i ds hds
   cases h;simp only[V.fits];exact⟨trivial,trivial,uH hds⟩
  cases h
 cases h
theorem qPB {T:Tab}:∀ {ts:List TypeId} {vs:List V} {ds:List PD},qMQ T ts vs=some ds->V.fitsL [] vs ds
 | t::ts,v::vs,ds,h=>by
  simp only[qMQ]at h
  split at h
  ·rename_i d ds' h1 h2
   cases h
   simp only[V.fitsL]
   exact⟨qPC h1,qPB h2⟩
  cases h
 | [],[],ds,h=>by simp only[qMQ,Option.some.injEq]at h;subst h;simp only[V.fitsL]
 | [],_::_,ds,h=>by simp[qMQ]at h
 | _::_,[],ds,h=>by simp[qMQ]at h
theorem zJG {T:Tab} {t:TypeId} {v:V} {d:PD} (h:V.toPD T t v=some d):V.fits [] v d:=by
 unfold V.toPD at h
 split at h
 ·split at h
  ·rename_i ds hd
   cases h
   simp only[V.fits]
   exact qPB hd
  cases h
 exact qPC h
theorem qIF {T:Tab}:∀ {ts:List TypeId} {vs:List V} {ds:List PD},qJG T ts vs=some ds->V.fitsL [] vs ds
 | t::ts,v::vs,ds,h=>by
  simp only[qJG]at h
  split at h
  ·rename_i d ds' h1 h2
   cases h
   simp only[V.fitsL]
   exact⟨zJG h1,qIF h2⟩
  cases h
 | [],[],ds,h=>by simp only[qJG,Option.some.injEq]at h;subst h;simp only[V.fitsL]
 | [],_::_,ds,h=>by simp[qJG]at h
 | _::_,[],ds,h=>by simp[qJG]at h
attribute [simp] zPH qYX qMQ V.toPD qJG qBI qRM
def qMG (C:Know) (T:Tab) (G:qR) (st:St) (op:Op) (orc:List PD):Option (Prop × V × List PD) :=
 match op with
 | .call { callee := .value x,args,argTypes }=>match st.arg G x with
  | (p,cal)=>match qRM cal,orc with
   | some (f,ds),.tup as::r::orc'=>some (p/\qGQ (args.toList.map fun y=>(st.arg G y).1)/\V.fitsL [] (args.toList.map fun y=>(st.arg G y).2) as/\C.fn f (as++ds) r,.p r,orc')
   | some (f,ds),.nilp::r::orc'=>match qJG T argTypes.toList (args.toList.map fun y=>(st.arg G y).2)with
    | some as=>some (p/\qGQ (args.toList.map fun y=>(st.arg G y).1)/\C.fn f (as++ds) r,.p r,orc')
    | none=>none
   | _,_=>none
 | _=>none
theorem zCG {C:Know} {T:Tab} {G:qR} {st:St} {op:Op} {orc orc':List PD} {vc:Prop} {x:V} (h:qMG C T G st op orc=some (vc,x,orc')) (hv:vc) :
  ∃ y args tys p cal f as ds r,op = .call { callee := .value y,args:=args,argTypes:=tys }/\st.arg G y=(p,cal)/\qRM cal=some (f,ds)/\p/\qGQ (args.toList.map fun y=>(st.arg G y).1)/\V.fitsL [] (args.toList.map fun y=>(st.arg G y).2) as/\C.fn f (as++ds) r/\x = .p r:=by
 unfold qMG at h
 split at h
 ·rename_i y args tys
  split at h
  rename_i p cal hf
  split at h
  ·rename_i f ds as r orc2 hcal
   simp only[Option.some.injEq,Prod.mk.injEq]at h
   obtain⟨rfl,rfl,rfl⟩:=h
   exact⟨_,_,_,p,cal,f,as,ds,r,rfl,hf,hcal,hv.1,hv.2.1,hv.2.2.1,hv.2.2.2,rfl⟩
  ·rename_i f ds r orc2 hcal
   split at h
   ·rename_i as has
    simp only[Option.some.injEq,Prod.mk.injEq]at h
    obtain⟨rfl,rfl,rfl⟩:=h
    exact⟨_,_,_,p,cal,f,as,ds,r,rfl,hf,hcal,hv.1,hv.2.1,qIF has,hv.2.2,rfl⟩
   cases h
  cases h
 cases h
theorem qFE {α β γ:Type} (l:List γ) (f:γ->α) (g:γ->β):l.map (fun y=>(f y,g y))=(l.map f).zip (l.map g):=by
 induction l with
 | nil=>rfl
 | cons a l ih=>simp[ih]
theorem qKP {P:Program} {T:Tab} {G:qR} {st:St} {o:Oper} {orc orc':List PD} {vc:Prop} {x:V} (h:qMG (kn P G) T G st o.op orc=some (vc,x,orc')) (hv:vc):Yields P G o st x st:=by
 obtain⟨y,args,tys,p,cal,f,as,ds,r,ho,hf,hcal,hp,hall,hfit,hc,rfl⟩:=zCG h hv
 exact zSA ho hf hp hcal hc (q:=args.toList.map fun y=>(st.arg G y).1) (ys:=args.toList.map fun y=>(st.arg G y).2) (qFE args.toList _ _) (by simp) (fun p hp=>uK hall p hp) hfit
def eff (T:Tab) (G:qR) (st:St) (o:Oper) (orc:List PD):Option (Prop × V × St × List PD) :=
 let id:=qED st o.dst
 match o.op with
 | .alloc e=>match T e with
  | some ti=>match ti.zero.cells with
   | some zs=>some (st.fresh id=true/\V.noRefL id zs=true,.ptr id 0,{ st with H:=(id,.vars e zs)::st.H },orc)
   | none=>none
  | none=>none
 | .box e x=>match st.arg G x with
  | (p,v)=>match v.cells with
   | some zs=>some (p/\st.fresh id=true/\V.noRefL id zs=true,.ptr id 0,{ st with H:=(id,.vars e zs)::st.H },orc)
   | none=>none
 | .store t a x=>match T t,st.arg G a,st.arg G x with
  | some ti,(p,.ptr bid off),(q,v)=>match zQ bid st.H,v.cells with
   | some (.vars e cells),some xs=>some (p/\q/\xs.length=ti.size/\off+xs.length<=cells.length,.dead,{ st with H:=zM bid (.vars e (splice cells off xs)) st.H },orc)
   | _,_=>none
  | some ti,(p,.rptr bid i sz off),(q,v)=>match zQ bid st.H,v.cells,orc with
   | some (.row e sz' es), some xs, e0 :: e1 :: orc' => some (p ∧ q ∧ sz' = sz ∧ xs.length = ti.size ∧ es[i]? = some e0 ∧ off + xs.length ≤ e0.cells.length ∧ V.fitsL [] (qBS e0.cells off xs) e1.cells, .dead,
     { st with H:=zM bid (.row e sz' (es.set i e1)) st.H },orc')
   | _,_,_=>none
  | _,_,_=>none
 | .buildSlice t n parts=>match wA T t with
  | some (.sl el)=>match T el with
   | some ti=>match ti.zero.cells,uB st G ti.size 0 parts.toList orc with
    | some zs,some (q,es,orc')=>some (parts.toList.length=n/\zs.length=ti.size/\q/\n * ti.size<=16777216/\n<=16777216/\st.fresh id=true,.ms id,{ st with H:=(id,.row el ti.size es)::st.H },orc')
    | _,_=>none
   | none=>none
  | _=>none
 | .makeSlice t l c=>match wA T t,st.arg G l,st.arg G c,orc with
  | some (.sl el),(p,.p (.int _ n)),(q,.p (.int _ m)),e0::orc'=>match T el with
   | some ti=>match ti.zero.cells with
    | some zs => some (p ∧ q ∧ n = m ∧ zs.length = ti.size ∧ V.fitsL [] zs e0.cells ∧ 0 ≤ n ∧ (ti.bytes : Int) * n ≤ 140737488355328 ∧ 0 < ti.bytes ∧ st.fresh id = true, .ms id,
      { st with H:=(id,.row el ti.size (List.replicate n.toNat e0))::st.H },orc')
    | none=>none
   | none=>none
  | _,_,_,_=>none
 | .call { callee := .builtin b,args,argTypes }=>match b,args.toList,argTypes.toList with
  | .append,[s,x],[t,tx]=>match wA T t,st.arg G s,st.arg G x with
   | some (.sl el),(p,v),(q,y)=>match T el with
    | some ti=>match ti.zero.cells,qZI st (wA T tx) y with
     | some zs,some (sz,fs)=>match v with
      | .nilsl=>some (p/\q/\zs.length=ti.size/\0<ti.bytes/\ti.size=sz/\(fs.length) * ti.bytes<=140737488355328/\st.fresh id=true,.ms id,{ st with H:=(id,.row el sz fs)::st.H },orc)
      | .ms id0=>match zQ id0 st.H with
       | some (.row e' sz' es) => some (p ∧ q ∧ zs.length = ti.size ∧ 0 < ti.bytes ∧ ti.size = sz ∧ e' = el ∧ sz' = sz ∧ (es.length + fs.length) * ti.bytes ≤ 140737488355328, .ms id0,
         { st.kill id0 with H:=(id0,.row el sz (es++fs))::(st.kill id0).H },orc)
       | _=>none
      | _=>none
     | _,_=>none
    | none=>none
   | _,_,_=>none
  | _,_,_=>none
 | .range t x=>match wA T t,st.arg G x with
  | some .str,(p,.p (.str s))=>some (p/\st.fresh id=true,.it id,{ st with H:=(id,.iter s 0)::st.H },orc)
  | _,_=>none
 | .next it true=>match st.arg G it,orc with
  | (p,.it bid),.bool more::orc'=>match zQ bid st.H with
   | some (.iter s pos)=>match more with
    | true=>some (p/\pos<s.length,.tuple [.p (.bool true),.p (.int .i64 pos),.p (.int .i32 (uR s pos).1)],{ st with H:=zM bid (.iter s (pos+(uR s pos).2)) st.H },orc')
    | false=>some (p/\¬ pos<s.length,.tuple [.p (.bool false)],{ st with H:=zM bid (.iter s pos) st.H },orc')
   | _=>none
  | _,_=>none
 | .convert s d x=>match wA T s,wA T d,st.arg G x with
  | some .str,some (.sl e),(p,.p (.str b))=>if wA T e=some (.int .u8) then some (p,.p (.sl 1 (qP b)),st,orc) else none
  | _,_,_=>none
 | .makeMap _ none=>some (st.fresh id=true,.ms id,{ st with H:=(id,.mp [] [])::st.H },orc)
 | _=>none
theorem zLH {P:Program} {T:Tab} {G:qR} (hT:TOK P T) {st st':St} {o:Oper} {orc orc':List PD} {vc:Prop} {x:V} (h:eff T G st o orc=some (vc,x,st',orc')) (hv:vc):Yields P G o st x st':=by
 unfold eff at h
 simp only at h
 split at h
 ·rename_i e ho
  split at h
  ·rename_i ti hti
   split at h
   ·rename_i zs hz
    simp only[Option.some.injEq,Prod.mk.injEq]at h
    obtain⟨rfl,rfl,rfl,rfl⟩:=h
    exact zSC hT ho hti hz _ hv.1 hv.2
   cases h
  cases h
 ·rename_i e y ho
  have hy:st.arg G y=((st.arg G y).1,(st.arg G y).2):=rfl
  split at h
  ·rename_i zs hz
   simp only[Option.some.injEq,Prod.mk.injEq]at h
   obtain⟨rfl,rfl,rfl,rfl⟩:=h
   exact zZI hT ho hy hv.1 hz _ hv.2.1 hv.2.2
  cases h
 ·rename_i t a y ho
  split at h
  ·rename_i ti p bid off q v hti ha hy
   split at h
   ·rename_i e cells xs hb hxs
    simp only[Option.some.injEq,Prod.mk.injEq]at h
    obtain⟨rfl,rfl,rfl,rfl⟩:=h
    exact zRW hT ho hti ha hv.1 hy hv.2.1 hb hxs hv.2.2.1 hv.2.2.2
   cases h
  ·rename_i ti p bid i sz off q v hti ha hy
   split at h
   ·rename_i e sz' es xs e0 e1 orc2 hb hxs
    simp only[Option.some.injEq,Prod.mk.injEq]at h
    obtain⟨rfl,rfl,rfl,rfl⟩:=h
    obtain⟨hp,hq,rfl,h1,h2,h3,h4⟩:=hv
    exact zDF hT ho hti ha hp hy hq hb hxs h1 h2 h3 h4
   cases h
  cases h
 ·rename_i t n parts ho
  split at h
  ·rename_i el ht
   split at h
   ·rename_i ti hti
    split at h
    ·rename_i zs q es orc2 hz hpt
     simp only[Option.some.injEq,Prod.mk.injEq]at h
     obtain⟨rfl,rfl,rfl,rfl⟩:=h
     obtain⟨h1,h2,h3,h4,h5,h6⟩:=hv
     exact qJA hT ho h1 ht hti hz h2 hpt h3 h4 h5 _ h6
    cases h
   cases h
  cases h
 ·rename_i t l cc ho
  split at h
  ·rename_i el p _ n q _ m e0 orc2 ht hl hc
   split at h
   ·rename_i ti hti
    split at h
    ·rename_i zs hz
     simp only[Option.some.injEq,Prod.mk.injEq]at h
     obtain⟨rfl,rfl,rfl,rfl⟩:=h
     obtain⟨hp,hq,rfl,h1,h2,h3,h4,h5,h6⟩:=hv
     exact qYF hT ho hl hp hc hq ht hti hz h1 h2 h3 h4 h5 _ h6
    cases h
   cases h
  cases h
 ·rename_i b args tys ho
  split at h
  ·rename_i s y t tx hargs htys
   split at h
   ·rename_i el p v q yv ht hs hy
    split at h
    ·rename_i ti hti
     split at h
     ·rename_i zs sz fs hz hsrc
      split at h
      ·simp only[Option.some.injEq,Prod.mk.injEq]at h
       obtain⟨rfl,rfl,rfl,rfl⟩:=h
       obtain⟨hp,hq,h1,h2,h3,h4,h5⟩:=hv
       have:=qYJ (es:=[]) (st1:=st) hT ho hargs htys hs hp hy hq ht hti hz h1 h2 hsrc h3 (.inl ⟨rfl,rfl,rfl⟩) (by simpa using h4) _ h5
       simpa using this
      ·rename_i id0
       split at h
       ·rename_i e' sz' es hb
        simp only[Option.some.injEq,Prod.mk.injEq]at h
        obtain⟨rfl,rfl,rfl,rfl⟩:=h
        obtain⟨hp,hq,h1,h2,h3,rfl,rfl,h4⟩:=hv
        exact qYJ hT ho hargs htys hs hp hy hq ht hti hz h1 h2 hsrc h3 (.inr ⟨id0,rfl,hb,rfl⟩) h4 _ (qBH st id0)
       cases h
      cases h
     cases h
    cases h
   cases h
  cases h
 ·rename_i t y ho
  split at h
  ·rename_i p s ht hy
   simp only[Option.some.injEq,Prod.mk.injEq]at h
   obtain⟨rfl,rfl,rfl,rfl⟩:=h
   exact zRX hT ho ht hy hv.1 _ hv.2
  cases h
 ·rename_i it ho
  split at h
  ·rename_i p bid more orc2 hit
   split at h
   ·rename_i s pos hb
    split at h
    ·simp only[Option.some.injEq,Prod.mk.injEq]at h
     obtain⟨rfl,rfl,rfl,rfl⟩:=h
     exact zML ho hit hv.1 hb true (by simp[hv.2])
    simp only[Option.some.injEq,Prod.mk.injEq]at h
    obtain⟨rfl,rfl,rfl,rfl⟩:=h
    exact zML ho hit hv.1 hb false (by simp[hv.2])
   cases h
  cases h
 ·rename_i s d y ho
  split at h
  ·rename_i e p b hs hd hy
   split at h
   ·rename_i he
    simp only[Option.some.injEq,Prod.mk.injEq]at h
    obtain⟨rfl,rfl,rfl,rfl⟩:=h
    exact zSB hT ho hy hv hs hd he
   cases h
  cases h
 ·rename_i t ho
  simp only[Option.some.injEq,Prod.mk.injEq]at h
  obtain⟨rfl,rfl,rfl,rfl⟩:=h
  intro c M μ tmps w hg r
  have e:(execOp (Act.eval ⟨tmps,[]⟩) o).run P w = .ok (.value (.map (some w.heap.size))) (w.alloc (.map #[] 0)):=by
   have e1:(Instr.makeMap t none).run P w = .ok (.map (some w.heap.size)) (w.alloc (.map #[] 0)):=rfl
   simp[execOp,ho,e1]
  rw[e]
  refine⟨M,upd μ _ ⟨some w.heap.size,.map (some w.heap.size),[]⟩,r.newBox hv (Grows.alloc w _) (fun b hb => ?_) (.mp (clock:=0) (es := #[]) (by rw[qK]) (by rw[qK]) (heap_alloc_new w _) ⟨by simp,by simp⟩ rfl rfl (fun i e k he=>by simp at he) (fun i e k he=>by simp at he)) rfl,.ms (by rw[qK]) rfl⟩
  simp only[Option.some.injEq]at hb
  subst hb
  exact⟨Nat.le_refl _,by simp⟩
 cases h
theorem qRP {P:Program} {T:Tab} {G:qR} (hT:TOK P T) {st:St} {o:Oper} {orc orc':List PD} {v:Prop} {x:V} (h:qDG T G st o.op orc=some (v,x,orc')) (hv:v):Yields P G o st x st:=by
 intro c M μ tmps w hg r
 obtain⟨u,e,hu⟩:=qRQ hT hg r h hv
 rw[e]
 exact⟨M,μ,r,hu⟩
def qOE (C:Know) (T:Tab) (G:qR) (st:St) (o:Oper) (orc:List PD):Option (Prop × V × St × List PD) :=
 match o.op with
 | .call { callee := .value x,args,argTypes }=>match st.arg G x with
  | (p,cal)=>match qRM cal,orc with
   | some (f,ds),.nilf :: .sl sz es :: .clo e _::orc'=>match qJG T argTypes.toList (args.toList.map fun y=>(st.arg G y).2)with
    | some as=>some (p/\qGQ (args.toList.map fun y=>(st.arg G y).1)/\C.row f (as++ds) e sz es/\st.fresh (qED st o.dst)=true,.ms (qED st o.dst),{ st with H:=(qED st o.dst,.row e sz es)::st.H },orc')
    | none=>none
   | _,_=>none
 | _=>none
theorem RBox.row_at {M:qW} {μ:Mu} {w:World} {l:Loc} {id:Nat} {e:TypeId} {sz:Nat} {es:List PD} (hl:(μ id).blk=l.blk/\(μ id).val=l.val) (r:RBox M (fun _=>l) w 0 (.row e sz es)):RBox M μ w id (.row e sz es):=by
 cases r with
 | row h0 hv h1 h2 h3 h4 h5 h6 h7=>exact .row (by rw[hl.1];exact h0) (by rw[hl.2];exact hv) h1 h2 h3 h4 h5 h6 h7
 | rowN h0 hv=>exact .rowN (by rw[hl.1];exact h0) (by rw[hl.2];exact hv)
theorem qRZ {P:Program} {T:Tab} {G:qR} {st st':St} {o:Oper} {orc orc':List PD} {vc:Prop} {x:V} (h:qOE (kn P G) T G st o orc=some (vc,x,st',orc')) (hv:vc):Yields P G o st x st':=by
 unfold qOE at h
 split at h
 ·rename_i y args tys ho
  split at h
  rename_i p cal hf
  split at h
  ·rename_i f ds sz es e _ orc2 hcal
   split at h
   ·rename_i as has
    simp only[Option.some.injEq,Prod.mk.injEq]at h
    obtain⟨rfl,rfl,rfl,rfl⟩:=h
    obtain⟨hp,hall,hc,hfr⟩:=hv
    intro c M μ tmps w hg rel
    obtain⟨vs,he,hsz,hrd⟩:=qRL ho hf hp hcal hc.1 (q:=args.toList.map fun y=>(st.arg G y).1) (ys:=args.toList.map fun y=>(st.arg G y).2) (qFE args.toList _ _) (by simp) (fun p hp=>uK hall p hp) (qIF has) hg rel
    rw[he]
    refine(hc.2 M w _ (hg.go rel) rel.mem hsz hrd).mono ?_
    rintro e' w' ⟨v,M',rfl,hmem,hM,hold,hbel,l,rfl,hone,hbx,hblk⟩
    have r1:=rel.grows (Grows.of_below hbel) hM hmem hold
    refine⟨_,rfl,M',upd μ (qED st o.dst) ⟨l.blk,l.val,[]⟩,r1.adopt (l:=⟨l.blk,l.val,[]⟩) hfr (fun b hb => ?_) (hbx.row_at (by rw[qK];exact⟨rfl,rfl⟩)),.ms (by rw[qK]) hone⟩
    obtain⟨h1,h2,h3⟩:=hblk b hb
    exact⟨.inl (Nat.le_trans rel.size h1),h2,h3,fun j hj hjb=>by have:=(rel.own j b hj hjb).2.1;omega⟩
   cases h
  cases h
 cases h
def qNL (C:Know) (T:Tab) (G:qR) (st:St) (o:Oper) (orc:List PD):Option (Prop × V × St × List PD) :=
 match eff T G st o orc with
 | some r=>some r
 | none=>match qXT T G st o.op orc with
  | some r=>some r
  | none=>qOE C T G st o orc
theorem jR {P:Program} {T:Tab} {G:qR} (hT:TOK P T) {st st':St} {o:Oper} {orc orc':List PD} {vc:Prop} {x:V} (h:qNL (kn P G) T G st o orc=some (vc,x,st',orc')) (hv:vc):Yields P G o st x st':=by
 unfold qNL at h
 split at h
 ·rename_i r hr
  cases h
  exact zLH hT hr hv
 split at h
 ·rename_i r hr
  cases h
  exact qXS hT hr hv
 exact qRZ h hv
theorem qJM {P:Program} {T:Tab} {G:qR} (hT:TOK P T) {st:St} {o:Oper} {orc orc':List PD} {v:Prop} {x:V} (h:qPX T G st o.op orc=some (v,x,orc')) (hv:v):Yields P G o st x st:=by
 intro c M μ tmps w hg r
 obtain⟨u,e,hu⟩:=qMV hT hg r h hv
 rw[e]
 exact⟨M,μ,r,hu⟩
def qBR (C:Know) (T:Tab) (G:qR) (st:St) (op:Op) (orc:List PD):Option (Prop × V × List PD) :=
 match qPX T G st op orc with
 | some r=>some r
 | none=>match qDG T G st op orc with
  | some r=>some r
  | none=>qMG C T G st op orc
def V.rowIds:V->List Nat
 | .ms i=>[i]
 | _=>[]
def qPP (G:qR) (st:St):List Operand->List Nat
 | []=>[]
 | y::ys=>V.rowIds (st.arg G y).2++qPP G st ys
def freezeAll (st:St):List Nat->St
 | []=>st
 | i::l=>freezeAll (st.freeze i) l
def qBU (G:qR) (st:St) (op:Op):Option St :=
 match op with
 | .call { callee := .value _,args,argTypes:=_ }=>some (freezeAll st (qPP G st args.toList))
 | _=>some st
theorem uQ {c:Ctx} {M:qW} {μ:Mu} {tmps:Array Value} {w:World}:∀ (l:List Nat) {st:St},Rel c M μ st tmps w->∃ M',Rel c M' μ (freezeAll st l) tmps w
 | [],_,r=>⟨M,r⟩
 | i::l,_,r=>by
  obtain⟨M',r'⟩:=r.freeze i
  exact uQ l r'
theorem qHS {c:Ctx} {M:qW} {μ:Mu} {tmps:Array Value} {w:World} {G:qR} {st st':St} {op:Op} (r:Rel c M μ st tmps w) (h:qBU G st op=some st'):∃ M',Rel c M' μ st' tmps w:=by
 unfold qBU at h
 split at h
 ·cases h;exact uQ _ r
 cases h;exact⟨M,r⟩
theorem zE.pre {P:Program} {G:qR} {Q:Exit->St->Prop} {ops:Array Oper} {l:List Oper} {st st':St} {op:Op} (h:qBU G st op=some st') (k:zE P G ops Q l st'):zE P G ops Q l st:=by
 intro x M μ tmps w hg r
 obtain⟨M',r'⟩:=qHS r h
 exact k x M' μ tmps w hg r'
def jD (C:Know) (T:Tab) (G:qR) (ops:List Oper):List Oper->St->List PD->Option (Prop × St)
 | [],st,_=>some (True,st)
 | o::rest,st,orc=>match qBU G st o.op with
  | none=>none
  | some st=>match o.guard with
   | none=>match qBR C T G st o.op orc with
    | some (v,x,orc')=>match jD C T G ops rest (st.put o.dst x) orc' with
     | some (vs,st2)=>some (v/\vs,st2)
     | none=>none
    | none=>match qNL C T G st o orc with
     | some (v,x,st',orc')=>match jD C T G ops rest (st'.put o.dst x) orc' with
      | some (vs,st2)=>some (v/\vs,st2)
      | none=>none
     | none=>none
   | some (j,pol)=>match (ops[j]?).bind (·.dst)with
    | none=>none
    | some d=>match V.guards pol (st.tmps.getD d .dead)with
     | none=>none
     | some b=>match qBR C T G st o.op orc with
      | some (v,x,orc')=>match jD C T G ops rest (st.put o.dst (.when b x)) orc' with
       | some (vs,st2)=>some (d<st.tmps.length/\(b=true->v)/\vs,st2)
       | none=>none
      | none=>match b with
       | true=>match qNL C T G st o orc with
        | some (v,x,st',orc')=>match jD C T G ops rest (st'.put o.dst (.when true x)) orc' with
         | some (vs,st2)=>some (d<st.tmps.length/\v/\vs,st2)
         | none=>none
        | none=>none
       | false=>match jD C T G ops rest (st.put o.dst (.when false (.p (.bool false)))) orc with
        | some (vs,st2)=>some (d<st.tmps.length/\vs,st2)
        | none=>none
theorem xG {P:Program} {T:Tab} {G:qR} (hT:TOK P T) {st:St} {o:Oper} {orc orc':List PD} {v:Prop} {x:V} (h:qBR (kn P G) T G st o.op orc=some (v,x,orc')) (hv:v):Yields P G o st x st:=by
 unfold qBR at h
 split at h
 ·rename_i r hr
  cases h
  exact qJM hT hr hv
 split at h
 ·rename_i r hr
  cases h
  exact qRP hT hr hv
 exact qKP h hv
theorem yA {P:Program} {T:Tab} {G:qR} {Q:Exit->St->Prop} (hT:TOK P T) (ops:List Oper):∀ (l more:List Oper) (st:St) (orc:List PD) (v:Prop) (st':St),
  jD (kn P G) T G ops l st orc=some (v,st')->v->zE P G ops.toArray Q more st'->zE P G ops.toArray Q (l++more) st
 | [],more,st,orc,v,st',h,_,k=>by
  simp only[jD,Option.some.injEq,Prod.mk.injEq]at h
  obtain⟨rfl,rfl⟩:=h
  exact k
 | o::rest,more,st,orc,v,st',h,hv,k=>by
  simp only[jD]at h
  split at h
  ·cases h
  rename_i st0 hpre
  refine zE.pre hpre ?_
  split at h
  ·rename_i hgd
   split at h
   ·rename_i v1 x orc1 hs
    split at h
    ·rename_i vs st2 hr
     simp only[Option.some.injEq,Prod.mk.injEq]at h
     obtain⟨rfl,rfl⟩:=h
     exact zE.step hgd (xG hT hs hv.1) (yA hT ops rest more _ orc1 vs st2 hr hv.2 k)
    cases h
   split at h
   ·rename_i v1 x st1 orc1 hs
    split at h
    ·rename_i vs st2 hr
     simp only[Option.some.injEq,Prod.mk.injEq]at h
     obtain⟨rfl,rfl⟩:=h
     exact zE.step hgd (jR hT hs hv.1) (yA hT ops rest more _ orc1 vs st2 hr hv.2 k)
    cases h
   cases h
  rename_i j pol hgd
  split at h
  ·cases h
  rename_i d hd
  split at h
  ·cases h
  rename_i b hb
  split at h
  ·rename_i v1 x orc1 hs
   split at h
   ·rename_i vs st2 hr
    simp only[Option.some.injEq,Prod.mk.injEq]at h
    obtain⟨rfl,rfl⟩:=h
    exact zE.stepIf hgd (by simpa using hd) hv.1 hb (fun hbt=>xG hT hs (hv.2.1 hbt)) (yA hT ops rest more _ orc1 vs st2 hr hv.2.2 k)
   cases h
  split at h
  ·split at h
   ·rename_i v1 x st1 orc1 hs
    split at h
    ·rename_i vs st2 hr
     simp only[Option.some.injEq,Prod.mk.injEq]at h
     obtain⟨rfl,rfl⟩:=h
     exact zE.stepIfT hgd (by simpa using hd) hv.1 hb (jR hT hs hv.2.1) (yA hT ops rest more _ orc1 vs st2 hr hv.2.2 k)
    cases h
   cases h
  split at h
  ·rename_i vs st2 hr
   simp only[Option.some.injEq,Prod.mk.injEq]at h
   obtain⟨rfl,rfl⟩:=h
   exact zE.stepIfF hgd (by simpa using hd) hv.1 hb (yA hT ops rest more _ orc vs st2 hr hv.2 k)
  cases h
section
variable {P:Program} {T:Tab} {G:qR} {Q:Exit->St->Prop} {st st':St}
theorem AW.run (hT:TOK P T) (orc:List PD) {id:Nat} {l:List Oper} {v:Know->Prop} (h:∀ C,jD C T G l l st orc=some (v C,st')) (hv:v (kn P G)) (k:Q .normal st'):AW P G (.region id l.toArray false) Q st:=by
 refine AW.region ?_
 have:=yA (Q:=Q) hT l l [] st orc _ st' (h (kn P G)) hv (zE.nil k)
 simpa using this
theorem AW.seqRun (hT:TOK P T) (orc:List PD) {id:Nat} {l:List Oper} {b:Code} {v:Know->Prop} (h:∀ C,jD C T G l l st orc=some (v C,st')) (hv:v (kn P G)) (k:AW P G b Q st') :
  AW P G (.seq (.region id l.toArray false) b) Q st :=
 AW.seq (AW.run hT orc h hv k)
theorem AW.cond {c:Operand} {x y:Code} {p:Prop} {b:Bool} (hc:st.arg G c=(p,.p (.bool b))) (hp:p) (h1:b=true->AW P G x Q st) (h2:b=false->AW P G y Q st):AW P G (.cond c x y) Q st:=by
 intro ctx M μ tmps w hg r
 have h:=(qF hg r hc hp).p_inv
 generalize hu:Act.eval ⟨tmps,[]⟩ c=u at h
 cases h
 exact wp_cond_split hu (fun e=>h1 e ctx M μ tmps w hg r) (fun e=>h2 e ctx M μ tmps w hg r)
theorem AW.slFact {c:Code} {i sz:Nat} {es:List PD} (h:st.tmps[i]?=some (.p (.sl sz es))) (k:es.length<=9223372036854775807->AW P G c Q st):AW P G c Q st:=by
 intro x M μ tmps w hg r
 have hlt:i<tmps.size:=by rw[r.slots.1];exact(List.getElem?_eq_some_iff.1 h).1
 have hv:=(r.slots.2 i tmps[i] _ (by simp[hlt]) h).p_inv
 generalize tmps[i]=u at hv
 cases hv with
 | sl b o hn hnc hcm=>exact k (by simp[maxLen]at hcm;omega) x M μ tmps w hg r
theorem AW.strFact {c:Code} {i:Nat} {s:List UInt8} (h:st.tmps[i]?=some (.p (.str s))) (k:s.length<=9223372036854775807->AW P G c Q st):AW P G c Q st:=by
 intro x M μ tmps w hg r
 have hlt:i<tmps.size:=by rw[r.slots.1];exact(List.getElem?_eq_some_iff.1 h).1
 have hv:=(r.slots.2 i tmps[i] _ (by simp[hlt]) h).p_inv
 generalize tmps[i]=u at hv
 cases hv with
 | str hs hm=>exact k (by simpa[maxLen]using hm) x M μ tmps w hg r
theorem AW.intFact {c:Code} {i:Nat} {kd:IntKind} {n:Int} (h:st.tmps[i]?=some (.p (.int kd n))) (k:kD kd<=n/\n<=kE kd->AW P G c Q st):AW P G c Q st:=by
 intro x M μ tmps w hg r
 have hlt:i<tmps.size:=by rw[r.slots.1];exact(List.getElem?_eq_some_iff.1 h).1
 have hv:=(r.slots.2 i tmps[i] _ (by simp[hlt]) h).p_inv
 generalize tmps[i]=u at hv
 cases hv with
 | int h1 h2=>exact k ⟨by rw[<-jK];exact h1,by rw[<-kV];exact h2⟩ x M μ tmps w hg r
attribute [simp] qBU freezeAll qPP V.rowIds St.freeze V.frz V.frzL Box.frz qLV qNL qOE jD qBR qPX qMG eff St.arg St.ev V.strip V.pur zEA qHB qIN St.put PD.bin zET qFU zDR qXR qNK PD.conv zCJ qWB qNW qUD wA V.guards qED TK.agg zQ zM splice qBS V.cells PD.ite St.fresh V.noRefL V.noRef kK Box.noRef qM kD kE PD.cells uB V.fits V.fitsL qZI St.kill qCX uC Box.kill qEN qGQ qLN qVR andThen inBlock VLe kG IntKind.signed PD.eqAtom PD.eqFlds
end
mutual
def V.ids:V->List Nat
 | .ptr i _=>[i]
 | .rptr i _ _ _=>[i]
 | .tl i _ _=>[i]
 | .ms i=>[i]
 | .it i=>[i]
 | .func _ a b=>V.idsL a++V.idsL b
 | .agg cs=>V.idsL cs
 | .tuple cs=>V.idsL cs
 | .when _ x=>V.ids x
 | .p _=>[]
 | .dead=>[]
 | .nilsl=>[]
 | .cptr _=>[]
def V.idsL:List V->List Nat
 | []=>[]
 | x::xs=>V.ids x++V.idsL xs
end
mutual
theorem V.ids_of {id:Nat}:∀ (x:V),V.noRef id x=false->id∈V.ids x
 | .ptr i _,h=>by simp[V.noRef]at h;simp[V.ids,h]
 | .rptr i _ _ _,h=>by simp[V.noRef]at h;simp[V.ids,h]
 | .tl i _ _,h=>by simp[V.noRef]at h;simp[V.ids,h]
 | .ms i,h=>by simp[V.noRef]at h;simp[V.ids,h]
 | .it i,h=>by simp[V.noRef]at h;simp[V.ids,h]
 | .func _ a b,h=>by
  simp only[V.noRef,Bool.and_eq_false_iff]at h
  simp only[V.ids,List.mem_append]
  rcases h with h|h
  ·exact .inl (V.idsL_of a h)
  exact .inr (V.idsL_of b h)
 | .agg cs,h=>by simp only[V.noRef]at h;simp only[V.ids];exact V.idsL_of cs h
 | .tuple cs,h=>by simp only[V.noRef]at h;simp only[V.ids];exact V.idsL_of cs h
 | .when _ x,h=>by simp only[V.noRef]at h;simp only[V.ids];exact V.ids_of x h
 | .p _,h=>by simp[V.noRef]at h
 | .dead,h=>by simp[V.noRef]at h
 | .nilsl,h=>by simp[V.noRef]at h
 | .cptr _,h=>by simp[V.noRef]at h
theorem V.idsL_of {id:Nat}:∀ (l:List V),V.noRefL id l=false->id∈V.idsL l
 | [],h=>by simp[V.noRefL]at h
 | x::xs,h=>by
  simp only[V.noRefL,Bool.and_eq_false_iff]at h
  simp only[V.idsL,List.mem_append]
  rcases h with h|h
  ·exact .inl (V.ids_of x h)
  exact .inr (V.idsL_of xs h)
end
def Box.ids:Box->List Nat
 | .vars _ cs=>V.idsL cs
 | .row .. => []
 | .iter .. => []
 | .mp _ vs=>V.idsL vs
 | .mpx _ vs=>V.idsL vs
 | .obj _ _ _ rs=>rs
 | .brow .. => []
 | .mach .. => []
 | .prow _ ps=>V.idsL ps
theorem Box.ids_of {id:Nat} {b:Box} (h:b.noRef id=false):id∈b.ids:=by
 cases b with
 | vars e cs=>exact V.idsL_of cs h
 | mp ks vs=>exact V.idsL_of vs h
 | mpx ks vs=>exact V.idsL_of vs h
 | obj b v o rs=>simpa[Box.noRef,Box.ids]using h
 | prow e ps=>exact V.idsL_of ps h
 | _=>simp[Box.noRef]at h
def jV:List (Nat × Box)->List Nat
 | []=>[]
 | (i,b)::r=>i::(b.ids++jV r)
theorem qKC {i:Nat} {b:Box}:∀ {H:List (Nat × Box)},(i,b)∈H->∀ j∈b.ids,j∈jV H
 | (k,c)::r,h,j,hj=>by
  rcases List.mem_cons.1 h with e|e
  ·cases e;simp[jV,hj]
  simp[jV,qKC e j hj]
theorem qBG {i:Nat}:∀ {H:List (Nat × Box)},qM i H=true->i∈jV H
 | [],h=>by simp[qM]at h
 | (k,c)::r,h=>by
  simp only[qM,Bool.or_eq_true,beq_iff_eq]at h
  rcases h with rfl|h
  ·simp[jV]
  simp[jV,qBG h]
def zVG (T:Tab) (rs:List ResultVar) (r:V) (ps:List Nat) (H':List (Nat × Box)) (e:Exit) (st:St):Prop :=
 (e = .normal\/e = .ret)/\∃ p l,qLN T st rs=some (p,l)/\p/\VLe (qVR l) r/\(∀ i∈ps,i∈st.pins)/\(∀ x∈H',x∈st.H)/\(H'.map (·.1)).Nodup
def St.startX (n base:Nat) (xs:List V) (H:List (Nat × Box)):St:=⟨xs++List.replicate (n-xs.length) .dead,H.map (·.1),H,base⟩
section
variable {P:Program} {T:Tab} {G:qR}
theorem AX.intro (hT:TOK P T) {f:FuncId} {fn:Func} {c:Code} {xs:List V} {H:List (Nat × Box)} {r:V} {ps:List Nat} {H':List (Nat × Box)} (base:Nat) (hf:P.funcs[f]?=some fn)
  (hn : (fn.name == "runtime.NumGoroutine") = false) (hb : fn.body = some c) (h : AW P G c (zVG T fn.results.toList r ps H') (St.startX fn.ntmps base xs H)) : AX P G f xs H r ps H' := by
 refine⟨⟨fn,c,hf,hn,hb⟩,fun M μ w vs hg rel => ?_⟩
 refine calls_of_wp hf hb ?_
 have hsz:vs.size=xs.length:=rel.slots.1
 have hrel:Rel ⟨w.heap.size,w,M,μ,wZ μ H⟩ M μ (St.startX fn.ntmps base xs H) (vs++Array.replicate (fn.ntmps-vs.size) undef) w:=by
  refine⟨rel.mem,rel.ext,rel.old,⟨by simp[St.startX,hsz],fun i u x hu hx => ?_⟩,rel.pins,rel.box,rel.nodup,rel.inj,rel.own,rel.size,rel.below⟩
  simp only[St.startX]at hx
  rw[List.getElem?_append]at hx
  split at hx
  ·rename_i hi
   rw[Array.getElem?_append_left (by rw[hsz];exact hi)]at hu
   exact rel.slots.2 i u x hu hx
  have:x = .dead:=by
   have:=List.mem_of_getElem? hx
   exact(List.mem_replicate.1 this).2
  subst this
  exact .dead
 refine wp_mono (h _ M _ _ w (hg.ctxL μ (wZ μ H) (fun b hb o=>by obtain⟨id,h1,h2⟩:=hb;exact(rel.own id b h1 h2).2.2 o)) hrel) ?_
 rintro e a w' ⟨st,M',μ',r',hd,hfin⟩
 obtain⟨he,p,l,hres,hp,hle,hps,hH,hnd⟩:=hfin
 obtain⟨v,hv,hrv⟩:=qMT hT r' hres hp
 have hrel2:Rel ⟨w.heap.size,w,M,μ,wZ μ H⟩ M' μ' ⟨[r],ps,H',0⟩ #[v] w':=by
  refine⟨r'.mem,r'.ext,r'.old,⟨rfl,fun i u x hu hx => ?_⟩,fun i hi=>r'.pins i (hps i hi),fun i b hb=>r'.box i b (hH _ hb),hnd,fun i j b hi hj => ?_,fun i b hi => ?_,r'.size,r'.below⟩
  ·cases i with
   | zero =>
    simp at hu hx;subst hu;subst hx
    rcases hle.cases with e|e
    ·rw[<-e];exact hrv
    rw[e];exact .dead
   | succ i=>simp at hx
  ·obtain⟨b1,h1⟩:=qH.1 hi
   obtain⟨b2,h2⟩:=qH.1 hj
   exact r'.inj i j b (qH.2 ⟨b1,hH _ h1⟩) (qH.2 ⟨b2,hH _ h2⟩)
  obtain⟨b1,h1⟩:=qH.1 hi
  exact r'.own i b (qH.2 ⟨b1,hH _ h1⟩)
 rcases he with rfl|rfl
 ·exact⟨hd,v,hv,v,M',μ',rfl,hrel2⟩
 exact⟨hd,v,hv,v,M',μ',rfl,hrel2⟩
def St.killAll:List Nat->St->St
 | [],st=>st
 | i::l,st=>St.killAll l (st.kill i)
theorem Rel.killAll {c:Ctx} {M:qW} {μ:Mu} {tmps:Array Value} {w:World}:∀ (l:List Nat) {st:St},Rel c M μ st tmps w->Rel c M μ (st.killAll l) tmps w
 | [],_,r=>r
 | i::l,_,r=>Rel.killAll l (r.kill i)
def zL (ks:List Nat):List (Nat × Box)->List (Nat × Box)
 | []=>[]
 | (i,b)::r=>if ks.contains i then zL ks r else(i,b)::zL ks r
theorem yZ {ks:List Nat} {i:Nat} {b:Box}:∀ {H:List (Nat × Box)},(i,b)∈zL ks H->i ∉ ks/\(i,b)∈H
 | (k,c)::r,h=>by
  simp only[zL]at h
  split at h
  ·exact⟨(yZ h).1,List.mem_cons.2 (.inr (yZ h).2)⟩
  rename_i hk
  rcases List.mem_cons.1 h with e|e
  ·cases e;exact⟨by simpa using hk,by simp⟩
  exact⟨(yZ e).1,List.mem_cons.2 (.inr (yZ e).2)⟩
theorem qAD (ks:List Nat):∀ H:List (Nat × Box),(zL ks H).Sublist H
 | [] => .slnil
 | (k,c)::r=>by
  simp only[zL];split
  ·exact(qAD ks r).cons _
  exact(qAD ks r).cons_cons _
theorem qNF:∀ (l:List Nat) {st:St} {i:Nat},qM i (st.killAll l).H=true->qM i st.H=true
 | [],_,_,h=>h
 | _::l,_,_,h=>(yY (qNF l h)).2
def St.rest (st:St) (H:List (Nat × Box)) (ps:List Nat):St :=
 let s:=st.killAll ((H.map (·.1)).filter fun i => !ps.contains i)
 { s with H:=zL (H.map (·.1)) s.H }
def qGJ (x:V) (as:List V):Option (FuncId × List V) :=
 match x with
 | .p (.fn f)=>some (f,as)
 | .func (.func f) a b=>some (f,a++as++b)
 | _=>none
theorem zRZ {o:Oper} {st:St} {x:Operand} {args:Array Operand} {tys:Array TypeId} {f:FuncId} {xs xs':List V} {H:List (Nat × Box)} {r:V} {ps:List Nat} {H':List (Nat × Box)}
  (ho:o.op = .call { callee := .value x,args:=args,argTypes:=tys }) (hp:(st.arg G x).1) (hc:AX P G f xs H r ps H')
  (hq:qGQ (args.toList.map fun y=>(st.arg G y).1)) (hcal:qGJ (st.arg G x).2 (args.toList.map fun y=>(st.arg G y).2)=some (f,xs')) (hle:kG xs' xs)
  (hH:qGQ (H.map fun p=>zQ p.1 st.H=some p.2)) (hnd:(H.map (·.1)).Nodup) (hps:∀ i∈ps,i∈H.map (·.1))
  (hids:∀ i∈V.ids r++jV H',i∈ps\/(st.rest H ps).fresh i=true) :
  Yields P G o st r { st.rest H ps with H:=H'++(st.rest H ps).H }:=by
 intro c M μ tmps w hg rel
 have hfx:=qF (x:=x) (y:=(st.arg G x).2) (p:=(st.arg G x).1) hg rel rfl hp
 have has:RL M μ (args.map (Act.eval ⟨tmps,[]⟩)) (args.toList.map fun y=>(st.arg G y).2):=by
  refine⟨by simp,fun i u y hu hy => ?_⟩
  rw[Array.getElem?_map]at hu
  obtain⟨a,ha,rfl⟩:=Option.map_eq_some_iff.1 hu
  have ha':args.toList[i]?=some a:=by simpa using ha
  rw[List.getElem?_map,ha']at hy
  cases hy
  refine qF hg rel rfl (uK hq _ ?_)
  exact List.mem_map.2 ⟨a,List.mem_of_getElem? ha',rfl⟩
 obtain⟨vs,hrun,hvs⟩:∃ vs,(execOp (Act.eval ⟨tmps,[]⟩) o).run P w = .ok (.enter f vs) w/\RL M μ vs xs:=by
  generalize hu:Act.eval ⟨tmps,[]⟩ x=u at hfx
  generalize hy:(st.arg G x).2=y at hfx hcal
  unfold qGJ at hcal
  split at hcal
  ·cases hcal
   cases hfx with
   | p hfx =>
    cases hfx
    refine⟨_,by simp[execOp,ho,resolve,Deferred.ofValue,hu,invoke,vF hc.1],has.weaken hle⟩
  ·rename_i f' a b
   cases hcal
   cases hfx with
   | @func fn fa ca fs cs h1 h2 h3 h4 =>
    refine⟨fa++args.map (Act.eval ⟨tmps,[]⟩)++ca,by simp[execOp,ho,resolve,Deferred.ofValue,hu,invoke,vF hc.1],RL.weaken ?_ hle⟩
    refine⟨by simp[h1,h2],fun i u y hu hy => ?_⟩
    rw[Array.getElem?_append]at hu
    rw[List.getElem?_append]at hy
    have hs1:(fa++args.map (Act.eval ⟨tmps,[]⟩)).size=(a++args.toList.map fun y=>(st.arg G y).2).length:=by simp[h1]
    rw[hs1]at hu
    split at hu
    ·rename_i hlt
     rw[if_pos hlt]at hy
     rw[Array.getElem?_append]at hu
     rw[List.getElem?_append]at hy
     rw[h1]at hu
     split at hu
     ·rename_i hlt2;rw[if_pos hlt2]at hy;exact h3 _ _ _ hu hy
     rename_i hlt2;rw[if_neg hlt2]at hy;exact has.2 _ _ _ hu hy
    rename_i hlt
    rw[if_neg hlt]at hy
    exact h4 _ _ _ hu hy
  cases hcal
 rw[hrun]
 have hbox:∀ id bx,(id,bx)∈H->(id,bx)∈st.H:=fun id bx h=>zB (uK hH _ (List.mem_map.2 ⟨_,h,rfl⟩))
 have hkey:∀ id,qM id H=true->qM id st.H=true:=fun id h=>by
  obtain⟨b,hb⟩:=qH.1 h;exact qH.2 ⟨b,hbox _ _ hb⟩
 have hlent:∀ b,wZ μ H b->c.mine b/\b<w.heap.size:=fun b ⟨id,h1,h2⟩=>by
  have:=rel.own id b (hkey id h1) h2;exact⟨this.1,this.2.1⟩
 have hcallee:Rel ⟨w.heap.size,w,M,μ,wZ μ H⟩ M μ ⟨xs,H.map (·.1),H,0⟩ vs w :=
  ⟨rel.mem,fun _ _ _ h=>h,fun _ _ _=>rfl,hvs,fun _ _=>rfl,fun id bx h=>rel.box id bx (hbox id bx h),hnd,fun i j b hi hj=>rel.inj i j b (hkey i hi) (hkey j hj),
   fun id b h hb=>⟨.inr ⟨id,h,hb⟩,(rel.own id b (hkey id h) hb).2⟩,Nat.le_refl _,Kept.refl _ _⟩
 refine(hc.2 M μ w vs (hg.go rel) hcallee).mono ?_
 rintro e w' ⟨v,M',μ',rfl,r'⟩
 refine⟨v,rfl,M', ?_⟩
 generalize hR:st.rest H ps=R at hids ⊢
 have relR:Rel c M μ R tmps w:=by
  rw[<-hR]
  have r1:=rel.killAll ((H.map (·.1)).filter fun i => !ps.contains i)
  exact r1.weaken ⟨kG.refl _,rfl,fun p hp=>(yZ hp).2,(List.Sublist.map _ (qAD _ _)).nodup r1.nodup⟩
 have hRkey:∀ i,qM i R.H=true->qM i H=false/\qM i st.H=true:=by
  intro i hi
  rw[<-hR]at hi
  obtain⟨b,hb⟩:=qH.1 hi
  have h1:=yZ hb
  refine⟨?_,qNF _ (qH.2 ⟨b,h1.2⟩)⟩
  cases hk:qM i H with
  | false=>rfl
  | true=>exact(h1.1 (wE.1 hk)).elim
 have hRblk:∀ i b,qM i R.H=true->(μ i).has b->b<w.heap.size/\¬ (w.heap.size<=b\/wZ μ H b):=by
  intro i b hi hb
  have h1:=hRkey i hi
  have h2:=(rel.own i b h1.2 hb).2.1
  refine⟨h2,fun h=>h.elim (fun h=>by omega) fun⟨j,hj,hjb⟩ => ?_⟩
  have:=rel.inj i j b h1.2 (hkey j hj) hb hjb
  subst this
  rw[h1.1]at hj;cases hj
 let μ'':Mu:=fun i=>if(R.fresh i || qM i H')=true then μ' i else μ i
 have hat:∀ i,i∈ps->(μ' i).at=(μ i).at:=fun i h=>r'.pins i h
 have hold:∀ i,R.fresh i=false->(μ'' i).at=(μ i).at:=fun i h=>by
  show(if(R.fresh i || qM i H')=true then μ' i else μ i).at=(μ i).at
  rw[h]
  split
  ·rename_i hk
   rcases hids i (List.mem_append.2 (.inr (qBG (by simpa using hk))))with h1|h1
   ·exact hat i h1
   rw[h]at h1;cases h1
  rfl
 have hnew:∀ i,(i∈ps\/R.fresh i=true)->(μ'' i).at=(μ' i).at:=by
  intro i h
  show(if(R.fresh i || qM i H')=true then μ' i else μ i).at=(μ' i).at
  split
  ·rfl
  rename_i hf
  exact(hat i (h.resolve_right fun e=>hf (by rw[e];rfl))).symm
 have hnew2:∀ i,i∈V.ids r++jV H'->(μ'' i).at=(μ' i).at:=fun i h=>hnew i (hids i h)
 have fr1:∀ i,V.noRefL i R.tmps=false->R.fresh i=false:=fun i h=>by simp only[St.fresh,h,Bool.false_and]
 have fr2:∀ i,kK i R.H=false->R.fresh i=false:=fun i h=>by simp only[St.fresh,h,Bool.false_and,Bool.and_false]
 have fr3:∀ i,qM i R.H=true->R.fresh i=false:=fun i h=>by simp only[St.fresh,h,Bool.not_true,Bool.and_false]
 have fr4:∀ i,i∈R.pins->R.fresh i=false:=fun i h=>by simp[St.fresh,h]
 have hkH':∀ i,qM i H'=true->μ'' i=μ' i:=fun i h=>if_pos (by rw[h];simp)
 have hdis:∀ i,qM i H'=true->qM i R.H=true->False:=by
  intro i h1 h2
  rcases hids i (List.mem_append.2 (.inr (qBG h1)))with h|h
  ·have:=wE.2 (hps i h)
   rw[(hRkey i h2).1]at this;cases this
  rw[fr3 i h2]at h;cases h
 have hkR:∀ i,qM i R.H=true->μ'' i=μ i:=fun i h=>if_neg (by
  rw[fr3 i h]
  cases hk:qM i H' with
  | false=>simp
  | true=>exact(hdis i hk h).elim)
 have hH'blk:∀ i b,qM i H'=true->(μ' i).has b->(w.heap.size<=b\/wZ μ H b):=fun i b hi hb=>(r'.own i b hi hb).1
 have hkeyApp:∀ i,qM i (H'++R.H)=true->qM i H'=true\/qM i R.H=true:=by
  intro i h
  obtain⟨b,hb⟩:=qH.1 h
  rcases List.mem_append.1 hb with h|h
  ·exact .inl (qH.2 ⟨b,h⟩)
  exact .inr (qH.2 ⟨b,h⟩)
 have hrr:RV M' μ'' v r:=by
  have h0:=r'.slots.2 0 v r (by simp) (by simp)
  exact h0.mono (fun _ _ _ h=>h) fun i hi=>hnew2 i (List.mem_append.2 (.inl (V.ids_of r hi)))
 refine⟨μ'', ?_,hrr⟩
 refine⟨r'.mem,fun b o v hv=>r'.ext b o v (rel.ext b o v hv),fun b o hb => ?_, ?_,fun i hi => ?_,fun i bx hi => ?_, ?_,fun i j b hi hj hib hjb => ?_,fun i b hi hib => ?_,Nat.le_trans rel.size r'.size, ?_⟩
 ·have h1:¬ (w.heap.size<=b\/wZ μ H b):=fun h=>h.elim (fun h=>hb (.inl (Nat.le_trans rel.size h))) fun h=>hb (hlent b h).1
  exact(r'.old b o h1).trans (rel.old b o hb)
 ·exact relR.slots.mono r'.ext fun i hi=>hold i (fr1 i hi)
 ·exact(hold i (fr4 i hi)).trans (relR.pins i hi)
 ·rcases List.mem_append.1 hi with h|h
  ·exact(r'.box i bx h).mono (fun _ _ _ h=>h) (hkH' i (qH.2 ⟨bx,h⟩)) (fun j hj=>hnew2 j (List.mem_append.2 (.inr (qKC h j (Box.ids_of hj))))) fun _ _=>rfl
  have hk:=qH.2 ⟨bx,h⟩
  refine(relR.box i bx h).mono r'.ext (hkR i hk) (fun j hj=>hold j (fr2 j ?_)) fun b hb => ?_
  ·cases hn:kK j R.H with
   | false=>rfl
   | true=>rw[xR hn h]at hj;cases hj
  exact r'.below.block b (hRblk i b hk hb).2
 ·rw[List.map_append,List.nodup_append]
  refine⟨r'.nodup,relR.nodup,fun i h1 j h2 => ?_⟩
  rintro rfl
  exact hdis _ (wE.2 h1) (wE.2 h2)
 ·rcases hkeyApp i hi with h1|h1 <;> rcases hkeyApp j hj with h2|h2
  ·rw[hkH' i h1]at hib;rw[hkH' j h2]at hjb;exact r'.inj i j b h1 h2 hib hjb
  ·rw[hkH' i h1]at hib;rw[hkR j h2]at hjb;exact((hRblk j b h2 hjb).2 (hH'blk i b h1 hib)).elim
  ·rw[hkR i h1]at hib;rw[hkH' j h2]at hjb;exact((hRblk i b h1 hib).2 (hH'blk j b h2 hjb)).elim
  rw[hkR i h1]at hib;rw[hkR j h2]at hjb;exact relR.inj i j b h1 h2 hib hjb
 ·rcases hkeyApp i hi with h1|h1
  ·rw[hkH' i h1]at hib
   obtain⟨h2,h3,h4⟩:=r'.own i b h1 hib
   exact⟨h2.elim (fun h => .inl (Nat.le_trans rel.size h)) fun h=>(hlent b h).1,h3,h4⟩
  rw[hkR i h1]at hib
  obtain⟨h2,h3,h4⟩:=relR.own i b h1 hib
  exact⟨h2,Nat.lt_of_lt_of_le h3 r'.size,fun o=>(r'.old b o (hRblk i b h1 hib).2).trans (h4 o)⟩
 refine rel.below.trans ⟨r'.below.os,r'.below.tape,r'.below.output,r'.below.size,fun k hk=>r'.below.block k ?_⟩
 exact fun h=>h.elim (fun h=>hk (.inl (Nat.le_trans rel.size h))) fun h=>hk (hlent k h).1
variable {Q:Exit->St->Prop} {st st1 st2 st':St}
theorem AW.runX (hT:TOK P T) (n:Nat) (orc1 orc2:List PD) {id:Nat} {l:List Oper} {o:Oper} {r:V} {v1 v2:Know->Prop} (ho:l[n]?=some o) (hgd:o.guard=none)
  (h1:∀ C,jD C T G l (l.take n) st orc1=some (v1 C,st1)) (hv1:v1 (kn P G)) (y:Yields P G o st1 r st2)
  (h2:∀ C,jD C T G l (l.drop (n+1)) (st2.put o.dst r) orc2=some (v2 C,st')) (hv2:v2 (kn P G)) (k:Q .normal st'):AW P G (.region id l.toArray false) Q st:=by
 refine AW.region ?_
 have hl:l=l.take n++(o::l.drop (n+1)):=by
  have:=List.take_append_drop n l
  rw[<-this]
  congr 1
  ·rw[List.take_append_drop]
  rw[List.take_append_drop,List.drop_eq_getElem_cons (List.getElem?_eq_some_iff.1 ho).1,(List.getElem?_eq_some_iff.1 ho).2]
 have hend:=yA (Q:=Q) hT l (l.drop (n+1)) [] _ orc2 _ st' (h2 (kn P G)) hv2 (zE.nil k)
 rw[List.append_nil]at hend
 have:=yA (Q:=Q) hT l (l.take n) (o::l.drop (n+1)) st orc1 _ st1 (h1 (kn P G)) hv1 (zE.step hgd y hend)
 rw[<-hl]at this
 exact this
theorem AW.seqRunX (hT:TOK P T) (n:Nat) (orc1 orc2:List PD) {id:Nat} {l:List Oper} {o:Oper} {b:Code} {r:V} {v1 v2:Know->Prop} (ho:l[n]?=some o) (hgd:o.guard=none)
  (h1:∀ C,jD C T G l (l.take n) st orc1=some (v1 C,st1)) (hv1:v1 (kn P G)) (y:Yields P G o st1 r st2)
  (h2:∀ C,jD C T G l (l.drop (n+1)) (st2.put o.dst r) orc2=some (v2 C,st')) (hv2:v2 (kn P G)) (k:AW P G b Q st'):AW P G (.seq (.region id l.toArray false) b) Q st :=
 AW.seq (AW.runX hT n orc1 orc2 ho hgd h1 hv1 y h2 hv2 k)
theorem AW.freeze {c:Code} (id:Nat) (k:AW P G c Q (st.freeze id)):AW P G c Q st:=by
 intro x M μ tmps w hg r
 obtain⟨M',r'⟩:=r.freeze id
 exact k x M' μ tmps w hg r'
attribute [simp] V.ids V.idsL Box.ids jV qGJ St.rest St.killAll zL
end
def qVK (P:Program) (G:qR) (o:Oper) (st:St) (x:V):Prop :=
 ∀ (c:Ctx) (M:qW) (μ:Mu) (tmps:Array Value) (w:World),xY G c->Rel c M μ st tmps w ->
  zGF P (fun u w'=>Grows w w'/\∃ M',(∀ b o v,M b o=some v->M' b o=some v)/\(∀ b o v,M' b o=some v->w'.cell? ⟨b,o,none⟩=some v)/\(∀ b o,b<w.heap.size->M' b o=M b o)/\RV M' μ u x)
   ((execOp (Act.eval ⟨tmps,[]⟩) o).run P w)
theorem qVK.le {P:Program} {G:qR} {o:Oper} {st st':St} {x:V} (h:St.Le st st') (k:qVK P G o st' x):qVK P G o st x :=
 fun c M μ tmps w hg r=>k c M μ tmps w hg (r.weaken h)
def wM (l:List V) (ts:List Nat):List V:=(List.range l.length).map fun i=>if ts.contains i then l.getD i .dead else .dead
theorem qCV (l:List V) (ts:List Nat):(wM l ts).length=l.length:=by simp[wM]
theorem qTY (l:List V) (ts:List Nat) (t:Nat):(wM l ts)[t]?=if t<l.length then some (if ts.contains t then l.getD t .dead else .dead) else none:=by
 simp only[wM,List.getElem?_map]
 by_cases h:t<l.length
 ·simp[h]
 simp[h]
theorem qDZ (l:List V) (ts:List Nat) (t:Nat):(wM l ts).getD t .dead=if ts.contains t then l.getD t .dead else .dead:=by
 rw[List.getD_eq_getElem?_getD,qTY]
 by_cases h:t<l.length
 ·simp[h]
 simp[h]
def jL (o:Oper) (j:Nat):Bool:=o.after.any fun e=>Region.binds .any e && e.on == j
def yQ (l:List Oper) (j:Nat):Option Nat:=(l[j]?).bind (·.dst)
def wI (l:List Oper) (m:Nat) (tss:List (List Nat)):Bool :=
 decide (m<=l.length) &&
 (List.range m).all (fun i=>match l[i]? with
  | some o => decide (tss[i]? = some (o.looksAt l.toArray)) && (List.range m).all fun j => (j == i || (o.dst.isNone || yQ l j != o.dst)) && (match yQ l j with
    | some d => !(o.looksAt l.toArray).contains d || (decide (j < i) && jL o j) || (decide (i < j) && match l[j]? with
      | some o'=>jL o' i
      | none=>false)
    | none=>true)
  | none=>false) &&
 (List.range l.length).all (fun i=>match l[i]? with
  | some o=>(decide (i<m) || (List.range i).all fun j=>jL o j) && o.after.all fun e => !Region.binds .any e || decide (e.on<i)
  | none=>false)
def zGS (l:List Oper) (m:Nat):Bool:=(List.range m).all fun i=>match l[i]? with
 | some o => (List.range m).all fun j => match yQ l j with
   | some d => !(o.looksAt l.toArray).contains d || decide (j<i)
   | none=>true
 | none=>false
def zQV (l:List Oper) (m:Nat) (tss:List (List Nat)):Bool:=wI l m tss && zGS l m
section
variable {P:Program} {T:Tab} {G:qR} {Q:Exit->St->Prop} {l:List Oper} {m:Nat} {tss:List (List Nat)}
theorem zRT (h:zQV l m tss=true) {i j:Nat} {o:Oper} {t:Nat} (hi:i<m) (hj:j<m) (ho:l[i]?=some o) (hd:yQ l j=some t) (ht:t∈o.looksAt l.toArray):j<i:=by
 simp only[zQV,zGS,Bool.and_eq_true,List.all_eq_true,List.mem_range]at h
 have h1:=h.2 i hi
 rw[ho]at h1
 simp only[List.all_eq_true,List.mem_range]at h1
 have h2:=h1 j hj
 rw[hd]at h2
 simpa[ht]using h2
theorem qDH (h:wI l m tss=true):m<=l.length:=by
 simp only[wI,Bool.and_eq_true,decide_eq_true_eq]at h;exact h.1.1
theorem vO (h:wI l m tss=true) {i:Nat} (hi:i<m):∃ o,l[i]?=some o/\tss[i]?=some (o.looksAt l.toArray) /\
  ∀ j,j<m->(j≠i->∀ d,o.dst=some d->yQ l j≠some d)/\∀ t,yQ l j=some t->t∈o.looksAt l.toArray->(j<i/\jL o j=true)\/(i<j/\∃ o',l[j]?=some o'/\jL o' i=true):=by
 simp only[wI,Bool.and_eq_true,List.all_eq_true,List.mem_range]at h
 have h1:=h.1.2 i hi
 split at h1
 ·rename_i o ho
  simp only[Bool.and_eq_true,List.all_eq_true,List.mem_range,decide_eq_true_eq]at h1
  obtain⟨h3,h4⟩:=h1
  refine⟨o,ho,h3,fun j hj=>⟨fun hne d hd => ?_,fun t ht hm => ?_⟩⟩
  ·have:=(h4 j hj).1
   simp only[Bool.or_eq_true,beq_iff_eq,bne_iff_ne,ne_eq]at this
   have h5:=this.resolve_left hne
   rw[hd]at h5
   exact h5.resolve_left (by simp)
  have:=(h4 j hj).2
  rw[ht]at this
  simp only[Bool.or_eq_true,Bool.not_eq_true',Bool.and_eq_true,decide_eq_true_eq]at this
  rcases this with(h|h)|h
  ·simp[hm]at h
  ·exact .inl h
  refine .inr ⟨h.1, ?_⟩
  have h2:=h.2
  split at h2
  ·rename_i o' ho';exact⟨o',ho',h2⟩
  cases h2
 cases h1
theorem uJ (h:wI l m tss=true) {i:Nat} {o:Oper} (ho:l[i]?=some o):(m<=i->∀ j,j<i->jL o j=true)/\∀ e∈o.after,Region.binds .any e=true->e.on<i:=by
 simp only[wI,Bool.and_eq_true,List.all_eq_true,List.mem_range]at h
 have hi:i<l.length:=(List.getElem?_eq_some_iff.1 ho).1
 have h1:=h.2 i hi
 rw[ho]at h1
 simp only[Bool.and_eq_true,Bool.or_eq_true,decide_eq_true_eq,List.all_eq_true,List.mem_range,Array.all_eq_true_iff_forall_mem,Bool.not_eq_true']at h1
 exact⟨fun hm j hj=>h1.1.resolve_left (by omega) j hj,fun e he hb=>(h1.2 e he).resolve_left (by simp[hb])⟩
theorem qAC {o:Oper} {j:Nat} (h:jL o j=true):∃ e∈o.after,Region.binds .any e=true/\e.on=j:=by
 obtain⟨e,he,hb⟩:=Array.any_eq_true'.1 h
 simp only[Bool.and_eq_true,beq_iff_eq]at hb
 exact⟨e,he,hb.1,hb.2⟩
structure Done (l:List Oper) (m:Nat) (xs:List V) (t0:List V) (L:Nat->Bool) (ys:List V):Prop where
 len:ys.length=t0.length
 done:∀ j d,j<m->yQ l j=some d->L j=true->d<ys.length->ys[d]?=xs[j]?
 else':∀ t,(∀ j,j<m->yQ l j=some t->L j=false)->ys[t]?=t0[t]?
def qSB (l:List V) (q:Option Nat) (x:V):List V:=match q with
 | some d=>l.set d x
 | none=>l
theorem St.put_putT (st:St) (q:Option Nat) (x:V):st.put q x={ st with tmps:=qSB st.tmps q x }:=by cases q <;> rfl
theorem Done.put (hchk:wI l m tss=true) {xs t0 ys:List V} {L L':Nat->Bool} (D:Done l m xs t0 L ys) {i:Nat} {q:Option Nat} {x:V} (hi:i<m) (hd:yQ l i=q) (hx:xs[i]?=some x)
  (hL:∀ j,L' j=(L j || j == i)):Done l m xs t0 L' (qSB ys q x):=by
 obtain⟨o,ho,_,hsep⟩:=vO hchk hi
 cases q with
 | none =>
  refine⟨D.len,fun j e hj he hLj hlt=>D.done j e hj he ?_ hlt,fun t ht=>D.else' t fun j hj hjt => ?_⟩
  ·have hji:j≠i:=by rintro rfl;rw[hd]at he;cases he
   rw[hL]at hLj
   simpa[hji]using hLj
  have:=ht j hj hjt
  rw[hL]at this
  simp only[Bool.or_eq_false_iff]at this
  exact this.1
 | some d' =>
 have hd':o.dst=some d':=by simpa only[yQ,ho,Option.bind_some]using hd
 refine⟨by simp[qSB,D.len],fun j e hj he hLj hlt => ?_,fun t ht => ?_⟩
 ·simp only[qSB]at hlt ⊢
  by_cases hji:j=i
  ·subst hji
   rw[hd]at he;cases he
   rw[List.getElem?_set_self (by simpa using hlt),hx]
  have hne:e≠d':=by rintro rfl;exact(hsep j hj).1 hji e hd' he
  rw[List.getElem?_set_ne (Ne.symm hne)]
  refine D.done j e hj he ?_ (by simpa using hlt)
  rw[hL]at hLj
  simpa[hji]using hLj
 have hne:t≠d':=by
  rintro rfl
  have:=ht i hi hd
  rw[hL]at this
  simp at this
 simp only[qSB]
 rw[List.getElem?_set_ne (Ne.symm hne)]
 refine D.else' t fun j hj hjt => ?_
 have:=ht j hj hjt
 rw[hL]at this
 simp only[Bool.or_eq_false_iff]at this
 exact this.1
def zYM (P:Program) (G:qR) (l:List Oper) (o:Oper) (W:St) (x:V):Prop :=
 match o.guard with
 | none=>qVK P G o W x
 | some (j,pol)=>∃ d b y,yQ l j=some d/\d<W.tmps.length/\V.guards pol (W.tmps.getD d .dead)=some b/\x = .when b y/\(b=true->qVK P G o W y)
theorem zYM.wp {o:Oper} {W st:St} {x:V} {i:Nat} (h:zYM P G l o W x) (hle:St.Le st W) (ho:l[i]?=some o) {c:Ctx} {M:qW} {μ:Mu} {tmps:Array Value} {w:World} (hg:xY G c)
  (r:Rel c M μ st tmps w) {R:Exit->Act->World->Prop} {K:Act->World->Prop}
  (k:∀ u w' M',Rel c M' μ st tmps w'->RV M' μ u x->K (Act.put ⟨tmps,[]⟩ o.dst u) w'):wpOp P l.toArray R i K ⟨tmps,[]⟩ w:=by
 have fin:∀ {y:V},qVK P G o W y->(∀ u w' M',Rel c M' μ st tmps w'->RV M' μ u y->K (Act.put ⟨tmps,[]⟩ o.dst u) w')->o.wp P ⟨tmps,[]⟩ w K R:=by
  intro y hs hk
  refine jN ((hs.le hle) c M μ tmps w hg r) ?_
  rintro u w' ⟨hgr,M',h1,h2,h3,hv⟩
  exact hk u w' M' (r.grows hgr h1 h2 h3) hv
 unfold wpOp
 rw[show l.toArray[i]?=some o by simpa using ho]
 show if Region.wanted o (yielded l.toArray tmps)=true then _ else _
 unfold zYM at h
 split at h
 ·rename_i hgd
  rw[if_pos (by simp[Region.wanted,hgd])]
  exact .inl (fin h k)
 rename_i j pol hgd
 obtain⟨d,b,y,hd,hlt,hb,rfl,hs⟩:=h
 have hlt':d<st.tmps.length:=by rw[hle.tmps.len];exact hlt
 have hget:∃ u,tmps[d]?=some u:=by
  have:=r.slots.1
  exact⟨tmps[d]'(by omega),by simp[show d<tmps.size by omega]⟩
 obtain⟨u0,hu0⟩:=hget
 have hx0:W.tmps[d]?=some (W.tmps.getD d .dead):=by simp[List.getD,hlt]
 obtain⟨hb1,hb2⟩:=V.guards_sound ((r.weaken hle).slots.2 d u0 _ hu0 hx0) hb
 have hy:yielded l.toArray tmps j=xX u0:=by
  have e1:∀ o:Option Value,o=some u0->(match o with|some (.bool b)=>some b|_=>none)=xX u0:=by
   rintro _ rfl
   cases u0 <;> rfl
  unfold yielded
  rw[show(l.toArray[j]?).bind (·.dst)=some d by simpa[yQ]using hd]
  exact e1 _ hu0
 cases hbv:b with
 | true =>
  have hu:=hb1 hbv
  subst hu
  rw[if_pos (by simp[Region.wanted,hgd,hy,xX])]
  refine .inl (fin (hs hbv) fun u w' M' r' hv=>k u w' M' r' ?_)
  exact .when (fun _=>hv) (fun e=>by rw[hbv]at e;cases e)
 | false =>
  have hu:=hb2 hbv
  rw[if_neg (by
   simp only[Region.wanted,hgd,hy]
   cases u0 with
   | bool t=>simp only[xX,beq_iff_eq,Option.some.injEq];rintro rfl;exact hu rfl
   | _=>simp[xX])]
  exact k undef w M r (.when (fun e=>by rw[hbv]at e;cases e) fun _=>rfl)
theorem qPU (hchk:wI l m tss=true) {k:Nat} (hk:m<=k) {listed:Array Bool} (hsz:listed.size=l.length) (hl:∀ j,j<l.length->listed.getD j false=decide (j<k)) :
  ∀ i,i∈Region.ready .any l.toArray listed->i=k:=by
 intro i hi
 obtain⟨h0,o,ho,hall⟩:=mem_ready.1 hi
 have ho':l[i]?=some o:=by simpa using ho
 have hil:i<l.length:=(List.getElem?_eq_some_iff.1 ho').1
 have h0':listed.getD i false=false:=by
  have e1:i<listed.size:=by omega
  simp[e1]at h0 ⊢
  exact h0
 rw[hl i hil]at h0'
 simp only[decide_eq_false_iff_not]at h0'
 rcases Nat.lt_or_ge k i with h|h
 ·obtain⟨e,he,hb,hj⟩:=qAC ((uJ hchk ho').1 (by omega) k h)
  have:=hall e he hb
  rw[hj,hl k (by omega)]at this
  simp at this
 omega
theorem zQU (hchk:wI l m tss=true) {R:Exit->Act->World->Prop}:∀ (n k:Nat) (fuel:Nat) (listed:Array Bool) (a:Act) (w:World),n=l.length-k->m<=k->k<=l.length->listed.size=l.length ->
  (∀ j,j<l.length->listed.getD j false=decide (j<k))->n<=fuel->wpList P l.toArray R (l.drop k) a w->wpAny P .any l.toArray R fuel listed a w:=by
 intro n
 induction n with
 | zero =>
  intro k fuel listed a w hn hmk hkl hsz hl _ h
  have hk:k=l.length:=by omega
  subst hk
  refine wpAny_done ?_ (by simpa[wpList]using h) fuel
  cases hr:Region.ready .any l.toArray listed with
  | nil=>rfl
  | cons i r =>
   have h1:i∈Region.ready .any l.toArray listed:=by rw[hr];simp
   have h2:=qPU hchk hmk hsz hl i h1
   obtain⟨_,o,ho,_⟩:=mem_ready.1 h1
   have ho':l[i]?=some o:=by simpa using ho
   have:=(List.getElem?_eq_some_iff.1 ho').1
   omega
 | succ n ih =>
  intro k fuel listed a w hn hmk hkl hsz hl hf h
  cases fuel with
  | zero=>omega
  | succ fuel =>
   have hkl':k<l.length:=by omega
   obtain⟨o,ho⟩:∃ o,l[k]?=some o:=⟨l[k],by simp[hkl']⟩
   have hready:k∈Region.ready .any l.toArray listed:=by
    refine mem_ready.2 ⟨?_,o,by simpa using ho,fun e he hb => ?_⟩
    ·have:=hl k hkl'
     have e1:k<listed.size:=by omega
     simp[e1]at this ⊢
     exact this
    have:=(uJ hchk ho).2 e he hb
    rw[hl _ (by omega)];simpa using this
   refine⟨fun hr=>(by rw[hr]at hready;cases hready),fun i hi => ?_⟩
   have hik:=qPU hchk hmk hsz hl i hi
   subst hik
   rw[List.drop_eq_getElem_cons hkl',show l[i]=o from(List.getElem?_eq_some_iff.1 ho).2]at h
   unfold wpOp
   rw[show l.toArray[i]?=some o by simpa using ho]
   have hnext:∀ a' w',wpList P l.toArray R (l.drop (i+1)) a' w'->wpAny P .any l.toArray R fuel (listed.setIfInBounds i true) a' w':=fun a' w' h' =>
    ih (i+1) fuel _ a' w' (by omega) (by omega) (by omega) (by simp[hsz]) (fun j hj=>by
     by_cases hij:i=j
     ·subst hij
      have:i<listed.size:=by omega
      simp[this]
     rw[getD_set_ne false hij,hl j hj]
     by_cases h1:j<i
     ·simp[h1,show j<i+1 by omega]
     simp[h1,show ¬ j<i+1 by omega]) (by omega) h'
   simp only[wpList]at h
   show if Region.wanted o (yielded l.toArray a.tmps)=true then _ else _
   split
   ·rename_i hw
    rw[if_pos hw]at h
    exact h.imp (Oper.wp_mono hnext) fun h=>h
   rename_i hw
   rw[if_neg hw]at h
   exact hnext _ _ h
theorem qUT {p q:Nat->Bool} (h:∀ j,q j=true->p j=true):∀ ks:List Nat,(ks.filter q).length<=(ks.filter p).length
 | []=>by simp
 | k::ks=>by
  have ih:=qUT h ks
  simp only[List.filter_cons]
  cases hq:q k with
  | true=>rw[h k hq];simp;exact ih
  | false=>cases p k <;> simp <;> omega
theorem qUS {p q:Nat->Bool} {i:Nat} (h:∀ j,q j=true->p j=true) (hp:p i=true) (hq:q i=false):∀ {ks:List Nat},i∈ks->(ks.filter q).length<(ks.filter p).length
 | k::ks,hm=>by
  simp only[List.filter_cons]
  have hle:=qUT h ks
  rcases List.mem_cons.1 hm with rfl|hm
  ·rw[hp,hq];simp;omega
  have ih:=qUS h hp hq hm
  cases hqk:q k with
  | true=>rw[h k hqk];simp;exact ih
  | false=>cases p k <;> simp <;> omega
attribute [simp] qDZ
end
mutual
def V.ren (i j:Nat):V->V
 | .ms k=>if k=i then .ms j else .ms k
 | .agg cs => .agg (V.renL i j cs)
 | .when b x => .when b (V.ren i j x)
 | .func f a b => .func f (V.renL i j a) (V.renL i j b)
 | .tuple cs => .tuple (V.renL i j cs)
 | .ptr k o=>if k=i then .ptr j o else .ptr k o
 | .rptr k n s o=>if k=i then .rptr j n s o else .rptr k n s o
 | .tl k n s=>if k=i then .tl j n s else .tl k n s
 | .it k=>if k=i then .it j else .it k
 | .p d => .p d
 | .dead => .dead
 | .nilsl => .nilsl
 | .cptr cs => .cptr cs
def V.renL (i j:Nat):List V->List V
 | []=>[]
 | x::xs=>V.ren i j x::V.renL i j xs
end
theorem V.renL_eq (i j:Nat):∀ l,V.renL i j l=l.map (V.ren i j)
 | []=>by simp only[V.renL,List.map_nil]
 | x::xs=>by simp only[V.renL,List.map_cons,V.renL_eq i j xs]
theorem RV.ren {M:qW} {μ:Mu} {i j:Nat} {u:Value} {x:V} (r:RV M μ u x):V.noRef j x=true->RV M (upd μ j (μ i)) u (x.ren i j):=by
 have same:∀ k,k≠j->upd μ j (μ i) k=μ k:=fun k h=>yC _ _ h
 have got:upd μ j (μ i) j=μ i:=qK _ _ _
 induction r with
 | p r=>intro _;simp only[V.ren];exact .p r
 | dead=>intro _;simp only[V.ren];exact .dead
 | nilsl=>intro _;simp only[V.ren];exact .nilsl
 | @ptr id off b h1 =>
  intro h;simp only[V.noRef,bne_iff_ne,ne_eq]at h
  simp only[V.ren];split
  ·rename_i e;subst e;exact .ptr (by rw[got];exact h1)
  exact .ptr (by rw[same _ h];exact h1)
 | @rptr id n sz off b h1 =>
  intro h;simp only[V.noRef,bne_iff_ne,ne_eq]at h
  simp only[V.ren];split
  ·rename_i e;subst e;exact .rptr (by rw[got];exact h1)
  exact .rptr (by rw[same _ h];exact h1)
 | @tl id n sz b l c h1 h2 h3 =>
  intro h;simp only[V.noRef,bne_iff_ne,ne_eq]at h
  simp only[V.ren];split
  ·rename_i e;subst e;exact .tl (by rw[got];exact h1) h2 h3
  exact .tl (by rw[same _ h];exact h1) h2 h3
 | cptr h1 h2=>intro _;simp only[V.ren];exact .cptr h1 h2
 | @ms u id h1 h2 =>
  intro h;simp only[V.noRef,bne_iff_ne,ne_eq]at h
  simp only[V.ren];split
  ·rename_i e;subst e;exact .ms (by rw[got];exact h1) h2
  exact .ms (by rw[same _ h];exact h1) h2
 | @it id b h1 =>
  intro h;simp only[V.noRef,bne_iff_ne,ne_eq]at h
  simp only[V.ren];split
  ·rename_i e;subst e;exact .it (by rw[got];exact h1)
  exact .it (by rw[same _ h];exact h1)
 | func h1 h2 _ _ ih1 ih2 =>
  intro h;simp only[V.noRef,Bool.and_eq_true]at h
  simp only[V.ren,V.renL_eq]
  refine .func (by simpa using h1) (by simpa using h2) (fun k u x hu hx => ?_) (fun k u x hu hx => ?_)
  ·rw[List.getElem?_map]at hx
   obtain⟨y,hy,rfl⟩:=Option.map_eq_some_iff.1 hx
   exact ih1 k u y hu hy (V.noRefL_get h.1 hy)
  rw[List.getElem?_map]at hx
  obtain⟨y,hy,rfl⟩:=Option.map_eq_some_iff.1 hx
  exact ih2 k u y hu hy (V.noRefL_get h.2 hy)
 | agg h1 h2 _ ih =>
  intro h;simp only[V.noRef]at h
  simp only[V.ren,V.renL_eq]
  refine .agg (by simpa using h1) h2 (fun k u x hu hx => ?_)
  rw[List.getElem?_map]at hx
  obtain⟨y,hy,rfl⟩:=Option.map_eq_some_iff.1 hx
  exact ih k u y hu hy (V.noRefL_get h hy)
 | tuple h1 _ ih =>
  intro h;simp only[V.noRef]at h
  simp only[V.ren,V.renL_eq]
  refine .tuple (by simpa using h1) (fun k u x hu hx => ?_)
  rw[List.getElem?_map]at hx
  obtain⟨y,hy,rfl⟩:=Option.map_eq_some_iff.1 hx
  exact ih k u y hu hy (V.noRefL_get h hy)
 | when _ h2 ih=>intro h;simp only[V.noRef]at h;simp only[V.ren];exact .when (fun hb=>ih hb h) h2
def Box.ren (i j:Nat):Box->Box
 | .vars e cs => .vars e (V.renL i j cs)
 | .row e sz es => .row e sz es
 | .iter s pos => .iter s pos
 | .mp ks vs => .mp ks (V.renL i j vs)
 | .mpx ks vs => .mpx ks (V.renL i j vs)
 | .obj b v o rs => .obj b v o (rs.map fun k=>if k=i then j else k)
 | .brow e bs => .brow e bs
 | .mach es en ss => .mach es en ss
 | .prow e ps => .prow e (V.renL i j ps)
def qNV (i j:Nat):List (Nat × Box)->List (Nat × Box)
 | []=>[]
 | (k,b)::r=>(if k=i then j else k,b.ren i j)::qNV i j r
theorem qPT {i j:Nat}:∀ {H:List (Nat × Box)} {k:Nat} {b:Box},(k,b)∈qNV i j H->∃ k' b',(k',b')∈H/\k=(if k'=i then j else k')/\b=b'.ren i j
 | (n,c)::r,k,b,h=>by
  simp only[qNV]at h
  rcases List.mem_cons.1 h with e|e
  ·cases e;exact⟨n,c,by simp,rfl,rfl⟩
  obtain⟨k',b',h1,h2,h3⟩:=qPT e;exact⟨k',b',List.mem_cons.2 (.inr h1),h2,h3⟩
theorem qTM (i j:Nat):∀ H:List (Nat × Box),(qNV i j H).map (·.1)=(H.map (·.1)).map fun k=>if k=i then j else k
 | []=>rfl
 | (n,c)::r=>by simp[qNV,qTM i j r]
theorem RBox.ren {M:qW} {μ:Mu} {w:World} {i j k:Nat} {bx:Box} (r:RBox M μ w k bx) (hk:k≠j) (hno:bx.noRef j=true):RBox M (upd μ j (μ i)) w (if k=i then j else k) (bx.ren i j):=by
 have hloc:upd μ j (μ i) (if k=i then j else k)=μ k:=by
  split
  ·rename_i e;rw[qK,e]
  exact yC _ _ hk
 cases r with
 | mach h0 hv h1 h2 h3 h4 h5 hn h6=>exact .mach (by rw[hloc];exact h0) (by rw[hloc];exact hv) h1 h2 h3 h4 h5 (by rw[hloc];exact hn) (by rw[hloc];exact h6)
 | machN h0 hv h1=>exact .machN (by rw[hloc];exact h0) (by rw[hloc];exact hv) (by rw[hloc];exact h1)
 | vars h0 h1 h2 h3 h4 =>
  simp only[Box.ren,V.renL_eq]
  refine .vars (by rw[hloc];exact h0) h1 (by simpa using h2) h3 fun n u x hu hx => ?_
  rw[List.getElem?_map]at hx
  obtain⟨y,hy,rfl⟩:=Option.map_eq_some_iff.1 hx
  exact(h4 n u y hu hy).ren (V.noRefL_get hno hy)
 | row h0 hv h1 h2 h3 h4 h5 h6 h7=>exact .row (by rw[hloc];exact h0) (by rw[hloc];exact hv) h1 h2 h3 h4 h5 h6 h7
 | rowN h0 hv=>exact .rowN (by rw[hloc];exact h0) (by rw[hloc];exact hv)
 | iter h0 h1 h2 h3=>exact .iter (by rw[hloc];exact h0) h1 h2 h3
 | obj h0 hv h1=>exact .obj (by rw[hloc];exact h0) (by rw[hloc];exact hv) h1
 | brow h0 hv h1 h2 h3 h4 h5 h6=>exact .brow (by rw[hloc];exact h0) (by rw[hloc];exact hv) h1 h2 h3 h4 h5 h6
 | prow h0 hv h1 h2 h3 h4 h5 h6 =>
  simp only[Box.ren,V.renL_eq]
  refine .prow (by rw[hloc];exact h0) (by rw[hloc];simpa using hv) h1 h2 (by simpa using h3) h4 h5 fun n u x hu hx => ?_
  rw[List.getElem?_map]at hx
  obtain⟨y,hy,rfl⟩:=Option.map_eq_some_iff.1 hx
  exact(h6 n u y hu hy).ren (V.noRefL_get hno hy)
 | mpx h0 hv h1 hB hl h2 h3 =>
  simp only[Box.ren,V.renL_eq]
  refine .mpx (by rw[hloc];exact h0) (by rw[hloc];exact hv) h1 hB (by simpa using hl) (fun e he => ?_) h3
  obtain⟨i,ba,g1,g2,g3,g4⟩:=h2 e he
  refine⟨i,ba,g1,g2,g3,fun x hx => ?_⟩
  rw[List.getElem?_map]at hx
  obtain⟨y,hy,rfl⟩:=Option.map_eq_some_iff.1 hx
  exact(g4 y hy).ren (V.noRefL_get hno hy)
 | mp h0 hv h1 hB h2 h3 h4 h5 =>
  simp only[Box.ren,V.renL_eq]
  refine .mp (by rw[hloc];exact h0) (by rw[hloc];exact hv) h1 hB h2 (by simpa using h3) h4 fun n e x he hx => ?_
  rw[List.getElem?_map]at hx
  obtain⟨y,hy,rfl⟩:=Option.map_eq_some_iff.1 hx
  exact(h5 n e y he hy).ren (V.noRefL_get hno hy)
def St.ren (st:St) (i j:Nat):St:={ st with tmps:=V.renL i j st.tmps,pins:=st.pins.filter (· != i),H:=qNV i j st.H }
theorem Rel.ren {c:Ctx} {M:qW} {μ:Mu} {st:St} {tmps:Array Value} {w:World} (r:Rel c M μ st tmps w) {i j:Nat} (hf:st.fresh j=true):Rel c M (upd μ j (μ i)) (st.ren i j) tmps w:=by
 obtain⟨f1,f2,f3,f4⟩:=St.fresh_spec hf
 have hne:∀ {k b},(k,b)∈st.H->k≠j:=fun {k b} h=>by rintro rfl;rw[qH.2 ⟨b,h⟩]at f4;cases f4
 have hloc:∀ k,k≠j->upd μ j (μ i) (if k=i then j else k)=μ k:=fun k hk=>by
  split
  ·rename_i e;rw[qK,e]
  exact yC _ _ hk
 have hinj:∀ k k',k≠j->k'≠j->(if k=i then j else k)=(if k'=i then j else k')->k=k':=by
  intro k k' h1 h2 h
  split at h <;> split at h
  ·omega
  ·omega
  ·omega
  exact h
 have hkey:∀ {k},qM k (qNV i j st.H)=true->∃ k',qM k' st.H=true/\k'≠j/\k=(if k'=i then j else k'):=fun {k} h=>by
  obtain⟨b,hb⟩:=qH.1 h
  obtain⟨k',b',h1,h2,_⟩:=qPT hb
  exact⟨k',qH.2 ⟨b',h1⟩,hne h1,h2⟩
 refine⟨r.mem,r.ext,r.old,⟨by simp[St.ren,V.renL_eq,r.slots.1],fun k u x hu hx => ?_⟩,fun k hk => ?_,fun k b hb => ?_, ?_,fun k k' b h1 h2 hb hb' => ?_,fun k b hk hb => ?_,r.size,r.below⟩
 ·simp only[St.ren,V.renL_eq]at hx
  rw[List.getElem?_map]at hx
  obtain⟨y,hy,rfl⟩:=Option.map_eq_some_iff.1 hx
  exact(r.slots.2 k u y hu hy).ren (V.noRefL_get f1 hy)
 ·obtain⟨h1,h2⟩:=List.mem_filter.1 hk
  rw[yC _ _ (by rintro rfl;exact f2 h1)]
  exact r.pins k h1
 ·obtain⟨k',b',h1,rfl,rfl⟩:=qPT hb
  exact(r.box k' b' h1).ren (hne h1) (xR f3 h1)
 ·show((qNV i j st.H).map (·.1)).Nodup
  rw[qTM]
  refine List.Pairwise.map _ (R:=fun a b=>a≠b/\a≠j/\b≠j) (fun a b h e=>h.1 (hinj a b h.2.1 h.2.2 e)) ?_
  have hn:∀ k∈st.H.map (·.1),k≠j:=fun k hk=>by
   obtain⟨⟨k',b⟩,h,rfl⟩:=List.mem_map.1 hk;exact hne h
  exact List.Pairwise.imp_of_mem (fun {a b} ha hb h=>⟨h,hn a ha,hn b hb⟩) r.nodup
 ·obtain⟨n,hn,hnj,rfl⟩:=hkey h1
  obtain⟨n',hn',hnj',rfl⟩:=hkey h2
  rw[hloc n hnj]at hb
  rw[hloc n' hnj']at hb'
  rw[r.inj n n' b hn hn' hb hb']
 obtain⟨n,hn,hnj,rfl⟩:=hkey hk
 rw[hloc n hnj]at hb
 exact r.own n b hn hb
section
variable {P:Program} {G:qR} {Q:Exit->St->Prop} {st:St}
theorem AW.ren {c:Code} (i j:Nat) (hf:st.fresh j=true) (k:AW P G c Q (st.ren i j)):AW P G c Q st :=
 fun x M _ tmps w hg r=>k x M _ tmps w hg (r.ren hf)
theorem AW.kill {c:Code} (i:Nat) (k:AW P G c Q (st.kill i)):AW P G c Q st :=
 fun x M μ tmps w hg r=>k x M μ tmps w hg (r.kill i)
theorem AW.take {c:Code} (i j:Nat) (k:AW P G c Q ((st.kill j).ren i j)):AW P G c Q st :=
 AW.kill j (AW.ren i j (qBH st j) k)
@[simp] theorem zED (i j:Nat):∀ ds,V.renL i j (pcells ds)=pcells ds
 | []=>by simp[pcells,V.renL]
 | d::ds=>by
  have:=zED i j ds
  simp only[pcells,List.map_cons,V.renL,V.ren]at this ⊢; rw[this]
@[simp] theorem qQA:∀ ds,V.idsL (pcells ds)=[]
 | []=>by simp[pcells,V.idsL]
 | d::ds=>by
  have:=qQA ds
  simp only[pcells,List.map_cons,V.idsL,V.ids,List.nil_append]at this ⊢; exact this
def CX (G:qR) (st:St) (x:Operand) (args:List Operand) (f:FuncId) (xs:List V) (H:List (Nat × Box)) (r:V) (ps:List Nat) (H':List (Nat × Box)):Prop :=
 (st.arg G x).1/\qGQ (args.map fun y=>(st.arg G y).1)/\(match qGJ (st.arg G x).2 (args.map fun y=>(st.arg G y).2)with
  | some (g,xs')=>g=f/\kG xs' xs
  | none=>False)/\qGQ (H.map fun p=>zQ p.1 st.H=some p.2)/\(H.map (·.1)).Nodup/\(∀ i∈ps,i∈H.map (·.1))/\∀ i∈V.ids r++jV H',i∈ps\/(st.rest H ps).fresh i=true
theorem zF {o:Oper} {x:Operand} {args:Array Operand} {tys:Array TypeId} {f:FuncId} {xs:List V} {H:List (Nat × Box)} {r:V} {ps:List Nat} {H':List (Nat × Box)}
  (ho:o.op = .call { callee := .value x,args:=args,argTypes:=tys }) (hc:AX P G f xs H r ps H') (h:CX G st x args.toList f xs H r ps H'):Yields P G o st r { st.rest H ps with H:=H'++(st.rest H ps).H }:=by
 obtain⟨h1,h2,h3,h4,h5,h6,h7⟩:=h
 split at h3
 ·rename_i g xs' hcal
  obtain⟨rfl,h3⟩:=h3
  exact zRZ ho h1 hc h2 hcal h3 h4 h5 h6 h7
 exact h3.elim
attribute [simp] CX St.ren V.ren V.renL Box.ren qNV
end
section
variable {P:Program} {T:Tab} {G:qR}
def zIQ (P:Program) (f:FuncId) (e:Array Value->Sem Value):Prop:=∀ args w,(callFunc f args).run P w=((e args).run P w).andThen fun v w' => .ok (.value v) w'
theorem qYG {o:Oper} {st:St} {x a b:Operand} {tys:Array TypeId} {f:FuncId} (he:zIQ P f Extern.BytealgIndexByte.indexByte)
  (ho:o.op = .call { callee := .value x,args := #[a,b],argTypes:=tys }) {p q r:Prop} {s:List UInt8} {n:Int} (hf:st.arg G x=(p,.p (.fn f))) (hp:p)
  (ha:st.arg G a=(q,.p (.str s))) (hq:q) (hb:st.arg G b=(r,.p (.int .u8 n))) (hr:r):Yields P G o st (.p (.int .i64 (Lib.indexByte s n.toNat.toUInt8))) st:=by
 intro c M μ tmps w hg rel
 have h1:=(qF hg rel hf hp).p_inv
 have h2:=(qF hg rel ha hq).p_inv
 have h3:=(qF hg rel hb hr).p_inv
 generalize hu1:Act.eval ⟨tmps,[]⟩ x=u1 at h1
 generalize hu2:Act.eval ⟨tmps,[]⟩ a=u2 at h2
 generalize hu3:Act.eval ⟨tmps,[]⟩ b=u3 at h3
 cases h1
 cases h3
 cases h2 with
 | @str bb _ hs hm =>
 have e:(execOp (Act.eval ⟨tmps,[]⟩) o).run P w = .ok (.value (.int .i64 (Lib.indexByte s n.toNat.toUInt8))) w:=by
  have e1:=he #[.string bb,.int .u8 n] w
  rw[Lib.run_indexByteString]at e1
  subst hs
  simp only[execOp,ho,resolve,Deferred.ofValue,hu1,invoke]
  simpa[hu2,hu3]using e1
 rw[e]
 refine⟨M,μ,rel,.p (.int ?_ ?_)⟩
 ·have:=Lib.indexByte_ge s n.toNat.toUInt8
  rw[jK];simp only[kD];omega
 rw[kV];simp only[kE]
 have hlt:∀ (l:List UInt8) (c:UInt8),Lib.indexByte l c<=l.length:=by
  intro l c
  induction l with
  | nil=>simp[Lib.indexByte]
  | cons b l ih =>
   unfold Lib.indexByte
   simp only[List.length_cons]
   split
   ·omega
   split
   ·omega
   omega
 have:=hlt s n.toNat.toUInt8
 simp[maxLen]at hm
 have:s.length<=9223372036854775807:=by omega
 omega
@[simp] theorem zZE:maxLen=9223372036854775807:=rfl
@[simp] theorem wCN (a:Array UInt8):(ByteArray.mk a).size=a.size:=rfl
@[simp] theorem zVQ (d:PD) (ds:List PD):pcells (d::ds) = .p d::pcells ds:=rfl
@[simp] theorem zTP (ds:List PD):ds.map V.p=pcells ds:=rfl
variable {Q:Exit->St->Prop} {st st1:St}
theorem zE.all (hT:TOK P T) (orc:List PD) {l m:List Oper} {v:Know->Prop} (h:∀ C,jD C T G l m st orc=some (v C,st1)) (hv:v (kn P G)) (k:Q .normal st1):zE P G l.toArray Q m st:=by
 have:=yA (Q:=Q) hT l m [] st orc _ st1 (h (kn P G)) hv (zE.nil k)
 rw[List.append_nil]at this
 exact this
theorem AW.join {a b:Code} {α:Type} (I:α->Prop) (S:α->St) (ha:AW P G a (andThen (fun s=>∃ x,I x/\St.Le s (S x)) Q) st) (hb:∀ x,I x->AW P G b Q (S x)):AW P G (.seq a b) Q st:=by
 refine AW.seq (ha.mono fun e s h => ?_)
 cases e with
 | normal =>
  obtain⟨x,hx,hle⟩:=h
  exact(hb x hx).weaken hle
 | _=>exact h
end
end Go.Proofs.YtgcbapchinideaaGreatDoor.Sy
