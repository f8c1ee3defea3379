import Derived.Test.YtcfcfblbpnpclaaGreatDoorSCore37
namespace Go.Proofs.YtcfcfblbpnpclaaGreatDoor.Sy
open Go
set_option linter.unusedSimpArgs false
set_option linter.unusedVariables false
structure PRow (M:qQ) (μ:Mu) (ps:List V) (news:List Value):Prop where
 len:news.length=ps.length
 one:∀ u∈news,u.oneCell'=true
 get:∀ (i:Nat) u x,news[i]?=some u→ps[i]?=some x→RV M μ u x
theorem PRow.append {M:qQ} {μ:Mu} {ps qs:List V} {xs ys:List Value} (h:PRow M μ ps xs) (k:PRow M μ qs ys):PRow M μ (ps++qs) (xs++ys) where
 len:=by simp [h.len,k.len]
 one:=fun u hu=>(List.mem_append.1 hu).elim (h.one u) (k.one u)
 get:=fun i u x hu hx=>by
  rw [List.getElem?_append] at hu hx
  rw [h.len] at hu
  split at hu
  ·rename_i hi; rw [if_pos hi] at hx; exact h.get i u x hu hx
  rename_i hi; rw [if_neg hi] at hx; exact k.get _ u x hu hx
theorem PRow.fresh {M:qQ} {μ:Mu} {ps:List V} {xs:List Value} (h:PRow M μ ps xs) {id:Nat} (hn:V.noRefL id ps=true) (l:Loc):PRow M (upd μ id l) ps xs :=
 ⟨h.len,h.one,fun i u x hu hx=>(h.get i u x hu hx).mono (fun _ _ _ h=>h) fun j hj=>vJ _ _ (fun e=>by subst e; rw [V.noRefL_get hn hx] at hj; cases hj)⟩
theorem PRow.box {M : qQ} {μ : Mu} {w : World} {id b cap : Nat} {e : TypeId} {ps : List V} {news : List Value} {arr : Array Value} (h : PRow M μ ps news) (h0 : (μ id).blk = some b)
  (hv:(μ id).val = .slice (some ⟨b,0,none⟩) ps.length cap) (hh:w.heap[b]?=some (.cells arr e (0,0))) (hs:arr.size=cap) (hc:ps.length≤cap) (hm:cap≤maxLen)
  (hone:∀ (i:Nat) u,arr[i]?=some u→u.oneCell'=true) (hpre:arr.toList.take ps.length=news):RBox M μ w id (.prow e ps):=by
 refine .prow h0 hv hh hs hc hm hone fun i u x hu hx=>h.get i u x ?_ hx
 have hi:=(List.getElem?_eq_some_iff.1 hx).1
 rw [← hpre,List.getElem?_take,if_pos hi]
 simpa using hu
theorem RBox.pcells {M : qQ} {μ : Mu} {w : World} {id : Nat} {e : TypeId} {ps : List V} (r : RBox M μ w id (.prow e ps)) : ∃ (b cap : Nat) (arr : Array Value), (μ id).blk = some b ∧ (μ id).val = .slice (some ⟨b, 0, none⟩) ps.length cap ∧ w.heap[b]? = some (.cells arr e (0, 0)) ∧
  arr.size=cap∧ps.length≤cap∧cap≤maxLen∧(∀ (i:Nat) u,arr[i]?=some u→u.oneCell'=true)∧PRow M μ ps (arr.toList.take ps.length):=by
 cases r with
 | @prow _ _ b cap arr h0 hv hh hs hc hm ho hg =>
  refine ⟨b,cap,arr,h0,hv,hh,hs,hc,hm,ho,⟨by simp; omega,fun u hu => ?_,fun i u x hu hx=>hg i u x ?_ hx⟩⟩
  ·obtain ⟨k,hk,rfl⟩:=List.mem_iff_getElem.1 (List.mem_of_mem_take hu)
   exact ho k _ (by simp at hk; simp [hk])
  have hi:=(List.getElem?_eq_some_iff.1 hx).1
  rw [List.getElem?_take,if_pos hi] at hu
  simpa using hu
section
variable {P:Program} {T:Tab} {G:qK} {c:Ctx} {M:qQ} {μ:Mu} {st:St} {tmps:Array Value} {w:World}
theorem vG (hT : TOK P T) (r : Rel c M μ st tmps w) {t tx ty el : TypeId} (ht : zE T t = some (.sl el)) {ti : TI} (hti : T el = some ti) {zs : List V} (hzs : ti.zero.cells = some zs) (hzl : zs.length = ti.size) (h1 : ti.size = 1)
  (hby:0<ti.bytes) {ps qs:List V} {v x:Value} {news:List Value} (hs:Src P 1 tx x qs.length news w) (hrow:PRow M μ qs news) (hbound:(ps.length+qs.length) * ti.bytes≤140737488355328)
  (id:Nat) (hf:st.fresh id=true) (hnp:V.noRefL id ps=true) (hnq:V.noRefL id qs=true) (hn0:zV id [(id,.prow el (ps++qs))]=true) (h0:0<qs.length)
  (hv:(ps=[]∧v = .slice none 0 0)∨∃ b cap arr,c.mine b∧(∀ o,M b o=none)∧(∀ j,qI j st.H=true→¬ (μ j).has b)∧v = .slice (some ⟨b,0,none⟩) ps.length cap ∧
   w.heap[b]?=some (.cells arr el (0,0))∧arr.size=cap∧ps.length≤cap∧cap≤maxLen∧(∀ (i:Nat) u,arr[i]?=some u→u.oneCell'=true)∧PRow M μ ps (arr.toList.take ps.length)) :
  ∃ u w' μ',(Builtin.append_ #[t,tx] ty #[v,x]).run P w = .ok u w'∧Rel c M μ' { st with H:=(id,.prow el (ps++qs))::st.H } tmps w'∧RV M μ' u (.ms id):=by
 obtain ⟨z,hzr,hzc,i,hi,hz,hisz,hiby⟩:=kM hT hti hzs M μ w
 have hd:=hT.sl ht
 have hi1:i.size=1:=by omega
 rw [← hi1] at hs
 have hlen:ps.length+qs.length≤140737488355328:=Nat.le_trans (Nat.le_mul_of_pos_right _ hby) hbound
 have hbn:(Box.prow el (ps++qs)).noRef id=true:=by simpa [zV] using hn0
 have grow : ∀ (a : Option Addr) (cap : Nat) (olds : List Value), (Builtin.firstCells i.size ps.length (.slice a ps.length cap)).run P w.drew = .ok olds.toArray w.drew → PRow M μ ps olds → cap < ps.length + qs.length →
   ∃ u w' μ',(Builtin.append_ #[t,tx] ty #[.slice a ps.length cap,x]).run P w = .ok u w'∧Rel c M μ' { st with H:=(id,.prow el (ps++qs))::st.H } tmps w'∧RV M μ' u (.ms id):=by
  intro a cap olds hold hro hlt
  have hrun:=run_append_grow_src (P:=P) w t tx ty el i z hd hi hz a ps.length cap olds hold x qs.length news hs hlt (by omega) (growslice_fits hlt (by rw [hiby]; exact hbound))
  have hge:=grownCap_ge w (ps.length+qs.length) cap el
  have hcm:=grownCap_le_maxLen w (ps.length+qs.length) cap el (by simp [maxLen]; omega)
  refine ⟨_,_,upd μ id ⟨some w.heap.size,.slice (some ⟨w.heap.size,0,none⟩) (ps.length+qs.length) (grownCap w (ps.length+qs.length) cap el),[]⟩,hrun, ?_,.ms (by rw [qN]) rfl⟩
  have hall:=(hro.fresh hnp ⟨some w.heap.size,.slice (some ⟨w.heap.size,0,none⟩) (ps.length+qs.length) (grownCap w (ps.length+qs.length) cap el),[]⟩).append (hrow.fresh hnq _)
  refine r.newBox hf ((Grows.drew w).trans (Grows.alloc _ _)) (fun b hb=>by cases hb; exact ⟨Nat.le_refl _,by simp⟩) ?_ hbn
  refine hall.box (b:=w.heap.size) (cap:=grownCap w (ps.length+qs.length) cap el) (by rw [qN]) (by rw [qN]; simp) (heap_alloc_new w.drew _) ?_ (by simp; exact hge) hcm (fun j u hu => ?_) ?_
  ·have hzz:z.cells.size=1:=by
    have:=hzc.size
    omega
   rw [Array.size_append,size_zeroCells,hzz,List.size_toArray,hall.len,List.length_append]
   omega
  ·rw [Array.getElem?_append] at hu
   split at hu
   ·exact hall.one u (by rw [List.getElem?_toArray] at hu; exact List.mem_of_getElem? hu)
   exact xC hzc.one _ _ u hu
  rw [Array.toList_append,List.take_append_of_le_length (by rw [hall.len]; exact Nat.le_refl _),List.take_of_length_le (by rw [hall.len]; exact Nat.le_refl _)]
 rcases hv with ⟨rfl,rfl⟩ | ⟨b,cap,arr,hB,hMb,hnb,rfl,hh,has,hlc,hcm,hone,hro⟩
 ·refine grow none 0 [] ?_ ⟨rfl,fun u h=>(by simp at h),fun i u x h=>(by simp at h)⟩ (by simpa using h0)
  simp [Builtin.firstCells]
 by_cases hroom:ps.length+qs.length≤cap
 ·have hnl:=hrow.len
  have hfit:ps.length * i.size+news.length≤arr.size:=by rw [hnl,has,hi1]; omega
  have hrun:=yN (P:=P) w t tx ty el i hd hi b ps.length cap arr hh x qs.length news hs hroom hfit
  refine ⟨_,_,upd μ id ⟨some b,.slice (some ⟨b,0,none⟩) (ps.length+qs.length) cap,[]⟩,hrun, ?_,.ms (by rw [qN]) rfl⟩
  have hall:=(hro.fresh hnp ⟨some b,.slice (some ⟨b,0,none⟩) (ps.length+qs.length) cap,[]⟩).append (hrow.fresh hnq _)
  have hblt:b<w.heap.size:=(Array.getElem?_eq_some_iff.1 hh).1
  have r1:=r.turn hB hMb hnb (yC w b (arr.toList.take (ps.length * i.size)++news++arr.toList.drop (ps.length * i.size+news.length)).toArray)
  refine r1.adopt hf (fun b' hb'=>by cases hb'; exact ⟨hB,by simpa using hblt,hMb,hnb⟩) ?_
  rw [hi1,Nat.mul_one] at hfit ⊢
  have hal:(arr.toList.take ps.length).length=ps.length:=hro.len
  refine hall.box (b:=b) (cap:=cap) (by rw [qN]) (by rw [qN]; simp) (setRow_heap w b arr _ el (0,0) hh) ?_ (by simp; exact hroom) hcm (fun j u hu => ?_) ?_
  ·simp only [List.size_toArray,List.length_append,List.length_drop,Array.length_toList,hal]
   omega
  ·rw [List.getElem?_toArray] at hu
   have:=List.mem_of_getElem? hu
   rcases List.mem_append.1 this with h | h
   ·exact hall.one u h
   obtain ⟨k,hk,rfl⟩:=List.mem_iff_getElem.1 (List.mem_of_mem_drop h)
   exact hone k _ (by simp at hk; simp [hk])
  rw [List.take_append_of_le_length (by rw [hall.len]; exact Nat.le_refl _),List.take_of_length_le (by rw [hall.len]; exact Nat.le_refl _)]
 refine grow (some ⟨b,0,none⟩) cap _ ?_ hro (by omega)
 exact run_firstCells_some (P:=P) w.drew i.size ps.length ⟨b,0,none⟩ ps.length cap _ (by rw [hro.len,hi1,Nat.mul_one]) (fun j u hu=>by
  rw [List.getElem?_take] at hu
  split at hu
  ·rw [wV,Nat.zero_add]
   show w.cell? ⟨b,j,none⟩=_
   rw [zF hh]; simpa using hu
  cases hu)
end
section
variable {P:Program} {T:Tab} {G:qK} {st st1:St}
theorem kJ (hT : TOK P T) {o : Oper} {s x : Operand} {t tx el ex : TypeId} (ho : o.op = .call { callee := .builtin .append, args := #[s, x], argTypes := #[t, tx] }) {p q : Prop} {v : V} (hs : st.arg G s = (p, v)) (hp : p) {j : Nat} (hx : st.arg G x = (q, .ms j)) (hq : q)
  (ht:zE T t=some (.sl el)) (htx:zE T tx=some (.sl ex)) {ti:TI} (hti:T el=some ti) {zs:List V} (hzs:ti.zero.cells=some zs) (hzl:zs.length=ti.size) (h1:ti.size=1) (hby:0<ti.bytes) {e2:TypeId} {ps qs:List V}
  (hj:zC j st.H=some (.prow e2 qs)) (h0:0<qs.length) (hv:(v = .nilsl∧ps=[]∧st1=st)∨(∃ id0,v = .ms id0∧zC id0 st.H=some (.prow el ps)∧st1=st.kill id0))
  (hbound:(ps.length+qs.length) * ti.bytes≤140737488355328) (id:Nat) (hf:st1.fresh id=true) (hnp:V.noRefL id ps=true) (hnq:V.noRefL id qs=true) {st':St} (he:({ st1 with H:=(id,.prow el (ps++qs))::st1.H }:St)=st') :
  qO P G o st (.ms id) st':=by
 subst he
 intro c M μ tmps w hg r
 have hvv:=qD hg r hs hp
 have hyy:=qD hg r hx hq
 have hdx:=hT.sl htx
 generalize hu1:Act.eval ⟨tmps,[]⟩ s=u1 at hvv
 generalize hu2:Act.eval ⟨tmps,[]⟩ x=u2 at hyy
 have hn0:zV id [(id,.prow el (ps++qs))]=true:=by
  have:∀ a b:List V,V.noRefL id a=true→V.noRefL id b=true→V.noRefL id (a++b)=true:=by
   intro a b ha hb
   induction a with
   | nil=>exact hb
   | cons y a ih=>simp only [V.noRefL,Bool.and_eq_true] at ha; simp only [List.cons_append,V.noRefL,ha.1,ih ha.2,Bool.and_self]
  simp [zV,Box.noRef,this _ _ hnp hnq]
 have key:∃ u w' μ',(Builtin.append_ #[t,tx] o.type #[u1,u2]).run P w = .ok u w'∧Rel c M μ' { st1 with H:=(id,.prow el (ps++qs))::st1.H } tmps w'∧RV M μ' u (.ms id):=by
  cases hyy with
  | ms hval2 _ =>
  obtain ⟨b2,cap2,arr2,g0,gv,gh,gs,gc,gm,go,gp⟩:=(r.box j _ (qT hj)).pcells
  rw [gv] at hval2
  subst hval2
  have hS:Src P 1 tx (.slice (some ⟨b2,0,none⟩) qs.length cap2) qs.length (arr2.toList.take qs.length) w:=Src.ofSlice w hdx ⟨b2,0,none⟩ qs.length cap2 _ (by rw [gp.len,Nat.mul_one]) (fun k u hu=>by
   rw [List.getElem?_take] at hu
   split at hu
   ·rw [wV,Nat.zero_add,zF gh]; simpa using hu
   cases hu) gp.one
  rcases hv with ⟨rfl,rfl,rfl⟩ | ⟨id0,rfl,hb,rfl⟩
  ·cases hvv
   exact vG hT r ht hti hzs hzl h1 hby hS gp hbound id hf hnp hnq hn0 h0 (.inl ⟨rfl,rfl⟩)
  cases hvv with
  | ms hval _ =>
  have hm:=qT hb
  have hk:qI id0 st.H=true:=qF.2 ⟨_,hm⟩
  obtain ⟨b,cap,arr,h00,hva,hh,has,hlc,hcm,hone,hro⟩:=(r.box id0 _ hm).pcells
  rw [hva] at hval; subst hval
  have hown:=r.own id0 b hk (.inl h00)
  exact vG hT (r.kill id0) ht hti hzs hzl h1 hby hS gp hbound id hf hnp hnq hn0 h0 (.inr ⟨b,cap,arr,hown.1,hown.2.2,qAQ r hk h00,rfl,hh,has,hlc,hcm,hone,hro⟩)
 obtain ⟨u,w',μ',hrun,hr,hu⟩:=key
 have e1:(execOp (Act.eval ⟨tmps,[]⟩) o).run P w = .ok (.value u) w':=by
  simp [execOp,ho,resolve,invoke,builtin,hu1,hu2,hrun]
 rw [e1]
 exact ⟨M,μ',hr,hu⟩
theorem jG (hT : TOK P T) {o : Oper} {t el : TypeId} {x : Operand} (ho : o.op = .buildSlice t 1 #[(0, x)]) (ht : zE T t = some (.sl el)) {ti : TI} (hti : T el = some ti) {zs : List V} (hzs : ti.zero.cells = some zs) (hzl : zs.length = ti.size) (h1 : ti.size = 1)
  {p:Prop} {d off:Nat} (hx:st.arg G x=(p,.ptr d off)) (hp:p) (id:Nat) (hf:st.fresh id=true) (hne:d≠id) {st':St} (he:({ st with H:=(id,.prow el [.ptr d off])::st.H }:St)=st'):qO P G o st (.ms id) st':=by
 subst he
 intro c M μ tmps w hg r
 obtain ⟨z,hzr,hzc,i,hi,hz,hisz,hiby⟩:=kM hT hti hzs M μ w
 have hd:=hT.sl ht
 have hxx:=qD hg r hx hp
 generalize hu1:Act.eval ⟨tmps,[]⟩ x=u1 at hxx
 cases hxx with
 | @ptr _ _ b hbk =>
 have hzz:z.cells.size=1:=by have:=hzc.size; omega
 obtain ⟨z0,hz0⟩:∃ z0,z.cells = #[z0]:=by
  refine ⟨z.cells[0], ?_⟩
  apply Array.ext
  ·simp [hzz]
  intro k h1 h2
  have:k=0:=by simp at h2; omega
  subst this; rfl
 have hso:(sizeOf el).run P w = .ok 1 w:=by simp [sizeOf,typeInfo,hi,hisz,h1]
 have e3:(execOp (Act.eval ⟨tmps,[]⟩) o).run P w = .ok (.value (.slice (some ⟨w.heap.size,0,none⟩) 1 1)) (w.alloc (.cells #[.pointer (some ⟨b,off,none⟩)] el)):=by
  have hrun:(Instr.buildSlice t 1 #[(0,Value.pointer (some ⟨b,off,none⟩))]).run P w = .ok (.slice (some ⟨w.heap.size,0,none⟩) 1 1) (w.alloc (.cells #[.pointer (some ⟨b,off,none⟩)] el)):=by
   unfold Instr.buildSlice
   rw [Sem.run_bind,run_underlying hd]
   simp only [Result.andThen_ok]
   rw [Sem.run_bind,hso]
   simp only [Result.andThen_ok]
   have hpc:(Value.pointer (some ⟨b,off,none⟩)).cells = #[.pointer (some ⟨b,off,none⟩)]:=rfl
   have hr1:Array.range 1 = #[0]:=rfl
   simp [hzr,hz0,Instr.fill,newRow,hpc,hr1]
  simp only [execOp,ho]
  rw [Sem.run_bind]
  simp only [List.map_toArray,List.map_cons,List.map_nil,hu1,hrun]
  rfl
 rw [e3]
 refine ⟨M,upd μ id ⟨some w.heap.size,.slice (some ⟨w.heap.size,0,none⟩) 1 1,[]⟩,r.newBox hf (Grows.alloc w _) (fun b hb=>by cases hb; exact ⟨Nat.le_refl _,by simp⟩) ?_ (by simp [Box.noRef,V.noRefL,V.noRef,hne]),.ms (by rw [qN]) rfl⟩
 refine PRow.box (b:=w.heap.size) (cap:=1) (news:=[.pointer (some ⟨b,off,none⟩)]) ⟨rfl,fun u hu=>by rw [List.mem_singleton.1 hu]; rfl,fun i u x hu hx => ?_⟩ (by rw [qN]) (by rw [qN]; rfl) (heap_alloc_new w _) rfl (by simp) (by simp [maxLen]) (fun i u hu => ?_) rfl
 ·cases i with
  | zero=>simp at hu hx; subst hu; subst hx; exact .ptr (by rw [zS _ _ hne]; exact hbk)
  | succ i=>simp at hx
 cases i with
 | zero=>simp at hu; subst hu; rfl
 | succ i=>simp at hu
theorem yJ (hT : TOK P T) {o : Oper} {x : Operand} {t el : TypeId} {p : Prop} {id : Nat} (ho : o.op = .call { callee := .builtin .len, args := #[x], argTypes := #[t] }) (ht : zE T t = some (.sl el)) (h1 : st.arg G x = (p, .ms id)) (hp : p)
  {e:TypeId} {ps:List V} (hb:zC id st.H=some (.prow e ps)):qO P G o st (.p (.int .i64 ps.length)) st:=by
 intro c M μ tmps w hg r
 have hd:=hT.sl ht
 have e1:=qD hg r h1 hp
 generalize hu1:Act.eval ⟨tmps,[]⟩ x=u1 at e1
 cases e1 with
 | ms hval _ =>
 obtain ⟨b,cap,arr,h0,hv,hh,has,hlc,hcm,hone,hro⟩:=(r.box id _ (qT hb)).pcells
 rw [hv] at hval
 subst hval
 have e:(execOp (Act.eval ⟨tmps,[]⟩) o).run P w = .ok (.value (.int .i64 ps.length)) w:=by
  simp [execOp,ho,resolve,invoke,builtin,hu1,Builtin.len_,run_underlying hd,goInt,Result.andThen]
 rw [e]
 exact ⟨M,μ,r,.p (Rd.intOf (by simp only [wE]; omega) (by simp only [wF]; simp [maxLen] at hcm; omega))⟩
theorem zX (hT : TOK P T) {o : Oper} {t el : TypeId} {a i : Operand} (n : Nat) (ho : o.op = .indexAddr t a i) (ht : zE T t = some (.sl el)) {ti : TI} (hti : T el = some ti) (hsz : ti.size = 1) {p q : Prop} {id : Nat} {kd : IntKind} {z : Int} (h1 : st.arg G a = (p, .ms id)) (hp : p) (h2 : st.arg G i = (q, .p (.int kd z))) (hq : q)
  {e:TypeId} {ps:List V} (hb:zC id st.H=some (.prow e ps)) (hn:n<ps.length) (hz:z=(n:Int)):qO P G o st (.rptr id n 1 0) st:=by
 subst hz
 intro c M μ tmps w hg r
 have hd:=hT.sl ht
 obtain ⟨ie,de,hi',_,_,hsz',_⟩:=hT.get hti
 have e1:=qD hg r h1 hp
 have e2:=(qD hg r h2 hq).p_inv
 generalize hu1:Act.eval ⟨tmps,[]⟩ a=u1 at e1
 generalize hu2:Act.eval ⟨tmps,[]⟩ i=u2 at e2
 cases e1 with
 | ms hval _ =>
 cases e2
 obtain ⟨b,cap,arr,h0,hv,hh,has,hlc,hcm,hone,hro⟩:=(r.box id _ (qT hb)).pcells
 rw [hv] at hval
 subst hval
 have hso:(sizeOf el).run P w = .ok 1 w:=by simp [sizeOf,typeInfo,hi',hsz',hsz]
 have er:(execOp (Act.eval ⟨tmps,[]⟩) o).run P w = .ok (.value (.pointer (some ⟨b,n * 1+0,none⟩))) w:=by
  simp [execOp,ho,hu1,hu2,Instr.indexAt,asIntOf,run_underlying hd,hn,hso,wV]
 rw [er]
 exact ⟨M,μ,r,.rptr h0⟩
theorem zO (hT : TOK P T) {o : Oper} {t : TypeId} {a : Operand} (ho : o.op = .load t a) {ti : TI} (hti : T t = some ti) (hag : ti.k.agg = false) {p : Prop} {id n : Nat} (h1 : st.arg G a = (p, .rptr id n 1 0)) (hp : p)
  {e:TypeId} {ps:List V} (hb:zC id st.H=some (.prow e ps)) {x:V} (hn:ps[n]?=some x):qO P G o st x st:=by
 intro c M μ tmps w hg r
 obtain ⟨it,d,hi,hd,hk,hsz,_⟩:=hT.get hti
 have e1:=qD hg r h1 hp
 generalize hu1:Act.eval ⟨tmps,[]⟩ a=u1 at e1
 cases e1 with
 | @rptr _ _ _ _ b hbk =>
 have hbx:=r.box id _ (qT hb)
 cases hbx with
 | @prow _ _ bk cap arr h0 hv hh has hlc hcm hone hg2 =>
 rw [hbk] at h0
 cases h0
 have hlt:n<arr.size:=by have:=(List.getElem?_eq_some_iff.1 hn).1; omega
 have hcell:w.cell? ⟨b,n * 1+0,none⟩=some arr[n]:=by rw [zF hh]; simp [hlt]
 have:=wA hd hi b (n * 1+0) (fun _=>arr[n]) w (fun j hj=>by
  rw [hk,hag] at hj
  have:j=0:=by simpa using hj
  subst this
  rw [Nat.add_zero]; simpa using hcell)
 rw [hk,hag] at this
 simp only [Nat.mul_one,Nat.add_zero] at this
 have er:(execOp (Act.eval ⟨tmps,[]⟩) o).run P w = .ok (.value arr[n]) w:=by simp [execOp,ho,hu1,this]
 rw [er]
 exact ⟨M,μ,r,hg2 n _ _ (by simp [hlt]) hn⟩
end
section
variable {P:Program} {T:Tab} {G:qK} {l:List Oper} {tss:List (List Nat)} {K:yM→St→Prop} {st st' st0:St} {rest:List Oper} {ts:List Nat} {acc:yM} {o:Oper}
theorem qJ.yAny (Hs H' : List (Nat × Box)) (x : V) (ps new : List Nat) {s' : St} (hgd : o.guard = none) (y : qO P G o ⟨qW st.tmps ts, Hs.map (·.1), Hs, st.base⟩ x s') (hH : s'.H = H') (hps : ∀ i ∈ ps, i ∈ s'.pins) (hsub : ∀ p ∈ Hs, p ∈ st.H)
  (hids:∀ i∈V.ids x++zP H',i∈ps∨i∈new) (hky:∀ i∈H'.map (·.1),i∈Hs.map (·.1)∨i∈new) (hnew:∀ n∈new,st0.fresh n=true) (hn:ndB st.H=true) (hns:ndB Hs=true) (hst:st.after o.dst ⟨x,Hs,H',ps,new,false⟩=st') (k:qJ P G st0 rest tss st' (acc++[(Sm.mk x Hs H' ps new false).sum]) K):qJ P G st0 (o::rest) (ts::tss) st acc K:=by
 subst hst
 obtain ⟨sms,st1,e,hk⟩:=k
 have hky2:∀ i,qI i H'=true→i∈Hs.map (·.1)∨i∈new:=fun i hi=>by
  obtain ⟨b,hb⟩:=qF.1 hi
  exact hky i (List.mem_map.2 ⟨_,hb,rfl⟩)
 refine ⟨⟨x,Hs,H',ps,new,false⟩::sms,st1,.one hgd (zB hn) ⟨fun h=>absurd h (by simp),hids,hky2,hnew⟩ hsub (fun c M μ st' tmps w R K hG rel hle hbox hnw k => ?_) e,by simpa using hk⟩
 exact wS (s:=⟨x,Hs,H',ps,new,false⟩) (small:=⟨qW st.tmps ts,Hs.map (·.1),Hs,st.base⟩) (s':=s') rfl (zB hns) hH.symm hps hky2 hids y c M μ st' tmps w R K hG rel hle hbox hnw k
end
end Go.Proofs.YtcfcfblbpnpclaaGreatDoor.Sy
