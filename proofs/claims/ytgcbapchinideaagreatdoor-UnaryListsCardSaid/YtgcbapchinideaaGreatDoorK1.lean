import Derived.Test.YtgcbapchinideaaGreatDoorM4
import Derived.Test.YtgcbapchinideaaGreatDoorM3
import Derived.Test.YtgcbapchinideaaGreatDoorM1
import Derived.Maps.RangeRun
import Derived.Laws.RangeString
import Derived.Lib.RuneCount
import Derived.Lib.ValidU
import Derived.Lib.LaidU8T
import Derived.Lib.MapLaws
import Derived.Lib.ValidLaws
import Derived.RangeFuncBox
import Derived.RangeFuncLeaves
import Derived.Shelf.Abstract
import Derived.WalkKit
import Derived.OwnWalkIn
import Derived.TacticsInMore
import Derived.LoopNIn
import Derived.LoopIn
import Derived.Maps.AppendAt
import Derived.Shelf.Sort.Plain
import Derived.Test.YtgcbapchinideaaGreatDoorProg
import Derived.Shelf.Unicode.DecodeAny
import Derived.Shelf.Small.Strs
import Derived.Shelf.Strings.Repeat
import Derived.Shelf.Strings.Builder1
import Derived.Shelf.Strings.OnBuilder
import Derived.Shelf.Slices.In.SortNone
import Derived.Sort.OwnSorted
import Derived.Lib.Repeat
namespace Go.Proofs.YtgcbapchinideaaGreatDoor
open Sy Go
set_option maxRecDepth 100000
set_option linter.unusedSimpArgs false
set_option linter.unusedVariables false
structure Dc where
 neg:Bool
 digits:List UInt8
 scale:Int
 deriving DecidableEq
@[simp] def Dc.enc (d:Dc):PD := .agg [.bool d.neg,.str d.digits,.int .i64 d.scale]
inductive Val where
 | mk (kind mask:Int) (num:Dc) (text:List UInt8) (keys:List (List UInt8)) (kids:List Val) (code:Int)
def Val.kind:Val→Int
 | .mk k _ _ _ _ _ _=>k
def Val.mask:Val→Int
 | .mk _ m _ _ _ _ _=>m
def Val.num:Val→Dc
 | .mk _ _ n _ _ _ _=>n
def Val.text:Val→List UInt8
 | .mk _ _ _ t _ _ _=>t
def Val.keys:Val→List (List UInt8)
 | .mk _ _ _ _ ks _ _=>ks
def Val.kids:Val→List Val
 | .mk _ _ _ _ _ vs _=>vs
def Val.code:Val→Int
 | .mk _ _ _ _ _ _ c=>c
@[simp] theorem Val.kind_mk (k m:Int) (n:Dc) (t:List UInt8) (ks:List (List UInt8)) (vs:List Val) (c:Int):(Val.mk k m n t ks vs c).kind=k:=rfl
@[simp] theorem Val.mask_mk (k m:Int) (n:Dc) (t:List UInt8) (ks:List (List UInt8)) (vs:List Val) (c:Int):(Val.mk k m n t ks vs c).mask=m:=rfl
@[simp] theorem Val.num_mk (k m:Int) (n:Dc) (t:List UInt8) (ks:List (List UInt8)) (vs:List Val) (c:Int):(Val.mk k m n t ks vs c).num=n:=rfl
@[simp] theorem Val.text_mk (k m:Int) (n:Dc) (t:List UInt8) (ks:List (List UInt8)) (vs:List Val) (c:Int):(Val.mk k m n t ks vs c).text=t:=rfl
@[simp] theorem Val.keys_mk (k m:Int) (n:Dc) (t:List UInt8) (ks:List (List UInt8)) (vs:List Val) (c:Int):(Val.mk k m n t ks vs c).keys=ks:=rfl
@[simp] theorem Val.kids_mk (k m:Int) (n:Dc) (t:List UInt8) (ks:List (List UInt8)) (vs:List Val) (c:Int):(Val.mk k m n t ks vs c).kids=vs:=rfl
@[simp] theorem Val.code_mk (k m:Int) (n:Dc) (t:List UInt8) (ks:List (List UInt8)) (vs:List Val) (c:Int):(Val.mk k m n t ks vs c).code=c:=rfl
mutual
def Val.enc:Val→PD
 | .mk k m n t ks vs c => .agg [.int .i64 k,.int .u64 m,.bool n.neg,.str n.digits,.int .i64 n.scale,.str t,.sl 1 (ks.map PD.str),.sl 9 (Val.encL vs),.int .i64 c]
def Val.encL:List Val→List PD
 | []=>[]
 | v::vs=>Val.enc v::Val.encL vs
end
def dc0:Dc:=⟨false,[],0⟩
def qGS:Val := .mk 1 0 dc0 [] [] [] 0
theorem Val.encL_map:∀ l,Val.encL l=l.map Val.enc
 | []=>by simp only [Val.encL,List.map_nil]
 | v::vs=>by simp only [Val.encL,List.map_cons,Val.encL_map vs]
@[simp] theorem Val.enc_def (v:Val):v.enc = .agg [.int .i64 v.kind,.int .u64 v.mask,.bool v.num.neg,.str v.num.digits,.int .i64 v.num.scale,.str v.text,.sl 1 (v.keys.map PD.str),.sl 9 (v.kids.map Val.enc),.int .i64 v.code]:=by
 cases v; simp only [Val.enc,Val.encL_map,Val.kind,Val.mask,Val.num,Val.text,Val.keys,Val.kids,Val.code]
mutual
def Val.sz:Val→Nat
 | .mk _ _ _ _ _ vs _=>1+Val.szL vs
def Val.szL:List Val→Nat
 | []=>0
 | v::vs=>Val.sz v+Val.szL vs
end
theorem Val.szL_mem {k:Val}:∀ {l:List Val},k∈l→Val.sz k≤Val.szL l
 | v::vs,h=>by
  simp only [Val.szL]
  rcases List.mem_cons.1 h with rfl | h
  ·omega
  have:=Val.szL_mem h; omega
theorem Val.sz_kid {v k:Val} (h:k∈v.kids):Val.sz k<Val.sz v:=by
 cases v; simp only [Val.kids] at h; simp only [Val.sz]; have:=Val.szL_mem h; omega
theorem Val.induct {p:Val→Prop} (h:∀ v,(∀ k∈v.kids,p k)→p v) (v:Val):p v:=by
 have key:∀ n v,Val.sz v=n→p v:=by
  intro n
  induction n using Nat.strongRecOn with
  | _ n ih=>intro v hv; exact h v fun k hk=>ih _ (hv ▸ Val.sz_kid hk) k rfl
 exact key _ v rfl
theorem Val.ext {a b:Val} (h1:a.kind=b.kind) (h2:a.mask=b.mask) (h3:a.num=b.num) (h4:a.text=b.text) (h5:a.keys=b.keys) (h6:a.kids=b.kids) (h7:a.code=b.code):a=b:=by
 cases a; cases b; simp_all [Val.kind,Val.mask,Val.num,Val.text,Val.keys,Val.kids,Val.code]
theorem Dc.ext' {a b:Dc} (h1:a.neg=b.neg) (h2:a.digits=b.digits) (h3:a.scale=b.scale):a=b:=by cases a; cases b; simp_all
end Go.Proofs.YtgcbapchinideaaGreatDoor
namespace Go.Proofs.YtgcbapchinideaaGreatDoor.Sy
open Go
section
variable {P:Program} {T:Tab} {G:qK} {Q:Exit→St→Prop} {st st':St}
theorem Turned.refl (w:World) (b:Nat):Turned w w b:=⟨rfl,rfl,rfl,rfl,fun _ _=>rfl⟩
end
set_option linter.unusedSimpArgs false
section
variable {P:Program} {T:Tab} {G:qK} {Q:Exit→St→Prop} {st st':St}
def uG (ks:List (List UInt8)) (vs:List V) (s:List UInt8) (v:V):List V:=if s∈ks then vs.set (ks.idxOf s) v else vs++[v]
theorem qOM (hT : TOK P T) {o : Oper} {t el : TypeId} {x y : Operand} (ho : o.op = .slice t x none (some y) none) (ht : wA T t = some (.sl el)) {p q : Prop} {id : Nat} {kd : IntKind} {z : Int} (n : Nat)
  (h1:st.arg G x=(p,.ms id)) (hp:p) (h2:st.arg G y=(q,.p (.int kd z))) (hq:q) {e sz:Nat} {es:List PD} {ti:TI} (hti:T el=some ti) (hb:zW id st.H=some (.row e sz es)) (hn:n≤es.length) (hz:z=(n:Int)) :
  qW P G o st (.ms id) { st.kill id with H:=(id,.row e sz (es.take n))::(st.kill id).H }:=by
 subst hz
 intro c M μ tmps w hg r
 have hd:=hT.sl ht
 obtain ⟨i,de,hi',_,_,hsz,_⟩:=hT.get hti
 have hso:(sizeOf el).run P w = .ok ti.size w:=by simp [sizeOf,typeInfo,hi',hsz]
 have e1:=qC hg r h1 hp
 have e2:=(qC hg r h2 hq).p_inv
 generalize hu1:Act.eval ⟨tmps,[]⟩ x=u1 at e1
 generalize hu2:Act.eval ⟨tmps,[]⟩ y=u2 at e2
 cases e1 with
 | ms hval hone =>
 cases e2 with
 | int _ _ =>
 have hm:=zG hb
 have hk:qI id st.H=true:=qE.2 ⟨_,hm⟩
 have rk:=r.kill id
 have hbx:=r.box id _ hm
 cases hbx with
 | rowN h0 hv =>
  rw [hv] at hval
  subst hval
  obtain rfl:n=0:=by simpa using hn
  have hbd:=wJ (P:=P) (isSlice:=true) (len:=0) (cap:=0) (lo:=none) (hi:=some (.int kd 0)) (l:=0) (h:=0) (.inl ⟨rfl,rfl⟩) (.inr ⟨kd,rfl⟩) (by omega) (by omega) (by omega) w
  have er:(execOp (Act.eval ⟨tmps,[]⟩) o).run P w = .ok (.value (.slice none 0 0)) w:=by
   simp at hbd
   simp [execOp,ho,hu1,hu2,Instr.sliceAt,Instr.slice,run_underlying hd,hbd,hso]
  rw [er]
  exact ⟨M,upd μ id ⟨none,.slice none 0 0⟩,rk.adopt (l:=⟨none,.slice none 0 0⟩) (vK st id) (fun b hb=>by cases hb) (.rowN (by rw [qP]) (by rw [qP])),.ms (by rw [qP]) rfl⟩
 | @row _ _ _ b cap arr h0 hv hh has hlc hcm hone' hz hcc =>
  rw [hv] at hval
  subst hval
  have hbd:=wJ (P:=P) (isSlice:=true) (len:=es.length) (cap:=cap) (lo:=none) (hi:=some (.int kd n)) (l:=0) (h:=n) (.inl ⟨rfl,rfl⟩) (.inr ⟨kd,rfl⟩) (by omega) (by omega) (by omega) w
  have er:(execOp (Act.eval ⟨tmps,[]⟩) o).run P w = .ok (.value (.slice (some ⟨b,0,none⟩) n cap)) w:=by
   simp at hbd
   have ha:(if cap=0 then (some (⟨b,0,none⟩:Addr)) else (some (⟨b,0,none⟩:Addr)).map (·.add (0 * ti.size)))=some ⟨b,0,none⟩:=by
    split
    ·rfl
    simp [Addr.add]
   simp [execOp,ho,hu1,hu2,Instr.sliceAt,Instr.slice,run_underlying hd,hbd,hso]
   try simpa using ha
  rw [er]
  have hown:=r.own id b hk h0
  refine ⟨M,upd μ id ⟨some b,.slice (some ⟨b,0,none⟩) n cap⟩,rk.adopt (l:=⟨some b,.slice (some ⟨b,0,none⟩) n cap⟩) (vK st id) (fun b' hb' => ?_) (.row (cap:=cap) (by rw [qP]) (by rw [qP]; simp [Nat.min_eq_left hn]) hh has (by simp; omega) hcm hone' (fun i e' he=>hz i e' ?_) fun i e' j d u he hd hu=>hcc i e' j d u ?_ hd hu),.ms (by rw [qP]) rfl⟩
  ·cases hb'; exact ⟨hown.1,hown.2.1,hown.2.2,qJG r hk h0⟩
  ·rw [List.getElem?_take] at he; split at he
   ·exact he
   cases he
  rw [List.getElem?_take] at he; split at he
  ·exact he
  cases he
theorem qKH {o : Oper} {st : St} {x a b : Operand} {tys : Array TypeId} {f : FuncId} (he : qVI P f Extern.BytealgCount.count)
  (ho:o.op = .call { callee := .value x,args := #[a,b],argTypes:=tys }) {p q r:Prop} {s:List UInt8} {n:Int} (hf:st.arg G x=(p,.p (.fn f))) (hp:p)
  (ha:st.arg G a=(q,.p (.str s))) (hq:q) (hb:st.arg G b=(r,.p (.int .u8 n))) (hr:r):qW P G o st (.p (.int .i64 (s.count n.toNat.toUInt8:Nat))) st:=by
 intro c M μ tmps w hg rel
 have h1:=(qC hg rel hf hp).p_inv
 have h2:=(qC hg rel ha hq).p_inv
 have h3:=(qC hg rel hb hr).p_inv
 generalize hu1:Act.eval ⟨tmps,[]⟩ x=u1 at h1
 generalize hu2:Act.eval ⟨tmps,[]⟩ a=u2 at h2
 generalize hu3:Act.eval ⟨tmps,[]⟩ b=u3 at h3
 cases h1
 cases h3
 cases h2 with
 | @str bb _ hs hm =>
 have e:(execOp (Act.eval ⟨tmps,[]⟩) o).run P w = .ok (.value (.int .i64 (s.count n.toNat.toUInt8:Nat))) w:=by
  have e1:=he #[.string bb,.int .u8 n] w
  rw [Lib.run_countString] at e1
  subst hs
  simp only [execOp,ho,resolve,Deferred.ofValue,hu1,invoke]
  simpa [hu2,hu3,Lib.countByte] using e1
 rw [e]
 have hc:s.count n.toNat.toUInt8≤s.length:=List.count_le_length
 simp [maxLen] at hm
 exact ⟨M,μ,rel,.p (Rd.intOf (by simp [yS]) (by simp only [yT]; omega))⟩
theorem qGN {id:Nat} {b:Box}:∀ {H:List (Nat × Box)},zW id H=some b→wB id b H=H
 | [],_=>rfl
 | (i,c)::r,h=>by
  simp only [zW] at h
  simp only [wB]
  split at h
  ·rename_i e; cases h; rw [if_pos e]
  rename_i e; rw [if_neg e,qGN h]
theorem qVL (z:Array Value) (n:Nat):Builtin.zeroCells z n=madeCells z (n * z.size):=rfl
theorem qF.clearFrom {ops : Array Oper} {o1 o2 : Oper} {rest : List Oper} {orc : List PD} (hT : TOK P T) (ks : List Nat) {t el d : Nat} {x y : Operand} {p q : Prop} {id : Nat} {kd : IntKind} {z : Int} (n : Nat) (ho1 : o1.op = .slice t x (some y) none none) (hd1 : o1.dst = some d) (hg1 : o1.guard = none)
  (ho2:o2.op = .call { callee := .builtin .clear,args := #[.tmp d],argTypes := #[t] }) (hd2:o2.dst=none) (hg2:o2.guard=none) (ht:wA T t=some (.sl el)) {ti:TI} (hti:T el=some ti) {zs:List V} (hzs:ti.zero.cells=some zs) (hzl:zs.length=ti.size) {e0:PD} (hfit:V.fitsL [] zs e0.cells)
  (h1:st.arg G x=(p,.ms id)) (hp:p) (h2:st.arg G y=(q,.p (.int kd z))) (hq:q) {e sz:Nat} {es:List PD} (hb:zW id st.H=some (.row e sz es)) (hsz:sz=ti.size) (hn:n≤es.length) (hz:z=(n:Int)) (hdl:d<st.tmps.length)
  (k:qF P G ops Q rest ((({ st with H:=wB id (.row e sz (es.take n++List.replicate (es.length-n) e0)) st.H }:St).put (some d) .dead).keep ks) orc):qF P G ops Q (o1::o2::rest) st orc:=by
 subst hz; subst hsz
 intro c M μ tmps w hg r
 have hd:=hT.sl ht
 obtain ⟨i,de,hi',_,_,hszi,_⟩:=hT.get hti
 have hso:(sizeOf el).run P w = .ok ti.size w:=by simp [sizeOf,typeInfo,hi',hszi]
 have e1:=qC hg r h1 hp
 have e2:=(qC hg r h2 hq).p_inv
 generalize hu1:Act.eval ⟨tmps,[]⟩ x=u1 at e1
 generalize hu2:Act.eval ⟨tmps,[]⟩ y=u2 at e2
 have hts:d<tmps.size:=by rw [r.slots.1]; exact hdl
 cases e1 with
 | ms hval hone =>
 cases e2 with
 | int _ _ =>
 have hm:=zG hb
 have hk:qI id st.H=true:=qE.2 ⟨_,hm⟩
 have key : ∀ (v1 : Value) (w1 : World), (execOp (Act.eval ⟨tmps, []⟩) o1).run P w = .ok (.value v1) w → (Builtin.clear_ #[t] o2.type #[v1]).run P w = .ok (.tuple #[]) w1 →
   Rel c M μ { st with H:=wB id (.row e ti.size (es.take n++List.replicate (es.length-n) e0)) st.H } tmps w1→wpList P ops (zBM c Q) (o1::o2::rest) ⟨tmps,[]⟩ w:=by
  intro v1 w1 er1 er2 r1
  refine wpList_plain hg1 fun K hK=>yV (next:=fun v w'=>v=v1∧w'=w) (by rw [er1]; exact ⟨rfl,rfl⟩) ?_
  rintro u w' ⟨rfl,rfl⟩
  apply hK
  rw [Act.put_tmps,hd1]
  simp only
  have hev:Act.eval ⟨tmps.setIfInBounds d u,[]⟩ (.tmp d)=u:=by simp [Act.eval,hts]
  have er:(execOp (Act.eval ⟨tmps.setIfInBounds d u,[]⟩) o2).run P w' = .ok (.value (.tuple #[])) w1:=by
   simp [execOp,ho2,resolve,invoke,builtin,hev,er2]
  refine wpList_plain hg2 fun K hK=>yV (next:=fun v w''=>v = .tuple #[]∧w''=w1) (by rw [er]; exact ⟨rfl,rfl⟩) ?_
  rintro u2 w'' ⟨rfl,rfl⟩
  apply hK
  rw [Act.put_tmps,hd2]
  simp only
  exact qX.keep ks k c M μ _ _ hg (r1.put (.dead) (some d))
 have hbx:=r.box id _ hm
 cases hbx with
 | rowN h0 hv =>
  rw [hv] at hval
  subst hval
  obtain rfl:n=0:=by simpa using hn
  have hbd:=wJ (P:=P) (isSlice:=true) (len:=0) (cap:=0) (lo:=some (.int kd 0)) (hi:=none) (l:=0) (h:=0) (.inr ⟨kd,rfl⟩) (.inl ⟨rfl,rfl⟩) (by omega) (by omega) (by omega) w
  refine key (.slice none 0 0) w ?_ (by simp [Builtin.clear_,run_underlying hd]) ?_
  ·simp at hbd
   simp [execOp,ho1,hu1,hu2,Instr.sliceAt,Instr.slice,run_underlying hd,hbd,hso]
  rw [show (List.take 0 ([]:List PD)++List.replicate (([]:List PD).length-0) e0)=[] by rfl]
  have hsame:wB id (.row e ti.size []) st.H=st.H:=qGN hb
  rw [hsame]
  exact r
 | @row _ _ _ b cap arr h0 hv hh has hlc hcm hone' hz hcc =>
  rw [hv] at hval
  subst hval
  have hbd:=wJ (P:=P) (isSlice:=true) (len:=es.length) (cap:=cap) (lo:=some (.int kd n)) (hi:=none) (l:=n) (h:=es.length) (.inr ⟨kd,rfl⟩) (.inl ⟨rfl,rfl⟩) (by omega) (by omega) (by omega) w
  obtain ⟨zv,hzr,hzc,_⟩:=qBI hT hti hzs M μ w
  by_cases hne:n=es.length
  ·subst hne
   refine key (.slice (if cap=es.length then some ⟨b,0,none⟩ else (some (⟨b,0,none⟩:Addr)).map (·.add (es.length * ti.size))) 0 (cap-es.length)) w ?_ ?_ ?_
   ·simp at hbd
    simp [execOp,ho1,hu1,hu2,Instr.sliceAt,Instr.slice,run_underlying hd,hbd,hso]
   ·split <;> simp [Builtin.clear_,run_underlying hd]
   rw [List.take_length,Nat.sub_self,List.replicate_zero,List.append_nil]
   have:=r.write (w':=w) (bx := .row e ti.size es) hk h0 (Turned.refl w b) (.row h0 hv hh has hlc hcm hone' hz hcc)
   exact this
  have hlt:n<es.length:=by omega
  have hzs':zv.cells.size=ti.size:=by rw [hzc.size,hzl]
  have hmr:=qPY hzc hzl hfit (es.length-n)
  have hsum:n * ti.size+(es.length-n) * ti.size=es.length * ti.size:=by rw [← Nat.add_mul]; congr 1; omega
  have hcap:es.length * ti.size≤cap * ti.size:=Nat.mul_le_mul_right _ hlc
  have hml:(madeCells zv.cells ((es.length-n) * ti.size)).toList.length=(es.length-n) * ti.size:=by rw [hmr.len,List.length_replicate]
  have hst:=run_storeCells_at P b (n * ti.size) e (madeCells zv.cells ((es.length-n) * ti.size)).toList 0 arr w hh (by simp only [Nat.add_zero,hml]; omega) hmr.one
  simp only [Nat.add_zero] at hst
  generalize hnew:(arr.toList.take (n * ti.size)++(madeCells zv.cells ((es.length-n) * ti.size)).toList++arr.toList.drop (n * ti.size+(madeCells zv.cells ((es.length-n) * ti.size)).toList.length)).toArray=arr' at hst
  have hrow:RowOf M ti.size es (arr.toList.take (es.length * ti.size)):=by
   rcases (r.box id _ hm).cells with ⟨rfl,h,_⟩ | ⟨b',cap',arr2,g0,gv,gh,_,_,_,_,gr⟩
   ·rw [h0] at h; cases h
   rw [h0] at g0; cases g0
   rw [hh] at gh; cases gh
   exact gr
  refine key (.slice (some ⟨b,n * ti.size,none⟩) (es.length-n) (cap-n)) (w.setRow b arr') ?_ ?_ ?_
  ·simp at hbd
   have hne2:¬ cap=n:=by omega
   have hadd:(⟨b,0,none⟩:Addr).add (n * ti.size)=⟨b,n * ti.size,none⟩:=by rw [jN]; simp
   simp [execOp,ho1,hu1,hu2,Instr.sliceAt,Instr.slice,run_underlying hd,hbd,hso,hne2,hadd]
  ·obtain ⟨m,hm'⟩:∃ m,es.length-n=m+1:=⟨es.length-n-1,by omega⟩
   rw [hm'] at hst ⊢
   have hzm:=qVL zv.cells (m+1)
   rw [hzs'] at hzm
   simp only [Builtin.clear_,Sem.run_bind]
   simp [run_underlying hd,hzr,hzm,hst,Result.andThen]
  refine r.write (w':=w.setRow b arr') hk h0 (jY w b _) ?_
  have hsz':arr'.size=arr.size:=by rw [← hnew]; simp [hml]; omega
  have hR:RowOf M ti.size (es.take n++List.replicate (es.length-n) e0) (arr.toList.take (n * ti.size)++(madeCells zv.cells ((es.length-n) * ti.size)).toList):=by
   refine RowOf.append ?_ hmr
   refine ⟨by rw [List.length_take,List.length_take,Nat.min_eq_left hn,Nat.min_eq_left (by rw [Array.length_toList,has]; exact Nat.mul_le_mul_right _ (by omega))],fun u hu=>hrow.one u ?_,fun j e' he=>hrow.elem j e' ?_,fun j e' l d' u he hd' hu=>hrow.get j e' l d' u ?_ hd' ?_⟩
   ·have:arr.toList.take (n * ti.size)=(arr.toList.take (es.length * ti.size)).take (n * ti.size):=by rw [List.take_take,Nat.min_eq_left (by omega)]
    rw [this] at hu; exact List.mem_of_mem_take hu
   ·rw [List.getElem?_take] at he; split at he
    ·exact he
    cases he
   ·rw [List.getElem?_take] at he; split at he
    ·exact he
    cases he
   rw [List.getElem?_take] at hu ⊢
   split at hu
   ·rw [if_pos (by omega)]; exact hu
   cases hu
  have hll:(es.take n++List.replicate (es.length-n) e0).length=es.length:=by simp; omega
  refine hR.box (cap:=cap) h0 (by rw [hll]; exact hv) (setRow_heap w b arr _ e (0,0) hh) (by rw [hsz']; exact has) (by rw [hll]; exact hlc) hcm (fun j u hu => ?_) ?_
  ·rw [← hnew,List.getElem?_toArray] at hu
   have hmem:=List.mem_of_getElem? hu
   rw [List.append_assoc,List.mem_append,List.mem_append] at hmem
   rcases hmem with h | h | h
   ·obtain ⟨j',hj'⟩:=List.mem_iff_getElem?.1 (List.mem_of_mem_take h)
    exact hone' j' u (by simpa using hj')
   ·exact hmr.one u h
   obtain ⟨j',hj'⟩:=List.mem_iff_getElem?.1 (List.mem_of_mem_drop h)
   exact hone' j' u (by simpa using hj')
  rw [← hnew,hll]
  simp only [List.append_assoc]
  rw [← List.append_assoc,List.take_append_of_le_length (by simp [hml]; omega),List.take_of_length_le (by simp [hml]; omega)]
end
end Go.Proofs.YtgcbapchinideaaGreatDoor.Sy
namespace Go.Proofs.YtgcbapchinideaaGreatDoor
open Sy Go
set_option maxRecDepth 100000
set_option maxHeartbeats 4000000
set_option linter.unusedSimpArgs false
set_option linter.unusedVariables false
variable {G:qK}
theorem qXO (ks:List (List UInt8)) (hn:ks.length≤1000000):AX Tryz.prog G 140 [.p (.sl 1 (ks.map PD.str))] [] (.ms 905) [] [(905,.row 9 1 (ks.map PD.str))]:=by
 refine AX.introU tok 900 Tryz.func140 (by kernel_rfl) rfl rfl ?_
 simp only [Tryz.f140,qH,List.map_cons,List.map_nil]
 refine rgn [] [[0]] ?_
 refine op1 tok ?_
 refine qA (AW.seq (rgn [] [[]] ?_))
 refine op1 tok ?_
 refine zX ?_
 refine qF.nilEq tok [0,4] rfl rfl (by conv=>lhs; simp) trivial rfl ?_
 intro bn1 hbn1
 refine qF.same (by conv=>lhs; simp) ?_
 refine qF.nil ?_
 refine cnd ?_ ?_
 ·intro h4
  try simp at h4
  have hks:ks=[]:=by
   by_cases h:ks=[]
   ·exact h
   rw [hbn1 (by simpa using h)] at h4; cases h4
  subst hks
  refine rgn [] [[]] ?_
  refine op1 tok ?_
  refine qA ?_
  refine AW.beginE 2 905 9 1 (by simp) (by simp) (by conv=>lhs; simp) ?_
  exact AW.ret uU
 intro h4
 try simp at h4
 refine AW.skip (rgn [] [[],[],[],[2]] ?_)
 iterate 4 refine op1 tok ?_
 refine qA ?_
 exact AW.ret uU
theorem qXP (ks:List (List UInt8)) (hn:ks.length≤1000000):AR Tryz.prog G 140 [.sl 1 (ks.map PD.str)] 9 1 (ks.map PD.str):=AR.of_AX (k:=905) (by simpa using qXO ks hn)
theorem qXN (vs:List Val) (hn:vs.length≤1000000):AX Tryz.prog G 38 [.p (.sl 9 (vs.map Val.enc))] [] (.ms 905) [] [(905,.row 31 9 (vs.map Val.enc))]:=by
 refine AX.introU tok 900 Tryz.func38 (by kernel_rfl) rfl rfl ?_
 simp only [Tryz.f38,qH,List.map_cons,List.map_nil]
 refine rgn [] [[0]] ?_
 refine op1 tok ?_
 refine qA (AW.seq (rgn [] [[]] ?_))
 refine op1 tok ?_
 refine zX ?_
 refine qF.nilEq tok [0,4] rfl rfl (by conv=>lhs; simp) trivial rfl ?_
 intro bn1 hbn1
 refine qF.same (by conv=>lhs; simp) ?_
 refine qF.nil ?_
 refine cnd ?_ ?_
 ·intro h4
  try simp at h4
  have hks:vs=[]:=by
   by_cases h:vs=[]
   ·exact h
   rw [hbn1 (by simpa using h)] at h4; cases h4
  subst hks
  refine rgn [] [[]] ?_
  refine op1 tok ?_
  refine qA ?_
  refine AW.beginE 2 905 31 9 (by simp) (by simp) (by conv=>lhs; simp) ?_
  exact AW.ret uU
 intro h4
 try simp at h4
 refine AW.skip (rgn [] [[],[],[],[2]] ?_)
 iterate 4 refine op1 tok ?_
 refine qA ?_
 exact AW.ret uU
theorem jU (vs:List Val) (hn:vs.length≤1000000):AR Tryz.prog G 38 [.sl 9 (vs.map Val.enc)] 31 9 (vs.map Val.enc):=AR.of_AX (k:=905) (by simpa using qXN vs hn)
def vL (n:Int):Bool:=decide (48≤n) && decide (n≤57)
def zJ (b:UInt8):Bool:=vL b.toNat
theorem zAN (n:Int):AFn Tryz.prog G 57 [.int .u8 n] (.bool (vL n)):=by
 refine AFn.introU tok Tryz.func57 (by kernel_rfl) rfl rfl ?_
 simp only [Tryz.f57,qH,List.map_cons,List.map_nil]
 refine rgn [] [[0]] ?_
 refine op1 tok ?_
 refine qA (rgn [] [[],[],[],[],[5,7],[],[2]] ?_)
 iterate 3 refine op1 tok ?_
 iterate 2 refine op2 tok ?_
 iterate 2 refine op1 tok ?_
 refine qA ?_
 exact AW.ret (qG (k:=by simp [vL]))
def qM (s:List UInt8) (i:Nat):Int:=((s.getD i 0).toNat:Int)
theorem kV {s:List UInt8} {i:Nat} (h:i<s.length):s[i]?=some (s.getD i 0):=by simp [List.getD_eq_getElem?_getD,h]
def zQ (s:List UInt8) (k:Nat):Nat:=((s.drop k).takeWhile fun b=>vL b.toNat).length
theorem qDW {p:UInt8→Bool}:∀ {l:List UInt8} {n:Nat},n≤(l.takeWhile p).length→((n<(l.takeWhile p).length)↔∃ b,l[n]?=some b∧p b=true)
 | [],n,h=>by simp at h; subst h; simp
 | a::l,n,h=>by
  rw [List.takeWhile_cons] at h ⊢
  by_cases ha:p a=true
  ·rw [if_pos ha] at h ⊢
   cases n with
   | zero=>simp [ha]
   | succ n=>simpa using qDW (l:=l) (n:=n) (by simpa using h)
  rw [if_neg ha] at h ⊢
  simp at h; subst h
  simp [ha]
theorem qND {s:List UInt8} {k n:Nat} (h:n≤zQ s k):n<zQ s k↔(k+n<s.length∧vL (qM s (k+n))=true):=by
 unfold zQ at h ⊢
 rw [qDW h]
 constructor
 ·rintro ⟨b,hb,hd⟩
  rw [List.getElem?_drop] at hb
  have:=(List.getElem?_eq_some_iff.1 hb).1
  refine ⟨this, ?_⟩
  rw [qM,List.getD_eq_getElem?_getD,hb]; exact hd
 rintro ⟨h1,h2⟩
 exact ⟨s.getD (k+n) 0,by rw [List.getElem?_drop]; exact kV h1,h2⟩
theorem qNE (s:List UInt8) (k:Nat):zQ s k≤s.length:=by
 unfold zQ
 have:=(List.takeWhile_sublist (l:=s.drop k) fun b:UInt8=>vL b.toNat).length_le
 simp at this; omega
theorem zFA (s:List UInt8) (k:Nat) (hs:s.length≤1000000) (hk:k≤1000000):AFn Tryz.prog G 62 [.str s,.int .i64 k] (.int .i64 (zQ s k)):=by
 refine AFn.introU tok Tryz.func62 (by kernel_rfl) rfl rfl ?_
 simp only [Tryz.f62,qH,List.map_cons,List.map_nil]
 refine rgn [] [[0,1]] ?_
 refine op1 tok ?_
 refine qA (rgn [] [[]] ?_)
 refine op1 tok ?_
 refine qA (AW.seq (AW.block ?_))
 refine AW.loop (α:=Nat) (fun n=>n≤zQ s k) (fun n=>⟨qS 23 [(0,.p (.str s)),(1,.p (.int .i64 k)),(5,.p (.int .i64 n))],[],[],0⟩) (fun n=>zQ s k-n) (0) (by omega) ⟨qB (by simp),rfl,by simp,by simp⟩ ?_
 rintro n hn
 have hrl:=qNE s k
 have hlt:=qND hn
 have hd:=zAN (G:=G) (qM s (k+n))
 have hix:k+n<s.length→s[((k:Int)+n).toNat]?=some (s.getD (k+n) 0):=fun h=>by rw [show ((k:Int)+n).toNat=k+n by omega]; exact kV h
 refine AW.seq (rgn [.int .u8 (qM s (k+n)),.nilp,.bool (vL (qM s (k+n)))] [[],[],[],[],[],[0,1,5,11],[],[],[],[],[],[0,1,5,12,17],[],[0,1,5,19]] ?_)
 iterate 7 refine op1 tok ?_ (hv:=by first | with_reducible exact True.intro | (first | exact fun h=>⟨h,by omega,_,hix (by omega),rfl⟩ | simp [hd]; done) | omega | simp | (simp +contextual; omega))
 iterate 6 refine op2 tok ?_ (hv:=by first | with_reducible exact True.intro | (first | exact fun h=>⟨h,by omega,_,hix (by omega),rfl⟩ | simp [hd]; done) | omega | simp | (simp +contextual; omega))
 refine op1 tok ?_ (hv:=by first | with_reducible exact True.intro | (first | exact fun h=>⟨h,by omega,_,hix (by omega),rfl⟩ | simp [hd]; done) | omega | simp | (simp +contextual; omega))
 refine qA (cnd ?_ ?_)
 ·intro h19
  try simp at h19
  have hlt':=hlt.2 ⟨by omega,h19.2⟩
  refine AW.skip (AW.block (rgz [] [[],[],[0,1,5]] ?_))
  iterate 3 refine op1 tok ?_
  refine qA ?_
  exact ⟨n+1,by omega,by omega,qB (by simp),rfl,by simp,by simp⟩
 intro h19
 try simp at h19
 have hge:n=zQ s k:=by
  refine Nat.le_antisymm hn (Nat.not_lt.1 fun h => ?_)
  have:=hlt.1 h
  have:=h19 (by omega)
  simp_all
 subst hge
 refine AW.exit ?_
 simp
 refine rgn [] [[],[4]] ?_
 iterate 2 refine op1 tok ?_
 exact qA (AW.ret qG)
def zE (n:Nat):List UInt8:=List.replicate n 48
theorem qBC (n:Int) (hn:n≤1000000):AFn Tryz.prog G 63 [.int .i64 n] (.str (zE n.toNat)):=by
 refine AFn.introU tok Tryz.func63 (by kernel_rfl) rfl rfl ?_
 simp only [Tryz.f63,qH,List.map_cons,List.map_nil]
 refine rgn [] [[0]] ?_
 refine op1 tok ?_
 refine qA (rgn [] [[]] ?_)
 refine op1 tok ?_
 refine qA (AW.seq (rgn [] [[]] ?_))
 refine op1 tok ?_
 refine qA (AW.block ?_)
 refine AW.loop (α:=Nat) (fun k=>k≤n.toNat) (fun k=>⟨qS 13 [(0,.p (.int .i64 n)),(3,.p (.str (zE k))),(4,.p (.int .i64 k))],[],[],0⟩) (fun k=>n.toNat-k) (0) (by omega) ⟨qB (by simp [zE]),rfl,by simp,by simp⟩ ?_
 rintro k hk
 refine AW.seq (rgn [] [[],[],[0,3,4,7]] ?_)
 iterate 3 refine op1 tok ?_
 refine qA (cnd ?_ ?_)
 ·intro h7
  try simp at h7
  refine AW.skip (AW.seq (AW.block (rgz [] [[],[],[0,3,4]] ?_)))
  iterate 3 refine op1 tok ?_ (hv:=by first | with_reducible exact True.intro | (simp [zE]; omega; done) | omega | simp | (simp +contextual; omega))
  refine qA (rgz [] [[],[],[0,3,4]] ?_)
  iterate 3 refine op1 tok ?_
  refine qA ?_
  exact ⟨k+1,by omega,by omega,qB (by simp [zE,List.replicate_succ']),rfl,by simp [zE,List.replicate_succ'],by simp [zE,List.replicate_succ']⟩
 intro h7
 try simp at h7
 have hkn:k=n.toNat:=by omega
 subst hkn
 refine AW.exit ?_
 simp
 refine rgn [] [[],[2]] ?_
 iterate 2 refine op1 tok ?_
 exact qA (AW.ret qG)
def qV (s:List UInt8):List UInt8:=s.dropWhile (· == 48)
def wZ (d:List UInt8):Nat→List UInt8 × Nat
 | 0=>(d,0)
 | k+1=>if d.getLast?=some 48 then wZ d.dropLast k else (d,k+1)
def yF (neg:Bool) (digits:List UInt8) (scale:Nat):Dc × Int :=
 let x:=wZ (qV digits) scale
 if x.1=[] then (⟨false,[48],0⟩,0) else if 60<x.1.length∨60<x.2 then (⟨false,[],0⟩,3) else (⟨neg,x.1,x.2⟩,0)
theorem qCA {d:List UInt8} (h:0<d.length):qM d (d.length-1)=48↔d.getLast?=some 48:=by
 rw [List.getLast?_eq_getElem?,qM,List.getD_eq_getElem?_getD,kV (by omega)]
 simp only [Option.getD_some,Option.some.injEq]
 constructor
 ·intro h2; exact UInt8.toNat_inj.1 (by have:((d.getD (d.length-1) 0).toNat:Int)=48:=h2; show (d.getD (d.length-1) 0).toNat=48; omega)
 intro h2; rw [h2]; rfl
theorem xV (d:List UInt8):d.take (d.length-1)=d.dropLast:=(List.dropLast_eq_take).symm
theorem qVH (neg:Bool) (digits:List UInt8) (scale:Nat) (hd:digits.length≤1000000) (hs:scale≤1000000):AFn Tryz.prog G 59 [.bool neg,.str digits,.int .i64 scale] (.tup [(yF neg digits scale).1.enc,.int .i64 (yF neg digits scale).2]):=by
 refine AFn.introU tok Tryz.func59 (by kernel_rfl) rfl rfl ?_
 simp only [Tryz.f59,qH,List.map_cons,List.map_nil]
 refine rgn [] [[],[0,1,2,6]] ?_
 iterate 2 refine op1 tok ?_
 refine qA (AW.seq (AW.block ?_))
 refine AW.loop (α:=List UInt8) (fun r=>qV r=qV digits∧r.length≤digits.length) (fun r=>⟨qS 55 [(0,.p (.bool neg)),(1,.p (.str r)),(2,.p (.int .i64 scale)),(6,.ptr 6 0)],[],[(6,.vars 26 [.p (.bool false),.p (.str []),.p (.int .i64 0)])],0⟩) (fun r=>r.length) (digits) ⟨rfl,Nat.le_refl _⟩ ⟨qB (by simp),rfl,by simp,by simp⟩ ?_
 rintro r ⟨hr,hrl⟩
 have hix:0<r.length→r[0]?=some (r.getD 0 0):=fun h=>kV h
 refine AW.seq (rgn [.int .u8 (qM r 0)] [[],[],[],[],[],[0,1,2,6,11,13],[],[0,1,2,6,15]] ?_)
 iterate 4 refine op1 tok ?_ (hv:=by first | with_reducible exact True.intro | (first | exact fun h=>⟨h,_,hix (by omega),rfl⟩ | simp; done) | omega | simp | (simp +contextual; omega))
 iterate 3 refine op2 tok ?_ (hv:=by first | with_reducible exact True.intro | (first | exact fun h=>⟨h,_,hix (by omega),rfl⟩ | simp; done) | omega | simp | (simp +contextual; omega))
 refine op1 tok ?_ (hv:=by first | with_reducible exact True.intro | (first | exact fun h=>⟨h,_,hix (by omega),rfl⟩ | simp; done) | omega | simp | (simp +contextual; omega))
 refine qA (cnd ?_ ?_)
 ·intro h15
  try simp at h15
  obtain ⟨b,r,rfl⟩:∃ b r',r=b::r':=by
   cases r with
   | nil=>simp at h15
   | cons b r=>exact ⟨b,r,rfl⟩
  have hb:b=48:=UInt8.toNat_inj.1 (by have h9:(b.toNat:Int)=48:=h15.2; show b.toNat=48; omega)
  have hr':qV r=qV digits:=by rw [← hr]; simp [qV,hb]
  simp at hrl
  refine AW.skip (AW.block (rgz [] [[],[],[0,1,2,6]] ?_))
  iterate 3 refine op1 tok ?_
  refine qA ?_
  exact ⟨r,⟨hr',by omega⟩,by simp,qB (by simp),rfl,by simp,by simp⟩
 intro h15
 try simp at h15
 have hr':qV digits=r:=by
  rw [← hr]
  cases r with
  | nil=>rfl
  | cons b r =>
   have hb:b≠48:=by rintro rfl; simp [qM] at h15
   simp [qV,hb]
 have hN:yF neg digits scale=(if (wZ r scale).1=[] then (⟨false,[48],0⟩,0) else if 60<(wZ r scale).1.length∨60<(wZ r scale).2 then (⟨false,[],0⟩,3) else (⟨neg,(wZ r scale).1,(wZ r scale).2⟩,0)):=by simp only [yF,hr']
 rw [hN]
 clear hN hix h15 hr hr'
 refine AW.exit ?_
 simp
 refine AW.seq (AW.block ?_)
 refine AW.loop (α:=List UInt8 × Nat) (fun a=>wZ r scale=wZ a.1 a.2∧a.2≤scale∧a.1.length≤digits.length) (fun a=>⟨qS 55 [(0,.p (.bool neg)),(1,.p (.str a.1)),(2,.p (.int .i64 a.2)),(6,.ptr 6 0)],[],[(6,.vars 26 [.p (.bool false),.p (.str []),.p (.int .i64 0)])],0⟩) (fun a=>a.2) ((r,scale)) ⟨rfl,Nat.le_refl _,hrl⟩ ⟨qB (by simp),rfl,by simp,by simp⟩ ?_
 rintro ⟨d,k⟩ ⟨ht,hk,hdl⟩
 simp only at ht hk hdl
 have hix:0<d.length→d[d.length-1]?=some (d.getD (d.length-1) 0):=fun h=>kV (by omega)
 refine AW.seq (rgn [.int .u8 (qM d (d.length-1))] [[],[],[],[],[],[0,1,2,6,20,23],[],[],[],[],[0,1,2,6,25,26,28],[],[],[0,1,2,6,25,31],[0,1,2,6,32]] ?_)
 iterate 15 first | refine op1 tok ?_ (hv:=by first | with_reducible exact True.intro | (first | exact fun h1 h2=>⟨⟨h1,h2⟩,by omega,by omega⟩ | exact fun h1 h2=>⟨⟨h1,h2⟩,by omega,_,hix h2,rfl⟩ | simp; done) | omega | simp | (simp +contextual; omega)) | refine op2 tok ?_ (hv:=by first | with_reducible exact True.intro | (first | exact fun h1 h2=>⟨⟨h1,h2⟩,by omega,by omega⟩ | exact fun h1 h2=>⟨⟨h1,h2⟩,by omega,_,hix h2,rfl⟩ | simp; done) | omega | simp | (simp +contextual; omega))
 refine qA (cnd ?_ ?_)
 ·intro h32
  try simp at h32
  obtain ⟨k,rfl⟩:∃ k',k=k'+1:=⟨k-1,by omega⟩
  have hl:=(qCA h32.1.2).1 h32.2
  have ht':wZ r scale=wZ d.dropLast k:=by rw [ht]; simp only [wZ]; rw [if_pos hl]
  refine AW.skip (AW.block (rgn [] [[],[],[],[],[0,2,6,37],[0,1,2,6]] ?_))
  iterate 6 refine op1 tok ?_
  refine qA (rgz [] [[],[],[0,1,2,6]] ?_)
  iterate 3 refine op1 tok ?_
  refine qA ?_
  exact ⟨(d.dropLast,k),⟨ht',by simp only []; omega,by simp; omega⟩,by simp,qB (by simp [xV]),rfl,by simp [xV],by simp [xV]⟩
 intro h32
 try simp at h32
 have htl:wZ d k=(d,k):=by
  cases k with
  | zero=>rfl
  | succ k =>
   simp only [wZ]
   rw [if_neg]
   intro hl
   have hpos:0<d.length:=by cases d with
    | nil=>simp at hl
    | cons=>simp
   have:=(qCA hpos).2 hl
   simp [hpos,this] at h32
 rw [ht,htl]
 refine AW.exit ?_
 simp
 refine AW.seq (rgn [] [[],[0,1,2,6,41]] ?_)
 iterate 2 refine op1 tok ?_
 refine qA (cnd ?_ ?_)
 ·intro h41
  try simp at h41
  subst h41
  refine rgn [] [[],[],[6,7]] ?_
  iterate 3 refine op1 tok ?_
  exact qA (AW.ret qG)
 intro h41
 try simp at h41
 refine AW.skip (AW.seq (rgn [] [[],[],[],[],[],[0,1,2,6,46,48],[0,1,2,6,49]] ?_))
 iterate 4 refine op1 tok ?_
 iterate 2 refine op2 tok ?_
 refine op1 tok ?_
 refine qA (cnd ?_ ?_)
 ·intro h49
  try simp at h49
  have hbig:60<d.length∨60<k:=by omega
  refine rgn [] [[],[],[6,7]] ?_
  iterate 3 refine op1 tok ?_
  refine qA ?_
  exact AW.ret (qG (k:=by simp [h41,hbig]))
 intro h49
 try simp at h49
 have hbig:¬ (60<d.length∨60<k):=by omega
 refine AW.skip (rgn [] [[],[],[],[6,54],[],[6,7]] ?_)
 iterate 6 refine op1 tok ?_
 refine qA ?_
 exact AW.ret (qG (k:=by simp [h41,hbig]))
def zP (d:Dc):Bool:=d.digits.all zJ && decide (1≤d.digits.length∧d.digits.length≤60∧0≤d.scale∧d.scale≤60) &&
 (if d.digits=[48] then decide (d.scale=0) && !d.neg else decide (qM d.digits 0≠48) && (decide (d.scale=0) || decide (qM d.digits (d.digits.length-1)≠48)))
theorem qXJ {d : Dc} (h : 1 ≤ d.digits.length ∧ d.digits.length ≤ 60 ∧ 0 ≤ d.scale ∧ d.scale ≤ 60) (ha : d.digits.all zJ = true) :
  zP d=(if d.digits=[48] then decide (d.scale=0) && !d.neg else decide (qM d.digits 0≠48) && (decide (d.scale=0) || decide (qM d.digits (d.digits.length-1)≠48))):=by
 unfold zP; rw [ha,show decide (1≤d.digits.length∧d.digits.length≤60∧0≤d.scale∧d.scale≤60)=true by simpa using h]; simp
namespace Sy
variable {P:Program} {G:qK}
theorem AFn.of_calls {f : FuncId} {args : List PD} {r : PD} (hc : vP P f) (h : ∀ (M : qT) (w : World) (vs : Array Value), GOK G M w → (∀ b o v, M b o = some v → w.cell? ⟨b, o, none⟩ = some v) → vs.size = args.length →
  (∀ (i:Nat) u d,vs[i]?=some u→args[i]?=some d→Rd M u d)→Calls P f vs w fun e w'=>∃ v,e = .returned v∧Rd M v r∧RowKit.Below w.heap.size w w'):AFn P G f args r:=by
 refine ⟨hc,fun M w vs hg hmem hsz hrd=>(h M w vs hg hmem hsz hrd).mono ?_⟩
 rintro e w' ⟨v,rfl,hv,hb⟩
 refine ⟨v,M,rfl,hv,fun b o u hu => ?_,fun _ _ _ h=>h,fun _ _ _=>rfl,hb⟩
 have h1:=hmem b o u hu
 exact (World.cell?_of_block (w:=w) (hb.block b (yW h1))).trans h1
theorem vY {f : FuncId} {fn : Func} {c : Code} (hf : P.funcs[f]? = some fn) (hn : (fn.name == "runtime.NumGoroutine") = false) (hb : fn.body = some c) : vP P f := ⟨fn, c, hf, hn, hb⟩
end Sy
@[simp] def Val.cells (v:Val):List V:=[.p (.int .i64 v.kind),.p (.int .u64 v.mask),.p (.bool v.num.neg),.p (.str v.num.digits),.p (.int .i64 v.num.scale),.p (.str v.text),.p (.sl 1 (v.keys.map PD.str)),.p (.sl 9 (v.kids.map Val.enc)),.p (.int .i64 v.code)]
def qBD (s:List UInt8):Bool:=decide ((s.length:Int)≤4096) && Lib.validD s
def qLY (l:List (List UInt8)):Bool:=l.all qBD && decide l.Nodup
def qZG (v:Val):Bool:=if v.kind=4 then zP v.num else decide (v.num.neg=false∧v.num.digits=[]∧v.num.scale=0)
def qTX (v:Val):Bool:=if v.kind=5 then qBD v.text else decide (v.text=[])
def qFP (v:Val):Bool:=if v.kind=7 then decide ((v.keys.length:Int)=v.kids.length) && qLY v.keys else decide (v.keys=[])
def qUV (v:Val):Bool:=decide (v.kids=[]) || decide (v.kind=6) || decide (v.kind=7)
def qVD (v:Val):Bool:=decide (decide (v.kind=8) = !decide (v.code=0))
def qBK (v:Val):Bool:=qVD v && qZG v && qTX v && qFP v && qUV v
def qAT (v:Val):Bool:=decide (1≤v.kind∧v.kind≤8∧v.kids.length≤200)
mutual
def zC:Val→Bool
 | .mk k m n t ks vs c=>qAT (.mk k m n t ks vs c) && qBK (.mk k m n t ks vs c) && qPV vs
def qPV:List Val→Bool
 | []=>true
 | v::vs=>zC v && qPV vs
end
theorem qLN:∀ l,qPV l=l.all zC
 | []=>by simp [qPV]
 | v::vs=>by simp [qPV,qLN vs]
theorem xQ (v:Val):zC v=(qAT v && qBK v && v.kids.all zC):=by
 cases v; simp only [zC,qLN,Val.kids]
def xE (v:Val) (s:List UInt8):Val:=v.kids.getD (v.keys.idxOf s) qGS
theorem qFR {v:Val} (hl:v.keys.length≤v.kids.length) {s:List UInt8} (h:s∈v.keys):v.kids[v.keys.idxOf s]?=some (xE v s):=by
 have:=List.idxOf_lt_length_of_mem h
 simp [xE,List.getD_eq_getElem?_getD,show v.keys.idxOf s<v.kids.length by omega]
theorem kO {v k:Val} (h:zC v=true) (hk:k∈v.kids):zC k=true:=by
 rw [xQ] at h; simp only [Bool.and_eq_true,List.all_eq_true] at h; exact h.2 k hk
theorem vW {v:Val} (h:zC v=true) (h7:v.kind=7):v.keys.length=v.kids.length∧v.keys.length≤200∧v.keys.Nodup:=by
 rw [xQ] at h
 simp only [Bool.and_eq_true,qAT,qBK,qFP,decide_eq_true_eq] at h
 obtain ⟨⟨h1,⟨⟨_,h2⟩,_⟩⟩,_⟩:=h
 rw [if_pos h7] at h2
 simp [qLY] at h2
 exact ⟨by omega,by omega,h2.2.2⟩
theorem qCP {v:Val} (h:zC v=true) (h4:v.kind=4):zP v.num=true:=by
 rw [xQ] at h
 simp only [Bool.and_eq_true,qBK,qZG] at h
 obtain ⟨⟨h1,⟨⟨⟨⟨_,h2⟩,_⟩,_⟩,_⟩⟩,_⟩:=h
 rw [if_pos h4] at h2; exact h2
mutual
def uG (ch:Val→Val):Val→Val
 | .mk k m n t ks vs c=>ch (.mk k m n t ks (qPX ch vs) c)
def qPX (ch:Val→Val):List Val→List Val
 | []=>[]
 | v::vs=>uG ch v::qPX ch vs
end
theorem qLP (ch:Val→Val):∀ l,qPX ch l=l.map (uG ch)
 | []=>by simp [qPX]
 | v::vs=>by simp [qPX,qLP ch vs]
theorem qHN (ch:Val→Val) (v:Val):uG ch v=ch (.mk v.kind v.mask v.num v.text v.keys (v.kids.map (uG ch)) v.code):=by
 cases v; simp only [uG,qLP,Val.kind_mk,Val.mask_mk,Val.num_mk,Val.text_mk,Val.keys_mk,Val.kids_mk,Val.code_mk]
theorem xZ {v:Val} (h:zC v=true):v.keys.length≤200∧v.kids.length≤200:=by
 by_cases h7:v.kind=7
 ·have:=vW h h7; omega
 rw [xQ] at h
 simp only [Bool.and_eq_true,qAT,qBK,qFP,decide_eq_true_eq] at h
 obtain ⟨⟨h1,⟨⟨_,h2⟩,_⟩⟩,_⟩:=h
 rw [if_neg h7] at h2
 simp at h2
 rw [h2]; simp; omega
def qEZ (u:Val):Val := .mk u.kind 0 u.num u.text u.keys u.kids u.code
def zZ (v:Val):Val:=uG qEZ v
def InM (a:Int):Prop:=0≤a∧a<18446744073709551616
def yC (a:Int):Nat:=(a % 18446744073709551616).toNat
theorem qNL (a:Int):yC a<2 ^ 64:=by unfold yC; omega
theorem qUL {a:Int} (h:InM a):((yC a:Nat):Int)=a:=by unfold yC; unfold InM at h; omega
theorem qLK {n:Nat} (h:n<2 ^ 64):yC n=n:=by unfold yC; omega
theorem zAA {n:Nat} (h:n<2 ^ 64):InM n:=by unfold InM; omega
def orM (a b:Int):Int:=((yC a ||| yC b:Nat):Int)
def zJU (a b:Int):Int:=((yC a &&& yC b:Nat):Int)
def zJJ (a b:Int):Int:=((yC a &&& (18446744073709551615-yC b):Nat):Int)
theorem qUI (a b:Int):yC a ||| yC b<2 ^ 64:=Nat.or_lt_two_pow (qNL a) (qNL b)
theorem zJO (a b:Int):InM (orM a b):=zAA (qUI a b)
theorem qHM (a b:Int):yC (orM a b)=yC a ||| yC b:=qLK (qUI a b)
theorem qYF {n:Nat} (h:n<2 ^ 64):IntKind.u64.wrap (n:Int)=n:=by simp [IntKind.wrap,IntKind.bits,IntKind.signed]; omega
theorem qUH (a b:Int):IntKind.u64.wrap (((a % 2 ^ IntKind.u64.bits).toNat ||| (b % 2 ^ IntKind.u64.bits).toNat:Nat):Int)=orM a b:=qYF (qUI a b)
theorem or_comm (a b:Int):orM a b=orM b a:=by unfold orM; rw [Nat.or_comm]
theorem or_assoc (a b c:Int):orM (orM a b) c=orM a (orM b c):=by
 show ((yC (orM a b) ||| yC c:Nat):Int)=((yC a ||| yC (orM b c):Nat):Int)
 rw [qHM,qHM,Nat.or_assoc]
theorem or_self {a:Int} (h:InM a):orM a a=a:=by unfold orM; rw [Nat.or_self,qUL h]
def LeM (a b:Int):Prop:=orM a b=b
theorem LeM.or_left (a b:Int):LeM a (orM a b):=by
 unfold LeM; rw [← or_assoc]
 unfold orM; rw [qLK (qUI a a),Nat.or_self]
theorem LeM.or_right (a b:Int):LeM b (orM a b):=by rw [or_comm]; exact .or_left b a
theorem LeM.trans {a b c:Int} (h1:LeM a b) (h2:LeM b c):LeM a c:=by
 unfold LeM at *; rw [← h2,← or_assoc,h1]
theorem LeM.or {a b c:Int} (h1:LeM a c) (h2:LeM b c):LeM (orM a b) c:=by
 unfold LeM at *; rw [or_assoc,h2,h1]
theorem LeM.refl {a:Int} (h:InM a):LeM a a:=or_self h
theorem LeM.and {a b:Int} (h:LeM a b) (ha:InM a):zJU b a=a:=by
 unfold LeM at h
 have h1:yC a ||| yC b=yC b:=by rw [← qHM,h]
 unfold zJU
 have:yC b &&& yC a=yC a:=by
  rw [← h1]
  apply Nat.eq_of_testBit_eq; intro i
  simp only [Nat.testBit_and,Nat.testBit_or]
  cases (yC a).testBit i <;> cases (yC b).testBit i <;> rfl
 rw [this,qUL ha]
theorem LeM.sub {a b:Int} (h:LeM a b):zJJ a b=0:=by
 unfold LeM at h
 have h1:yC a ||| yC b=yC b:=by rw [← qHM,h]
 have hb:=qNL b
 unfold zJJ
 have:yC a &&& (18446744073709551615-yC b)=0:=by
  apply Nat.eq_of_testBit_eq; intro i
  rw [show 18446744073709551615-yC b=2 ^ 64-(yC b+1) by omega]
  simp only [Nat.testBit_and,Nat.testBit_two_pow_sub_succ hb,Nat.zero_testBit]
  have h3:(yC a ||| yC b).testBit i=(yC b).testBit i:=by rw [h1]
  rw [Nat.testBit_or] at h3
  revert h3
  cases (yC a).testBit i <;> cases (yC b).testBit i <;> simp
 rw [this]; rfl
def yU:Val := .mk 0 0 dc0 [] [] [] 0
@[simp] theorem zEJ:yU.kind=0:=rfl
@[simp] theorem zEI:yU.mask=0:=rfl
@[simp] theorem zGJ:yU.num.neg=false:=rfl
@[simp] theorem zBT:yU.num.digits=[]:=rfl
@[simp] theorem zEA:yU.num.scale=0:=rfl
@[simp] theorem zEH:yU.text=[]:=rfl
@[simp] theorem zEL:yU.keys=[]:=rfl
@[simp] theorem zEK:yU.kids=[]:=rfl
@[simp] theorem zEM:yU.code=0:=rfl
@[simp] def zHD:List V:=[.p (.int .i64 0),.p (.int .u64 0),.p (.bool false),.p (.str []),.p (.int .i64 0),.p (.str []),.nilsl,.nilsl,.p (.int .i64 0)]
def qIK (v:Val) (m:Int):Val := .mk v.kind m v.num v.text v.keys v.kids v.code
@[simp] theorem zGO (u:Val) (m:Int):(qIK u m).kind=u.kind:=rfl
@[simp] theorem zGN (u:Val) (m:Int):(qIK u m).mask=m:=rfl
@[simp] theorem zJK (u:Val) (m:Int):(qIK u m).num=u.num:=rfl
@[simp] theorem zGM (u:Val) (m:Int):(qIK u m).text=u.text:=rfl
@[simp] theorem zGQ (u:Val) (m:Int):(qIK u m).keys=u.keys:=rfl
@[simp] theorem zGP (u:Val) (m:Int):(qIK u m).kids=u.kids:=rfl
@[simp] theorem zGR (u:Val) (m:Int):(qIK u m).code=u.code:=rfl
def qPE (v:Val) (l:List Val):Val := .mk v.kind v.mask v.num v.text v.keys l v.code
@[simp] theorem zGU (u:Val) (m:List Val):(qPE u m).kind=u.kind:=rfl
@[simp] theorem zGT (u:Val) (m:List Val):(qPE u m).mask=u.mask:=rfl
@[simp] theorem zJL (u:Val) (m:List Val):(qPE u m).num=u.num:=rfl
@[simp] theorem zGS (u:Val) (m:List Val):(qPE u m).text=u.text:=rfl
@[simp] theorem zGW (u:Val) (m:List Val):(qPE u m).keys=u.keys:=rfl
@[simp] theorem zGV (u:Val) (m:List Val):(qPE u m).kids=m:=rfl
@[simp] theorem zGX (u:Val) (m:List Val):(qPE u m).code=u.code:=rfl
def xB (v:Val) (m:Int):Val:=qIK v (orM v.mask m)
@[simp] theorem zER (u:Val) (m:Int):(xB u m).kind=u.kind:=rfl
@[simp] theorem zEQ (u:Val) (m:Int):(xB u m).mask=orM u.mask m:=rfl
@[simp] theorem zGK (u:Val) (m:Int):(xB u m).num=u.num:=rfl
@[simp] theorem zEP (u:Val) (m:Int):(xB u m).text=u.text:=rfl
@[simp] theorem zET (u:Val) (m:Int):(xB u m).keys=u.keys:=rfl
@[simp] theorem zES (u:Val) (m:Int):(xB u m).kids=u.kids:=rfl
@[simp] theorem zEU (u:Val) (m:Int):(xB u m).code=u.code:=rfl
theorem yK (v:Val):zZ v=qPE (qIK v 0) (v.kids.map zZ):=by
 show uG qEZ v=_
 rw [qHN]; rfl
@[simp] theorem zFT (u:Val):(zZ u).kind=u.kind:=by rw [yK]; rfl
@[simp] theorem zFS (u:Val):(zZ u).mask=0:=by rw [yK]; rfl
@[simp] theorem zHA (u:Val):(zZ u).num=u.num:=by rw [yK]; rfl
@[simp] theorem zFR (u:Val):(zZ u).text=u.text:=by rw [yK]; rfl
@[simp] theorem zFV (u:Val):(zZ u).keys=u.keys:=by rw [yK]; rfl
@[simp] theorem zFU (u:Val):(zZ u).kids=u.kids.map zZ:=by rw [yK]; rfl
@[simp] theorem zFW (u:Val):(zZ u).code=u.code:=by rw [yK]; rfl
theorem zCY (v:Val):uG id v=v:=by
 induction v using Val.induct with
 | h v ih =>
  rw [qHN]
  have:v.kids.map (uG id)=v.kids:=by
   conv=>rhs; rw [← List.map_id v.kids]
   exact List.map_congr_left fun k hk=>ih k hk
  rw [this]; cases v; rfl
mutual
def zV:Val→Int
 | .mk _ m _ _ _ vs _=>yR m vs
def yR (m:Int):List Val→Int
 | []=>m
 | v::vs=>yR (orM m (zV v)) vs
end
theorem qBU (v:Val):zV v=yR v.mask v.kids:=by cases v; simp only [zV,Val.mask_mk,Val.kids_mk]
theorem qNW (l:List Val) (x:Val):∀ m,yR m (l++[x])=orM (yR m l) (zV x):=by
 induction l with
 | nil=>intro m; simp only [List.nil_append,yR]
 | cons y l ih=>intro m; simp only [List.cons_append,yR,ih]
theorem qDM {m:Int} {l:List Val} {k:Nat} {x:Val} (h:l[k]?=some x):yR m (l.take (k+1))=orM (yR m (l.take k)) (zV x):=by
 rw [List.take_add_one,h]; exact qNW _ _ _
@[simp] theorem zGZ (m:Int):yR m []=m:=by simp only [yR]
mutual
def InV:Val→Prop
 | .mk _ m _ _ _ vs _=>InM m∧zBP vs
def zBP:List Val→Prop
 | []=>True
 | v::vs=>InV v∧zBP vs
end
theorem qRK:∀ l,zBP l↔∀ v∈l,InV v
 | []=>by simp [zBP]
 | v::vs=>by simp [zBP,qRK vs]
theorem qOI (v:Val):InV v↔InM v.mask∧∀ k∈v.kids,InV k:=by cases v; simp only [InV,qRK,Val.mask_mk,Val.kids_mk]
theorem qRJ {v:Val} (h:InV v):InM v.mask:=((qOI v).1 h).1
theorem qQP:∀ {l:List Val} {m:Int},InM m→InM (yR m l)
 | [],m,h=>by simpa using h
 | v::vs,m,h=>by simp only [yR]; exact qQP (zJO _ _)
theorem zDI {v:Val} (h:InV v):InM (zV v):=by rw [qBU]; exact qQP (qRJ h)
theorem qKY (v:Val):Val.sz v=1+Val.szL v.kids:=by cases v; simp only [Val.sz,Val.kids_mk]
theorem qIE (l m:List Val):Val.szL (l++m)=Val.szL l+Val.szL m:=by
 induction l with
 | nil=>simp [Val.szL]
 | cons y l ih=>simp only [List.cons_append,Val.szL,ih]; omega
@[simp] theorem zCH:Val.szL []=0:=by simp only [Val.szL]
@[simp] theorem zCG (x:Val):Val.szL [x]=Val.sz x:=by simp only [Val.szL,Nat.add_zero]
theorem zEZ (v:Val):1≤Val.sz v:=by rw [qKY]; omega
theorem qTZ:∀ l:List Val,l.length≤Val.szL l
 | []=>by simp
 | v::l=>by simp only [Val.szL,List.length_cons]; have:=qTZ l; have:=zEZ v; omega
theorem qSM {v:Val} {n:Nat} (h:Val.sz v≤n):v.kids.length≤n:=by rw [qKY] at h; have:=qTZ v.kids; omega
@[simp] theorem zFZ (u:Val):(qEZ u).kind=u.kind:=rfl
@[simp] theorem zFY (u:Val):(qEZ u).mask=0:=rfl
@[simp] theorem zHB (u:Val):(qEZ u).num=u.num:=rfl
@[simp] theorem zFX (u:Val):(qEZ u).text=u.text:=rfl
@[simp] theorem zGB (u:Val):(qEZ u).keys=u.keys:=rfl
@[simp] theorem zGA (u:Val):(qEZ u).kids=u.kids:=rfl
@[simp] theorem zGC (u:Val):(qEZ u).code=u.code:=rfl
def jS (ch:Val→Val) (v:Val) (k:Nat):List PD:=(v.kids.take k).map (fun u=>(uG ch u).enc)++(v.kids.drop k).map Val.enc
theorem qSP (ch:Val→Val) (v:Val) (k:Nat):(jS ch v k).length=v.kids.length:=by
 simp only [jS,List.length_append,List.length_map,List.length_take,List.length_drop]; omega
@[simp] theorem zEE (ch:Val→Val) (v:Val):jS ch v 0=v.kids.map Val.enc:=by simp only [jS,List.take_zero,List.map_nil,List.nil_append,List.drop_zero]
theorem qSQ {ch:Val→Val} {v x:Val} {k:Nat} (hx:v.kids[k]?=some x):(jS ch v k)[k]?=some x.enc:=by
 have hk:=(List.getElem?_eq_some_iff.1 hx).1
 have h0:((v.kids.take k).map (fun u=>(uG ch u).enc)).length=k:=by simp only [List.length_map,List.length_take]; omega
 rw [jS,List.getElem?_append_right (by omega),h0,Nat.sub_self,List.getElem?_map,List.getElem?_drop,Nat.add_zero,hx]; rfl
theorem qSO {ch:Val→Val} {v x:Val} {k:Nat} (hx:v.kids[k]?=some x):(jS ch v k).set k (uG ch x).enc=jS ch v (k+1):=by
 have hk:=(List.getElem?_eq_some_iff.1 hx).1
 have hxk:=(List.getElem?_eq_some_iff.1 hx).2
 have h0:((v.kids.take k).map (fun u=>(uG ch u).enc)).length=k:=by simp only [List.length_map,List.length_take]; omega
 rw [jS,List.set_append_right _ _ (by omega),h0,Nat.sub_self,List.drop_eq_getElem_cons hk,jS,List.take_succ_eq_append_getElem hk,hxk]
 simp only [List.map_cons,List.set_cons_zero,List.map_append,List.map_nil,List.append_assoc,List.cons_append,List.nil_append]
theorem qPW (g:FuncId) (ch:Val→Val) (v:Val) (hg:∀ u:Val,AX Tryz.prog G g [.ptr 2 0] [(2,.vars 31 u.cells)] (.tuple []) [2] [(2,.vars 31 (ch u).cells)]) (hsm:v.keys.length≤1000000∧v.kids.length≤1000000) (ih:∀ k∈v.kids,AFn Tryz.prog G 100 [k.enc,.fn g] (uG ch k).enc):AFn Tryz.prog G 100 [v.enc,.fn g] ((uG ch v).enc):=by
 refine AFn.introU tok Tryz.func100 (by kernel_rfl) rfl rfl ?_
 simp only [Tryz.f100,qH,List.map_cons,List.map_nil]
 have hck:=qXP (G:=G) v.keys (by omega)
 have hcv:=jU (G:=G) v.kids (by omega)
 refine rgn [] [[],[1,2,4]] ?_
 iterate 2 refine op1 tok ?_
 refine qA ?_
 refine AW.seqRunDrawK tok mixed [1,2,4] 8 [[2],[7],[8],[2],[10],[11],[2],[13,9]] [.nilf,.sl 1 (v.keys.map PD.str),.clo 9 [],.nilf,.sl 9 (v.kids.map Val.enc),.clo 31 []] [] (by kernel_rfl) (by intro C; conv=>lhs; simp) (by first | exact hck | exact hcv | ((repeat' (first | with_reducible apply And.intro | intro _)) <;> first | exact (hck) | exact (hcv) | assumption | omega | contradiction | simp_all)) (by simp [Sm.sum,Sm.foot,Sm.tch,Sm.refs]; kernel_rfl) (by intro C; conv=>lhs; simp) (by first | with_reducible exact True.intro | omega | simp | (simp +contextual; omega)) ?_
 refine AW.seq (rgn [] [[],[],[],[1,2,4,16,17,18]] ?_)
 iterate 4 refine op1 tok ?_
 refine qA (AW.block ?_)
 refine AW.loop (α:=Nat) (fun k=>k≤v.kids.length) (fun k=>⟨qS 34 [(1,.p (.fn g)),(2,.ptr 2 0),(4,.ptr 4 0),(16,.ms 12),(17,.p (.int .i64 v.kids.length)),(18,.p (.int .i64 k))],[],[(2,.vars 31 [.p (.int .i64 v.kind),.p (.int .u64 v.mask),.p (.bool v.num.neg),.p (.str v.num.digits),.p (.int .i64 v.num.scale),.p (.str v.text),.ms 9,.ms 12,.p (.int .i64 v.code)]),(4,.vars 31 [.p (.int .i64 0),.p (.int .u64 0),.p (.bool false),.p (.str []),.p (.int .i64 0),.p (.str []),.nilsl,.nilsl,.p (.int .i64 0)]),(9,.row 9 1 (v.keys.map PD.str)),(12,.row 31 9 (jS ch v k))],0⟩) (fun k=>v.kids.length-k) (0) (by simp) ⟨qB (by simp),rfl,by simp,by simp⟩ ?_
 rintro k hk
 refine rgn [] [[]] ?_
 refine op1 tok ?_
 refine qA (AW.seq (cnd ?_ ?_))
 ·intro h19
  try simp at h19
  obtain ⟨x,hx⟩:∃ x,v.kids[k]?=some x:=⟨v.kids[k],by simp [h19]⟩
  have hx':=qSQ (ch:=ch) hx
  have hkl:=qSP ch v k
  have hix:=ih x (List.mem_of_getElem? hx)
  have hset:=qSO (ch:=ch) hx
  simp only [Val.enc_def] at hx' hix hset
  refine AW.skip (AW.seq (AW.block (rgn [x.enc] [[],[],[],[],[],[1,2,4,5,6,16,17,18]] ?_)))
  iterate 6 refine oq1 tok hx' ?_
  refine qA ?_
  refine AW.runDrawK tok mixed [1,2,4,16,17,18] 6 [[2],[23],[5],[6],[1],[26,27]] [.nilp,(uG ch x).enc] [x.enc,(uG ch x).enc] (by kernel_rfl) (by intro C; conv=>lhs; simp) (by first | exact hix | ((repeat' (first | with_reducible apply And.intro | intro _)) <;> first | exact (hix) | exact (hx') | assumption | omega | contradiction | simp_all)) (by simp [Sm.sum,Sm.foot,Sm.tch,Sm.refs]; kernel_rfl) (by intro C; conv=>lhs; simp) (by exact ⟨by omega,hx'⟩) ?_
  refine rgz [] [[],[1,2,4,16,17,18]] ?_
  iterate 2 refine op1 tok ?_
  refine qA ?_
  exact ⟨k+1,(by omega),(by omega),qB (by simp [hset]),rfl,by simp [hset],by simp [hset]⟩
 intro h19
 try simp at h19
 obtain rfl:k=v.kids.length:=by omega
 have hfull:jS ch v v.kids.length=(v.kids.map (uG ch)).map Val.enc:=by simp only [jS,List.take_length,List.drop_length,List.map_nil,List.append_nil,List.map_map]; rfl
 rw [hfull]
 refine AW.exit ?_
 simp
 refine rgn [] [[]] ?_
 refine op1 tok ?_
 refine zX ?_
 refine qF.freeze 9 (by conv=>lhs; simp) ?_
 refine qF.freeze 12 (by conv=>lhs; simp) ?_
 refine qF.stepK [2,4] (uC rfl (hg (.mk v.kind v.mask v.num v.text v.keys (v.kids.map (uG ch)) v.code)) (by simp)) (by conv=>lhs; simp) rfl ?_
 refine qF.nil ?_
 refine rgn [] [[],[4]] ?_
 iterate 2 refine op1 tok ?_
 refine qA ?_
 exact AW.ret (qG (k:=by simp [qHN ch v]))
inductive Few:Val→Prop
 | mk {v:Val} (h1:v.keys.length≤1000000) (h2:v.kids.length≤1000000) (h3:∀ k∈v.kids,Few k):Few v
theorem qUY (v:Val) (h:zC v=true):Few v :=
 Val.induct (p:=fun v=>zC v=true→Few v) (fun v ih hv=>by
  have hsm:=xZ hv
  exact .mk (by omega) (by omega) fun k hk=>ih k hk (kO hv hk)) v h
theorem qSL (g:FuncId) (ch:Val→Val) (hg:∀ u:Val,AX Tryz.prog G g [.ptr 2 0] [(2,.vars 31 u.cells)] (.tuple []) [2] [(2,.vars 31 (ch u).cells)]) (v:Val) (hv:Few v):AFn Tryz.prog G 100 [v.enc,.fn g] (uG ch v).enc:=by
 induction hv with
 | mk h1 h2 h3 ih=>exact qPW g ch _ hg ⟨h1,h2⟩ ih
theorem qXQ (u:Val):AX Tryz.prog G 101 [.ptr 2 0] [(2,.vars 31 u.cells)] (.tuple []) [2] [(2,.vars 31 (id u).cells)]:=by
 refine AX.introU tok 900 Tryz.func101 (by kernel_rfl) rfl rfl ?_
 simp only [Tryz.f101,qH,List.map_cons,List.map_nil]
 refine AW.skip ?_
 exact qCV
theorem qMI (v:Val) (hv:Few v):AFn Tryz.prog G 70 [v.enc] (v.enc):=by
 refine AFn.introU tok Tryz.func70 (by kernel_rfl) rfl rfl ?_
 simp only [Tryz.f70,qH,List.map_cons,List.map_nil]
 have hm:=qSL (G:=G) 101 id qXQ v hv
 rw [zCY] at hm
 simp only [Val.enc_def] at hm
 refine rgn [] [[],[1,2]] ?_
 iterate 2 refine op1 tok ?_
 refine qA (rgn [.nilp,v.enc] [[],[],[2]] ?_)
 iterate 3 refine oq1 tok hm ?_
 exact qA (AW.ret qG)
theorem zAW (v:Val) (hv:zC v=true):AFn Tryz.prog G 70 [v.enc] v.enc:=qMI v (qUY v hv)
theorem qXH (v:Val) (ih:∀ k∈v.kids,AFn Tryz.prog G 30 [k.enc] (.int .u64 (zV k))):AFn Tryz.prog G 30 [v.enc] (.int .u64 (zV v)):=by
 refine AFn.introU tok Tryz.func30 (by kernel_rfl) rfl rfl ?_
 simp only [Tryz.f30,qH,List.map_cons,List.map_nil]
 refine rgn [] [[],[1]] ?_
 iterate 2 refine op1 tok ?_
 refine qA (rgn [] [[],[],[1,3]] ?_)
 iterate 3 refine op1 tok ?_
 refine qA (AW.seq (rgn [] [[],[],[],[3,9,10,11]] ?_))
 iterate 4 refine op1 tok ?_
 refine qA (AW.block ?_)
 refine AW.intFactU (i:=10) rfl (by decide) ?_; intro hlen; simp at hlen
 refine AW.loop (α:=Nat) (fun k=>k≤v.kids.length) (fun k=>⟨qS 21 [(3,.p (.int .u64 (yR v.mask (v.kids.take k)))),(9,.p (.sl 9 (v.kids.map Val.enc))),(10,.p (.int .i64 v.kids.length)),(11,.p (.int .i64 k))],[],[],0⟩) (fun k=>v.kids.length-k) (0) (by omega) ⟨qB (by simp),rfl,by simp,by simp⟩ ?_
 rintro k hk
 refine rgn [] [[]] ?_
 refine op1 tok ?_
 refine qA (AW.seq (cnd ?_ ?_))
 ·intro h12
  try simp at h12
  obtain ⟨x,hx⟩:∃ x,v.kids[k]?=some x:=⟨v.kids[k],by simp [h12]⟩
  have hix:=ih x (List.mem_of_getElem? hx)
  simp only [Val.enc_def] at hix
  refine AW.skip (AW.seq (AW.block (rgn [x.enc] [[],[],[],[3,5,9,10,11]] ?_)))
  iterate 4 refine op1 tok ?_ (hv:=by first | with_reducible exact True.intro | (simp [hx]; done) | omega | simp | (simp +contextual; omega))
  refine qA (rgz [.nilp,.int .u64 (zV x)] [[],[],[],[9,10,11,18],[3,9,10,11]] ?_)
  iterate 5 refine oq1 tok hix ?_ (h:=by intro C; conv=>lhs; simp [qUH])
  refine qA (rgz [] [[],[3,9,10,11]] ?_)
  iterate 2 refine op1 tok ?_
  refine qA ?_
  exact ⟨k+1,by omega,by omega,qB (by simp [qDM hx]),rfl,by simp [qDM hx],by simp [qDM hx]⟩
 intro h12
 try simp at h12
 rw [List.take_of_length_le h12]
 refine AW.exit ?_
 simp
 refine rgn [] [[],[2]] ?_
 iterate 2 refine op1 tok ?_
 refine qA ?_
 exact AW.ret (qG (k:=by simp [qBU v]))
theorem zDJ (v:Val):AFn Tryz.prog G 30 [v.enc] (.int .u64 (zV v)):=Val.induct (fun v ih=>qXH v ih) v
theorem zCD (v:Val) (m:Int) (hv:zC v=true):AFn Tryz.prog G 132 [v.enc,.int .u64 m] ((xB v m).enc):=by
 refine AFn.introU tok Tryz.func132 (by kernel_rfl) rfl rfl ?_
 simp only [Tryz.f132,qH,List.map_cons,List.map_nil]
 have hm:=zAW (G:=G) v hv
 simp only [Val.enc_def] at hm
 refine rgn [] [[],[1,2,4]] ?_
 iterate 2 refine op1 tok ?_
 refine qA (rgn [.nilp,v.enc] [[],[],[1,2,4]] ?_)
 iterate 3 refine oq1 tok hm ?_
 refine qA (rgn [] [[],[],[],[2,4,10],[],[2,4]] ?_)
 iterate 6 refine op1 tok ?_ (h:=by intro C; conv=>lhs; simp [qUH])
 refine qA (rgn [] [[],[4]] ?_)
 iterate 2 refine op1 tok ?_
 exact qA (AW.ret qG)
open Go
open Go.Lib
def zJR (n:Nat):UInt8:=if n<10 then UInt8.ofNat (48+n) else UInt8.ofNat (87+n)
def qb (b:UInt8):List UInt8 :=
 if b=34∨b=92 then [92,b] else if b=10 then [92,110] else if b=13 then [92,114] else if b=9 then [92,116]
 else if b<32∨b=127 then [92,117,48,48,zJR (b.toNat / 16),zJR (b.toNat % 16)] else [b]
def zJN (s:List UInt8):List UInt8:=s.flatMap qb
def qZB (s:List UInt8):List UInt8:=34::(zJN s++[34])
def jG (s:List UInt8):Bool:=decide (0<s.length) && decide (qM s 0=45)
def qEC (s:List UInt8) (k:Nat) (digits:List UInt8):Option (Nat × List UInt8 × Nat) :=
 if k<s.length∧qM s k=46 then (if zQ s (k+1)=0 then none else some (k+1+zQ s (k+1),digits++(s.take (k+1+zQ s (k+1))).drop (k+1),zQ s (k+1))) else some (k,digits,0)
def upM (s:List UInt8) (k:Nat):Nat→Int
 | 0=>0
 | i+1=>10 * upM s k i+(qM s (k+i)-48)
def yB (s:List UInt8) (k:Nat):Nat:=if k<s.length∧(qM s k=45∨qM s k=43) then k+1 else k
def qGR (s:List UInt8) (k:Nat):Option (Nat × Int) :=
 if k<s.length∧(qM s k=101∨qM s k=69) then
  (if zQ s (yB s (k+1))<1∨2<zQ s (yB s (k+1)) then none
   else some (yB s (k+1)+zQ s (yB s (k+1)),if k+1<s.length∧qM s (k+1)=45 then-upM s (yB s (k+1)) (zQ s (yB s (k+1))) else upM s (yB s (k+1)) (zQ s (yB s (k+1)))))
 else some (k,0)
def uA:Dc × Int:=(⟨false,[],0⟩,4)
def qEM (neg:Bool) (digits:List UInt8) (sc:Int):Dc × Int:=if sc<0 then yF neg (digits++zE (-sc).toNat) 0 else yF neg digits sc.toNat
def qBJ (s:List UInt8) (neg:Bool) (digits:List UInt8) (scale:Nat):Option (Nat × Int)→Dc × Int
 | none=>uA
 | some (k,up)=>if k=s.length then qEM neg digits (scale-up) else uA
def qOV (s:List UInt8) (neg:Bool):Option (Nat × List UInt8 × Nat)→Dc × Int
 | none=>uA
 | some (k,digits,scale)=>qBJ s neg digits scale (qGR s k)
def a0M (s:List UInt8):Nat:=if jG s=true then 1 else 0
def jX (s:List UInt8):Dc × Int :=
 if zQ s (a0M s)=0∨(1<zQ s (a0M s)∧qM s (a0M s)=48) then uA
 else qOV s (jG s) (qEC s (a0M s+zQ s (a0M s)) ((s.take (a0M s+zQ s (a0M s))).drop (a0M s)))
theorem qNF (s:List UInt8) (k:Nat) (h:k≤s.length):k+zQ s k≤s.length:=by
 unfold zQ
 have:=(List.takeWhile_sublist (l:=s.drop k) fun b:UInt8=>vL b.toNat).length_le
 simp at this; omega
theorem qPG {s:List UInt8} {k:Nat} (h:0<zQ s k):k<s.length:=((qND (Nat.zero_le _)).1 h).1
theorem qAF {s:List UInt8} {k i:Nat} (h:i<zQ s k):k+i<s.length∧48≤qM s (k+i)∧qM s (k+i)≤57:=by
 have:=(qND (Nat.le_of_lt h)).1 h
 simpa [vL] using this
theorem qVP {s:List UInt8} {k:Nat}:∀ {i:Nat},i≤2→i≤zQ s k→0≤upM s k i∧upM s k i≤99∧(i≤1→upM s k i≤9)
 | 0,_,_=>by simp [upM]
 | 1,_,h=>by have:=qAF (s:=s) (k:=k) (i:=0) (by omega); simp [upM] at this ⊢; omega
 | 2,_,h=>by
  have h1:=qAF (s:=s) (k:=k) (i:=0) (by omega)
  have h2:=qAF (s:=s) (k:=k) (i:=1) (by omega)
  simp [upM] at h1 h2 ⊢; omega
theorem zBK (s:List UInt8):a0M s≤1:=by unfold a0M; split <;> omega
theorem zBN (s:List UInt8) (hs:s.length≤100000):AFn Tryz.prog G 26 [.str s] (.tup [(jX s).1.enc,.int .i64 (jX s).2]):=by
 refine AFn.introU tok Tryz.func26 (by kernel_rfl) rfl rfl ?_
 simp only [Tryz.f26,qH,List.map_cons,List.map_nil]
 have hrun:=fun k hk=>zFA (G:=G) s k (by omega) hk
 have hix:∀ k:Nat,k<s.length→s[k]?=some (s.getD k 0):=fun k h=>kV h
 refine rgn [] [[],[0,2]] ?_
 iterate 2 refine op1 tok ?_
 refine qA (rgn [] [[]] ?_)
 refine op1 tok ?_
 refine qA (rgn [.int .u8 (qM s 0)] [[],[],[],[],[],[0,2,4,15,17],[],[],[0,2,4,5]] ?_)
 iterate 4 refine op1 tok ?_ (hv:=by first | with_reducible exact True.intro | (first | exact fun h=>⟨h,by omega,_,hix 0 (by omega),rfl⟩ | exact fun h=>⟨h,_,hix 0 (by omega),rfl⟩ | simp; done) | omega | simp | (simp +contextual; omega))
 iterate 3 refine op2 tok ?_ (hv:=by first | with_reducible exact True.intro | (first | exact fun h=>⟨h,by omega,_,hix 0 (by omega),rfl⟩ | exact fun h=>⟨h,_,hix 0 (by omega),rfl⟩ | simp; done) | omega | simp | (simp +contextual; omega))
 iterate 2 refine op1 tok ?_ (hv:=by first | with_reducible exact True.intro | (first | exact fun h=>⟨h,by omega,_,hix 0 (by omega),rfl⟩ | exact fun h=>⟨h,_,hix 0 (by omega),rfl⟩ | simp; done) | omega | simp | (simp +contextual; omega))
 refine qA ?_
 refine AW.join (α:=Unit) (fun _=>True) (fun a=>⟨qS 175 [(0,.p (.str s)),(2,.ptr 2 0),(4,.p (.int .i64 (a0M s))),(5,.p (.bool (jG s)))],[],[(2,.vars 26 [.p (.bool false),.p (.str []),.p (.int .i64 0)])],0⟩) ?_ ?_
 ·
  refine rgn [] [[]] ?_
  refine op1 tok ?_
  refine qA (cnd ?_ ?_)
  ·intro h20
   try simp at h20
   refine rgz [] [[]] ?_
   refine op1 tok ?_
   refine qA ?_
   exact ⟨(),trivial,qB (by simp [a0M,jG,h20]),rfl,by simp [a0M,jG,h20],by simp [a0M,jG,h20]⟩
  intro h20
  try simp at h20
  have hneg:jG s=false:=by
   rw [← Bool.not_eq_true]; intro h; simp only [jG,Bool.and_eq_true,decide_eq_true_eq] at h; exact h20 h.1 h.2
  have hneg0:=hneg
  have ha00:a0M s=0:=by simp [a0M,hneg]
  simp only [jG] at hneg0
  refine AW.skip ?_
  exact ⟨(),trivial,qB (by simp [ha00,hneg0,hneg]),rfl,by simp [ha00,hneg0,hneg],by simp [ha00,hneg0,hneg]⟩
 ·
  rintro a hI
  have ha0:=zBK s
  have hn0:=qNE s (a0M s)
  have hp0:=qPG (s:=s) (k:=a0M s)
  have hin0:=qNF s (a0M s)
  refine rgn [.nilp,.int .i64 (zQ s (a0M s))] [[],[],[],[0,2,4,5,6]] ?_
  iterate 4 refine op1 tok ?_ (hv:=by first | with_reducible exact True.intro | (simp [hrun (a0M s) (by have:=zBK s; omega)]; done) | omega | simp | (simp +contextual; omega))
  refine qA (AW.seq (rgn [.int .u8 (qM s (a0M s))] [[],[],[],[],[],[0,2,4,5,6,26,29],[],[],[],[],[0,2,4,5,6,26,34],[0,2,4,5,6,35]] ?_))
  iterate 3 refine op1 tok ?_ (hv:=by first | with_reducible exact True.intro | (first | exact fun h1 h2=>⟨⟨h1,h2⟩,_,hix (a0M s) (hp0 (by omega)),rfl⟩ | exact fun h1=>⟨h1,fun h2=>⟨h1,h2⟩⟩ | simp; done) | omega | simp | (simp +contextual; omega))
  iterate 8 refine op2 tok ?_ (hv:=by first | with_reducible exact True.intro | (first | exact fun h1 h2=>⟨⟨h1,h2⟩,_,hix (a0M s) (hp0 (by omega)),rfl⟩ | exact fun h1=>⟨h1,fun h2=>⟨h1,h2⟩⟩ | simp; done) | omega | simp | (simp +contextual; omega))
  refine op1 tok ?_ (hv:=by first | with_reducible exact True.intro | (first | exact fun h1 h2=>⟨⟨h1,h2⟩,_,hix (a0M s) (hp0 (by omega)),rfl⟩ | exact fun h1=>⟨h1,fun h2=>⟨h1,h2⟩⟩ | simp; done) | omega | simp | (simp +contextual; omega))
  refine qA (cnd ?_ ?_)
  ·intro h35
   try simp at h35
   have hP:jX s=uA:=by unfold jX; rw [if_pos (by omega)]
   refine rgn [] [[],[],[2,3]] ?_
   iterate 3 refine op1 tok ?_
   refine qA ?_
   exact AW.ret (qG (k:=by simp [hP,uA]))
  intro h35
  try simp at h35
  have hP:jX s=qOV s (jG s) (qEC s (a0M s+zQ s (a0M s)) ((s.take (a0M s+zQ s (a0M s))).drop (a0M s))):=by unfold jX; rw [if_neg (by omega)]
  rw [hP]
  have hin:=hin0 (by have:=hp0 (by omega); omega)
  generalize hdg:(s.take (a0M s+zQ s (a0M s))).drop (a0M s)=dg0
  have hdgl:dg0.length≤s.length:=by rw [← hdg]; simp; omega
  obtain ⟨k1,hk1⟩:∃ k1,k1=a0M s+zQ s (a0M s):=⟨_,rfl⟩
  rw [← hk1] at hin hdg ⊢
  refine AW.skip (rgn [] [[],[],[],[],[],[0,2,4,5,6,42],[0,2,4,5,6,7]] ?_)
  iterate 7 refine op1 tok ?_ (hv:=by first | with_reducible exact True.intro | (omega; done) | omega | simp | (simp +contextual; omega))
  refine qA (rgn [] [[],[],[0,2,5,7,45],[0,2,4,5,7]] ?_)
  iterate 4 refine op1 tok ?_
  refine qA ?_
  rw [show ((a0M s:Int)+(zQ s (a0M s):Nat))=(k1:Nat) by omega]
  refine rgn [] [[]] ?_
  refine op1 tok ?_
  refine qA ?_
  refine AW.join (α:=Nat × List UInt8 × Nat) (fun a=>qEC s k1 dg0=some a∧a.1≤s.length∧a.2.1.length≤200000∧a.2.2≤s.length) (fun a=>⟨qS 175 [(0,.p (.str s)),(2,.ptr 2 0),(4,.p (.int .i64 a.1)),(5,.p (.bool (jG s))),(7,.p (.str a.2.1)),(8,.p (.int .i64 a.2.2))],[],[(2,.vars 26 [.p (.bool false),.p (.str []),.p (.int .i64 0)])],0⟩) ?_ ?_
  ·
   have hr1:=qNF s (k1+1)
   refine rgn [.int .u8 (qM s k1)] [[],[],[],[],[0,2,4,5,7,8,50],[],[],[],[],[0,2,4,5,7,8,55]] ?_
   iterate 5 refine op1 tok ?_ (hv:=by first | with_reducible exact True.intro | (first | exact fun h=>⟨h,_,hix k1 (by omega),rfl⟩ | simp; done) | omega | simp | (simp +contextual; omega))
   iterate 4 refine op2 tok ?_ (hv:=by first | with_reducible exact True.intro | (first | exact fun h=>⟨h,_,hix k1 (by omega),rfl⟩ | simp; done) | omega | simp | (simp +contextual; omega))
   refine op1 tok ?_ (hv:=by first | with_reducible exact True.intro | (first | exact fun h=>⟨h,_,hix k1 (by omega),rfl⟩ | simp; done) | omega | simp | (simp +contextual; omega))
   refine qA (cnd ?_ ?_)
   ·intro h55
    try simp at h55
    refine rgn [.nilp,.int .i64 (zQ s (k1+1))] [[],[],[],[],[0,2,4,5,7,8]] ?_
    iterate 5 refine op1 tok ?_ (hv:=by first | with_reducible exact True.intro | (first | omega | exact hrun (k1+1) (by omega); done) | omega | simp | (simp +contextual; omega))
    refine qA (AW.seq (rgn [] [[],[0,2,4,5,7,8,61]] ?_))
    iterate 2 refine op1 tok ?_
    refine qA (cnd ?_ ?_)
    ·intro h61
     try simp at h61
     have hP2:qEC s k1 dg0=none:=by simp [qEC,h55.1,h55.2,h61]
     refine rgn [] [[],[],[2,3]] ?_
     iterate 3 refine op1 tok ?_
     refine qA ?_
     exact AW.ret (qG (k:=by simp [hP2,qOV,uA]))
    intro h61
    try simp at h61
    refine AW.skip (rgn [] [[],[],[],[],[],[],[],[0,2,4,5,8,63,64,66,70],[],[0,2,4,5,8,72],[0,2,4,5,7,8]] ?_)
    iterate 11 refine op1 tok ?_
    refine qA (rgz [] [[],[],[],[0,2,5,7,8,76],[0,2,4,5,7,8]] ?_)
    iterate 5 refine op1 tok ?_
    refine qA ?_
    exact ⟨(k1+1+zQ s (k1+1),dg0++(s.take (k1+1+zQ s (k1+1))).drop (k1+1),zQ s (k1+1)),⟨by simp [qEC,h55.1,h55.2,h61],hr1 (by omega),by simp; omega,by have:=hr1 (by omega); show zQ s (k1+1)≤s.length; omega⟩,qB (by simp [hdg,show ((k1:Int)+1+(zQ s (k1+1):Nat)).toNat=k1+1+zQ s (k1+1) from by omega]),rfl,by simp [hdg,show ((k1:Int)+1+(zQ s (k1+1):Nat)).toNat=k1+1+zQ s (k1+1) from by omega],by simp [hdg,show ((k1:Int)+1+(zQ s (k1+1):Nat)).toNat=k1+1+zQ s (k1+1) from by omega]⟩
   intro h55
   try simp at h55
   refine AW.skip ?_
   exact ⟨(k1,dg0,0),⟨by simp only [qEC]; rw [if_neg (by intro h; exact h55 h.1 h.2)],hin,by show dg0.length≤200000; omega,by simp⟩,qB (by simp [hdg]),rfl,by simp [hdg],by simp [hdg]⟩
  ·
   rintro ⟨k,digits,scale⟩ ⟨hp2,hk,hdl,hsc⟩
   simp only at hk hdl hsc
   have hT:qOV s (jG s) (qEC s k1 dg0)=qBJ s (jG s) digits scale (qGR s k):=by rw [hp2]; rfl
   rw [hT]
   have hix1:(k:Int)+1<s.length→s[((k:Int)+1).toNat]?=some (s.getD (k+1) 0):=fun h=>by rw [show ((k:Int)+1).toNat=k+1 by omega]; exact hix (k+1) (by omega)
   refine rgn [] [[]] ?_
   refine op1 tok ?_
   refine qA ?_
   refine AW.join (α:=Nat × Int) (fun b=>qGR s k=some b∧b.1≤300000 ∧ -99≤b.2∧b.2≤99) (fun b=>⟨qS 175 [(0,.p (.str s)),(2,.ptr 2 0),(4,.p (.int .i64 b.1)),(5,.p (.bool (jG s))),(7,.p (.str digits)),(8,.p (.int .i64 scale)),(9,.p (.int .i64 b.2))],[],[(2,.vars 26 [.p (.bool false),.p (.str []),.p (.int .i64 0)])],0⟩) ?_ ?_
   ·
    refine rgn [.int .u8 (qM s k),.int .u8 (qM s k)] [[],[],[],[],[0,2,4,5,7,8,9,81],[],[],[],[],[0,2,4,5,7,8,9,81,86],[],[],[],[],[0,2,4,5,7,8,9,81,91],[0,2,4,5,7,8,9,92]] ?_
    iterate 5 refine op1 tok ?_ (hv:=by first | with_reducible exact True.intro | (((repeat' (first | with_reducible apply And.intro | intro _)) <;> first | omega | assumption | contradiction | exact ⟨_,hix _ (by omega),rfl⟩ | simp_all); done) | omega | simp | (simp +contextual; omega))
    iterate 10 refine op2 tok ?_ (hv:=by first | with_reducible exact True.intro | (((repeat' (first | with_reducible apply And.intro | intro _)) <;> first | omega | assumption | contradiction | exact ⟨_,hix _ (by omega),rfl⟩ | simp_all); done) | omega | simp | (simp +contextual; omega))
    refine op1 tok ?_ (hv:=by first | with_reducible exact True.intro | (((repeat' (first | with_reducible apply And.intro | intro _)) <;> first | omega | assumption | contradiction | exact ⟨_,hix _ (by omega),rfl⟩ | simp_all); done) | omega | simp | (simp +contextual; omega))
    refine qA (cnd ?_ ?_)
    ·intro h92
     try simp at h92
     refine rgn [] [[],[],[0,2,4,5,7,8,9]] ?_
     iterate 3 refine op1 tok ?_
     refine qA (rgn [.int .u8 (qM s (k+1))] [[],[],[],[],[0,2,4,5,7,8,9,99],[],[],[],[],[0,2,4,5,7,8,9,104],[0,2,4,5,7,8,9,10]] ?_)
     iterate 5 refine op1 tok ?_ (hv:=by first | with_reducible exact True.intro | (((repeat' (first | with_reducible apply And.intro | intro _)) <;> first | omega | assumption | contradiction | exact ⟨_,hix _ (by omega),rfl⟩ | simp_all); done) | omega | simp | (simp +contextual; omega))
     iterate 4 refine op2 tok ?_ (hv:=by first | with_reducible exact True.intro | (((repeat' (first | with_reducible apply And.intro | intro _)) <;> first | omega | assumption | contradiction | exact ⟨_,hix _ (by omega),rfl⟩ | simp_all); done) | omega | simp | (simp +contextual; omega))
     iterate 2 refine op1 tok ?_ (hv:=by first | with_reducible exact True.intro | (((repeat' (first | with_reducible apply And.intro | intro _)) <;> first | omega | assumption | contradiction | exact ⟨_,hix _ (by omega),rfl⟩ | simp_all); done) | omega | simp | (simp +contextual; omega))
     refine qA ?_
     refine AW.join (α:=Unit) (fun _=>True) (fun a=>⟨qS 175 [(0,.p (.str s)),(2,.ptr 2 0),(4,.p (.int .i64 (yB s (k+1)))),(5,.p (.bool (jG s))),(7,.p (.str digits)),(8,.p (.int .i64 scale)),(9,.p (.int .i64 0)),(10,.p (.bool (decide (k+1<s.length) && decide (qM s (k+1)=45))))],[],[(2,.vars 26 [.p (.bool false),.p (.str []),.p (.int .i64 0)])],0⟩) ?_ ?_
     ·
      refine rgn [.int .u8 (qM s (k+1)),.int .u8 (qM s (k+1))] [[],[],[],[],[0,2,4,5,7,8,9,10,109],[],[],[],[],[0,2,4,5,7,8,9,10,109,114],[],[],[],[],[0,2,4,5,7,8,9,10,109,119],[0,2,4,5,7,8,9,10,120]] ?_
      iterate 5 refine op1 tok ?_ (hv:=by first | with_reducible exact True.intro | (((repeat' (first | with_reducible apply And.intro | intro _)) <;> first | omega | assumption | contradiction | exact ⟨_,hix _ (by omega),rfl⟩ | simp_all); done) | omega | simp | (simp +contextual; omega))
      iterate 10 refine op2 tok ?_ (hv:=by first | with_reducible exact True.intro | (((repeat' (first | with_reducible apply And.intro | intro _)) <;> first | omega | assumption | contradiction | exact ⟨_,hix _ (by omega),rfl⟩ | simp_all); done) | omega | simp | (simp +contextual; omega))
      refine op1 tok ?_ (hv:=by first | with_reducible exact True.intro | (((repeat' (first | with_reducible apply And.intro | intro _)) <;> first | omega | assumption | contradiction | exact ⟨_,hix _ (by omega),rfl⟩ | simp_all); done) | omega | simp | (simp +contextual; omega))
      refine qA (cnd ?_ ?_)
      ·intro h120
       try simp at h120
       refine rgz [] [[],[],[0,2,4,5,7,8,9,10]] ?_
       iterate 3 refine op1 tok ?_
       refine qA ?_
       exact ⟨(),trivial,qB (by simp [show yB s (k+1)=k+1+1 from by (unfold yB; rw [if_pos ⟨by omega,h120.2⟩]),show ((k:Int)+1<(s.length:Int))=(k+1<s.length) from propext (by omega)]),rfl,by simp [show yB s (k+1)=k+1+1 from by (unfold yB; rw [if_pos ⟨by omega,h120.2⟩]),show ((k:Int)+1<(s.length:Int))=(k+1<s.length) from propext (by omega)],by simp [show yB s (k+1)=k+1+1 from by (unfold yB; rw [if_pos ⟨by omega,h120.2⟩]),show ((k:Int)+1<(s.length:Int))=(k+1<s.length) from propext (by omega)]⟩
      intro h120
      try simp at h120
      refine AW.skip ?_
      exact ⟨(),trivial,qB (by simp [show yB s (k+1)=k+1 from by (unfold yB; rw [if_neg (by intro h; have:=h120 (by omega); omega)]),show ((k:Int)+1<(s.length:Int))=(k+1<s.length) from propext (by omega)]),rfl,by simp [show yB s (k+1)=k+1 from by (unfold yB; rw [if_neg (by intro h; have:=h120 (by omega); omega)]),show ((k:Int)+1<(s.length:Int))=(k+1<s.length) from propext (by omega)],by simp [show yB s (k+1)=k+1 from by (unfold yB; rw [if_neg (by intro h; have:=h120 (by omega); omega)]),show ((k:Int)+1<(s.length:Int))=(k+1<s.length) from propext (by omega)]⟩
     ·
      rintro a hI
      have hsg:yB s (k+1)≤s.length+1:=by unfold yB; split <;> omega
      have hin3:=qNF s (yB s (k+1))
      have hp3:=qPG (s:=s) (k:=yB s (k+1))
      have hn3:=qNE s (yB s (k+1))
      obtain ⟨k3,hk3⟩:∃ k3,k3=yB s (k+1):=⟨_,rfl⟩
      rw [← hk3] at hsg hin3 hp3 hn3 ⊢
      refine rgn [.nilp,.int .i64 (zQ s k3)] [[],[],[],[0,2,4,5,6,7,8,9,10]] ?_
      iterate 4 refine op1 tok ?_ (hv:=by first | with_reducible exact True.intro | (exact hrun k3 (by omega); done) | omega | simp | (simp +contextual; omega))
      refine qA (AW.seq (rgn [] [[],[],[],[],[],[0,2,4,5,6,7,8,9,10,131]] ?_))
      iterate 3 refine op1 tok ?_
      iterate 2 refine op2 tok ?_
      refine op1 tok ?_
      refine qA (cnd ?_ ?_)
      ·intro h131
       try simp at h131
       have hP3:qGR s k=none:=by simp only [qGR]; rw [if_pos h92,← hk3,if_pos (by omega)]
       refine rgn [] [[],[],[2,3]] ?_
       iterate 3 refine op1 tok ?_
       refine qA ?_
       exact AW.ret (qG (k:=by simp [hP3,qBJ,uA]))
      intro h131
      try simp at h131
      have hP3:qGR s k=some (k3+zQ s k3,if k+1<s.length∧qM s (k+1)=45 then-upM s k3 (zQ s k3) else upM s k3 (zQ s k3)):=by simp only [qGR]; rw [if_pos h92,← hk3,if_neg (by omega)]
      have hk3l:k3<s.length:=hp3 (by omega)
      have hdig:=fun i=>qAF (s:=s) (k:=k3) (i:=i)
      refine AW.skip (AW.seq (rgn [] [[]] ?_))
      refine op1 tok ?_
      refine qA (AW.block ?_)
      refine AW.loop (α:=Nat) (fun i=>i≤zQ s k3) (fun i=>⟨qS 175 [(0,.p (.str s)),(2,.ptr 2 0),(4,.p (.int .i64 k3)),(5,.p (.bool (jG s))),(6,.p (.int .i64 (zQ s k3))),(7,.p (.str digits)),(8,.p (.int .i64 scale)),(9,.p (.int .i64 (upM s k3 i))),(10,.p (.bool (decide (k+1<s.length) && decide (qM s (k+1)=45)))),(11,.p (.int .i64 i))],[],[(2,.vars 26 [.p (.bool false),.p (.str []),.p (.int .i64 0)])],0⟩) (fun i=>zQ s k3-i) (0) (by omega) ⟨qB (by simp [upM]),rfl,by simp,by simp⟩ ?_
      rintro i hi
      have hup:=qVP (s:=s) (k:=k3) (i:=i) (by omega) hi
      refine AW.seq (rgn [] [[],[],[0,2,4,5,6,7,8,9,10,11,135]] ?_)
      iterate 3 refine op1 tok ?_
      refine qA (cnd ?_ ?_)
      ·intro h135
       try simp at h135
       have hdi:=hdig i h135
       have hw:IntKind.u8.wrap (qM s (k3+i)-48)=qM s (k3+i)-48:=by simp [IntKind.wrap,IntKind.bits,IntKind.signed]; omega
       refine AW.skip (AW.seq (AW.block (rgz [.int .u8 (qM s (k3+i))] [[],[],[],[],[],[0,2,4,5,6,7,8,10,11,139,140,143],[],[],[0,2,4,5,6,7,8,10,11,139,146],[],[0,2,4,5,6,7,8,9,10,11]] ?_)))
       iterate 11 refine op1 tok ?_ (hv:=by first | with_reducible exact True.intro | (((repeat' (first | with_reducible apply And.intro | intro _)) <;> first | omega | assumption | contradiction | exact ⟨_,hix _ (by omega),rfl⟩ | (rw [hw]; omega) | simp_all); done) | omega | simp | (simp +contextual; omega))
       refine qA (rgz [] [[],[],[0,2,4,5,6,7,8,9,10,11]] ?_)
       iterate 3 refine op1 tok ?_
       refine qA ?_
       exact ⟨i+1,by omega,by omega,qB (by simp [upM,hw]),rfl,by simp [upM,hw],by simp [upM,hw]⟩
      intro h135
      try simp at h135
      have hi2:i=zQ s k3:=by omega
      subst hi2
      have hup2:=hin3 (by omega)
      have hw2:IntKind.i64.wrap (- upM s k3 (zQ s k3)) = - upM s k3 (zQ s k3):=by simp [IntKind.wrap,IntKind.bits,IntKind.signed]; omega
      refine AW.exit ?_
      simp
      refine rgn [] [[],[],[0,2,5,7,8,9,10,150],[0,2,4,5,7,8,9,10]] ?_
      iterate 4 refine op1 tok ?_
      refine qA (rgn [] [[0,2,4,5,7,8,9,151]] ?_)
      refine op1 tok ?_
      refine qA (cnd ?_ ?_)
      ·intro h151
       try simp at h151
       rw [if_pos h151] at hP3
       refine rgz [] [[],[],[0,2,4,5,7,8,9]] ?_
       iterate 3 refine op1 tok ?_
       refine qA ?_
       exact ⟨k3+zQ s k3, - upM s k3 (zQ s k3),⟨hP3,by omega,by omega,by omega⟩,qB (by simp [hw2]),rfl,by simp [hw2],by simp [hw2]⟩
      intro h151
      try simp at h151
      rw [if_neg (by intro h; exact h151 h.1 h.2)] at hP3
      refine AW.skip ?_
      exact ⟨k3+zQ s k3,upM s k3 (zQ s k3),⟨hP3,by omega,by omega,by omega⟩,qB (by simp),rfl,by simp,by simp⟩
    intro h92
    try simp at h92
    refine AW.skip ?_
    exact ⟨(k,0),⟨by simp only [qGR]; rw [if_neg (by intro h; have:=h92 h.1; omega)],by show k≤300000; omega,by simp,by simp⟩,qB (by simp),rfl,by simp,by simp⟩
   ·
    rintro ⟨k2,up⟩ ⟨hp3,hk2,hu1,hu2⟩
    simp only at hk2 hu1 hu2
    rw [hp3]
    refine AW.seq (rgn [] [[],[],[],[2,5,7,8,9,157]] ?_)
    iterate 4 refine op1 tok ?_
    refine qA (cnd ?_ ?_)
    ·intro h157
     try simp at h157
     have hR:qBJ s (jG s) digits scale (some (k2,up))=uA:=by simp only [qBJ]; rw [if_neg (by omega)]
     refine rgn [] [[],[],[2,3]] ?_
     iterate 3 refine op1 tok ?_
     refine qA ?_
     exact AW.ret (qG (k:=by simp [hR,uA]))
    intro h157
    try simp at h157
    have hR:qBJ s (jG s) digits scale (some (k2,up))=qEM (jG s) digits (scale-up):=by simp only [qBJ]; rw [if_pos (by omega)]
    rw [hR]
    clear hR hp3
    have hw3:IntKind.i64.wrap (-((scale:Int)-up)) = -((scale:Int)-up):=by simp [IntKind.wrap,IntKind.bits,IntKind.signed]; omega
    have hz:=qBC (G:=G) (-((scale:Int)-up)) (by omega)
    have hzl:(zE (-((scale:Int)-up)).toNat).length≤300000:=by simp [zE]; omega
    refine AW.skip (rgn [] [[],[],[2,5,7,161],[2,5,7,8]] ?_)
    iterate 4 refine op1 tok ?_
    refine qA (AW.seq (rgn [] [[],[2,5,7,8,163]] ?_))
    iterate 2 refine op1 tok ?_
    refine qA (cnd ?_ ?_)
    ·intro h163
     try simp at h163
     have hL:qEM (jG s) digits ((scale:Int)-up)=yF (jG s) (digits++zE (-((scale:Int)-up)).toNat) 0:=by simp only [qEM]; rw [if_pos (by omega)]
     have hN:=qVH (G:=G) (jG s) (digits++zE (-((scale:Int)-up)).toNat) 0 (by simp; omega) (by omega)
     refine rgn [.nilp,.str (zE (-((scale:Int)-up)).toNat)] [[],[],[],[2,5,164,167],[],[2,5,7]] ?_
     iterate 6 refine op1 tok ?_ (hv:=by first | with_reducible exact True.intro | (first | (rw [hw3]; exact hz) | omega; done) | omega | simp | (simp +contextual; omega))
     refine qA (rgz [] [[]] ?_)
     refine op1 tok ?_
     refine qA (rgn [.nilp,.tup [(yF (jG s) (digits++zE (-((scale:Int)-up)).toNat) 0).1.enc,.int .i64 (yF (jG s) (digits++zE (-((scale:Int)-up)).toNat) 0).2]] [[],[],[],[2,172],[],[],[],[2,3]] ?_)
     iterate 8 refine oq1 tok hN ?_
     refine qA ?_
     exact AW.ret (qG (k:=by simp [hL]))
    intro h163
    try simp at h163
    obtain ⟨sc,hsc2⟩:∃ sc:Nat,(sc:Int)=(scale:Int)-up:=⟨((scale:Int)-up).toNat,by omega⟩
    have hL:qEM (jG s) digits ((scale:Int)-up)=yF (jG s) digits sc:=by simp only [qEM]; rw [if_neg (by omega),← hsc2]; rfl
    have hN:=qVH (G:=G) (jG s) digits sc (by omega) (by omega)
    rw [hsc2] at hN
    refine AW.skip (rgn [.nilp,.tup [(yF (jG s) digits sc).1.enc,.int .i64 (yF (jG s) digits sc).2]] [[],[],[],[2,172],[],[],[],[2,3]] ?_)
    iterate 8 refine oq1 tok hN ?_
    refine qA ?_
    exact AW.ret (qG (k:=by simp [hL]))
def qZD (d:Dc):List UInt8:=zE (d.scale.toNat+1-d.digits.length)++d.digits
def zGG (d:Dc):List UInt8:=(if d.neg=true then [45] else [])++(if d.scale=0 then qZD d else (qZD d).take ((qZD d).length-d.scale.toNat)++46::(qZD d).drop ((qZD d).length-d.scale.toNat))
structure RS where
 left:List UInt8
 nodes:Nat
 bad:Bool
 deep:Bool
 big:Bool
 deriving DecidableEq
def zLC (b:UInt8):Bool:=b == 32 || b == 9 || b == 13 || b == 10
def qYP (s:List UInt8):List UInt8:=s.dropWhile zLC
def tk (w:List UInt8) (st:RS):Bool × RS :=
 if w.isPrefixOf (qYP st.left) then (true,{ st with left:=(qYP st.left).drop w.length }) else (false,{ st with left:=qYP st.left })
def zHG:List UInt8:=[110,117,108,108]
def zHF:List UInt8:=[116,114,117,101]
def zEV:List UInt8:=[102,97,108,115,101]
@[simp] theorem zKA (w:List UInt8) (st:RS):(tk w st).2.bad=st.bad:=by unfold tk; split <;> rfl
@[simp] theorem zHL (w:List UInt8) (st:RS):(tk w st).2.nodes=st.nodes:=by unfold tk; split <;> rfl
@[simp] theorem zJV (w:List UInt8) (st:RS):(tk w st).2.deep=st.deep:=by unfold tk; split <;> rfl
@[simp] theorem zJZ (w:List UInt8) (st:RS):(tk w st).2.big=st.big:=by unfold tk; split <;> rfl
open Go Go.RowKit Go.Shelf Go.Maps Go.Sort
attribute [local go_sem] Oper.semAt_some
def qFD {α:Type} (f:Nat→α) (k:Nat):List α:=(List.range k).map f
theorem qKX {α:Type} (f:Nat→α) (k:Nat):qFD f (k+1)=qFD f k++[f k]:=by simp [qFD,List.range_succ]
theorem qOS {α:Type} (f:Nat→α) (k:Nat):(qFD f k).length=k:=by simp [qFD]
theorem qKW (zs:List (List UInt8)) {k:Nat} (hk:k≤zs.length):qFD (fun j=>zs[j]?.getD []) k=zs.take k:=by
 apply List.ext_getElem
 ·simp [qFD,hk]
 intro i h1 h2
 have:i<zs.length:=by simp [qFD] at h1; omega
 simp [qFD,this]
theorem qYL (zs:List (List UInt8)):qFD (fun j=>zs[j]?.getD []) zs.length=zs:=by rw [qKW zs (Nat.le_refl _),List.take_length]
set_option maxRecDepth 100000 in
set_option maxHeartbeats 2000000 in
theorem qRP (F : Fence) (n : Nat) (h7 : F.fn 99) (hro : F.round = none) (hn : 1 ≤ n) (l Bs n₀ b off len cap : Nat) (zs : List (List UInt8)) (hreach : len * 16 ≤ 140737488351232) (hb : b < n₀) (J Jx : List (List UInt8) → World → Prop)
  (hY:∀ pre x W,J pre W→pre.length<len→YieldAt F (n-1) Tryz.prog l #[encStr x] W fun e W' =>
   (e = .returned (.bool true)∧J (pre++[x]) W'∧Below n₀ W W')∨(e = .returned (.bool false)∧Jx (pre++[x]) W'))
  (W:World) (hBs:W.cell? ⟨Bs,0,none⟩=some (.slice (some ⟨b,off,none⟩) len cap)) (hc:∀ j,j<len→W.cell? ⟨b,off+j,none⟩=some (encStr (zs[j]?.getD []))) (h0:J [] W) :
  CallsIn F n Tryz.prog 99 #[.func (.yield l) #[] #[],.pointer (some ⟨Bs,0,none⟩)] W fun e W'=>(∃ v,e = .returned v) ∧
   ((∃ ys,ys=qFD (fun j=>zs[j]?.getD []) len∧J ys W')∨(∃ pre,(∃ k,k≤len∧pre=qFD (fun j=>zs[j]?.getD []) k)∧Jx pre W')):=by
 refine callsIn_of_wp Tryz.func99 rfl h7 ?_ hro
 simp only [Tryz.ntmps99,List.size_toArray,List.length_cons,List.length_nil,Nat.reduceAdd,Nat.reduceSub,Array.replicate_succ,Array.replicate_zero,List.push_toArray,List.append_toArray,List.nil_append,List.cons_append]
 gi_wp2
 gi_loopw [7] (fun i wr=>∃ k:Nat,k≤len∧i = .int .i64 k∧J (qFD (fun j=>zs[j]?.getD []) k) wr∧Below n₀ W wr)
  (fun i _=>len-(intOf i).toNat)
 case atStart=>exact ⟨0,Nat.zero_le _,rfl,h0,Below.refl _ _⟩
 case round =>
  obtain ⟨k,hk,rfl,hJs,hnx⟩:=hrel
  have hcx:k<len→wr.cell? ⟨b,off+k,none⟩=some (encStr (zs[k]?.getD [])):=fun h=>(hnx.cell (p:=⟨b,off+k,none⟩) hb).trans (hc k h)
  by_cases hlt:k<len
  ·obtain ⟨fn,tmps,assign,body,hy,hR⟩:=hY _ (zs[k]?.getD []) wr hJs (by rw [qOS]; exact hlt)
   have hcx':=hcx hlt
   gi_wp2
   refine hR.mono ?_
   rintro e W3 (⟨rfl,hJ3,hk3⟩ | ⟨rfl,hJx3⟩)
   ·gi_wp2
    go_roundw
    case rel=>exact ⟨k+1,by omega,by simp,by rw [qKX]; exact hJ3,hnx.trans hk3⟩
    case measure=>simp [intOf]; omega
   gi_wp2
   refine bodyPost_ret (results_none rfl _ _ _) rfl ?_
   exact ⟨⟨_,rfl⟩,.inr ⟨_,⟨k+1,by omega,(qKX _ _).symm⟩,hJx3⟩⟩
  obtain rfl:k=len:=by omega
  gi_wp2
  go_end0
  exact ⟨⟨_,rfl⟩,.inl ⟨_,rfl,hJs⟩⟩
def qRI (n₀:Nat) (W:World) (sv:Value) (zs:List (List UInt8)):Prop :=
 (zs=[]∧∃ a c,sv = .slice a 0 c)∨∃ b off cap,sv = .slice (some ⟨b,off,none⟩) zs.length cap∧b<n₀∧∀ j,j<zs.length→W.cell? ⟨b,off+j,none⟩=some (encStr (zs[j]?.getD []))
theorem qRI.below {n₀:Nat} {A B:World} (h:Below n₀ A B) {sv:Value} {zs:List (List UInt8)}:qRI n₀ A sv zs→qRI n₀ B sv zs
 | .inl e => .inl e
 | .inr ⟨b,off,cap,e,hb,hc⟩ => .inr ⟨b,off,cap,e,hb,fun j hj=>(h.cell (p:=⟨b,off+j,none⟩) hb).trans (hc j hj)⟩
set_option maxRecDepth 100000 in
set_option maxHeartbeats 1000000 in
theorem qHW (F : Fence) (n : Nat) (h7 : F.fn 99) (hro : F.round = none) (l Bs : Nat) (a : Option Addr) (c : Nat) (J : List (List UInt8) → World → Prop) (W : World) (hBs : W.cell? ⟨Bs, 0, none⟩ = some (.slice a 0 c)) (h0 : J [] W) :
  CallsIn F n Tryz.prog 99 #[.func (.yield l) #[] #[],.pointer (some ⟨Bs,0,none⟩)] W fun e W'=>(∃ v,e = .returned v)∧J [] W':=by
 refine callsIn_of_wp Tryz.func99 rfl h7 ?_ hro
 simp only [Tryz.ntmps99,List.size_toArray,List.length_cons,List.length_nil,Nat.reduceAdd,Nat.reduceSub,Array.replicate_succ,Array.replicate_zero,List.push_toArray,List.append_toArray,List.nil_append,List.cons_append]
 gi_wp2
 gi_loopw [7] (fun i wr=>i = .int .i64 0∧J [] wr) (fun _ _=>0)
 case atStart=>exact ⟨rfl,h0⟩
 case round =>
  obtain ⟨rfl,hJs⟩:=hrel
  gi_wp2
  go_end0
  exact ⟨⟨_,rfl⟩,hJs⟩
theorem qMP (F : Fence) (n : Nat) (h7 : F.fn 99) (hro : F.round = none) (hn : 1 ≤ n) (Bs n₀ : Nat) (sv : Value) (zs : List (List UInt8)) (hreach : zs.length * 16 ≤ 140737488351232) (w : World) (hBs : Bs < w.heap.size) (hn₀ : n₀ ≤ w.heap.size)
  (hc:w.cell? ⟨Bs,0,none⟩=some sv) (hI:qRI n₀ w sv zs) :
  SeqStopsK F n Tryz.prog 99 #[.pointer (some ⟨Bs,0,none⟩)] (fun x:List UInt8 => #[encStr x]) (Below n₀) (fun ys=>ys=zs) (fun pre=>pre <+: zs) zs.length w:=fun l J Jx W hW _ _ hY h0=>by
 have hc':=(hW.cell (p:=⟨Bs,0,none⟩) hBs).trans hc
 rcases hI.below (hW.mono hn₀) with ⟨rfl,a,c,rfl⟩ | ⟨b,off,cap,rfl,hb,hcs⟩
 ·exact (qHW F n h7 hro l Bs a c J W hc' h0).mono fun e W' ⟨he,hj⟩=>⟨he,.inl ⟨_,rfl,hj⟩⟩
 refine (qRP F n h7 hro hn l Bs n₀ b off zs.length cap zs hreach hb J Jx hY W hc' hcs h0).mono ?_
 rintro e W' ⟨he,⟨ys,rfl,hj⟩ | ⟨pre,⟨k,hk,rfl⟩,hj⟩⟩
 ·exact ⟨he,.inl ⟨_,qYL zs,hj⟩⟩
 exact ⟨he,.inr ⟨_,by rw [qKW zs hk]; exact List.take_prefix _ _,hj⟩⟩
theorem zCJ:(Tryz.prog.info? 9).map (fun i=>(i.zero,i.size,i.bytes))=some (some (.string .empty),1,16):=by kernel_rfl
set_option maxRecDepth 100000 in
set_option maxHeartbeats 2000000 in
theorem qOE (F : Fence) (n : Nat) (h3 : F.fn 137) (h5 : F.fn 99) (hro : F.round = none) (hn : 3 ≤ n) (Bs : Nat) (sv : Value) (zs : List (List UInt8)) (hlen : zs.length ≤ maxLen) (hbytes : zs.length * 16 ≤ 140737488351232) (w : World)
  (hBs:Bs<w.heap.size) (hc0:w.cell? ⟨Bs,0,none⟩=some sv) (hI:qRI w.heap.size w sv zs) :
  CallsIn F n Tryz.prog 137 #[.slice none 0 0,.func (.func 99) #[] #[.pointer (some ⟨Bs,0,none⟩)]] w fun e W'=>∃ v,e = .returned v∧W'.ownsRow w.heap.size 9 1 v zs.length (zs.map encStr)∧Below w.heap.size w W':=by
 have h1:1≤n:=by omega
 obtain ⟨i0,hi,hz0,hz1,hz2⟩:=info_parts zCJ
 refine callsIn_of_wp_marks Tryz.func137 rfl h3 ?_ hro
 simp only [Tryz.ntmps137,List.size_toArray,List.length_cons,List.length_nil,Nat.reduceAdd,Nat.reduceSub,Array.replicate_succ,Array.replicate_zero,List.push_toArray,List.append_toArray,List.nil_append,List.cons_append]
 gi_wp2
 have bO:=Boxed.new w 27 (.slice none 0 0)
 have hB0:Below w.heap.size w (w.alloc (.cells #[.slice none 0 0] 27)):=(Below.refl _ w).alloc (Nat.le_refl _) _
 refine wpIn_rangeFunc_ownG hro h1 (gf:=99) (lb := #[.pointer (some ⟨Bs,0,none⟩)]) rfl h5 (enters_of Tryz.func99 (by kernel_rfl) rfl)
  (qMP F (n-1) h5 hro (by omega) Bs w.heap.size sv zs hbytes _ (by simp; omega) (by simp) ((hB0.cell (p:=⟨Bs,0,none⟩) hBs).trans hc0) (hI.below hB0)) belowK_t (belowK_b (by simp)) (Below.refl _ _) (fun _=>rfl)
  (fun pre W=>(∃ v,Boxed W w.heap.size 27 v∧W.ownsRow w.heap.size 9 1 v pre.length (pre.map encStr)∧True)∧Below w.heap.size w W)
  (fun _ _ _=>False)
  (OwnFrom.and (Own.from (holdsRow_own w.heap.size w.heap.size 27 9 1 (fun pre:List (List UInt8)=>pre.length) (fun pre=>pre.map encStr) (fun _ _=>True)) _) (ownFrom_below (Nat.le_refl _) (by simp)))
  (fun _ _ _ _ _ hs _ _=>hs)
  ⟨⟨_,bO,World.ownsRow_nil _ _ _ _,trivial⟩,hB0⟩
  (fun x=>{ tmps := #[.slice none 0 0,.func (.func 99) #[] #[.pointer (some ⟨Bs,0,none⟩)],.pointer (some ⟨w.heap.size,0,none⟩),undef,.slice none 0 0,encStr x,.func (.func 99) #[] #[.pointer (some ⟨Bs,0,none⟩)],encStr x,undef,undef,undef,undef,undef],defers:=[] }) ?assign ?body ?done ?stop
 case assign =>
  intro l x W K hK
  gi_wp2
  exact hK
 case body =>
  rintro l pre x W ⟨⟨v,hv,hrow,_⟩,hB⟩ hlt
  have hc:=hv.cell
  gi_wp2_with (gi_at_builtin; refine wpListIn_append_own _ rfl _ _ 27 rfl w.heap.size 9 i0 (.string .empty) 1 16 Tryz.underlying27 hi hz0 hz1 hz2 rfl (by decide) _ _ _ rfl (hrow.alloc _) ⟨W.heap.size,0,none⟩ 1 1 [encStr x] rfl rfl (cell_one_new _ _ _) (by simp [Value.oneCell']) (by omega) (by omega) (by have:=hB.size; simp; omega) ?_; intro v' w1 hown' hgrow _; obtain ⟨g',cap',rfl⟩:=ownsRow_succ hown'; obtain ⟨hv1,hv2,hr2,hk2,hb2⟩:=hv.appended (by decide) hrow hB.size (Nat.le_refl _) hown' hgrow; have hc1:=hv1.cell; have hf1:=hv1.frozen)
  exact ⟨hk2.from _,hb2,⟨_,hv2,by simpa using hr2,trivial⟩,hB.trans hb2⟩
 case done =>
  rintro D ys W hD rfl ⟨⟨v,hv,hrow,_⟩,hB⟩ hK
  have hc:=hv.cell
  gi_wp2
  refine ⟨by simp,.inl ⟨_,_,rfl,run_takeDeferred hK, ?_⟩⟩
  exact ⟨_,results_tmp rfl _ _ _,v,rfl,ownsRow_putObj hrow _ hK rfl,hB.trans (belowK_b (w:=w) (Nat.le_refl _) W D _ _ (by simp at hD; omega) hK rfl rfl)⟩
 case stop =>
  rintro D c pre W _ _ h _
  exact h.elim
set_option maxRecDepth 100000 in
set_option maxHeartbeats 2000000 in
theorem qTH (F : Fence) (n : Nat) (h2 : F.fn 97) (h3 : F.fn 137) (h5 : F.fn 99) (hro : F.round = none) (hn : 4 ≤ n) (Bs : Nat) (sv : Value) (zs : List (List UInt8)) (hlen : zs.length ≤ maxLen) (hbytes : zs.length * 16 ≤ 140737488351232) (w : World)
  (hBs:Bs<w.heap.size) (hc0:w.cell? ⟨Bs,0,none⟩=some sv) (hI:qRI w.heap.size w sv zs) :
  CallsIn F n Tryz.prog 97 #[.func (.func 99) #[] #[.pointer (some ⟨Bs,0,none⟩)]] w fun e W'=>∃ v,e = .returned v∧W'.ownsRow w.heap.size 9 1 v zs.length (zs.map encStr)∧Below w.heap.size w W':=by
 have h1:1≤n:=by omega
 refine callsIn_of_wp Tryz.func97 rfl h2 ?_ hro
 simp only [Tryz.ntmps97,List.size_toArray,List.length_cons,List.length_nil,Nat.reduceAdd,Nat.reduceSub,Array.replicate_succ,Array.replicate_zero,List.push_toArray,List.append_toArray,List.nil_append,List.cons_append]
 gi_wp2_with (gi_at_call 137; refine (qOE F (n-1) h3 h5 hro (by omega) Bs sv zs hlen hbytes _ hBs hc0 hI).mono ?_; rintro e W ⟨v,rfl,hrow,hb⟩)
 go_ret
 exact ⟨v,rfl,hrow,hb⟩
end Go.Proofs.YtgcbapchinideaaGreatDoor
namespace Go.Proofs
open Go.Shelf
def Tryz.lays106_ren:Go.Shelf.Ren:=⟨fun | 106=>123 | 213=>165 | 265=>204 | n=>n,fun | 9=>9 | 3=>3 | n=>n,fun | n=>n⟩
theorem Tryz.lays106:Go.Proofs.Lays.n106 Tryz.prog Tryz.lays106_ren:={
 mixed:=by kernel_rfl
 f106:=Tryz.func123.trans (congrArg some (by kernel_rfl))
 f213:=Tryz.func165.trans (congrArg some (by kernel_rfl))
 f265:=Tryz.func204.trans (congrArg some (by kernel_rfl))
 t3:=Tryz.underlying3
 a3:=Tryz.isAgg3
 z3:=Tryz.sizeOf3
 v3:=Tryz.zeroValue3
 t9:=Tryz.underlying9
 a9:=Tryz.isAgg9
 z9:=Tryz.sizeOf9
 v9:=Tryz.zeroValue9 }
def Tryz.lays105_ren:Go.Shelf.Ren:=⟨fun | 105=>108 | 212=>147 | 99=>72 | 165=>148 | 166=>149 | 170=>150 | 169=>151 | 263=>191 | 264=>192 | 206=>103 | 240=>193 | 241=>194 | 276=>220 | 277=>221 | n=>n,fun | 9=>9 | 3=>3 | 4=>4 | 20=>20 | 0=>0 | 46=>148 | 109=>159 | 5=>5 | 72=>163 | 76=>166 | 51=>202 | 146=>217 | 53=>24 | 148=>219 | 70=>161 | 37=>81 | 75=>165 | 127=>221 | 164=>241 | 80=>169 | n=>n,fun | n=>n⟩
theorem Tryz.lays105:Go.Proofs.Lays.n105 Tryz.prog Tryz.lays105_ren:={
 mixed:=by kernel_rfl
 f99:=Tryz.func72.trans (congrArg some (by kernel_rfl))
 f105:=Tryz.func108.trans (congrArg some (by kernel_rfl))
 f165:=Tryz.func148.trans (congrArg some (by kernel_rfl))
 f166:=Tryz.func149.trans (congrArg some (by kernel_rfl))
 f169:=Tryz.func151.trans (congrArg some (by kernel_rfl))
 f170:=Tryz.func150.trans (congrArg some (by kernel_rfl))
 f206:=Tryz.func103.trans (congrArg some (by kernel_rfl))
 f212:=Tryz.func147.trans (congrArg some (by kernel_rfl))
 f240:=Tryz.func193.trans (congrArg some (by kernel_rfl))
 f241:=Tryz.func194.trans (congrArg some (by kernel_rfl))
 f263:=Tryz.func191.trans (congrArg some (by kernel_rfl))
 f264:=Tryz.func192.trans (congrArg some (by kernel_rfl))
 f276:=Tryz.func220.trans (congrArg some (by kernel_rfl))
 f277:=Tryz.func221.trans (congrArg some (by kernel_rfl))
 t0:=Tryz.underlying0
 a0:=Tryz.isAgg0
 z0:=Tryz.sizeOf0
 v0:=Tryz.zeroValue0
 t3:=Tryz.underlying3
 a3:=Tryz.isAgg3
 z3:=Tryz.sizeOf3
 v3:=Tryz.zeroValue3
 t4:=Tryz.underlying4
 a4:=Tryz.isAgg4
 z4:=Tryz.sizeOf4
 v4:=Tryz.zeroValue4
 t5:=Tryz.underlying5
 a5:=Tryz.isAgg5
 z5:=Tryz.sizeOf5
 v5:=Tryz.zeroValue5
 t9:=Tryz.underlying9
 a9:=Tryz.isAgg9
 z9:=Tryz.sizeOf9
 v9:=Tryz.zeroValue9
 t20:=Tryz.underlying20
 a20:=Tryz.isAgg20
 z20:=Tryz.sizeOf20
 v20:=Tryz.zeroValue20
 t37:=Tryz.underlying81
 a37:=Tryz.isAgg81
 z37:=Tryz.sizeOf81
 v37:=Tryz.zeroValue81
 t46:=Tryz.underlying148
 a46:=Tryz.isAgg148
 z46:=Tryz.sizeOf148
 v46:=Tryz.zeroValue148
 t51:=Tryz.underlying202
 a51:=Tryz.isAgg202
 z51:=Tryz.sizeOf202
 v51:=Tryz.zeroValue202
 t53:=Tryz.underlying24
 a53:=Tryz.isAgg24
 z53:=Tryz.sizeOf24
 v53:=Tryz.zeroValue24
 t70:=Tryz.underlying161
 a70:=Tryz.isAgg161
 z70:=Tryz.sizeOf161
 v70:=Tryz.zeroValue161
 t72:=Tryz.underlying163
 a72:=Tryz.isAgg163
 z72:=Tryz.sizeOf163
 v72:=Tryz.zeroValue163
 t75:=Tryz.underlying165
 a75:=Tryz.isAgg165
 z75:=Tryz.sizeOf165
 v75:=Tryz.zeroValue165
 t76:=Tryz.underlying166
 a76:=Tryz.isAgg166
 z76:=Tryz.sizeOf166
 v76:=Tryz.zeroValue166
 t109:=Tryz.underlying159
 a109:=Tryz.isAgg159
 z109:=Tryz.sizeOf159
 v109:=Tryz.zeroValue159
 t127:=Tryz.underlying221
 a127:=Tryz.isAgg221
 z127:=Tryz.sizeOf221
 v127:=Tryz.zeroValue221
 t146:=Tryz.underlying217
 a146:=Tryz.isAgg217
 z146:=Tryz.sizeOf217
 v146:=Tryz.zeroValue217
 t148:=Tryz.underlying219
 a148:=Tryz.isAgg219
 z148:=Tryz.sizeOf219
 v148:=Tryz.zeroValue219
 t164:=Tryz.underlying241
 a164:=Tryz.isAgg241
 z164:=Tryz.sizeOf241
 v164:=Tryz.zeroValue241 }
def Tryz.lays190_ren:Go.Shelf.Ren:=⟨fun | 190=>98 | 125=>139 | 258=>138 | 128=>186 | 129=>187 | 302=>177 | 303=>178 | 304=>179 | 305=>180 | 306=>181 | 307=>182 | 308=>183 | 309=>184 | 310=>185 | 333=>211 | 329=>212 | 330=>213 | 334=>214 | 335=>215 | 336=>205 | 344=>234 | n=>n,fun | 31=>27 | 9=>9 | 3=>3 | 46=>148 | 0=>0 | 51=>202 | 53=>24 | 4=>4 | 183=>196 | 182=>195 | 131=>121 | 5=>5 | 218=>232 | 222=>236 | 228=>250 | 229=>107 | n=>n,fun | n=>n⟩
theorem Tryz.lays190:Go.Proofs.Lays.n190 Tryz.prog Tryz.lays190_ren:={
 mixed:=by kernel_rfl
 f125:=Tryz.func139.trans (congrArg some (by kernel_rfl))
 f128:=Tryz.func186.trans (congrArg some (by kernel_rfl))
 f129:=Tryz.func187.trans (congrArg some (by kernel_rfl))
 f190:=Tryz.func98.trans (congrArg some (by kernel_rfl))
 f258:=Tryz.func138.trans (congrArg some (by kernel_rfl))
 f302:=Tryz.func177.trans (congrArg some (by kernel_rfl))
 f303:=Tryz.func178.trans (congrArg some (by kernel_rfl))
 f304:=Tryz.func179.trans (congrArg some (by kernel_rfl))
 f305:=Tryz.func180.trans (congrArg some (by kernel_rfl))
 f306:=Tryz.func181.trans (congrArg some (by kernel_rfl))
 f307:=Tryz.func182.trans (congrArg some (by kernel_rfl))
 f308:=Tryz.func183.trans (congrArg some (by kernel_rfl))
 f309:=Tryz.func184.trans (congrArg some (by kernel_rfl))
 f310:=Tryz.func185.trans (congrArg some (by kernel_rfl))
 f329:=Tryz.func212.trans (congrArg some (by kernel_rfl))
 f330:=Tryz.func213.trans (congrArg some (by kernel_rfl))
 f333:=Tryz.func211.trans (congrArg some (by kernel_rfl))
 f334:=Tryz.func214.trans (congrArg some (by kernel_rfl))
 f335:=Tryz.func215.trans (congrArg some (by kernel_rfl))
 f336:=Tryz.func205.trans (congrArg some (by kernel_rfl))
 f344:=Tryz.func234.trans (congrArg some (by kernel_rfl))
 t0:=Tryz.underlying0
 a0:=Tryz.isAgg0
 z0:=Tryz.sizeOf0
 v0:=Tryz.zeroValue0
 t3:=Tryz.underlying3
 a3:=Tryz.isAgg3
 z3:=Tryz.sizeOf3
 v3:=Tryz.zeroValue3
 t4:=Tryz.underlying4
 a4:=Tryz.isAgg4
 z4:=Tryz.sizeOf4
 v4:=Tryz.zeroValue4
 t5:=Tryz.underlying5
 a5:=Tryz.isAgg5
 z5:=Tryz.sizeOf5
 v5:=Tryz.zeroValue5
 t9:=Tryz.underlying9
 a9:=Tryz.isAgg9
 z9:=Tryz.sizeOf9
 v9:=Tryz.zeroValue9
 t31:=Tryz.underlying27
 a31:=Tryz.isAgg27
 z31:=Tryz.sizeOf27
 v31:=Tryz.zeroValue27
 t46:=Tryz.underlying148
 a46:=Tryz.isAgg148
 z46:=Tryz.sizeOf148
 v46:=Tryz.zeroValue148
 t51:=Tryz.underlying202
 a51:=Tryz.isAgg202
 z51:=Tryz.sizeOf202
 v51:=Tryz.zeroValue202
 t53:=Tryz.underlying24
 a53:=Tryz.isAgg24
 z53:=Tryz.sizeOf24
 v53:=Tryz.zeroValue24
 t131:=Tryz.underlying121
 a131:=Tryz.isAgg121
 z131:=Tryz.sizeOf121
 v131:=Tryz.zeroValue121
 t182:=Tryz.underlying195
 a182:=Tryz.isAgg195
 z182:=Tryz.sizeOf195
 v182:=Tryz.zeroValue195
 t183:=Tryz.underlying196
 a183:=Tryz.isAgg196
 z183:=Tryz.sizeOf196
 v183:=Tryz.zeroValue196
 t218:=Tryz.underlying232
 a218:=Tryz.isAgg232
 z218:=Tryz.sizeOf232
 v218:=Tryz.zeroValue232
 t222:=Tryz.underlying236
 a222:=Tryz.isAgg236
 z222:=Tryz.sizeOf236
 v222:=Tryz.zeroValue236
 t228:=Tryz.underlying250
 a228:=Tryz.isAgg250
 z228:=Tryz.sizeOf250
 v228:=Tryz.zeroValue250
 t229:=Tryz.underlying107
 a229:=Tryz.isAgg107
 z229:=Tryz.sizeOf107
 v229:=Tryz.zeroValue107 }
def Tryz.lays156_ren:Go.Shelf.Ren:=⟨fun | 156=>135 | 165=>148 | 166=>149 | 169=>151 | 240=>193 | 241=>194 | 276=>220 | 277=>221 | n=>n,fun | 31=>27 | 9=>9 | 3=>3 | 4=>4 | 0=>0 | 20=>20 | 72=>163 | 76=>166 | 70=>161 | 37=>81 | 75=>165 | 127=>221 | 164=>241 | 5=>5 | 80=>169 | n=>n,fun | n=>n⟩
theorem Tryz.lays156:Go.Proofs.Lays.n156 Tryz.prog Tryz.lays156_ren:={
 mixed:=by kernel_rfl
 f156:=Tryz.func135.trans (congrArg some (by kernel_rfl))
 f165:=Tryz.func148.trans (congrArg some (by kernel_rfl))
 f166:=Tryz.func149.trans (congrArg some (by kernel_rfl))
 f169:=Tryz.func151.trans (congrArg some (by kernel_rfl))
 f240:=Tryz.func193.trans (congrArg some (by kernel_rfl))
 f241:=Tryz.func194.trans (congrArg some (by kernel_rfl))
 f276:=Tryz.func220.trans (congrArg some (by kernel_rfl))
 f277:=Tryz.func221.trans (congrArg some (by kernel_rfl))
 t0:=Tryz.underlying0
 a0:=Tryz.isAgg0
 z0:=Tryz.sizeOf0
 v0:=Tryz.zeroValue0
 t3:=Tryz.underlying3
 a3:=Tryz.isAgg3
 z3:=Tryz.sizeOf3
 v3:=Tryz.zeroValue3
 t4:=Tryz.underlying4
 a4:=Tryz.isAgg4
 z4:=Tryz.sizeOf4
 v4:=Tryz.zeroValue4
 t9:=Tryz.underlying9
 a9:=Tryz.isAgg9
 z9:=Tryz.sizeOf9
 v9:=Tryz.zeroValue9
 t20:=Tryz.underlying20
 a20:=Tryz.isAgg20
 z20:=Tryz.sizeOf20
 v20:=Tryz.zeroValue20
 t31:=Tryz.underlying27
 a31:=Tryz.isAgg27
 z31:=Tryz.sizeOf27
 v31:=Tryz.zeroValue27
 t37:=Tryz.underlying81
 a37:=Tryz.isAgg81
 z37:=Tryz.sizeOf81
 v37:=Tryz.zeroValue81
 t70:=Tryz.underlying161
 a70:=Tryz.isAgg161
 z70:=Tryz.sizeOf161
 v70:=Tryz.zeroValue161
 t72:=Tryz.underlying163
 a72:=Tryz.isAgg163
 z72:=Tryz.sizeOf163
 v72:=Tryz.zeroValue163
 t75:=Tryz.underlying165
 a75:=Tryz.isAgg165
 z75:=Tryz.sizeOf165
 v75:=Tryz.zeroValue165
 t76:=Tryz.underlying166
 a76:=Tryz.isAgg166
 z76:=Tryz.sizeOf166
 v76:=Tryz.zeroValue166
 t127:=Tryz.underlying221
 a127:=Tryz.isAgg221
 z127:=Tryz.sizeOf221
 v127:=Tryz.zeroValue221
 t164:=Tryz.underlying241
 a164:=Tryz.isAgg241
 z164:=Tryz.sizeOf241
 v164:=Tryz.zeroValue241 }
end Go.Proofs
namespace Go.Proofs.YtgcbapchinideaaGreatDoor
open Sy Go
variable {G:qK}
theorem zBD {M:qT} {vs:Array Value} {s t:List UInt8} (hsz:vs.size=2) (h:∀ (i:Nat) u d,vs[i]?=some u→[PD.str s,PD.str t][i]?=some d→Rd M u d):∃ a b:ByteArray,vs = #[.string a,.string b]∧a.data.toList=s∧b.data.toList=t:=by
 obtain ⟨l⟩:=vs
 match l,hsz with
 | [u,v],_ =>
  have h1:=h 0 u (.str s) rfl rfl
  have h2:=h 1 v (.str t) rfl rfl
  cases h1 with
  | @str a _ ha _ =>
  cases h2 with
  | @str b _ hb _=>exact ⟨a,b,rfl,ha,hb⟩
theorem qTM {M:qT} {vs:Array Value} {s:List UInt8} {n:Int} (hsz:vs.size=2) (h:∀ (i:Nat) u d,vs[i]?=some u→[PD.str s,PD.int .i64 n][i]?=some d→Rd M u d):∃ a:ByteArray,vs = #[.string a,.int .i64 n]∧a.data.toList=s∧n≤9223372036854775807:=by
 obtain ⟨l⟩:=vs
 match l,hsz with
 | [u,v],_ =>
  have h1:=h 0 u (.str s) rfl rfl
  have h2:=h 1 v (.int .i64 n) rfl rfl
  cases h1 with
  | @str a _ ha _ =>
  cases h2 with
  | int h3 h4=>exact ⟨a,rfl,ha,by rw [jI] at h4; exact h4⟩
theorem qTR (a b:List UInt8):AFn Tryz.prog G 123 [.str a,.str b] (.int .i64 (Lib.compareBytes a b)):=by
 refine AFn.of_calls (vY Tryz.func123 (by kernel_rfl) rfl) fun M w vs hg hmem hsz hrd => ?_
 obtain ⟨x,y,rfl,rfl,rfl⟩:=zBD hsz hrd
 refine (Any.strings_Compare Tryz.lays106 x y w).mono ?_
 rintro e w' ⟨rfl,rfl⟩
 have hb : -1≤Lib.compareBytes x.data.toList y.data.toList∧Lib.compareBytes x.data.toList y.data.toList≤1:=by
  generalize x.data.toList=l; generalize y.data.toList=m
  induction l generalizing m with
  | nil=>cases m <;> simp [Lib.compareBytes]
  | cons a l ih =>
   cases m with
   | nil=>simp [Lib.compareBytes]
   | cons b m =>
    simp only [Lib.compareBytes]
    split
    ·omega
    split
    ·omega
    exact ih m
 exact ⟨_,rfl,.int (by rw [xA]; simp only [yS]; omega) (by rw [jI]; simp only [yT]; omega),RowKit.Below.refl _ _⟩
theorem qKT:Builder.Extra Tryz.prog Tryz.lays105_ren where
 sizeBuilder:=by kernel_rfl
 liesBuilder:=by kernel_rfl
 t5:=Tryz.underlying5
 a5:=Tryz.isAgg5
 z5:=Tryz.sizeOf5
 v5:=Tryz.zeroValue5
 infoByte:=by kernel_rfl
 cellsByte:=by kernel_rfl
 sizeByte:=by kernel_rfl
 neB5:=by decide
theorem qYB (s:List UInt8) (n:Nat) (h:s.length * n≤140737488355328):AFn Tryz.prog G 108 [.str s,.int .i64 n] (.str (Lib.repeatL s n)):=by
 refine AFn.of_calls (vY Tryz.func108 (by kernel_rfl) rfl) fun M w vs hg hmem hsz hrd => ?_
 obtain ⟨x,rfl,rfl,hn⟩:=qTM hsz hrd
 refine (Any.strings_Repeat Tryz.lays105 qKT x n w (by omega) (by rw [jC rfl]; exact h)).mono ?_
 rintro e w' ⟨rfl,hb⟩
 refine ⟨_,rfl,.str (by simp) ?_,hb⟩
 rw [Lib.repeatL_length,Nat.mul_comm]; simp only [maxLen]; omega
open Sy Go Go.RowKit Go.Shelf Go.Maps Go.Sort
attribute [local go_sem] Oper.semAt_some
set_option linter.unusedSimpArgs false
set_option linter.unusedVariables false
def qR (ks:List (List UInt8)):List (List UInt8):=ks.mergeSort fun x y=>decide (x≤y)
theorem jQ (ks:List (List UInt8)):(qR ks).length=ks.length:=List.length_mergeSort _
set_option maxRecDepth 100000 in
set_option maxHeartbeats 2000000 in
theorem qMZ (Bs : Nat) (sv : Value) (zs : List (List UInt8)) (hlen : zs.length ≤ maxLen) (hbytes : zs.length * 16 ≤ 140737488351232) (w : World) (hBs : Bs < w.heap.size) (hc0 : w.cell? ⟨Bs, 0, none⟩ = some sv) (hI : qRI w.heap.size w sv zs) :
  Calls Tryz.prog 67 #[.func (.func 99) #[] #[.pointer (some ⟨Bs,0,none⟩)]] w fun e W'=>∃ v,e = .returned v∧W'.ownsRow w.heap.size 9 1 v zs.length ((qR zs).map encStr)∧Below w.heap.size w W':=by
 refine (callsIn_wide (n:=6)).1 ?_
 have h1:1≤6:=by omega
 refine callsIn_of_wp Tryz.func67 rfl trivial ?_ rfl
 simp only [Tryz.ntmps67,List.size_toArray,List.length_cons,List.length_nil,Nat.reduceAdd,Nat.reduceSub,Array.replicate_succ,Array.replicate_zero,List.push_toArray,List.append_toArray,List.nil_append,List.cons_append]
 gi_wp2_with (refine ⟨trivial, ?_⟩; gi_at_call 97; refine (qTH Fence.wide 5 trivial trivial trivial rfl (by omega) Bs sv zs hlen hbytes _ hBs hc0 hI).mono ?_; rintro e W ⟨v,rfl,hrow,hb⟩)
 rcases hrow.2 with ⟨rfl,hz⟩ | ⟨gb,cap,cur,rfl,hbase,hgb,r1,r2,r3,r4⟩
 ·have hss:zs=[]:=List.eq_nil_of_length_eq_zero hz
  subst hss
  gi_wp2_with (refine ⟨trivial, ?_⟩; gi_at_call 98; refine (callsIn_wide.2 (Any.slices_Sort_string_none Tryz.lays190 none 0 W)).mono ?_; rintro e w' ⟨rfl,rfl⟩)
  go_ret
  exact ⟨.slice none 0 0,rfl,by simpa [qR] using hrow,hb⟩
 have hH:Holds encStr W gb 0 zs.toArray:=holds_of_block hgb (by simpa using r4)
 have hgl:gb<W.heap.size:=(Array.getElem?_eq_some_iff.1 hgb).1
 have cS:=Any.slices_Sort_string Tryz.lays190 gb 0 cap zs W hH hgl (by omega)
 gi_wp2_with (refine ⟨trivial, ?_⟩; gi_at_call 98; refine (callsIn_wide.2 cS).mono ?_; rintro e w' ⟨rfl,nn,os,rfl⟩)
 go_ret
 exact ⟨_,rfl,ownsRow_sorted (by simp) hbase hgb r1 r2 r3,hb.grown (grownBy_sorted _) hb.size (fun j hj=>by cases hj; exact hbase)⟩
theorem qXF {ba:ByteArray} {s:List UInt8} (h:ba.data.toList=s):Value.string ba=encStr s:=by
 subst h; rfl
theorem zCI {M:qT} {w:World} {u:Value} {ks:List (List UInt8)} (hmem:∀ b o v,M b o=some v→w.cell? ⟨b,o,none⟩=some v) (h:Rd M u (.sl 1 (ks.map PD.str))):qRI w.heap.size w u ks∧ks.length≤maxLen∧∀ s∈ks,s.length≤maxLen:=by
 cases h with
 | @sl a n c _ _ b o hn hnc hcm ha h5 h6 h7 =>
 rw [List.length_map] at hn
 by_cases hk:ks=[]
 ·subst hk; simp at hn; subst hn; exact ⟨.inl ⟨rfl,a,c,rfl⟩,by simp,by simp⟩
 have hpos:0<ks.length:=List.length_pos_iff.2 hk
 obtain rfl:=ha (by omega)
 subst hn
 have hcell:∀ j,j<ks.length→w.cell? ⟨b,o+j,none⟩=some (encStr (ks[j]?.getD []))∧(ks[j]?.getD []).length≤maxLen:=fun j hj=>by
  have hg:(ks.map PD.str)[j]?=some (.str ks[j]):=by simp [hj]
  obtain ⟨u,hu,_⟩:=h6 j _ 0 hg (by omega)
  have h8:=h7 j _ 0 _ u hg rfl hu
  cases h8 with
  | @str ba _ hba hl =>
  have:=hmem _ _ _ hu
  simp only [Nat.mul_one,Nat.add_zero] at this
  refine ⟨by rw [this,qXF hba]; simp [hj],by simpa [hj] using hl⟩
 refine ⟨.inr ⟨b,o,c,rfl,yW (hcell 0 hpos).1,fun j hj=>(hcell j hj).1⟩,by omega,fun s hs => ?_⟩
 obtain ⟨j,hj,rfl⟩:=List.mem_iff_getElem.1 hs
 have:=(hcell j hj).2
 simpa [hj] using this
theorem qVX (i : Nat) (ks : List (List UInt8)) (hb : ks.length * 16 ≤ 140737488351232) : AX Tryz.prog G 67 [.func (.func 99) [] [.ptr i 0]] [(i, .vars 27 [.p (.sl 1 (ks.map PD.str))])]
  (.p (.sl 1 ((qR ks).map PD.str))) [] []:=by
 refine ⟨vY Tryz.func67 (by kernel_rfl) rfl,fun M μ w vs hg rel => ?_⟩
 have hsz:vs.size=1:=rel.slots.1
 obtain ⟨l⟩:=vs
 match l,hsz with
 | [u],_ =>
 have hu:=rel.slots.2 0 u _ rfl rfl
 cases hu with
 | @func _ fa ca _ _ h1 h2 h3 h4 =>
 obtain rfl:fa = #[]:=Array.eq_empty_of_size_eq_zero h1
 obtain ⟨c⟩:=ca
 match c,h2,h4 with
 | [q],_,h4 =>
 have hq:=h4 0 q _ rfl rfl
 cases hq with
 | @ptr _ _ b hblk =>
 have hbx:=rel.box i (.vars 27 [.p (.sl 1 (ks.map PD.str))]) (List.mem_singleton.2 rfl)
 cases hbx with
 | @vars _ _ b' arr g0 g1 g2 g3 g4 =>
 rw [hblk] at g0
 cases g0
 obtain ⟨al⟩:=arr
 match al,g2,g1,g4 with
 | [sv],_,g1,g4 =>
 have hsv:=(g4 0 sv _ rfl rfl).p_inv
 obtain ⟨hS,hlen,hsl⟩:=zCI rel.mem hsv
 have hbl:b<w.heap.size:=(Array.getElem?_eq_some_iff.1 g1).1
 refine (qMZ b sv ks hlen hb w hbl (by simp [World.cell?,g1]) hS).mono ?_
 rintro e w' ⟨v,rfl,hrow,hbel⟩
 have hkeep:∀ b o v,M b o=some v→w'.cell? ⟨b,o,none⟩=some v:=fun b o v hv=>by
  have h:=rel.mem b o v hv
  exact (World.cell?_of_block (w:=w) (hbel.block b (yW h))).trans h
 have base : ∀ M' : qT, (∀ b o v, M b o = some v → M' b o = some v) → (∀ b o v, M' b o = some v → w'.cell? ⟨b, o, none⟩ = some v) → (∀ b o, b < w.heap.size → M' b o = M b o) → Rd M' v (.sl 1 ((qR ks).map PD.str)) →
   ∃ v_1 M' μ',Ending.returned v=Ending.returned v_1∧Rel ⟨w.heap.size,w,M,μ,wY μ [(i,.vars 27 [.p (.sl 1 (ks.map PD.str))])]⟩ M' μ' ⟨[.p (.sl 1 ((qR ks).map PD.str))],[],[],0⟩ #[v_1] w':=by
  intro M' hM hmem hold hrd
  refine ⟨v,M',μ,rfl,hmem,hM,fun b o hb=>hold b o (by have:¬ w.heap.size≤b:=fun e=>hb (.inl e); omega),⟨rfl,fun k u x hu hx => ?_⟩,fun i hi=>by simp at hi,fun i b hi=>by simp at hi,by simp,fun i j b hi=>by simp [qI] at hi,fun i b hi=>by simp [qI] at hi,hbel.size, ?_⟩
  ·cases k with
   | zero=>simp at hu hx; subst hu; subst hx; exact .p hrd
   | succ k=>simp at hu
  exact ⟨hbel.os,hbel.tape,hbel.output,hbel.size,fun k hk=>hbel.block k (by have:¬ w.heap.size≤k:=fun e=>hk (.inl e); omega)⟩
 have hsk:=jQ ks
 rcases hrow.2 with ⟨rfl,hz⟩ | ⟨gb,cap,cur,rfl,hbase,hgb,r1,r2,r3,r4⟩
 ·have hks:ks=[]:=List.eq_nil_of_length_eq_zero hz
  subst hks
  refine base M (fun _ _ _ h=>h) hkeep (fun _ _ _=>rfl) ?_
  exact .sl 0 0 (by simp [qR]) (Nat.le_refl _) (by simp [maxLen]) (fun h=>(h rfl).elim) (fun i e h=>by simp [qR] at h) (fun i e j h=>by simp [qR] at h) (fun i e j d u h=>by simp [qR] at h)
 have hcell:∀ j,w'.cell? ⟨gb,j,none⟩=cur[j]?:=fun j=>wP hgb
 let M2:qT:=fun b o=>if b=gb∧o<ks.length then cur[o]? else M b o
 have hlt:∀ b o v,M b o=some v→b<w.heap.size:=fun b o v hv=>yW (rel.mem b o v hv)
 have hcur:∀ j,j<ks.length→cur[j]?=some (encStr ((qR ks)[j]?.getD [])):=fun j hj=>by
  have h5:(cur.toList.take (ks.length * 1))[j]?=((qR ks).map encStr)[j]?:=by rw [r4]
  rw [List.getElem?_take_of_lt (by omega)] at h5
  rw [← Array.getElem?_toList,h5]; simp [show j<(qR ks).length by omega]
 have hM2:∀ o,o<ks.length→M2 gb o=cur[o]?:=fun o ho=>if_pos ⟨rfl,ho⟩
 refine base M2 (fun b o v hv => ?_) (fun b o v hv => ?_) (fun b o hb => ?_) ?_
 ·have:=hlt b o v hv
  show (if b=gb∧o<ks.length then cur[o]? else M b o)=some v
  rw [if_neg (by omega)]; exact hv
 ·have hv':(if b=gb∧o<ks.length then cur[o]? else M b o)=some v:=hv
  split at hv'
  ·rename_i h; rw [h.1,hcell]; exact hv'
  exact hkeep b o v hv'
 ·show (if b=gb∧o<ks.length then cur[o]? else M b o)=M b o
  rw [if_neg (by omega)]
 refine .sl gb 0 (by simp [hsk]) r1 r2 (fun _=>rfl) (fun j e he => ?_) (fun j e k he hk => ?_) (fun j e k d u he hd hu => ?_)
 ·simp at he; obtain ⟨s,_,rfl⟩:=he; rfl
 ·have hj:j<ks.length:=by have:=(List.getElem?_eq_some_iff.1 he).1; simp [hsk] at this; exact this
  obtain rfl:k=0:=by omega
  refine ⟨_,by simp only [Nat.mul_one,Nat.add_zero,Nat.zero_add]; rw [hM2 j hj,hcur j hj],rfl⟩
 have hj:j<ks.length:=by have:=(List.getElem?_eq_some_iff.1 he).1; simp [hsk] at this; exact this
 have hjs:j<(qR ks).length:=by omega
 simp [hjs] at he
 subst he
 cases k with
 | succ k=>simp [PD.cells] at hd
 | zero =>
  simp [PD.cells] at hd
  subst hd
  simp at hu
  rw [hM2 j hj,hcur j hj] at hu
  simp [hjs] at hu
  subst hu
  refine .str (by simp [encStr]) ?_
  exact hsl _ ((List.mergeSort_perm ks _).mem_iff.1 (List.getElem_mem hjs))
end Go.Proofs.YtgcbapchinideaaGreatDoor
namespace Go.Proofs.YtgcbapchinideaaGreatDoor
open Sy Go
set_option maxRecDepth 100000
set_option maxHeartbeats 4000000
set_option linter.unusedSimpArgs false
set_option linter.unusedVariables false
variable {G:qK}
def wX (a b:Int):Int:=if a<b then -1 else if b<a then 1 else 0
def zT (a b:List UInt8):Int:=if Op.bytesLess a b=true then -1 else if a=b then 0 else 1
def zA {α:Type} (p:α→α→Int):List α→List α→Int
 | [],[]=>0
 | [],_::_ => -1
 | _::_,[]=>1
 | x::xs,y::ys=>if p x y≠0 then p x y else zA p xs ys
theorem qUN (a:Int):AFn Tryz.prog G 162 [.int .i64 a] (.bool false):=by
 refine AFn.introU tok Tryz.func162 (by kernel_rfl) rfl rfl ?_
 simp only [Tryz.f162,qH,List.map_cons,List.map_nil]
 refine rgn [] [[0]] ?_
 refine op1 tok ?_
 refine qA (rgn [] [[],[],[],[2]] ?_)
 iterate 4 refine op1 tok ?_
 exact qA (AW.ret qG)
theorem qUO (a:Int):AFn Tryz.prog G 166 [.int .i64 a] (.bool false):=by
 refine AFn.introU tok Tryz.func166 (by kernel_rfl) rfl rfl ?_
 simp only [Tryz.f166,qH,List.map_cons,List.map_nil]
 refine rgn [] [[0]] ?_
 refine op1 tok ?_
 refine qA (rgn [] [[],[],[],[2]] ?_)
 iterate 4 refine op1 tok ?_
 exact qA (AW.ret qG)
theorem qUM (a:List UInt8):AFn Tryz.prog G 205 [.str a] (.bool false):=by
 refine AFn.introU tok Tryz.func205 (by kernel_rfl) rfl rfl ?_
 simp only [Tryz.f205,qH,List.map_cons,List.map_nil]
 refine rgn [] [[0]] ?_
 refine op1 tok ?_
 refine qA (rgn [] [[],[],[],[2]] ?_)
 iterate 4 refine op1 tok ?_
 exact qA (AW.ret qG)
theorem zDM (a b:Int):AFn Tryz.prog G 121 [.int .i64 a,.int .i64 b] (.int .i64 (wX a b)):=by
 refine AFn.introU tok Tryz.func121 (by kernel_rfl) rfl rfl ?_
 simp only [Tryz.f121,qH,List.map_cons,List.map_nil]
 refine rgn [] [[0,1]] ?_
 refine op1 tok ?_
 refine qA (rgn [.nilp,.bool false] [[],[],[0,1,5]] ?_)
 iterate 3 refine op1 tok ?_ (hv:=by first | with_reducible exact True.intro | (exact qUN a; done) | omega | simp | (simp +contextual; omega))
 refine qA (rgn [.nilp,.bool false] [[],[],[0,1,5,6]] ?_)
 iterate 3 refine op1 tok ?_ (hv:=by first | with_reducible exact True.intro | (exact qUN b; done) | omega | simp | (simp +contextual; omega))
 refine qA (AW.seq (rgn [] [[0,1,6,11]] ?_))
 refine op1 tok ?_
 refine qA (cnd ?_ ?_)
 ·intro h11
  try simp at h11
 intro h11
 try simp at h11
 refine AW.skip (AW.seq (rgn [] [[0,1,13]] ?_))
 refine op1 tok ?_
 refine qA (cnd ?_ ?_)
 ·intro h13
  try simp at h13
 intro h13
 try simp at h13
 refine AW.skip (AW.seq (rgn [] [[],[],[0,1,16]] ?_))
 iterate 3 refine op1 tok ?_
 refine qA (cnd ?_ ?_)
 ·intro h16
  try simp at h16
  refine rgn [] [[]] ?_
  refine op1 tok ?_
  refine qA ?_
  exact AW.ret (qG (k:=by simp [wX,h16]))
 intro h16
 try simp at h16
 refine AW.skip (AW.seq (rgn [] [[],[],[19]] ?_))
 iterate 3 refine op1 tok ?_
 refine qA (cnd ?_ ?_)
 ·intro h19
  try simp at h19
  refine rgn [] [[]] ?_
  refine op1 tok ?_
  refine qA ?_
  exact AW.ret (qG (k:=by simp [wX,h19]; omega))
 intro h19
 try simp at h19
 refine AW.skip (rgn [] [[]] ?_)
 refine op1 tok ?_
 refine qA ?_
 exact AW.ret (qG (k:=by simp [wX]; omega))
theorem zDN (a b:Int):AFn Tryz.prog G 125 [.int .i64 a,.int .i64 b] (.int .i64 (wX a b)):=by
 refine AFn.introU tok Tryz.func125 (by kernel_rfl) rfl rfl ?_
 simp only [Tryz.f125,qH,List.map_cons,List.map_nil]
 refine rgn [] [[0,1]] ?_
 refine op1 tok ?_
 refine qA (rgn [.nilp,.bool false] [[],[],[0,1,5]] ?_)
 iterate 3 refine op1 tok ?_ (hv:=by first | with_reducible exact True.intro | (exact qUO a; done) | omega | simp | (simp +contextual; omega))
 refine qA (rgn [.nilp,.bool false] [[],[],[0,1,5,6]] ?_)
 iterate 3 refine op1 tok ?_ (hv:=by first | with_reducible exact True.intro | (exact qUO b; done) | omega | simp | (simp +contextual; omega))
 refine qA (AW.seq (rgn [] [[0,1,6,11]] ?_))
 refine op1 tok ?_
 refine qA (cnd ?_ ?_)
 ·intro h11
  try simp at h11
 intro h11
 try simp at h11
 refine AW.skip (AW.seq (rgn [] [[0,1,13]] ?_))
 refine op1 tok ?_
 refine qA (cnd ?_ ?_)
 ·intro h13
  try simp at h13
 intro h13
 try simp at h13
 refine AW.skip (AW.seq (rgn [] [[],[],[0,1,16]] ?_))
 iterate 3 refine op1 tok ?_
 refine qA (cnd ?_ ?_)
 ·intro h16
  try simp at h16
  refine rgn [] [[]] ?_
  refine op1 tok ?_
  refine qA ?_
  exact AW.ret (qG (k:=by simp [wX,h16]))
 intro h16
 try simp at h16
 refine AW.skip (AW.seq (rgn [] [[],[],[19]] ?_))
 iterate 3 refine op1 tok ?_
 refine qA (cnd ?_ ?_)
 ·intro h19
  try simp at h19
  refine rgn [] [[]] ?_
  refine op1 tok ?_
  refine qA ?_
  exact AW.ret (qG (k:=by simp [wX,h19]; omega))
 intro h19
 try simp at h19
 refine AW.skip (rgn [] [[]] ?_)
 refine op1 tok ?_
 refine qA ?_
 exact AW.ret (qG (k:=by simp [wX]; omega))
theorem zDL (a b:List UInt8):AFn Tryz.prog G 167 [.str a,.str b] (.int .i64 (zT a b)):=by
 refine AFn.introU tok Tryz.func167 (by kernel_rfl) rfl rfl ?_
 simp only [Tryz.f167,qH,List.map_cons,List.map_nil]
 refine rgn [] [[0,1]] ?_
 refine op1 tok ?_
 refine qA (rgn [.nilp,.bool false] [[],[],[0,1,5]] ?_)
 iterate 3 refine op1 tok ?_ (hv:=by first | with_reducible exact True.intro | (exact qUM a; done) | omega | simp | (simp +contextual; omega))
 refine qA (rgn [.nilp,.bool false] [[],[],[0,1,5,6]] ?_)
 iterate 3 refine op1 tok ?_ (hv:=by first | with_reducible exact True.intro | (exact qUM b; done) | omega | simp | (simp +contextual; omega))
 refine qA (AW.seq (rgn [] [[0,1,6,11]] ?_))
 refine op1 tok ?_
 refine qA (cnd ?_ ?_)
 ·intro h11
  try simp at h11
 intro h11
 try simp at h11
 refine AW.skip (AW.seq (rgn [] [[0,1,13]] ?_))
 refine op1 tok ?_
 refine qA (cnd ?_ ?_)
 ·intro h13
  try simp at h13
 intro h13
 try simp at h13
 refine AW.skip (AW.seq (rgn [] [[],[],[0,1,16]] ?_))
 iterate 3 refine op1 tok ?_
 refine qA (cnd ?_ ?_)
 ·intro h16
  try simp at h16
  refine rgn [] [[]] ?_
  refine op1 tok ?_
  refine qA ?_
  exact AW.ret (qG (k:=by simp [zT,h16]))
 intro h16
 try simp at h16
 refine AW.skip (AW.seq (rgn [] [[],[],[19]] ?_))
 iterate 3 refine op1 tok ?_
 refine qA (cnd ?_ ?_)
 ·intro h19
  try simp at h19
  refine rgn [] [[]] ?_
  refine op1 tok ?_
  refine qA ?_
  exact AW.ret (qG (k:=by simp [zT,h19]))
 intro h19
 try simp at h19
 have hab:a=b:=h19 h16
 subst hab
 refine AW.skip (rgn [] [[]] ?_)
 refine op1 tok ?_
 refine qA ?_
 exact AW.ret (qG (k:=by simp [zT,h16]))
theorem zAU {α:Type} (p:α→α→Int) (l:List α):zA p l []=if l=[] then 0 else 1:=by cases l <;> simp [zA]
theorem qMG {α:Type} {p:α→α→Int} {l m:List α} {k:Nat} {x y:α} (hx:l[k]?=some x) (hy:m[k]?=some y):zA p (l.drop k) (m.drop k)=if p x y≠0 then p x y else zA p (l.drop (k+1)) (m.drop (k+1)):=by
 obtain ⟨h1,rfl⟩:=List.getElem?_eq_some_iff.1 hx
 obtain ⟨h2,rfl⟩:=List.getElem?_eq_some_iff.1 hy
 rw [List.drop_eq_getElem_cons h1,List.drop_eq_getElem_cons h2]; rfl
theorem qMF {α:Type} {p:α→α→Int} {l m:List α} {k:Nat} (h1:k<l.length) (h2:m.length≤k):zA p (l.drop k) (m.drop k)=1:=by
 rw [List.drop_eq_nil_of_le h2,zAU,if_neg (by intro h; have:=congrArg List.length h; simp at this; omega)]
theorem qQW {α:Type} {p:α→α→Int} {l m:List α} {k:Nat} (h1:l.length≤k) (hk:k≤l.length) (h2:k≤m.length):zA p (l.drop k) (m.drop k)=if l.length<m.length then -1 else 0:=by
 rw [List.drop_eq_nil_of_le h1]
 by_cases h:k<m.length
 ·rw [List.drop_eq_getElem_cons h,if_pos (by omega)]; rfl
 rw [List.drop_eq_nil_of_le (by omega),if_neg (by omega)]; rfl
theorem zAT (l m:List (List UInt8)):AFn Tryz.prog G 128 [.sl 1 (l.map PD.str),.sl 1 (m.map PD.str)] (.int .i64 (zA zT l m)):=by
 refine AFn.introU tok Tryz.func128 (by kernel_rfl) rfl rfl ?_
 simp only [Tryz.f128,qH,List.map_cons,List.map_nil]
 refine rgn [] [[0,1]] ?_
 refine op1 tok ?_
 refine qA (AW.seq (rgn [] [[],[],[]] ?_))
 iterate 3 refine op1 tok ?_
 refine qA (AW.block ?_)
 refine AW.intFactU (i:=10) rfl (by decide) ?_; intro hlen; simp at hlen
 refine AW.loop (α:=Nat) (fun k=>k≤l.length∧k≤m.length∧zA zT l m=zA zT (l.drop k) (m.drop k)) (fun k=>⟨qS 36 [(0,.p (.sl 1 (l.map PD.str))),(1,.p (.sl 1 (m.map PD.str))),(9,.p (.sl 1 (l.map PD.str))),(10,.p (.int .i64 l.length)),(11,.p (.int .i64 k))],[],[],0⟩) (fun k=>l.length-k) (0) ⟨by omega,by omega,rfl⟩ ⟨qB (by simp),rfl,by simp,by simp⟩ ?_
 rintro k ⟨hk,hkm,hall⟩
 refine rgn [] [[]] ?_
 refine op1 tok ?_
 refine qA (AW.seq (cnd ?_ ?_))
 ·intro h12
  try simp at h12
  obtain ⟨x,hx⟩:∃ x,l[k]?=some x:=⟨l[k],by simp [h12]⟩
  refine AW.skip (AW.seq (AW.block (rgn [.str x] [[],[],[],[],[0,1,5,6,9,10,11]] ?_)))
  iterate 5 refine op1 tok ?_ (hv:=by first | with_reducible exact True.intro | (simp [hx]; done) | omega | simp | (simp +contextual; omega))
  refine qA (AW.seq (rgn [] [[],[],[],[0,1,5,6,9,10,11,19]] ?_))
  iterate 4 refine op1 tok ?_
  refine qA (cnd ?_ ?_)
  ·intro h19
   try simp at h19
   have hR:zA zT l m=1:=by rw [hall]; exact qMF (by omega) (by omega)
   refine rgn [] [[]] ?_
   refine op1 tok ?_
   refine qA ?_
   exact AW.ret (qG (k:=by simp [hR]))
  intro h19
  try simp at h19
  obtain ⟨y,hy⟩:∃ y,m[k]?=some y:=⟨m[k]'(by omega),by simp [show k<m.length by omega]⟩
  have hst:=qMG (p:=zT) hx hy
  refine AW.skip (rgn [.str y] [[],[],[],[0,1,6,9,10,11,23],[0,1,6,7,9,10,11]] ?_)
  iterate 5 refine op1 tok ?_ (hv:=by first | with_reducible exact True.intro | (simp [hy]; done) | omega | simp | (simp +contextual; omega))
  refine qA (rgn [.nilp,.int .i64 (zT x y)] [[],[],[0,1,9,10,11,26],[0,1,8,9,10,11]] ?_)
  iterate 4 refine op1 tok ?_ (hv:=by first | with_reducible exact True.intro | (exact zDL x y; done) | omega | simp | (simp +contextual; omega))
  refine qA (rgn [] [[],[0,1,8,9,10,11,28]] ?_)
  iterate 2 refine op1 tok ?_
  refine qA (cnd ?_ ?_)
  ·intro h28
   try simp at h28
   have hR:zA zT l m=zT x y:=by rw [hall,hst,if_pos h28]
   refine rgn [] [[],[4]] ?_
   iterate 2 refine op1 tok ?_
   refine qA ?_
   exact AW.ret (qG (k:=by simp [hR]))
  intro h28
  try simp at h28
  have hnx:zA zT l m=zA zT (l.drop (k+1)) (m.drop (k+1)):=by rw [hall,hst,if_neg (by omega)]
  refine AW.skip (rgz [] [[],[0,1,9,10,11]] ?_)
  iterate 2 refine op1 tok ?_
  refine qA ?_
  exact ⟨k+1,⟨by omega,by omega,hnx⟩,by omega,qB (by simp),rfl,by simp,by simp⟩
 intro h12
 try simp at h12
 have hE:=qQW (p:=zT) (l:=l) (m:=m) (k:=k) (by omega) hk hkm
 rw [← hall] at hE
 refine AW.exit ?_
 simp
 refine AW.seq (rgn [] [[],[],[],[32,34],[35]] ?_)
 iterate 5 refine op1 tok ?_
 refine qA (cnd ?_ ?_)
 ·intro h35
  try simp at h35
  have hR:zA zT l m = -1:=by rw [hE,if_pos (by omega)]
  refine rgn [] [[]] ?_
  refine op1 tok ?_
  refine qA ?_
  exact AW.ret (qG (k:=by simp [hR]))
 intro h35
 try simp at h35
 have hR:zA zT l m=0:=by rw [hE,if_neg (by omega)]
 refine AW.skip (rgn [] [[]] ?_)
 refine op1 tok ?_
 refine qA ?_
 exact AW.ret (qG (k:=by simp [hR]))
theorem qQV (l m:List Val) (g:FuncId) (p:Val→Val→Int) (hg:∀ x∈l, ∀ y∈m,AFn Tryz.prog G g [x.enc,y.enc] (.int .i64 (p x y))):AFn Tryz.prog G 124 [.sl 9 (l.map Val.enc),.sl 9 (m.map Val.enc),.fn g] (.int .i64 (zA p l m)):=by
 refine AFn.introU tok Tryz.func124 (by kernel_rfl) rfl rfl ?_
 simp only [Tryz.f124,qH,List.map_cons,List.map_nil]
 refine rgn [] [[0,1,2]] ?_
 refine op1 tok ?_
 refine qA (AW.seq (rgn [] [[],[],[]] ?_))
 iterate 3 refine op1 tok ?_
 refine qA (AW.block ?_)
 refine AW.intFactU (i:=12) rfl (by decide) ?_; intro hlen; simp at hlen
 refine AW.loop (α:=Nat) (fun k=>k≤l.length∧k≤m.length∧zA p l m=zA p (l.drop k) (m.drop k)) (fun k=>⟨qS 39 [(0,.p (.sl 9 (l.map Val.enc))),(1,.p (.sl 9 (m.map Val.enc))),(2,.p (.fn g)),(11,.p (.sl 9 (l.map Val.enc))),(12,.p (.int .i64 l.length)),(13,.p (.int .i64 k))],[],[],0⟩) (fun k=>l.length-k) (0) ⟨by omega,by omega,rfl⟩ ⟨qB (by simp),rfl,by simp,by simp⟩ ?_
 rintro k ⟨hk,hkm,hall⟩
 refine rgn [] [[]] ?_
 refine op1 tok ?_
 refine qA (AW.seq (cnd ?_ ?_))
 ·intro h14
  try simp at h14
  obtain ⟨x,hx⟩:∃ x,l[k]?=some x:=⟨l[k],by simp [h14]⟩
  refine AW.skip (AW.seq (AW.block (rgn [x.enc] [[],[],[],[],[],[0,1,2,7,8,11,12,13]] ?_)))
  iterate 6 refine op1 tok ?_ (hv:=by first | with_reducible exact True.intro | (simp [hx]; done) | omega | simp | (simp +contextual; omega))
  refine qA (AW.seq (rgn [] [[],[],[],[0,1,2,7,8,11,12,13,21]] ?_))
  iterate 4 refine op1 tok ?_
  refine qA (cnd ?_ ?_)
  ·intro h21
   try simp at h21
   have hR:zA p l m=1:=by rw [hall]; exact qMF (by omega) (by omega)
   refine rgn [] [[]] ?_
   refine op1 tok ?_
   refine qA ?_
   exact AW.ret (qG (k:=by simp [hR]))
  intro h21
  try simp at h21
  obtain ⟨y,hy⟩:∃ y,m[k]?=some y:=⟨m[k]'(by omega),by simp [show k<m.length by omega]⟩
  have hst:=qMG (p:=p) hx hy
  have hgv:=hg x (List.mem_of_getElem? hx) y (List.mem_of_getElem? hy)
  refine AW.skip (rgn [y.enc] [[],[],[],[0,1,2,8,11,12,13,25],[],[0,1,2,8,9,11,12,13]] ?_)
  iterate 6 refine op1 tok ?_ (hv:=by first | with_reducible exact True.intro | (simp [hy]; done) | omega | simp | (simp +contextual; omega))
  refine qA (rgn [.tup [x.enc,y.enc],.int .i64 (p x y)] [[],[],[],[0,1,2,11,12,13,29],[0,1,2,10,11,12,13]] ?_)
  iterate 5 refine op1 tok ?_ (hv:=by first | with_reducible exact True.intro | ((simp at hgv ⊢; exact hgv); done) | omega | simp | (simp +contextual; omega))
  refine qA (rgn [] [[],[0,1,2,10,11,12,13,31]] ?_)
  iterate 2 refine op1 tok ?_
  refine qA (cnd ?_ ?_)
  ·intro h31
   try simp at h31
   have hR:zA p l m=p x y:=by rw [hall,hst,if_pos h31]
   refine rgn [] [[],[6]] ?_
   iterate 2 refine op1 tok ?_
   refine qA ?_
   exact AW.ret (qG (k:=by simp [hR]))
  intro h31
  try simp at h31
  have hnx:zA p l m=zA p (l.drop (k+1)) (m.drop (k+1)):=by rw [hall,hst,if_neg (by omega)]
  refine AW.skip (rgz [] [[],[0,1,2,11,12,13]] ?_)
  iterate 2 refine op1 tok ?_
  refine qA ?_
  exact ⟨k+1,⟨by omega,by omega,hnx⟩,by omega,qB (by simp),rfl,by simp,by simp⟩
 intro h14
 try simp at h14
 have hE:=qQW (p:=p) (l:=l) (m:=m) (k:=k) (by omega) hk hkm
 rw [← hall] at hE
 refine AW.exit ?_
 simp
 refine AW.seq (rgn [] [[],[],[],[35,37],[38]] ?_)
 iterate 5 refine op1 tok ?_
 refine qA (cnd ?_ ?_)
 ·intro h38
  try simp at h38
  have hR:zA p l m = -1:=by rw [hE,if_pos (by omega)]
  refine rgn [] [[]] ?_
  refine op1 tok ?_
  refine qA ?_
  exact AW.ret (qG (k:=by simp [hR]))
 intro h38
 try simp at h38
 have hR:zA p l m=0:=by rw [hE,if_neg (by omega)]
 refine AW.skip (rgn [] [[]] ?_)
 refine op1 tok ?_
 refine qA ?_
 exact AW.ret (qG (k:=by simp [hR]))
def qXE (ks:List (List UInt8)) (s:List UInt8):Int:=if s∈ks then (ks.idxOf s:Int) else -1
theorem zDD (l:List (List UInt8)) (s:List UInt8):AFn Tryz.prog G 112 [.sl 1 (l.map PD.str),.str s] (.int .i64 (qXE l s)):=by
 refine AFn.introU tok Tryz.func112 (by kernel_rfl) rfl rfl ?_
 simp only [Tryz.f112,qH,List.map_cons,List.map_nil]
 refine rgn [] [[0,1]] ?_
 refine op1 tok ?_
 refine qA (AW.seq (rgn [] [[],[],[0,1,7,8]] ?_))
 iterate 3 refine op1 tok ?_
 refine qA (AW.block ?_)
 refine AW.intFactU (i:=7) rfl (by decide) ?_; intro hlen; simp at hlen
 refine AW.loop (α:=Nat) (fun k=>k≤l.length∧s ∉ l.take k) (fun k=>⟨qS 19 [(0,.p (.sl 1 (l.map PD.str))),(1,.p (.str s)),(7,.p (.int .i64 l.length)),(8,.p (.int .i64 k))],[],[],0⟩) (fun k=>l.length-k) (0) ⟨by omega,by simp⟩ ⟨qB (by simp),rfl,by simp,by simp⟩ ?_
 rintro k ⟨hk,hno⟩
 refine rgn [] [[]] ?_
 refine op1 tok ?_
 refine qA (AW.seq (cnd ?_ ?_))
 ·intro h9
  try simp at h9
  obtain ⟨x,hx⟩:∃ x,l[k]?=some x:=⟨l[k],by simp [h9]⟩
  refine AW.skip (AW.seq (AW.block (rgn [] [[],[0,1,5,7,8]] ?_)))
  iterate 2 refine op1 tok ?_
  refine qA (rgn [.str x] [[],[],[],[],[],[0,1,5,7,8,16]] ?_)
  iterate 6 refine op1 tok ?_ (hv:=by first | with_reducible exact True.intro | (simp [hx]; done) | omega | simp | (simp +contextual; omega))
  refine qA (cnd ?_ ?_)
  ·intro h16
   try simp at h16
   have hR:qXE l s=k:=by
    have hm:s∈l:=by rw [h16]; exact List.mem_of_getElem? hx
    unfold qXE; rw [if_pos hm]
    have:l.idxOf s=k:=by
     obtain ⟨h1,h2⟩:=List.getElem?_eq_some_iff.1 hx
     have h3:=List.take_append_drop k l
     rw [← h3,List.idxOf_append,if_neg hno,List.drop_eq_getElem_cons h1,h2,h16,List.idxOf_cons_self]
     simp; omega
    rw [this]
   refine rgn [] [[],[4]] ?_
   iterate 2 refine op1 tok ?_
   refine qA ?_
   exact AW.ret (qG (k:=by simp [hR]))
  intro h16
  try simp at h16
  refine AW.skip (rgz [] [[],[0,1,7,8]] ?_)
  iterate 2 refine op1 tok ?_
  refine qA ?_
  exact ⟨k+1,⟨by omega,by rw [List.take_add_one,hx]; simp; exact ⟨hno,h16⟩⟩,by omega,qB (by simp),rfl,by simp,by simp⟩
 intro h9
 try simp at h9
 have hR:qXE l s = -1:=by rw [List.take_of_length_le h9] at hno; unfold qXE; rw [if_neg hno]
 refine AW.exit ?_
 simp
 refine rgn [] [[]] ?_
 refine op1 tok ?_
 refine qA ?_
 exact AW.ret (qG (k:=by simp [hR]))
theorem zFG (a b:Int):AFn Tryz.prog G 127 [.sl 1 [.int .i64 a,.int .i64 b]] (.int .i64 (if a≠0 then a else b)):=by
 refine AFn.introU tok Tryz.func127 (by kernel_rfl) rfl rfl ?_
 simp only [Tryz.f127,qH,List.map_cons,List.map_nil]
 refine rgn [] [[0]] ?_
 refine op1 tok ?_
 refine qA (rgn [] [[]] ?_)
 refine op1 tok ?_
 refine qA (AW.seq (rgn [] [[],[],[3,6,7,8]] ?_))
 iterate 3 refine op1 tok ?_
 refine qA (AW.block ?_)
 refine AW.loop (α:=Nat) (fun k=>k≤2∧(1≤k→a=0)∧(2≤k→b=0)) (fun k=>⟨qS 18 [(3,.p (.int .i64 0)),(6,.p (.sl 1 [.int .i64 a,.int .i64 b])),(7,.p (.int .i64 2)),(8,.p (.int .i64 k))],[],[],0⟩) (fun k=>2-k) (0) ⟨by omega,by omega,by omega⟩ ⟨qB (by simp),rfl,by simp,by simp⟩ ?_
 rintro k ⟨hk,h1,h2⟩
 refine rgn [] [[]] ?_
 refine op1 tok ?_
 refine qA (AW.seq (cnd ?_ ?_))
 ·intro h9
  try simp at h9
  have hel:[a,b][k]?=some (if k=0 then a else b):=by
   match k,h9 with
   | 0,_=>rfl
   | 1,_=>rfl
  have helP:[PD.int .i64 a,PD.int .i64 b][k]?=some (.int .i64 (if k=0 then a else b)):=by
   match k,h9 with
   | 0,_=>rfl
   | 1,_=>rfl
  refine AW.skip (AW.seq (AW.block (rgn [.int .i64 (if k=0 then a else b)] [[],[],[3,5,6,7,8]] ?_)))
  iterate 3 refine op1 tok ?_ (hv:=by first | with_reducible exact True.intro | (first | exact helP | simp [helP]; done) | omega | simp | (simp +contextual; omega))
  refine qA (rgn [] [[],[],[3,5,6,7,8,14]] ?_)
  iterate 3 refine op1 tok ?_
  refine qA (cnd ?_ ?_)
  ·intro h14
   try simp at h14
   have hR:(if a≠0 then a else b)=(if k=0 then a else b):=by
    by_cases hk0:k=0
    ·subst hk0; simp at h14 ⊢; intro e; exact absurd e h14
    rw [if_neg hk0,if_neg (by simp; exact h1 (by omega))]
   rw [hR]
   refine rgn [] [[],[2]] ?_
   iterate 2 refine op1 tok ?_
   exact qA (AW.ret qG)
  intro h14
  try simp at h14
  have e1:1≤k+1→a=0:=by
   intro _
   by_cases hk0:k=0
   ·simpa [hk0] using h14
   exact h1 (by omega)
  have e2:2≤k+1→b=0:=by
   intro h
   rw [if_neg (by omega)] at h14; exact h14
  refine AW.skip (rgz [] [[],[3,6,7,8]] ?_)
  iterate 2 refine op1 tok ?_
  refine qA ?_
  exact ⟨k+1,⟨by omega,e1,e2⟩,by omega,qB (by simp),rfl,by simp,by simp⟩
 intro h9
 try simp at h9
 have ha:a=0:=h1 (by omega)
 have hb:b=0:=h2 (by omega)
 subst ha hb
 refine AW.exit ?_
 simp
 refine rgn [] [[],[2]] ?_
 iterate 2 refine op1 tok ?_
 exact qA (AW.ret qG)
def zK (s:List UInt8):Nat:=s.foldl (fun n b=>n * 10+(b.toNat-48)) 0
theorem wR (b:UInt8):zJ b=true↔48≤b.toNat∧b.toNat≤57:=by simp [zJ,vL]; omega
theorem qHX (s:List UInt8):∀ n,s.foldl (fun n b=>n * 10+(b.toNat-48)) n=n * 10 ^ s.length+zK s:=by
 induction s with
 | nil=>intro n; simp [zK]
 | cons b s ih =>
  intro n
  have e:zK (b::s)=(b.toNat-48) * 10 ^ s.length+zK s:=by unfold zK; rw [List.foldl_cons,ih]; simp [zK]
  rw [List.foldl_cons,ih,e,List.length_cons,Nat.pow_succ,Nat.add_mul,Nat.mul_assoc,Nat.mul_comm 10,Nat.add_assoc]
theorem kA (b:UInt8) (s:List UInt8):zK (b::s)=(b.toNat-48) * 10 ^ s.length+zK s:=by
 unfold zK; rw [List.foldl_cons,qHX]; simp [zK]
theorem xC (s t:List UInt8):zK (s++t)=zK s * 10 ^ t.length+zK t:=by
 unfold zK; rw [List.foldl_append,qHX]; rfl
theorem qFC (s:List UInt8) (b:UInt8):zK (s++[b])=zK s * 10+(b.toNat-48):=by rw [xC]; simp [zK]
theorem vQ {s:List UInt8} (h:s.all zJ=true):zK s<10 ^ s.length:=by
 induction s with
 | nil=>simp [zK]
 | cons b s ih =>
  simp only [List.all_cons,Bool.and_eq_true] at h
  have h1:=(wR b).1 h.1
  have h2:=ih h.2
  rw [kA,List.length_cons,Nat.pow_succ]
  have:b.toNat-48≤9:=by omega
  have:=Nat.mul_le_mul_right (10 ^ s.length) this
  omega
theorem qVK (n:Nat):Lib.repeatL [48] n=List.replicate n 48:=by
 induction n with
 | zero=>rfl
 | succ n ih=>simp [Lib.repeatL,ih,List.replicate_succ]
theorem qCX (n:Nat):zK (List.replicate n 48)=0:=by
 induction n with
 | zero=>rfl
 | succ n ih=>rw [List.replicate_succ,kA,ih]; simp
theorem qDP (s:List UInt8) (n:Nat):zK (s++List.replicate n 48)=zK s * 10 ^ n:=by rw [xC,qCX]; simp
theorem jK {s:List UInt8} (h:s.all zJ=true) (n:Nat):(s++List.replicate n 48).all zJ=true:=by
 rw [List.all_append,h]
 have:(List.replicate n (48:UInt8)).all zJ=true:=List.all_eq_true.2 fun b hb=>by rw [(List.mem_replicate.1 hb).2]; rfl
 rw [this]; rfl
def qJ:Nat:=1000000000
def qL:List Nat→Nat
 | []=>0
 | x::xs=>x+qJ * qL xs
def okL (l:List Nat):Prop:=∀ x∈l,x<qJ
def wN (l:List Nat):List Nat:=(l.reverse.dropWhile (· == 0)).reverse
def qAK (s:List UInt8) (e:Nat):Nat:=zK ((s.take e).drop (e-9))
def qBO (s:List UInt8):Nat→Nat→List Nat
 | 0,_=>[]
 | f+1,e=>if 0<e then qAK s e::qBO s f (e-9) else []
theorem qGW (s:List UInt8):∀ (f g e:Nat),e≤f→e≤g→qBO s f e=qBO s g e
 | 0,0,_,_,_=>rfl
 | 0,g+1,e,h,_=>by simp only [qBO]; rw [if_neg (by omega)]
 | f+1,0,e,_,h=>by simp only [qBO]; rw [if_neg (by omega)]
 | f+1,g+1,e,h1,h2=>by
  simp only [qBO]
  split
  ·rw [qGW s f g _ (by omega) (by omega)]
  rfl
def vH (s:List UInt8) (e:Nat):List Nat:=qBO s e e
theorem qCQ {s:List UInt8} {e:Nat} (h:0<e):vH s e=qAK s e::vH s (e-9):=by
 unfold vH
 rw [show e=(e-1)+1 by omega]
 simp only [qBO]
 rw [if_pos (by omega),qGW s (e-1) (e-1+1-9) _ (by omega) (by omega)]
theorem kU (s:List UInt8):vH s 0=[]:=rfl
theorem qKC {s:List UInt8} (h:s.all zJ=true) (n:Nat):(s.take n).all zJ=true:=by
 rw [List.all_eq_true] at h ⊢; exact fun b hb=>h b (List.mem_of_mem_take hb)
theorem qRG {s:List UInt8} (h:s.all zJ=true) (n:Nat):(s.drop n).all zJ=true:=by
 rw [List.all_eq_true] at h ⊢; exact fun b hb=>h b (List.mem_of_mem_drop hb)
theorem qWV {s:List UInt8} (h:s.all zJ=true) (e:Nat):qAK s e<qJ:=by
 have h1:=vQ (qRG (qKC h e) (e-9))
 have h2:((s.take e).drop (e-9)).length≤9:=by simp; omega
 have:=Nat.pow_le_pow_right (n:=10) (by omega) h2
 unfold qAK qJ; omega
theorem qQB {s:List UInt8} (h:s.all zJ=true):∀ (f e:Nat),e≤f→okL (vH s e)
 | 0,e,he=>by rw [show e=0 by omega,kU]; intro x hx; cases hx
 | f+1,e,he=>by
  by_cases hp:0<e
  ·rw [qCQ hp]
   intro x hx
   rcases List.mem_cons.1 hx with rfl | hx
   ·exact qWV h e
   exact qQB h f (e-9) (by omega) x hx
  rw [show e=0 by omega,kU]; intro x hx; cases hx
theorem qLV {s:List UInt8} (h:s.all zJ=true):∀ (f e:Nat),e≤f→e≤s.length→qL (vH s e)=zK (s.take e)
 | 0,e,he,_=>by rw [show e=0 by omega,kU]; rfl
 | f+1,e,he,hs=>by
  by_cases hp:0<e
  ·rw [qCQ hp]
   simp only [qL]
   rw [qLV h f (e-9) (by omega) (by omega)]
   have e1:s.take e=s.take (e-9)++(s.take e).drop (e-9):=by
    have h2:=List.take_append_drop (e-9) (s.take e)
    rw [List.take_take,Nat.min_eq_left (by omega)] at h2
    exact h2.symm
   have e2:zK (s.take e)=zK (s.take (e-9)) * 10 ^ ((s.take e).drop (e-9)).length+qAK s e:=by
    rw [e1,xC,← e1]; rfl
   rw [e2]
   by_cases h9:9≤e
   ·have:((s.take e).drop (e-9)).length=9:=by simp; omega
    rw [this]; unfold qJ; omega
   rw [show e-9=0 by omega]; simp [zK]
  rw [show e=0 by omega,kU]; rfl
theorem vR (l:List Nat) (x:Nat):wN (l++[x])=if x=0 then wN l else l++[x]:=by
 unfold wN
 rw [List.reverse_append]
 simp only [List.reverse_cons,List.reverse_nil,List.nil_append,List.singleton_append,List.dropWhile_cons]
 by_cases h:x=0
 ·simp [h]
 simp [h]
theorem yX (l:List Nat) (x:Nat):qL (l++[x])=qL l+qJ ^ l.length * x:=by
 induction l with
 | nil=>simp [qL]
 | cons a l ih=>simp only [List.cons_append,qL,ih,List.length_cons,Nat.pow_succ,Nat.mul_add]; rw [Nat.add_assoc,Nat.mul_comm (qJ ^ l.length) qJ,Nat.mul_assoc]
theorem qNB {p:List Nat→Prop} (h0:p []) (h1:∀ l x,p l→p (l++[x])) (l:List Nat):p l:=by
 have:∀ r:List Nat,p r.reverse:=by
  intro r
  induction r with
  | nil=>exact h0
  | cons a r ih=>rw [List.reverse_cons]; exact h1 _ _ ih
 simpa using this l.reverse
theorem qCY (l:List Nat):qL (wN l)=qL l:=by
 refine qNB (p:=fun l=>qL (wN l)=qL l) rfl (fun l x ih => ?_) l
 rw [vR]
 split
 ·rename_i h; rw [ih,yX,h]; simp
 rfl
theorem qFG {l:List Nat} (h:okL l):okL (wN l):=by
 intro x hx
 unfold wN at hx
 rw [List.mem_reverse] at hx
 exact h x (List.mem_reverse.1 ((List.dropWhile_sublist _).subset hx))
def qHG (l:List Nat):Prop:=okL l∧l.getLast?≠some 0
theorem qRR {l:List Nat} (h:okL l):qHG (wN l):=by
 refine ⟨qFG h, ?_⟩
 refine qNB (p:=fun l=>(wN l).getLast?≠some 0) (by simp [wN]) (fun l x ih => ?_) l
 rw [vR]
 split
 ·exact ih
 rename_i h; simp; exact h
theorem qBP {l:List Nat} (h:okL l):qL l<qJ ^ l.length:=by
 induction l with
 | nil=>simp [qL]
 | cons a l ih =>
  have h1:=h a (by simp)
  have h2:=ih fun x hx=>h x (by simp [hx])
  simp only [qL,List.length_cons,Nat.pow_succ]
  have:qJ * (qL l+1)≤qJ * qJ ^ l.length:=Nat.mul_le_mul_left _ h2
  rw [Nat.mul_comm (qJ ^ l.length)]
  rw [Nat.mul_add] at this; omega
theorem qZO {l:List Nat} (h:l≠[]) (hc:l.getLast?≠some 0):qJ ^ (l.length-1)≤qL l:=by
 have hs:l=l.dropLast++[l.getLast h]:=(List.dropLast_concat_getLast h).symm
 have hx:l.getLast h≠0:=fun e=>hc (by rw [← e]; exact List.getLast?_eq_some_getLast h)
 have hv:qL l=qL l.dropLast+qJ ^ l.dropLast.length * l.getLast h:=by
  conv=>lhs; rw [hs]
  exact yX _ _
 rw [hv,List.length_dropLast]
 have:qJ ^ (l.length-1) * 1≤qJ ^ (l.length-1) * l.getLast h:=Nat.mul_le_mul_left _ (by omega)
 omega
theorem qJE {l m:List Nat} (hl:qHG l) (hm:qHG m) (h:l.length<m.length):qL l<qL m:=by
 have h1:=qBP hl.1
 have h2:=qZO (l:=m) (by rintro rfl; simp at h) hm.2
 have h3:qJ ^ l.length≤qJ ^ (m.length-1):=Nat.pow_le_pow_right (by decide) (by omega)
 omega
def jA (l m:List Nat):Nat→Int
 | 0=>0
 | i+1=>if l.getD i 0=m.getD i 0 then jA l m i else if l.getD i 0<m.getD i 0 then -1 else 1
def kS (l m:List Nat):Int:=if l.length≠m.length then (l.length:Int)-m.length else jA l m l.length
theorem qDA {l:List Nat} {i:Nat} (h:i<l.length):l.take (i+1)=l.take i++[l.getD i 0]:=by
 rw [List.take_succ_eq_append_getElem h]; simp [List.getD_eq_getElem?_getD,h]
theorem qGK {l m : List Nat} (hl : okL l) (hm : okL m) (hlen : l.length = m.length) : ∀ i, i ≤ l.length →
  jA l m i=if qL (l.take i)<qL (m.take i) then -1 else if qL (l.take i)=qL (m.take i) then 0 else 1
 | 0,_=>by simp [jA,qL]
 | i+1,hi=>by
  have h1:=qBP (l:=l.take i) fun x hx=>hl x (List.mem_of_mem_take hx)
  have h2:=qBP (l:=m.take i) fun x hx=>hm x (List.mem_of_mem_take hx)
  have e1:(l.take i).length=i:=by simp; omega
  have e2:(m.take i).length=i:=by simp; omega
  rw [e1] at h1
  rw [e2] at h2
  rw [qDA (by omega),qDA (by omega),yX,yX,e1,e2]
  simp only [jA]
  by_cases h:l.getD i 0=m.getD i 0
  ·rw [if_pos h,qGK hl hm hlen i (by omega),h]
   have a1:(qL (l.take i)+qJ ^ i * m.getD i 0<qL (m.take i)+qJ ^ i * m.getD i 0)=(qL (l.take i)<qL (m.take i)):=propext (by omega)
   have a2:(qL (l.take i)+qJ ^ i * m.getD i 0=qL (m.take i)+qJ ^ i * m.getD i 0)=(qL (l.take i)=qL (m.take i)):=propext (by omega)
   simp only [a1,a2]
  rw [if_neg h]
  by_cases h3:l.getD i 0<m.getD i 0
  ·rw [if_pos h3]
   have:=Nat.mul_le_mul_left (qJ ^ i) (show l.getD i 0+1≤m.getD i 0 by omega)
   rw [Nat.mul_add,Nat.mul_one] at this
   rw [if_pos (by omega)]
  rw [if_neg h3]
  have:=Nat.mul_le_mul_left (qJ ^ i) (show m.getD i 0+1≤l.getD i 0 by omega)
  rw [Nat.mul_add,Nat.mul_one] at this
  rw [if_neg (by omega),if_neg (by omega)]
def sgn (n:Int):Int:=if n<0 then -1 else if n=0 then 0 else 1
theorem qGU {l m:List Nat} (hl:qHG l) (hm:qHG m):sgn (kS l m)=sgn ((qL l:Int)-qL m):=by
 unfold kS
 by_cases h:l.length=m.length
 ·rw [if_neg (by omega),qGK hl.1 hm.1 h l.length (Nat.le_refl _),List.take_length,h,List.take_length]
  unfold sgn
  split
  ·rw [if_pos (by omega),if_pos (by omega)]
  split
  ·rw [if_neg (by omega),if_pos rfl,if_neg (by omega),if_pos (by omega)]
  rw [if_neg (by omega),if_neg (by omega),if_neg (by omega),if_neg (by omega)]
 rw [if_pos h]
 unfold sgn
 rcases Nat.lt_or_gt_of_ne h with h1 | h1
 ·have:=qJE hl hm h1
  rw [if_pos (by omega),if_pos (by omega)]
 have:=qJE hm hl h1
 rw [if_neg (by omega),if_neg (by omega),if_neg (by omega),if_neg (by omega)]
theorem qNM (l m:List Nat) (h1:l.length≤1000000) (h2:m.length≤1000000) : -1000000≤kS l m∧kS l m≤1000000:=by
 unfold kS
 split
 ·omega
 have:∀ i, -1≤jA l m i∧jA l m i≤1:=by
  intro i
  induction i with
  | zero=>simp [jA]
  | succ i ih => simp only [jA]; split; · exact ih
                 ·split <;> omega
 have:=this l.length; omega
def kF (s:List UInt8):List Nat:=wN (vH s s.length)
theorem qEF {s:List UInt8} (h:s.all zJ=true):qHG (kF s):=qRR (qQB h _ _ (Nat.le_refl _))
theorem qEE {s:List UInt8} (h:s.all zJ=true):qL (kF s)=zK s:=by
 unfold kF; rw [qCY,qLV h _ _ (Nat.le_refl _) (Nat.le_refl _),List.take_length]
theorem qLW (s:List UInt8):∀ (f e:Nat),e≤f→(vH s e).length≤e
 | 0,e,he=>by rw [show e=0 by omega,kU]; simp
 | f+1,e,he=>by
  by_cases hp:0<e
  ·rw [qCQ hp]; have:=qLW s f (e-9) (by omega); simp; omega
  rw [show e=0 by omega,kU]; simp
theorem qIZ (s:List UInt8):(kF s).length≤s.length:=by
 have h1:(kF s).length≤(vH s s.length).length:=by
  unfold kF wN; rw [List.length_reverse]; have:=(List.dropWhile_sublist (fun x:Nat=>x == 0) (l:=(vH s s.length).reverse)).length_le; simpa using this
 have:=qLW s _ s.length (Nat.le_refl _); omega
@[simp] def zR (n:Nat):PD := .int .u64 n
theorem qMV (l:List Nat):AFn Tryz.prog G 208 [.sl 1 (l.map zR)] (.sl 1 ((wN l).map zR)):=by
 refine AFn.introU tok Tryz.func208 (by kernel_rfl) rfl rfl ?_
 simp only [Tryz.f208,qH,List.map_cons,List.map_nil]
 refine rgn [] [[0]] ?_
 refine op1 tok ?_
 refine qA (AW.seq (AW.block ?_))
 refine AW.loop (α:=List Nat) (fun r=>wN r=wN l) (fun r=>⟨qS 21 [(0,.p (.sl 1 (r.map zR)))],[],[],0⟩) (fun r=>r.length) (l) rfl ⟨qB (by simp),rfl,by simp,by simp⟩ ?_
 rintro r hr
 refine AW.slFactU (i:=0) rfl (by decide) ?_
 intro hlen
 simp at hlen
 have hlast:0<r.length→r[r.length-1]?=some (r.getD (r.length-1) 0):=fun h=>by simp [List.getD_eq_getElem?_getD,show r.length-1<r.length by omega]
 refine AW.seq (rgn [.int .u64 (r.getD (r.length-1) 0:Nat)] [[],[],[],[],[],[],[0,6,7,9],[],[],[0,6,12],[],[0,14]] ?_)
 iterate 4 refine op1 tok ?_ (hv:=by first | with_reducible exact True.intro | ((intro h; refine ⟨h,by omega,_,hlast h, ?_⟩; simp); done) | omega | simp | (simp +contextual; omega))
 iterate 7 refine op2 tok ?_ (hv:=by first | with_reducible exact True.intro | ((intro h; refine ⟨h,by omega,_,hlast h, ?_⟩; simp); done) | omega | simp | (simp +contextual; omega))
 refine op1 tok ?_ (hv:=by first | with_reducible exact True.intro | ((intro h; refine ⟨h,by omega,_,hlast h, ?_⟩; simp); done) | omega | simp | (simp +contextual; omega))
 refine qA (cnd ?_ ?_)
 ·intro h14
  try simp at h14
  obtain ⟨s,x,rfl⟩:∃ s x,r=s++[x]:=⟨r.dropLast,r.getLast (by rintro rfl; simp at h14),(List.dropLast_concat_getLast _).symm⟩
  simp at h14
  subst h14
  have hr':wN s=wN l:=by rw [← hr,vR]; simp
  have hsl:(s.length:Int)≤9223372036854775807:=by simp at hlen; omega
  refine AW.skip (AW.block (rgz [] [[],[],[],[],[19],[0]] ?_))
  iterate 6 refine op1 tok ?_
  refine qA ?_
  exact ⟨s,hr',by simp,qB (by simp),rfl,by simp,by simp⟩
 intro h14
 try simp at h14
 have hN:wN r=r:=by
  refine qNB (p:=fun r=>(0<r.length→¬ r.getD (r.length-1) 0=0)→wN r=r) (fun _=>rfl) (fun s x _ h => ?_) r (fun h=>by have:=h14 h; simpa using this)
  have:=h (by simp)
  rw [vR,if_neg (by simpa using this)]
 rw [← hr,hN]
 refine AW.exit ?_
 simp
 refine rgn [] [[],[2]] ?_
 iterate 2 refine op1 tok ?_
 exact qA (AW.ret qG)
theorem yA {x:Int} (h0:0≤x) (h1:x<18446744073709551616):IntKind.u64.wrap x=x:=by simp [IntKind.wrap,IntKind.bits,IntKind.signed]; omega
theorem qTS {x:Int} (h0:0≤x) (h1:x<256):IntKind.u8.wrap x=x:=by simp [IntKind.wrap,IntKind.bits,IntKind.signed]; omega
theorem qZJ (s:List UInt8) (hs:s.all zJ=true) (hl:s.length≤1000000):AFn Tryz.prog G 203 [.str s] (.sl 1 ((kF s).map zR)):=by
 refine AFn.introU tok Tryz.func203 (by kernel_rfl) rfl rfl ?_
 simp only [Tryz.f203,qH,List.map_cons,List.map_nil]
 refine rgn [] [[0]] ?_
 refine op1 tok ?_
 refine qA (rgn [] [[]] ?_)
 refine op1 tok ?_
 refine qA (AW.seq (rgn [] [[],[],[0,3,4]] ?_))
 iterate 3 refine op1 tok ?_
 refine qA (AW.block ?_)
 refine AW.beginE 3 36 24 1 (by simp) (by simp) (by conv=>lhs; simp) ?_
 refine AW.loop (α:=Int × List Nat) (fun a=>a.1≤s.length ∧ -9<a.1∧a.2.length≤s.length-a.1.toNat∧a.2++vH s a.1.toNat=vH s s.length) (fun a=>⟨qS 39 [(0,.p (.str s)),(3,.ms 36),(4,.p (.int .i64 a.1))],[],[(36,.row 24 1 (a.2.map zR))],0⟩) (fun a=>a.1.toNat) (((s.length:Int),[])) ⟨by simp,by simp only []; omega,by simp,by simp⟩ ⟨qB (by simp),rfl,by simp,by simp⟩ ?_
 rintro ⟨e,acc⟩ ⟨h1,h2,hal,h3⟩
 simp only at h1 h2 h3 hal
 refine AW.seq (rgn [] [[],[0,3,4,11]] ?_)
 iterate 2 refine op1 tok ?_
 refine qA (cnd ?_ ?_)
 ·intro h11
  try simp at h11
  obtain ⟨n,rfl⟩:∃ n:Nat,e=n:=⟨e.toNat,by omega⟩
  obtain ⟨c,hc⟩:∃ c,c=(s.take n).drop (n-9):=⟨_,rfl⟩
  have hcd:c.all zJ=true:=by rw [hc]; exact qRG (qKC hs n) _
  have hcl:c.length≤9:=by rw [hc]; simp; omega
  have hvc:zK c=qAK s n:=by rw [hc]; rfl
  have hmx:(if 9<(n:Int) then (n:Int)-9 else 0).toNat=n-9:=by split <;> omega
  refine AW.skip (AW.seq (AW.block (rgn [] [[]] ?_)))
  refine op1 tok ?_
  refine qA (AW.seq (rgn [] [[],[],[],[],[],[0,3,4,5,19],[],[],[0,3,4,5,20,21,22]] ?_))
  iterate 9 refine op1 tok ?_
  refine qA (AW.block ?_)
  refine AW.loop (α:=Nat) (fun k=>k≤c.length) (fun k=>⟨qS 39 [(0,.p (.str s)),(3,.ms 36),(4,.p (.int .i64 n)),(5,.p (.int .u64 (zK (c.take k):Nat))),(20,.p (.sl 1 (zM c))),(21,.p (.int .i64 c.length)),(22,.p (.int .i64 k))],[],[(36,.row 24 1 (acc.map zR))],0⟩) (fun k=>c.length-k) (0) (by omega) ⟨qB (by simp [hmx,hc,zK]),rfl,by simp,by simp⟩ ?_
  rintro k hk
  have hck:=vQ (qKC hcd k)
  have hck2:(c.take k).length≤8→zK (c.take k)<100000000:=fun h=>Nat.lt_of_lt_of_le hck (Nat.pow_le_pow_right (n:=10) (by omega) h)
  have hix:∀ k:Nat,k<c.length→c[k]?=some (c.getD k 0):=fun k h=>kV h
  refine rgn [] [[]] ?_
  refine op1 tok ?_
  refine qA (AW.seq (cnd ?_ ?_))
  ·intro h23
   try simp at h23
   have hdk:=(wR _).1 (List.all_eq_true.1 hcd _ (List.mem_of_getElem? (hix k h23)))
   have hv8:zK (c.take k)<100000000:=hck2 (by simp; omega)
   have hsn:zK (c.take (k+1))=zK (c.take k) * 10+((c.getD k 0).toNat-48):=by rw [List.take_add_one,hix k h23]; exact qFC _ _
   have hbk:qM c k=((c.getD k 0).toNat:Int):=rfl
   have hw1:IntKind.u8.wrap (qM c k-48)=qM c k-48:=qTS (by omega) (by omega)
   have hw2:IntKind.u64.wrap ((zK (c.take k):Int) * 10)=(zK (c.take k):Int) * 10:=yA (by omega) (by omega)
   have hw3:IntKind.u64.wrap ((zK (c.take k):Int) * 10+(qM c k-48))=(zK (c.take (k+1)):Int):=by rw [yA (by omega) (by omega),hsn]; omega
   refine AW.skip (AW.seq (AW.block (rgn [.int .u8 (qM c k)] [[],[],[0,3,4,5,7,20,21,22]] ?_)))
   iterate 3 refine op1 tok ?_ (hv:=by first | with_reducible exact True.intro | (first | exact vN (hix k h23) | simp; done) | omega | simp | (simp +contextual; omega))
   refine qA (rgz [] [[],[],[],[0,3,4,20,21,22,27,29],[],[],[0,3,4,5,20,21,22]] ?_)
   iterate 7 refine op1 tok ?_
   refine qA (rgz [] [[],[0,3,4,5,20,21,22]] ?_)
   iterate 2 refine op1 tok ?_
   refine qA ?_
   exact ⟨k+1,by omega,by omega,qB (by simp [hw1,hw2,hw3]),rfl,by simp [hw1,hw2,hw3],by simp [hw1,hw2,hw3]⟩
  intro h23
  try simp at h23
  have hkc:k=c.length:=by omega
  subst hkc
  simp only [List.take_length,hvc]
  have hlz:=qCQ (s:=s) (e:=n) (by omega)
  have h3':acc++[qAK s n]++vH s ((n:Int)-9).toNat=vH s s.length:=by
   rw [← h3,show ((n:Int)).toNat=n by omega,hlz,show ((n:Int)-9).toNat=n-9 by omega]; simp
  refine AW.exit ?_
  simp
  refine rgz [.int .u64 (qAK s n:Nat)] [[],[],[],[0,4,36],[0,3,4]] ?_
  iterate 5 refine op1 tok ?_ (hv:=by first | with_reducible exact True.intro | ((simp; omega); done) | omega | simp | (simp +contextual; omega))
  refine qA (rgz [] [[],[],[0,3,4]] ?_)
  iterate 3 refine op1 tok ?_
  refine qA ?_
  exact ⟨(n:Int)-9,acc++[qAK s n],⟨by omega,by omega,by simp; omega,h3'⟩,by omega,qB (by simp),rfl,by simp,by simp⟩
 intro h11
 try simp at h11
 have hacc:acc=vH s s.length:=by rw [← h3,show e.toNat=0 by omega,kU]; simp
 subst hacc
 refine AW.exit ?_
 simp
 refine rgn [.nilp,.sl 1 ((kF s).map zR)] [[],[],[2]] ?_
 iterate 3 refine op1 tok ?_ (hv:=by first | with_reducible exact True.intro | (exact qMV _; done) | omega | simp | (simp +contextual; omega))
 exact qA (AW.ret qG)
theorem qLL (l m:List Nat) (h1:l.length≤1000000) (h2:m.length≤1000000):AFn Tryz.prog G 164 [.sl 1 (l.map zR),.sl 1 (m.map zR)] (.int .i64 (kS l m)):=by
 refine AFn.introU tok Tryz.func164 (by kernel_rfl) rfl rfl ?_
 simp only [Tryz.f164,qH,List.map_cons,List.map_nil]
 have hixl:∀ k:Nat,k<l.length→l[k]?=some (l.getD k 0):=fun k h=>by simp [List.getD_eq_getElem?_getD,h]
 have hixm:∀ k:Nat,k<m.length→m[k]?=some (m.getD k 0):=fun k h=>by simp [List.getD_eq_getElem?_getD,h]
 refine rgn [] [[0,1]] ?_
 refine op1 tok ?_
 refine qA (AW.seq (rgn [] [[],[],[],[],[0,1,10]] ?_))
 iterate 5 refine op1 tok ?_
 refine qA (cnd ?_ ?_)
 ·intro h10
  try simp at h10
  have hN:kS l m=(l.length:Int)-m.length:=by simp only [kS]; rw [if_pos (by omega)]
  refine rgn [] [[],[],[],[12,14],[],[4]] ?_
  iterate 6 refine op1 tok ?_
  refine qA ?_
  exact AW.ret (qG (k:=by simp [hN]))
 intro h10
 try simp at h10
 have hlen:l.length=m.length:=by omega
 have hN:kS l m=jA l m l.length:=by simp only [kS]; rw [if_neg (by omega)]
 rw [hN]
 refine AW.skip (AW.seq (rgn [] [[],[],[],[0,1,5]] ?_))
 iterate 4 refine op1 tok ?_
 refine qA (AW.block ?_)
 refine AW.loop (α:=Nat) (fun k=>k≤l.length∧jA l m l.length=jA l m k) (fun k=>⟨qS 41 [(0,.p (.sl 1 (l.map zR))),(1,.p (.sl 1 (m.map zR))),(5,.p (.int .i64 (k-1)))],[],[],0⟩) (fun k=>k) (l.length) ⟨Nat.le_refl _,rfl⟩ ⟨qB (by simp),rfl,by simp,by simp⟩ ?_
 rintro k ⟨hk,ht⟩
 refine AW.seq (rgn [] [[],[0,1,5,20]] ?_)
 iterate 2 refine op1 tok ?_
 refine qA (cnd ?_ ?_)
 ·intro h20
  try simp at h20
  obtain ⟨k,rfl⟩:∃ j,k=j+1:=⟨k-1,by omega⟩
  have hkl:k<l.length:=by omega
  have hkm:k<m.length:=by omega
  have hgl:=hixl k hkl
  have hgm:=hixm k hkm
  have hti:((k+1:Nat):Int)-1=k:=by omega
  simp only [hti]
  generalize hx:l.getD k 0=x at *
  generalize hy:m.getD k 0=y at *
  simp only [jA,hx,hy] at ht
  rw [ht]
  refine AW.skip (AW.seq (AW.block ?_))
  refine AW.seqRunDrawK tok mixed [0,1,5,31] 9 [[0],[5],[23,24],[25],[1],[5],[27,28],[29],[26,30]] [.int .u64 x,.int .u64 y] [] (by kernel_rfl) (by intro C; conv=>lhs; simp) (by simp [hgl,hgm]) (by simp [Sm.sum,Sm.foot,Sm.tch,Sm.refs]; kernel_rfl) (by intro C; conv=>lhs; simp) (by first | with_reducible exact True.intro | omega | simp | (simp +contextual; omega)) ?_
  refine cnd ?_ ?_
  ·intro h31
   try simp at h31
   rw [if_neg (by omega)]
   refine AW.seq ?_
   refine AW.seqRunDrawK tok mixed [40] 9 [[0],[5],[32,33],[34],[1],[5],[36,37],[38],[35,39]] [.int .u64 x,.int .u64 y] [] (by kernel_rfl) (by intro C; conv=>lhs; simp) (by simp [hgl,hgm]) (by simp [Sm.sum,Sm.foot,Sm.tch,Sm.refs]; kernel_rfl) (by intro C; conv=>lhs; simp) (by first | with_reducible exact True.intro | omega | simp | (simp +contextual; omega)) ?_
   refine cnd ?_ ?_
   ·intro h40
    try simp at h40
    rw [if_pos (by omega)]
    refine rgn [] [[]] ?_
    refine op1 tok ?_
    exact qA (AW.ret qG)
   intro h40
   try simp at h40
   rw [if_neg (by omega)]
   refine AW.skip (rgn [] [[]] ?_)
   refine op1 tok ?_
   exact qA (AW.ret qG)
  intro h31
  try simp at h31
  refine AW.skip (rgz [] [[],[],[0,1,5]] ?_)
  iterate 3 refine op1 tok ?_
  refine qA ?_
  exact ⟨k,⟨by omega,by rw [if_pos (by omega)]⟩,by omega,qB (by simp),rfl,by simp,by simp⟩
 intro h20
 try simp at h20
 have hk0:k=0:=by omega
 subst hk0
 rw [ht]
 simp only [jA]
 refine AW.exit ?_
 simp
 refine rgn [] [[]] ?_
 refine op1 tok ?_
 exact qA (AW.ret qG)
def yN (d:Dc) (sc:Int):List UInt8:=d.digits++List.replicate (sc-d.scale).toNat 48
theorem qRH (d:Dc) (sc:Int) (h1:d.digits.length≤1000) (h2:0≤d.scale) (h3:d.scale≤sc) (h4:sc≤1000) (hd:d.digits.all zJ=true):AFn Tryz.prog G 202 [d.enc,.ref [.int .i64 sc]] (.sl 1 ((kF (yN d sc)).map zR)):=by
 refine AFn.introU tok Tryz.func202 (by kernel_rfl) rfl rfl ?_
 simp only [Tryz.f202,qH,List.map_cons,List.map_nil]
 have hre:=qYB (G:=G) [48] (sc-d.scale).toNat (by simp; omega)
 rw [qVK,show (((sc-d.scale).toNat:Nat):Int)=sc-d.scale by omega] at hre
 have hna:=qZJ (G:=G) (yN d sc) (jK hd _) (by simp [yN]; omega)
 unfold yN at hna
 unfold yN
 refine rgn [] [[],[1,2]] ?_
 iterate 2 refine op1 tok ?_
 refine qA ?_
 refine AW.seqRunDrawK tok mixed [3] 9 [[2],[4],[1],[2],[7],[6,8],[9],[5,10],[11]] [.nilp,.str (List.replicate (sc-d.scale).toNat 48),.nilp,.sl 1 ((kF (d.digits++List.replicate (sc-d.scale).toNat 48)).map zR)] [] (by kernel_rfl) (by intro C; conv=>lhs; simp) (by ((repeat' (first | with_reducible apply And.intro | intro _)) <;> first | exact (hre) | exact (hna) | assumption | omega | contradiction | simp_all)) (by simp [Sm.sum,Sm.foot,Sm.tch,Sm.refs]; kernel_rfl) (by intro C; conv=>lhs; simp) (by first | with_reducible exact True.intro | omega | simp | (simp +contextual; omega)) ?_
 exact AW.ret qG
def qY (a b:Dc):Int:=if a.scale<b.scale then b.scale else a.scale
def okD (d:Dc):Prop:=d.digits.length≤1000∧0≤d.scale∧d.scale≤1000∧d.digits.all zJ=true
theorem qKD (a b:Dc) (ha:okD a) (hb:okD b):AFn Tryz.prog G 163 [a.enc,b.enc] (.tup [.sl 1 ((kF (yN a (qY a b))).map zR),.sl 1 ((kF (yN b (qY a b))).map zR),.int .i64 (qY a b)]):=by
 refine AFn.introU tok Tryz.func163 (by kernel_rfl) rfl rfl ?_
 simp only [Tryz.f163,qH,List.map_cons,List.map_nil]
 obtain ⟨a1,a2,a3,a4⟩:=ha
 obtain ⟨b1,b2,b3,b4⟩:=hb
 have hm1:a.scale≤qY a b:=by unfold qY; split <;> omega
 have hm2:b.scale≤qY a b:=by unfold qY; split <;> omega
 have hm3:qY a b≤1000:=by unfold qY; split <;> omega
 have e1:=qRH (G:=G) a (qY a b) a1 a2 hm1 hm3 a4
 have e2:=qRH (G:=G) b (qY a b) b1 b2 hm2 hm3 b4
 have hmx:(if a.scale<b.scale then b.scale else a.scale)=qY a b:=rfl
 refine rgn [] [[],[],[],[2,3],[2,3]] ?_
 iterate 5 refine op1 tok ?_
 refine qA (rgn [] [[],[],[],[],[2,3,13],[],[2,3,7]] ?_)
 iterate 7 refine op1 tok ?_
 refine qA (rgn [] [[],[2,3,7,8]] ?_)
 iterate 2 refine op1 tok ?_
 refine qA ?_
 refine AW.freezeV 7 (by conv=>lhs; simp [hmx]) ?_
 refine AW.seqRunDrawK tok mixed [4,5,6] 9 [[8],[2],[15,16],[8],[3],[18,19],[7],[17],[20]] [.nilp,.sl 1 ((kF (yN a (qY a b))).map zR),.nilp,.sl 1 ((kF (yN b (qY a b))).map zR)] [] (by kernel_rfl) (by intro C; conv=>lhs; simp) (by ((repeat' (first | with_reducible apply And.intro | intro _)) <;> first | exact (e1) | exact (e2) | assumption | omega | contradiction | simp_all)) (by simp [Sm.sum,Sm.foot,Sm.tch,Sm.refs]; kernel_rfl) (by intro C; conv=>lhs; simp) (by first | with_reducible exact True.intro | omega | simp | (simp +contextual; omega)) ?_
 exact AW.ret qG
def uE (a b:Dc):Int:=kS (kF (yN a (qY a b))) (kF (yN b (qY a b)))
def xU (a b:Dc):Int:=if a.neg=b.neg then (if a.neg=true then sgn (- uE a b) else sgn (uE a b)) else if a.neg=true then -1 else 1
theorem qWB (n:Int):(if 1<(if n < -1 then -1 else n) then 1 else (if n < -1 then -1 else n))=sgn n:=by unfold sgn; split <;> split <;> (try split) <;> omega
theorem zDO (a b:Dc) (ha:okD a) (hb:okD b):AFn Tryz.prog G 122 [a.enc,b.enc] (.int .i64 (xU a b)):=by
 refine AFn.introU tok Tryz.func122 (by kernel_rfl) rfl rfl ?_
 simp only [Tryz.f122,qH,List.map_cons,List.map_nil]
 have hal:=qKD (G:=G) a b ha hb
 have hl:∀ (d:Dc),okD d→∀ sc:Int,sc≤1000→(kF (yN d sc)).length≤1000000:=fun d hd sc hs=>by
  have:=qIZ (yN d sc); have:=hd.1; have:=hd.2.1; simp [yN] at *; omega
 have hm3:qY a b≤1000:=by have:=ha.2.2.1; have:=hb.2.2.1; unfold qY; split <;> omega
 have hcm:=qLL (G:=G) (kF (yN a (qY a b))) (kF (yN b (qY a b))) (hl a ha _ hm3) (hl b hb _ hm3)
 have hrg:=qNM (kF (yN a (qY a b))) (kF (yN b (qY a b))) (hl a ha _ hm3) (hl b hb _ hm3)
 rw [show kS (kF (yN a (qY a b))) (kF (yN b (qY a b)))=uE a b from rfl] at hcm hrg
 have hwn:IntKind.i64.wrap (- uE a b) = - uE a b:=by simp [IntKind.wrap,IntKind.bits,IntKind.signed]; omega
 refine rgn [] [[],[],[2,3]] ?_
 iterate 3 refine op1 tok ?_
 refine qA (rgn [.nilp,.tup [.sl 1 ((kF (yN a (qY a b))).map zR),.sl 1 ((kF (yN b (qY a b))).map zR),.int .i64 (qY a b)]] [[],[],[],[],[],[],[2,3,13,14,15],[],[],[2,3,5,6]] ?_)
 iterate 10 refine oq1 tok hal ?_
 refine qA (rgn [.nilp,.int .i64 (uE a b)] [[],[],[2,3,18],[2,3,8]] ?_)
 iterate 4 refine oq1 tok hcm ?_
 refine qA (AW.seq (AW.block (rgn [] [[],[],[],[],[2,8,24],[2,8,19]] ?_)))
 iterate 6 refine op1 tok ?_
 refine qA (cnd ?_ ?_)
 ·intro h19
  try simp at h19
  refine rgn [] [[]] ?_
  refine op1 tok ?_
  refine qA (rgn [] [[],[8,26]] ?_)
  iterate 2 refine op1 tok ?_
  refine qA (cnd ?_ ?_)
  ·intro h26
   try simp at h26
   have hC:xU a b = -1:=by unfold xU; rw [if_neg h19,if_pos h26]
   refine rgz [] [[]] ?_
   refine op1 tok ?_
   refine qA (rgn [] [[],[],[],[4]] ?_)
   iterate 4 refine op1 tok ?_
   refine qA ?_
   exact AW.ret (qG (k:=by simp [hC]))
  intro h26
  try simp at h26
  have hC:xU a b=1:=by unfold xU; rw [if_neg h19,if_neg (by simp [h26])]
  refine AW.skip (rgn [] [[],[],[],[4]] ?_)
  iterate 4 refine op1 tok ?_
  refine qA ?_
  exact AW.ret (qG (k:=by simp [hC]))
 intro h19
 try simp at h19
 refine rgn [] [[],[],[8,27]] ?_
 iterate 3 refine op1 tok ?_
 refine qA (cnd ?_ ?_)
 ·intro h27
  try simp at h27
  have hC:xU a b=sgn (- uE a b):=by unfold xU; rw [if_pos h19,if_pos h27]
  refine rgz [] [[],[],[8]] ?_
  iterate 3 refine op1 tok ?_
  refine qA (rgn [] [[],[],[],[4]] ?_)
  iterate 4 refine op1 tok ?_
  refine qA ?_
  exact AW.ret (qG (k:=by (simp [hwn,hC]; unfold sgn; (repeat' split) <;> omega)))
 intro h27
 try simp at h27
 have hC:xU a b=sgn (uE a b):=by unfold xU; rw [if_pos h19,if_neg (by simp [h27])]
 refine AW.skip (rgn [] [[],[],[],[4]] ?_)
 iterate 4 refine op1 tok ?_
 refine qA ?_
 exact AW.ret (qG (k:=by simp [qWB,hC]))
theorem wM {d:Dc} (h:zP d=true):okD d∧d.digits.length≤60∧d.scale≤60:=by
 unfold zP at h
 simp only [Bool.and_eq_true,decide_eq_true_eq] at h
 obtain ⟨⟨h1,h2⟩,_⟩:=h
 exact ⟨⟨by omega,by omega,by omega,h1⟩,by omega,by omega⟩
def qN (d:Dc):Nat:=zK d.digits * 10 ^ (60-d.scale.toNat)
def qD (d:Dc):Int:=if d.neg=true then-(qN d:Int) else qN d
theorem zCM {a:Int} {k:Int} (hk:0<k):sgn (a * k)=sgn a:=by
 unfold sgn
 by_cases h1:a<0
 ·rw [if_pos h1,if_pos (Int.mul_neg_of_neg_of_pos h1 hk)]
 rw [if_neg h1]
 by_cases h2:a=0
 ·subst h2; simp
 have:=Int.mul_pos (show 0<a by omega) hk
 rw [if_neg h2,if_neg (by omega),if_neg (by omega)]
theorem qZA {a b:Dc} (ha:zP a=true) (hb:zP b=true):sgn (uE a b)=sgn ((qN a:Int)-qN b):=by
 obtain ⟨⟨a1,a2,a3,a4⟩,a5,a6⟩:=wM ha
 obtain ⟨⟨b1,b2,b3,b4⟩,b5,b6⟩:=wM hb
 have hm1:a.scale≤qY a b:=by unfold qY; split <;> omega
 have hm2:b.scale≤qY a b:=by unfold qY; split <;> omega
 have hm3:qY a b≤60:=by unfold qY; split <;> omega
 unfold uE yN
 rw [qGU (qEF (jK a4 _)) (qEF (jK b4 _)),qEE (jK a4 _),qEE (jK b4 _),qDP,qDP]
 have ea:(qN a:Int)=((zK a.digits * 10 ^ (qY a b-a.scale).toNat:Nat):Int) * ((10 ^ (60-(qY a b).toNat):Nat):Int):=by
  rw [← Int.natCast_mul,Nat.mul_assoc,← Nat.pow_add,show (qY a b-a.scale).toNat+(60-(qY a b).toNat)=60-a.scale.toNat by omega]; rfl
 have eb:(qN b:Int)=((zK b.digits * 10 ^ (qY a b-b.scale).toNat:Nat):Int) * ((10 ^ (60-(qY a b).toNat):Nat):Int):=by
  rw [← Int.natCast_mul,Nat.mul_assoc,← Nat.pow_add,show (qY a b-b.scale).toNat+(60-(qY a b).toNat)=60-b.scale.toNat by omega]; rfl
 rw [ea,eb,← Int.sub_mul,zCM (by have:=Nat.pow_pos (n:=60-(qY a b).toNat) (show 0<10 by omega); omega)]
theorem qUD (n:Int):sgn (- n) = - sgn n:=by unfold sgn; split <;> split <;> (try split) <;> omega
theorem qBG {s:List UInt8} (hd:s.all zJ=true) (hl:0<s.length) (h:qM s 0≠48):10 ^ (s.length-1)≤zK s:=by
 cases s with
 | nil=>simp at hl
 | cons b s =>
  simp only [List.all_cons,Bool.and_eq_true] at hd
  have h1:=(wR b).1 hd.1
  have h2:b.toNat≠48:=by simp [qM] at h; omega
  rw [kA]
  have:=Nat.mul_le_mul_right (10 ^ s.length) (show 1≤b.toNat-48 by omega)
  simp; omega
theorem qUF {d:Dc} (h:zP d=true) (h0:qN d=0):d.neg=false:=by
 have hk:=wM h
 unfold zP at h
 simp only [Bool.and_eq_true,decide_eq_true_eq] at h
 obtain ⟨⟨h1,h2⟩,h3⟩:=h
 by_cases hz:d.digits=[48]
 ·rw [if_pos hz] at h3; simp at h3; exact h3.2
 rw [if_neg hz] at h3
 simp at h3
 have:=qBG h1 (by omega) h3.1
 have hp:=Nat.pow_pos (n:=d.digits.length-1) (show 0<10 by omega)
 have hq:0<qN d:=Nat.mul_pos (by omega) (Nat.pow_pos (by omega))
 omega
theorem qGC {a b:Dc} (ha:zP a=true) (hb:zP b=true):xU a b=sgn (qD a-qD b):=by
 have hr:=qZA ha hb
 unfold xU
 by_cases h:a.neg=b.neg
 ·rw [if_pos h]
  unfold qD
  rw [← h]
  split
  ·rw [qUD,hr,← qUD]; congr 1; omega
  exact hr
 rw [if_neg h]
 have hz1:=fun h0=>qUF ha h0
 have hz2:=fun h0=>qUF hb h0
 unfold qD
 cases hna:a.neg with
 | true =>
  have hnb:b.neg=false:=by rw [hna] at h; simpa using h
  have:qN a≠0:=fun e=>by have:=hz1 e; rw [hna] at this; cases this
  rw [hnb]; simp [sgn]; omega
 | false =>
  have hnb:b.neg=true:=by rw [hna] at h; simpa using h
  have:qN b≠0:=fun e=>by have:=hz2 e; rw [hnb] at this; cases this
  rw [hnb]; simp [sgn]; omega
def jF (s:List UInt8) (i:Nat):Nat→Nat→Int→Option Int
 | 0,_,v=>some v
 | r+1,j,v=>match s[i+j]? with
  | none=>none
  | some c=>if (c.toNat:Int)<128∨192≤(c.toNat:Int) then none else jF s i r (j+1) (64 * v+c.toNat-128)
def yM (c:Int):Nat × Int × Int :=
 if 194≤c∧c<224 then (2,128,c-192) else if 224≤c∧c<240 then (3,2048,c-224) else if 240≤c∧c<245 then (4,65536,c-240) else (0,0,0)
def qIM (low:Int) (need:Nat):Option Int→Int × Int
 | none=>(0,0)
 | some v=>if v<low∨v > 1114111∨(55296≤v∧v<57344) then (0,0) else (v,need)
def yP (s:List UInt8) (i:Nat) (x:Nat × Int × Int):Int × Int:=if x.1=0∨s.length<i+x.1 then (0,0) else qIM x.2.1 x.1 (jF s i (x.1-1) 1 x.2.2)
def wT (s:List UInt8) (i:Nat):Int × Int:=match s[i]? with
 | none=>(0,0)
 | some b=>if (b.toNat:Int)<128 then (b.toNat,1) else yP s i (yM b.toNat)
def rS (s:List UInt8) (i:Nat) (x:Nat × Int × Int):St:=⟨[.p (.str s),.p (.int .i64 i),.dead,.dead,.p (.int .i64 0),.p (.int .i64 0),.dead,.p (.int .i64 x.1),.p (.int .i64 x.2.1),.p (.int .i64 x.2.2)]++List.replicate 86 .dead,[],[],0⟩
def rS2 (s:List UInt8) (i:Nat) (need:Nat) (low:Int) (a:Nat × Int):St:=⟨[.p (.str s),.p (.int .i64 i),.dead,.dead,.p (.int .i64 0),.p (.int .i64 0),.dead,.p (.int .i64 need),.p (.int .i64 low),.p (.int .i64 a.2),.p (.int .i64 a.1)]++List.replicate 85 .dead,[],[],0⟩
theorem zDV (s:List UInt8) (i:Nat) (hi:i<s.length) (hs:s.length≤1000000000):AFn Tryz.prog G 92 [.str s,.int .i64 i] (.tup [.int .i64 (wT s i).1,.int .i64 (wT s i).2]):=by
 refine AFn.intro tok Tryz.func92 (by kernel_rfl) rfl ?_
 simp only [Tryz.f92,St.start]
 obtain ⟨b,hb⟩:∃ b,s[i]?=some b:=⟨s[i],by simp [hi]⟩
 have hblt:b.toNat<256:=b.toNat_lt
 have hrune:wT s i=if (b.toNat:Int)<128 then ((b.toNat:Int),1) else yP s i (yM b.toNat):=by simp only [wT,hb]
 refine AW.seqRun tok [] (by intro C; conv=>lhs; simp) trivial ?_
 refine AW.seqRun tok [.int .u8 b.toNat] (by intro C; conv=>lhs; simp) (by simp [hb]) ?_
 refine AW.seqRun tok [] (by intro C; conv=>lhs; simp) trivial ?_
 refine AW.seqRun tok [] (by intro C; conv=>lhs; simp) trivial ?_
 refine AW.seqRun tok [] (by intro C; conv=>lhs; simp) trivial ?_
 refine AW.join (α:=Nat × Int × Int) (fun x=>wT s i=yP s i x∧x.1≤4∧0≤x.2.2∧x.2.2≤40) (fun x=>rS s i x) ?_ ?_
 ·refine AW.block ?_
  refine AW.seqRun tok [] (by intro C; conv=>lhs; simp) trivial ?_
  refine AW.cond (c := .tmp 16) (by conv=>lhs; simp) trivial ?_ ?_
  ·intro h1
   simp at h1
   refine AW.seqRun tok [] (by intro C; conv=>lhs; simp) trivial ?_
   exact AW.ret ⟨.inr rfl,_,_,by (conv=>lhs; simp),trivial,by rw [hrune,if_pos h1]; simp⟩
  intro h1
  simp at h1
  have hr2:wT s i=yP s i (yM b.toNat):=by rw [hrune,if_neg (by omega)]
  refine AW.seqRun tok [] (by intro C; conv=>lhs; simp) (by simp) ?_
  refine AW.cond (c := .tmp 20) (by conv=>lhs; simp) trivial ?_ ?_
  ·intro h2
   simp at h2
   refine AW.seqRun tok [] (by intro C; conv=>lhs; simp) trivial ?_
   refine AW.seqRun tok [] (by intro C; conv=>lhs; simp) trivial ?_
   refine AW.run tok [] (by intro C; conv=>lhs; simp) (by omega) ?_
   exact ⟨(2,128,b.toNat-192),⟨by rw [hr2]; simp [yM,h2],by simp,by simp; omega,by simp; omega⟩,by simp [rS],rfl,by simp [rS],by simp [rS]⟩
  intro h2
  refine AW.seqRun tok [] (by intro C; conv=>lhs; simp) (by simp) ?_
  refine AW.cond (c := .tmp 29) (by conv=>lhs; simp) trivial ?_ ?_
  ·intro h3
   simp at h3
   refine AW.seqRun tok [] (by intro C; conv=>lhs; simp) trivial ?_
   refine AW.seqRun tok [] (by intro C; conv=>lhs; simp) trivial ?_
   refine AW.run tok [] (by intro C; conv=>lhs; simp) (by omega) ?_
   exact ⟨(3,2048,b.toNat-224),⟨by rw [hr2]; simp [yM,h3,show ¬ ((b.toNat:Int)<224) by omega],by simp,by simp; omega,by simp; omega⟩,by simp [rS],rfl,by simp [rS],by simp [rS]⟩
  intro h3
  refine AW.seqRun tok [] (by intro C; conv=>lhs; simp) (by simp) ?_
  refine AW.cond (c := .tmp 38) (by conv=>lhs; simp) trivial ?_ ?_
  ·intro h4
   simp at h4
   refine AW.seqRun tok [] (by intro C; conv=>lhs; simp) trivial ?_
   refine AW.seqRun tok [] (by intro C; conv=>lhs; simp) trivial ?_
   refine AW.run tok [] (by intro C; conv=>lhs; simp) (by omega) ?_
   exact ⟨(4,65536,b.toNat-240),⟨by rw [hr2]; simp [yM,h4,show ¬ ((b.toNat:Int)<224) by omega,show ¬ ((b.toNat:Int)<240) by omega],by simp,by simp; omega,by simp; omega⟩,by simp [rS],rfl,by simp [rS],by simp [rS]⟩
  intro h4
  simp at h2 h3 h4
  refine AW.skip ?_
  exact ⟨(0,0,0),⟨by rw [hr2]; simp [yM,show ¬ (194≤(b.toNat:Int)∧(b.toNat:Int)<224) by omega,show ¬ (224≤(b.toNat:Int)∧(b.toNat:Int)<240) by omega,show ¬ (240≤(b.toNat:Int)∧(b.toNat:Int)<245) by omega],
   by simp,by simp,by simp⟩,by simp [rS],rfl,by simp [rS],by simp [rS]⟩
 rintro ⟨need,low,v0⟩ ⟨hr,hneed,hv0,hv1⟩
 simp only at hneed hv0 hv1
 simp only [rS]
 rw [hr]
 refine AW.seq ?_
 refine AW.seqRun tok [] (by intro C; conv=>lhs; simp) (by simp +contextual; omega) ?_
 refine AW.cond (c := .tmp 56) (by conv=>lhs; simp) trivial ?_ ?_
 ·intro h1
  simp at h1
  refine AW.seqRun tok [] (by intro C; conv=>lhs; simp) trivial ?_
  exact AW.ret ⟨.inr rfl,_,_,by (conv=>lhs; simp),trivial,by simp [yP,show need=0∨s.length<i+need by omega]⟩
 intro h1
 simp at h1
 have hfit:¬ (need=0∨s.length<i+need):=by omega
 have htl:yP s i (need,low,v0)=qIM low need (jF s i (need-1) 1 v0):=by simp only [yP]; rw [if_neg hfit]
 rw [htl]
 refine AW.skip (AW.seq ?_)
 refine AW.seqRun tok [] (by intro C; conv=>lhs; simp) trivial ?_
 refine AW.block ?_
 refine AW.loop (α:=Nat × Int) (fun a=>1≤a.1∧a.1≤need∧jF s i (need-1) 1 v0=jF s i (need-a.1) a.1 a.2∧0≤a.2∧(a.1=1→a.2≤40)∧(a.1=2→a.2≤3000)∧(a.1=3→a.2≤200000)∧(a.1=4→a.2≤14000000))
  (fun a=>rS2 s i need low a) (fun a=>need-a.1) (1,v0) ⟨by simp,by omega,rfl,hv0,fun _=>hv1,by simp,by simp,by simp⟩ ⟨by simp [rS2],rfl,by simp [rS2],by simp [rS2]⟩ ?_
 rintro ⟨j,v⟩ ⟨hj1,hj2,hlp,hv,hb1,hb2,hb3,hb4⟩
 simp only at hj1 hj2 hlp hv hb1 hb2 hb3 hb4
 simp only [rS2]
 refine AW.seq ?_
 refine AW.seqRun tok [] (by intro C; conv=>lhs; simp) trivial ?_
 refine AW.cond (c := .tmp 59) (by conv=>lhs; simp) trivial ?_ ?_
 ·intro h4
  simp at h4
  obtain ⟨c,hc⟩:∃ c,s[i+j]?=some c:=⟨s[i+j]'(by omega),by simp [show i+j<s.length by omega]⟩
  have hclt:c.toNat<256:=c.toNat_lt
  have hstep:jF s i (need-j) j v=if (c.toNat:Int)<128∨192≤(c.toNat:Int) then none else jF s i (need-(j+1)) (j+1) (64 * v+c.toNat-128):=by
   rw [show need-j=(need-(j+1))+1 by omega]; simp only [jF,hc]
  refine AW.skip (AW.seq (AW.block ?_))
  refine AW.seqRun tok [.int .u8 c.toNat] (by intro C; conv=>lhs; simp) (by rw [show ((i:Int)+j).toNat=i+j by omega]; simp [hc]; omega) ?_
  refine AW.seq ?_
  refine AW.seqRun tok [] (by intro C; conv=>lhs; simp) (by simp) ?_
  refine AW.cond (c := .tmp 73) (by conv=>lhs; simp) trivial ?_ ?_
  ·intro h5
   simp at h5
   refine AW.seqRun tok [] (by intro C; conv=>lhs; simp) trivial ?_
   exact AW.ret ⟨.inr rfl,_,_,by (conv=>lhs; simp),trivial,by rw [hlp,hstep,if_pos (by omega)]; simp [qIM]⟩
  intro h5
  simp at h5
  refine AW.skip ?_
  refine AW.run tok [] (by intro C; conv=>lhs; simp) (by omega) ?_
  refine AW.run tok [] (by intro C; conv=>lhs; simp) (by omega) ?_
  exact ⟨(j+1,64 * v+c.toNat-128),⟨by simp,by simp; omega,by rw [hlp,hstep,if_neg (by omega)],by simp; omega,by simp; omega,by simp; omega,by simp; omega,by simp; omega⟩,by simp; omega,by simp [rS2],rfl,by simp [rS2],by simp [rS2]⟩
 intro h4
 simp at h4
 have hjn:j=need:=by omega
 subst hjn
 rw [hlp]
 simp only [Nat.sub_self,jF]
 refine AW.exit ?_
 simp
 refine AW.seq ?_
 refine AW.seqRun tok [] (by intro C; conv=>lhs; simp) (by omega) ?_
 refine AW.cond (c := .tmp 93) (by conv=>lhs; simp) trivial ?_ ?_
 ·intro h5
  simp at h5
  refine AW.seqRun tok [] (by intro C; conv=>lhs; simp) trivial ?_
  exact AW.ret ⟨.inr rfl,_,_,by (conv=>lhs; simp),trivial,by simp only [qIM]; rw [if_pos (by omega)]; simp⟩
 intro h5
 simp at h5
 refine AW.skip ?_
 refine AW.seqRun tok [] (by intro C; conv=>lhs; simp) trivial ?_
 exact AW.ret ⟨.inr rfl,_,_,by (conv=>lhs; simp),trivial,by simp only [qIM]; rw [if_neg (by omega)]; simp⟩
theorem qLE (s:List UInt8) (i:Nat) (hi:i<s.length):0≤(wT s i).2∧(i:Int)+(wT s i).2≤s.length∧(wT s i).2≤4:=by
 unfold wT
 split
 ·simp; omega
 rename_i b hb
 split
 ·simp; omega
 have h4:(yM b.toNat).1≤4:=by
  unfold yM; split
  ·simp
  split
  ·simp
  split <;> simp
 generalize yM b.toNat=x at h4
 unfold yP
 split
 ·simp; omega
 rename_i h
 have h':i+x.1≤s.length:=by omega
 unfold qIM
 split
 ·simp; omega
 split
 ·simp; omega
 simp only; omega
def qGJ (s:List UInt8):Nat→Nat→Bool
 | 0,_=>true
 | f+1,i=>if i<s.length then (if (wT s i).2=0 then false else qGJ s f (i+(wT s i).2.toNat)) else true
def qBF (s:List UInt8):Bool:=qGJ s (s.length+1) 0
def vS (s:List UInt8) (i:Nat):St:=⟨[.p (.str s),.dead,.p (.bool false),.p (.int .i64 i)]++List.replicate 17 .dead,[],[],0⟩
theorem qPH (s:List UInt8) (hs:s.length≤1000000000):AFn Tryz.prog G 48 [.str s] (.bool (qBF s)):=by
 refine AFn.intro tok Tryz.func48 (by kernel_rfl) rfl ?_
 simp only [Tryz.f48,St.start]
 refine AW.seqRun tok [] (by intro C; conv=>lhs; simp) trivial ?_
 refine AW.seqRun tok [] (by intro C; conv=>lhs; simp) trivial ?_
 refine AW.seq (AW.block ?_)
 refine AW.loop (α:=Nat × Nat) (fun a=>qBF s=qGJ s a.2 a.1∧a.1≤s.length∧s.length+1≤a.2+a.1) (fun a=>vS s a.1) (fun a=>s.length-a.1) (0,s.length+1) ⟨rfl,by simp,by simp⟩ ⟨by simp [vS],rfl,by simp [vS],by simp [vS]⟩ ?_
 rintro ⟨i,f⟩ ⟨hI,hi,hf⟩
 simp only at hI hi hf
 simp only [vS]
 refine AW.seq ?_
 refine AW.seqRun tok [] (by intro C; conv=>lhs; simp) trivial ?_
 refine AW.cond (c := .tmp 9) (by conv=>lhs; simp) trivial ?_ ?_
 ·intro h1
  simp at h1
  obtain ⟨f,rfl⟩:∃ f',f=f'+1:=⟨f-1,by omega⟩
  have hl:=qLE s i h1
  have hR:=zDV (G:=G) s i h1 hs
  simp only [qGJ,h1,if_true] at hI
  refine AW.skip (AW.block ?_)
  refine AW.seqRun tok [.tup [.str s,.int .i64 i],.tup [.int .i64 (wT s i).1,.int .i64 (wT s i).2]] (by intro C; conv=>lhs; simp) (by simp [hR]) ?_
  refine AW.seq ?_
  refine AW.seqRun tok [] (by intro C; conv=>lhs; simp) trivial ?_
  refine AW.cond (c := .tmp 17) (by conv=>lhs; simp) trivial ?_ ?_
  ·intro h2
   simp at h2
   refine AW.seqRun tok [] (by intro C; conv=>lhs; simp) trivial ?_
   exact AW.ret ⟨.inr rfl,_,_,by (conv=>lhs; simp),trivial,by rw [hI]; simp [h2]⟩
  intro h2
  simp at h2
  rw [if_neg h2] at hI
  refine AW.skip ?_
  refine AW.run tok [] (by intro C; conv=>lhs; simp) (by omega) ?_
  exact ⟨(i+(wT s i).2.toNat,f),⟨hI,by simp; omega,by simp; omega⟩,by simp; omega,by simp [vS]; omega,rfl,by simp [vS],by simp [vS]⟩
 intro h1
 simp at h1
 refine AW.exit ?_
 simp
 refine AW.seqRun tok [] (by intro C; conv=>lhs; simp) trivial ?_
 exact AW.ret ⟨.inr rfl,_,_,by (conv=>lhs; simp),trivial,by
  rw [hI]
  cases f with
  | zero=>simp [qGJ]
  | succ f=>simp only [qGJ]; rw [if_neg (by omega)]; simp⟩
end Go.Proofs.YtgcbapchinideaaGreatDoor
