import Derived.Test.YtgcbapchinideaaGreatDoorM4
import Derived.Test.YtgcbapchinideaaGreatDoorM3
import Derived.Test.YtgcbapchinideaaGreatDoorM1
import Derived.Maps.RangeRun
import Derived.Laws.RangeString
import Derived.Lib.RuneCount
import Derived.Lib.ValidU
import Derived.Lib.LaidU8T
import Derived.Lib.MapLaws
import Derived.Lib.ValidLaws
import Derived.RangeFuncBox
import Derived.RangeFuncLeaves
import Derived.Shelf.Abstract
import Derived.WalkKit
import Derived.OwnWalkIn
import Derived.TacticsInMore
import Derived.LoopNIn
import Derived.LoopIn
import Derived.Maps.AppendAt
import Derived.Shelf.Sort.Plain
import Derived.Test.YtgcbapchinideaaGreatDoorProg
import Derived.Shelf.Unicode.DecodeAny
import Derived.Shelf.Small.Strs
import Derived.Shelf.Strings.Repeat
import Derived.Shelf.Strings.Builder1
import Derived.Shelf.Strings.OnBuilder
import Derived.Shelf.Slices.In.SortNone
import Derived.Sort.OwnSorted
import Derived.Lib.Repeat
import Derived.Shelf.Unicode.ValidAny
import Derived.Lib.Bytealg
namespace Go.Proofs.YtgcbapchinideaaGreatDoor
open Sy Go
set_option maxRecDepth 100000
set_option linter.unusedSimpArgs false
set_option linter.unusedVariables false
structure Dc where
 neg:Bool
 digits:List UInt8
 scale:Int
 deriving DecidableEq
@[simp] def Dc.enc (d:Dc):PD := .agg [.bool d.neg,.str d.digits,.int .i64 d.scale]
inductive Val where
 | mk (kind mask:Int) (num:Dc) (text:List UInt8) (keys:List (List UInt8)) (kids:List Val) (code:Int)
def Val.kind:Val→Int
 | .mk k _ _ _ _ _ _=>k
def Val.mask:Val→Int
 | .mk _ m _ _ _ _ _=>m
def Val.num:Val→Dc
 | .mk _ _ n _ _ _ _=>n
def Val.text:Val→List UInt8
 | .mk _ _ _ t _ _ _=>t
def Val.keys:Val→List (List UInt8)
 | .mk _ _ _ _ ks _ _=>ks
def Val.kids:Val→List Val
 | .mk _ _ _ _ _ vs _=>vs
def Val.code:Val→Int
 | .mk _ _ _ _ _ _ c=>c
@[simp] theorem Val.kind_mk (k m:Int) (n:Dc) (t:List UInt8) (ks:List (List UInt8)) (vs:List Val) (c:Int):(Val.mk k m n t ks vs c).kind=k:=rfl
@[simp] theorem Val.mask_mk (k m:Int) (n:Dc) (t:List UInt8) (ks:List (List UInt8)) (vs:List Val) (c:Int):(Val.mk k m n t ks vs c).mask=m:=rfl
@[simp] theorem Val.num_mk (k m:Int) (n:Dc) (t:List UInt8) (ks:List (List UInt8)) (vs:List Val) (c:Int):(Val.mk k m n t ks vs c).num=n:=rfl
@[simp] theorem Val.text_mk (k m:Int) (n:Dc) (t:List UInt8) (ks:List (List UInt8)) (vs:List Val) (c:Int):(Val.mk k m n t ks vs c).text=t:=rfl
@[simp] theorem Val.keys_mk (k m:Int) (n:Dc) (t:List UInt8) (ks:List (List UInt8)) (vs:List Val) (c:Int):(Val.mk k m n t ks vs c).keys=ks:=rfl
@[simp] theorem Val.kids_mk (k m:Int) (n:Dc) (t:List UInt8) (ks:List (List UInt8)) (vs:List Val) (c:Int):(Val.mk k m n t ks vs c).kids=vs:=rfl
@[simp] theorem Val.code_mk (k m:Int) (n:Dc) (t:List UInt8) (ks:List (List UInt8)) (vs:List Val) (c:Int):(Val.mk k m n t ks vs c).code=c:=rfl
mutual
def Val.enc:Val→PD
 | .mk k m n t ks vs c => .agg [.int .i64 k,.int .u64 m,.bool n.neg,.str n.digits,.int .i64 n.scale,.str t,.sl 1 (ks.map PD.str),.sl 9 (Val.encL vs),.int .i64 c]
def Val.encL:List Val→List PD
 | []=>[]
 | v::vs=>Val.enc v::Val.encL vs
end
def dc0:Dc:=⟨false,[],0⟩
def qRV:Val := .mk 1 0 dc0 [] [] [] 0
theorem Val.encL_map:∀ l,Val.encL l=l.map Val.enc
 | []=>by simp only [Val.encL,List.map_nil]
 | v::vs=>by simp only [Val.encL,List.map_cons,Val.encL_map vs]
@[simp] theorem Val.enc_def (v:Val):v.enc = .agg [.int .i64 v.kind,.int .u64 v.mask,.bool v.num.neg,.str v.num.digits,.int .i64 v.num.scale,.str v.text,.sl 1 (v.keys.map PD.str),.sl 9 (v.kids.map Val.enc),.int .i64 v.code]:=by
 cases v; simp only [Val.enc,Val.encL_map,Val.kind,Val.mask,Val.num,Val.text,Val.keys,Val.kids,Val.code]
mutual
def Val.sz:Val→Nat
 | .mk _ _ _ _ _ vs _=>1+Val.szL vs
def Val.szL:List Val→Nat
 | []=>0
 | v::vs=>Val.sz v+Val.szL vs
end
theorem Val.szL_mem {k:Val}:∀ {l:List Val},k∈l→Val.sz k≤Val.szL l
 | v::vs,h=>by
  simp only [Val.szL]
  rcases List.mem_cons.1 h with rfl | h
  ·omega
  have:=Val.szL_mem h; omega
theorem Val.sz_kid {v k:Val} (h:k∈v.kids):Val.sz k<Val.sz v:=by
 cases v; simp only [Val.kids] at h; simp only [Val.sz]; have:=Val.szL_mem h; omega
theorem Val.induct {p:Val→Prop} (h:∀ v,(∀ k∈v.kids,p k)→p v) (v:Val):p v:=by
 have key:∀ n v,Val.sz v=n→p v:=by
  intro n
  induction n using Nat.strongRecOn with
  | _ n ih=>intro v hv; exact h v fun k hk=>ih _ (hv ▸ Val.sz_kid hk) k rfl
 exact key _ v rfl
theorem Val.ext {a b:Val} (h1:a.kind=b.kind) (h2:a.mask=b.mask) (h3:a.num=b.num) (h4:a.text=b.text) (h5:a.keys=b.keys) (h6:a.kids=b.kids) (h7:a.code=b.code):a=b:=by
 cases a; cases b; simp_all [Val.kind,Val.mask,Val.num,Val.text,Val.keys,Val.kids,Val.code]
theorem Dc.ext' {a b:Dc} (h1:a.neg=b.neg) (h2:a.digits=b.digits) (h3:a.scale=b.scale):a=b:=by cases a; cases b; simp_all
end Go.Proofs.YtgcbapchinideaaGreatDoor
namespace Go.Proofs.YtgcbapchinideaaGreatDoor.Sy
open Go
section
variable {P:Program} {T:Tab} {G:qG} {Q:Exit→St→Prop} {st st':St}
theorem Turned.refl (w:World) (b:Nat):Turned w w b:=⟨rfl,rfl,rfl,rfl,fun _ _=>rfl⟩
end
set_option linter.unusedSimpArgs false
section
variable {P:Program} {T:Tab} {G:qG} {Q:Exit→St→Prop} {st st':St}
def vF (ks:List (List UInt8)) (vs:List V) (s:List UInt8) (v:V):List V:=if s∈ks then vs.set (ks.idxOf s) v else vs++[v]
theorem qRB (hT : TOK P T) {o : Oper} {t el : TypeId} {x y : Operand} (ho : o.op = .slice t x none (some y) none) (ht : zK T t = some (.sl el)) {p q : Prop} {id : Nat} {kd : IntKind} {z : Int} (n : Nat)
  (h1:st.arg G x=(p,.ms id)) (hp:p) (h2:st.arg G y=(q,.p (.int kd z))) (hq:q) {e sz:Nat} {es:List PD} {ti:TI} (hti:T el=some ti) (hb:zQ id st.H=some (.row e sz es)) (hn:n≤es.length) (hz:z=(n:Int)) :
  qS P G o st (.ms id) { st.kill id with H:=(id,.row e sz (es.take n))::(st.kill id).H }:=by
 subst hz
 intro c M μ tmps w hg r
 have hd:=hT.sl ht
 obtain ⟨i,de,hi',_,_,hsz,_⟩:=hT.get hti
 have hso:(sizeOf el).run P w = .ok ti.size w:=by simp [sizeOf,typeInfo,hi',hsz]
 have e1:=qB hg r h1 hp
 have e2:=(qB hg r h2 hq).p_inv
 generalize hu1:Act.eval ⟨tmps,[]⟩ x=u1 at e1
 generalize hu2:Act.eval ⟨tmps,[]⟩ y=u2 at e2
 cases e1 with
 | ms hval hone =>
 cases e2 with
 | int _ _ =>
 have hm:=qZ hb
 have hk:qE id st.H=true:=qC.2 ⟨_,hm⟩
 have rk:=r.kill id
 have hbx:=r.box id _ hm
 cases hbx with
 | rowN h0 hv =>
  rw [hv] at hval
  subst hval
  obtain rfl:n=0:=by simpa using hn
  have hbd:=yK (P:=P) (isSlice:=true) (len:=0) (cap:=0) (lo:=none) (hi:=some (.int kd 0)) (l:=0) (h:=0) (.inl ⟨rfl,rfl⟩) (.inr ⟨kd,rfl⟩) (by omega) (by omega) (by omega) w
  have er:(execOp (Act.eval ⟨tmps,[]⟩) o).run P w = .ok (.value (.slice none 0 0)) w:=by
   simp at hbd
   simp [execOp,ho,hu1,hu2,Instr.sliceAt,Instr.slice,run_underlying hd,hbd,hso]
  rw [er]
  exact ⟨M,upd μ id ⟨none,.slice none 0 0⟩,rk.adopt (l:=⟨none,.slice none 0 0⟩) (jM st id) (fun b hb=>by cases hb) (.rowN (by rw [qL]) (by rw [qL])),.ms (by rw [qL]) rfl⟩
 | @row _ _ _ b cap arr h0 hv hh has hlc hcm hone' hz hcc =>
  rw [hv] at hval
  subst hval
  have hbd:=yK (P:=P) (isSlice:=true) (len:=es.length) (cap:=cap) (lo:=none) (hi:=some (.int kd n)) (l:=0) (h:=n) (.inl ⟨rfl,rfl⟩) (.inr ⟨kd,rfl⟩) (by omega) (by omega) (by omega) w
  have er:(execOp (Act.eval ⟨tmps,[]⟩) o).run P w = .ok (.value (.slice (some ⟨b,0,none⟩) n cap)) w:=by
   simp at hbd
   have ha:(if cap=0 then (some (⟨b,0,none⟩:Addr)) else (some (⟨b,0,none⟩:Addr)).map (·.add (0 * ti.size)))=some ⟨b,0,none⟩:=by
    split
    ·rfl
    simp [Addr.add]
   simp [execOp,ho,hu1,hu2,Instr.sliceAt,Instr.slice,run_underlying hd,hbd,hso]
   try simpa using ha
  rw [er]
  have hown:=r.own id b hk h0
  refine ⟨M,upd μ id ⟨some b,.slice (some ⟨b,0,none⟩) n cap⟩,rk.adopt (l:=⟨some b,.slice (some ⟨b,0,none⟩) n cap⟩) (jM st id) (fun b' hb' => ?_) (.row (cap:=cap) (by rw [qL]) (by rw [qL]; simp [Nat.min_eq_left hn]) hh has (by simp; omega) hcm hone' (fun i e' he=>hz i e' ?_) fun i e' j d u he hd hu=>hcc i e' j d u ?_ hd hu),.ms (by rw [qL]) rfl⟩
  ·cases hb'; exact ⟨hown.1,hown.2.1,hown.2.2,qFC r hk h0⟩
  ·rw [List.getElem?_take] at he; split at he
   ·exact he
   cases he
  rw [List.getElem?_take] at he; split at he
  ·exact he
  cases he
theorem qFT {o : Oper} {st : St} {x a b : Operand} {tys : Array TypeId} {f : FuncId} (he : qPB P f Extern.BytealgCount.count)
  (ho:o.op = .call { callee := .value x,args := #[a,b],argTypes:=tys }) {p q r:Prop} {s:List UInt8} {n:Int} (hf:st.arg G x=(p,.p (.fn f))) (hp:p)
  (ha:st.arg G a=(q,.p (.str s))) (hq:q) (hb:st.arg G b=(r,.p (.int .u8 n))) (hr:r):qS P G o st (.p (.int .i64 (s.count n.toNat.toUInt8:Nat))) st:=by
 intro c M μ tmps w hg rel
 have h1:=(qB hg rel hf hp).p_inv
 have h2:=(qB hg rel ha hq).p_inv
 have h3:=(qB hg rel hb hr).p_inv
 generalize hu1:Act.eval ⟨tmps,[]⟩ x=u1 at h1
 generalize hu2:Act.eval ⟨tmps,[]⟩ a=u2 at h2
 generalize hu3:Act.eval ⟨tmps,[]⟩ b=u3 at h3
 cases h1
 cases h3
 cases h2 with
 | @str bb _ hs hm =>
 have e:(execOp (Act.eval ⟨tmps,[]⟩) o).run P w = .ok (.value (.int .i64 (s.count n.toNat.toUInt8:Nat))) w:=by
  have e1:=he #[.string bb,.int .u8 n] w
  rw [Lib.run_countString] at e1
  subst hs
  simp only [execOp,ho,resolve,Deferred.ofValue,hu1,invoke]
  simpa [hu2,hu3,Lib.countByte] using e1
 rw [e]
 have hc:s.count n.toNat.toUInt8≤s.length:=List.count_le_length
 simp [maxLen] at hm
 exact ⟨M,μ,rel,.p (Rd.intOf (by simp [wZ]) (by simp only [yA]; omega))⟩
end
end Go.Proofs.YtgcbapchinideaaGreatDoor.Sy
namespace Go.Proofs.YtgcbapchinideaaGreatDoor
open Sy Go
set_option maxRecDepth 100000
set_option maxHeartbeats 4000000
set_option linter.unusedSimpArgs false
set_option linter.unusedVariables false
variable {G:qG}
theorem qQO (ks:List (List UInt8)) (hn:ks.length≤1000000):AX Tryz.prog G 140 [.p (.sl 1 (ks.map PD.str))] [] (.ms 905) [] [(905,.row 9 1 (ks.map PD.str))]:=by
 refine AX.introU tok 900 Tryz.func140 (by kernel_rfl) rfl rfl ?_
 simp only [Tryz.f140,qN,List.map_cons,List.map_nil]
 refine rgn [] [[0]] ?_
 refine op1 tok ?_
 refine qA (AW.seq (rgn [] [[]] ?_))
 refine op1 tok ?_
 refine kD ?_
 refine qH.nilEq tok [0,4] rfl rfl (by conv=>lhs; simp) trivial rfl ?_
 intro bn1 hbn1
 refine qH.same (by conv=>lhs; simp) ?_
 refine qH.nil ?_
 refine cnd ?_ ?_
 ·intro h4
  try simp at h4
  have hks:ks=[]:=by
   by_cases h:ks=[]
   ·exact h
   rw [hbn1 (by simpa using h)] at h4; cases h4
  subst hks
  refine rgn [] [[]] ?_
  refine op1 tok ?_
  refine qA ?_
  refine AW.beginE 2 905 9 1 (by simp) (by simp) (by conv=>lhs; simp) ?_
  exact AW.ret qDP
 intro h4
 try simp at h4
 refine AW.skip (rgn [] [[],[],[],[2]] ?_)
 iterate 4 refine op1 tok ?_
 refine qA ?_
 exact AW.ret qDP
theorem qQP (ks:List (List UInt8)) (hn:ks.length≤1000000):AR Tryz.prog G 140 [.sl 1 (ks.map PD.str)] 9 1 (ks.map PD.str):=AR.of_AX (k:=905) (by simpa using qQO ks hn)
theorem qQN (vs:List Val) (hn:vs.length≤1000000):AX Tryz.prog G 38 [.p (.sl 9 (vs.map Val.enc))] [] (.ms 905) [] [(905,.row 31 9 (vs.map Val.enc))]:=by
 refine AX.introU tok 900 Tryz.func38 (by kernel_rfl) rfl rfl ?_
 simp only [Tryz.f38,qN,List.map_cons,List.map_nil]
 refine rgn [] [[0]] ?_
 refine op1 tok ?_
 refine qA (AW.seq (rgn [] [[]] ?_))
 refine op1 tok ?_
 refine kD ?_
 refine qH.nilEq tok [0,4] rfl rfl (by conv=>lhs; simp) trivial rfl ?_
 intro bn1 hbn1
 refine qH.same (by conv=>lhs; simp) ?_
 refine qH.nil ?_
 refine cnd ?_ ?_
 ·intro h4
  try simp at h4
  have hks:vs=[]:=by
   by_cases h:vs=[]
   ·exact h
   rw [hbn1 (by simpa using h)] at h4; cases h4
  subst hks
  refine rgn [] [[]] ?_
  refine op1 tok ?_
  refine qA ?_
  refine AW.beginE 2 905 31 9 (by simp) (by simp) (by conv=>lhs; simp) ?_
  exact AW.ret qDP
 intro h4
 try simp at h4
 refine AW.skip (rgn [] [[],[],[],[2]] ?_)
 iterate 4 refine op1 tok ?_
 refine qA ?_
 exact AW.ret qDP
theorem qCT (vs:List Val) (hn:vs.length≤1000000):AR Tryz.prog G 38 [.sl 9 (vs.map Val.enc)] 31 9 (vs.map Val.enc):=AR.of_AX (k:=905) (by simpa using qQN vs hn)
def jN (n:Int):Bool:=decide (48≤n) && decide (n≤57)
def zA (b:UInt8):Bool:=jN b.toNat
theorem qTB (n:Int):AFn Tryz.prog G 57 [.int .u8 n] (.bool (jN n)):=by
 refine AFn.introU tok Tryz.func57 (by kernel_rfl) rfl rfl ?_
 simp only [Tryz.f57,qN,List.map_cons,List.map_nil]
 refine rgn [] [[0]] ?_
 refine op1 tok ?_
 refine qA (rgn [] [[],[],[],[],[5,7],[],[2]] ?_)
 iterate 3 refine op1 tok ?_
 iterate 2 refine op2 tok ?_
 iterate 2 refine op1 tok ?_
 refine qA ?_
 exact AW.ret (qI (k:=by simp [jN]))
def qO (s:List UInt8) (i:Nat):Int:=((s.getD i 0).toNat:Int)
theorem yR {s:List UInt8} {i:Nat} (h:i<s.length):s[i]?=some (s.getD i 0):=by simp [List.getD_eq_getElem?_getD,h]
def zD (s:List UInt8) (k:Nat):Nat:=((s.drop k).takeWhile fun b=>jN b.toNat).length
theorem qBF {p:UInt8→Bool}:∀ {l:List UInt8} {n:Nat},n≤(l.takeWhile p).length→((n<(l.takeWhile p).length)↔∃ b,l[n]?=some b∧p b=true)
 | [],n,h=>by simp at h; subst h; simp
 | a::l,n,h=>by
  rw [List.takeWhile_cons] at h ⊢
  by_cases ha:p a=true
  ·rw [if_pos ha] at h ⊢
   cases n with
   | zero=>simp [ha]
   | succ n=>simpa using qBF (l:=l) (n:=n) (by simpa using h)
  rw [if_neg ha] at h ⊢
  simp at h; subst h
  simp [ha]
theorem qIG {s:List UInt8} {k n:Nat} (h:n≤zD s k):n<zD s k↔(k+n<s.length∧jN (qO s (k+n))=true):=by
 unfold zD at h ⊢
 rw [qBF h]
 constructor
 ·rintro ⟨b,hb,hd⟩
  rw [List.getElem?_drop] at hb
  have:=(List.getElem?_eq_some_iff.1 hb).1
  refine ⟨this, ?_⟩
  rw [qO,List.getD_eq_getElem?_getD,hb]; exact hd
 rintro ⟨h1,h2⟩
 exact ⟨s.getD (k+n) 0,by rw [List.getElem?_drop]; exact yR h1,h2⟩
theorem qIH (s:List UInt8) (k:Nat):zD s k≤s.length:=by
 unfold zD
 have:=(List.takeWhile_sublist (l:=s.drop k) fun b:UInt8=>jN b.toNat).length_le
 simp at this; omega
theorem qVY (s:List UInt8) (k:Nat) (hs:s.length≤1000000) (hk:k≤1000000):AFn Tryz.prog G 62 [.str s,.int .i64 k] (.int .i64 (zD s k)):=by
 refine AFn.introU tok Tryz.func62 (by kernel_rfl) rfl rfl ?_
 simp only [Tryz.f62,qN,List.map_cons,List.map_nil]
 refine rgn [] [[0,1]] ?_
 refine op1 tok ?_
 refine qA (rgn [] [[]] ?_)
 refine op1 tok ?_
 refine qA (AW.seq (AW.block ?_))
 refine AW.loop (α:=Nat) (fun n=>n≤zD s k) (fun n=>⟨qV 23 [(0,.p (.str s)),(1,.p (.int .i64 k)),(5,.p (.int .i64 n))],[],[],0⟩) (fun n=>zD s k-n) (0) (by omega) ⟨qD (by simp),rfl,by simp,by simp⟩ ?_
 rintro n hn
 have hrl:=qIH s k
 have hlt:=qIG hn
 have hd:=qTB (G:=G) (qO s (k+n))
 have hix:k+n<s.length→s[((k:Int)+n).toNat]?=some (s.getD (k+n) 0):=fun h=>by rw [show ((k:Int)+n).toNat=k+n by omega]; exact yR h
 refine AW.seq (rgn [.int .u8 (qO s (k+n)),.nilp,.bool (jN (qO s (k+n)))] [[],[],[],[],[],[0,1,5,11],[],[],[],[],[],[0,1,5,12,17],[],[0,1,5,19]] ?_)
 iterate 7 refine op1 tok ?_ (hv:=by first | with_reducible exact True.intro | (first | exact fun h=>⟨h,by omega,_,hix (by omega),rfl⟩ | simp [hd]; done) | omega | simp | (simp +contextual; omega))
 iterate 6 refine op2 tok ?_ (hv:=by first | with_reducible exact True.intro | (first | exact fun h=>⟨h,by omega,_,hix (by omega),rfl⟩ | simp [hd]; done) | omega | simp | (simp +contextual; omega))
 refine op1 tok ?_ (hv:=by first | with_reducible exact True.intro | (first | exact fun h=>⟨h,by omega,_,hix (by omega),rfl⟩ | simp [hd]; done) | omega | simp | (simp +contextual; omega))
 refine qA (cnd ?_ ?_)
 ·intro h19
  try simp at h19
  have hlt':=hlt.2 ⟨by omega,h19.2⟩
  refine AW.skip (AW.block (rgz [] [[],[],[0,1,5]] ?_))
  iterate 3 refine op1 tok ?_
  refine qA ?_
  exact ⟨n+1,by omega,by omega,qD (by simp),rfl,by simp,by simp⟩
 intro h19
 try simp at h19
 have hge:n=zD s k:=by
  refine Nat.le_antisymm hn (Nat.not_lt.1 fun h => ?_)
  have:=hlt.1 h
  have:=h19 (by omega)
  simp_all
 subst hge
 refine AW.exit ?_
 simp
 refine rgn [] [[],[4]] ?_
 iterate 2 refine op1 tok ?_
 exact qA (AW.ret qI)
def wV (n:Nat):List UInt8:=List.replicate n 48
theorem qQZ (n:Int) (hn:n≤1000000):AFn Tryz.prog G 63 [.int .i64 n] (.str (wV n.toNat)):=by
 refine AFn.introU tok Tryz.func63 (by kernel_rfl) rfl rfl ?_
 simp only [Tryz.f63,qN,List.map_cons,List.map_nil]
 refine rgn [] [[0]] ?_
 refine op1 tok ?_
 refine qA (rgn [] [[]] ?_)
 refine op1 tok ?_
 refine qA (AW.seq (rgn [] [[]] ?_))
 refine op1 tok ?_
 refine qA (AW.block ?_)
 refine AW.loop (α:=Nat) (fun k=>k≤n.toNat) (fun k=>⟨qV 13 [(0,.p (.int .i64 n)),(3,.p (.str (wV k))),(4,.p (.int .i64 k))],[],[],0⟩) (fun k=>n.toNat-k) (0) (by omega) ⟨qD (by simp [wV]),rfl,by simp,by simp⟩ ?_
 rintro k hk
 refine AW.seq (rgn [] [[],[],[0,3,4,7]] ?_)
 iterate 3 refine op1 tok ?_
 refine qA (cnd ?_ ?_)
 ·intro h7
  try simp at h7
  refine AW.skip (AW.seq (AW.block (rgz [] [[],[],[0,3,4]] ?_)))
  iterate 3 refine op1 tok ?_ (hv:=by first | with_reducible exact True.intro | (simp [wV]; omega; done) | omega | simp | (simp +contextual; omega))
  refine qA (rgz [] [[],[],[0,3,4]] ?_)
  iterate 3 refine op1 tok ?_
  refine qA ?_
  exact ⟨k+1,by omega,by omega,qD (by simp [wV,List.replicate_succ']),rfl,by simp [wV,List.replicate_succ'],by simp [wV,List.replicate_succ']⟩
 intro h7
 try simp at h7
 have hkn:k=n.toNat:=by omega
 subst hkn
 refine AW.exit ?_
 simp
 refine rgn [] [[],[2]] ?_
 iterate 2 refine op1 tok ?_
 exact qA (AW.ret qI)
def qP (s:List UInt8):List UInt8:=s.dropWhile (· == 48)
def wC (d:List UInt8):Nat→List UInt8 × Nat
 | 0=>(d,0)
 | k+1=>if d.getLast?=some 48 then wC d.dropLast k else (d,k+1)
def wM (neg:Bool) (digits:List UInt8) (scale:Nat):Dc × Int :=
 let x:=wC (qP digits) scale
 if x.1=[] then (⟨false,[48],0⟩,0) else if 60<x.1.length∨60<x.2 then (⟨false,[],0⟩,3) else (⟨neg,x.1,x.2⟩,0)
theorem uQ {d:List UInt8} (h:0<d.length):qO d (d.length-1)=48↔d.getLast?=some 48:=by
 rw [List.getLast?_eq_getElem?,qO,List.getD_eq_getElem?_getD,yR (by omega)]
 simp only [Option.getD_some,Option.some.injEq]
 constructor
 ·intro h2; exact UInt8.toNat_inj.1 (by have:((d.getD (d.length-1) 0).toNat:Int)=48:=h2; show (d.getD (d.length-1) 0).toNat=48; omega)
 intro h2; rw [h2]; rfl
theorem jC (d:List UInt8):d.take (d.length-1)=d.dropLast:=(List.dropLast_eq_take).symm
theorem qPA (neg:Bool) (digits:List UInt8) (scale:Nat) (hd:digits.length≤1000000) (hs:scale≤1000000):AFn Tryz.prog G 59 [.bool neg,.str digits,.int .i64 scale] (.tup [(wM neg digits scale).1.enc,.int .i64 (wM neg digits scale).2]):=by
 refine AFn.introU tok Tryz.func59 (by kernel_rfl) rfl rfl ?_
 simp only [Tryz.f59,qN,List.map_cons,List.map_nil]
 refine rgn [] [[],[0,1,2,6]] ?_
 iterate 2 refine op1 tok ?_
 refine qA (AW.seq (AW.block ?_))
 refine AW.loop (α:=List UInt8) (fun r=>qP r=qP digits∧r.length≤digits.length) (fun r=>⟨qV 55 [(0,.p (.bool neg)),(1,.p (.str r)),(2,.p (.int .i64 scale)),(6,.ptr 6 0)],[],[(6,.vars 26 [.p (.bool false),.p (.str []),.p (.int .i64 0)])],0⟩) (fun r=>r.length) (digits) ⟨rfl,Nat.le_refl _⟩ ⟨qD (by simp),rfl,by simp,by simp⟩ ?_
 rintro r ⟨hr,hrl⟩
 have hix:0<r.length→r[0]?=some (r.getD 0 0):=fun h=>yR h
 refine AW.seq (rgn [.int .u8 (qO r 0)] [[],[],[],[],[],[0,1,2,6,11,13],[],[0,1,2,6,15]] ?_)
 iterate 4 refine op1 tok ?_ (hv:=by first | with_reducible exact True.intro | (first | exact fun h=>⟨h,_,hix (by omega),rfl⟩ | simp; done) | omega | simp | (simp +contextual; omega))
 iterate 3 refine op2 tok ?_ (hv:=by first | with_reducible exact True.intro | (first | exact fun h=>⟨h,_,hix (by omega),rfl⟩ | simp; done) | omega | simp | (simp +contextual; omega))
 refine op1 tok ?_ (hv:=by first | with_reducible exact True.intro | (first | exact fun h=>⟨h,_,hix (by omega),rfl⟩ | simp; done) | omega | simp | (simp +contextual; omega))
 refine qA (cnd ?_ ?_)
 ·intro h15
  try simp at h15
  obtain ⟨b,r,rfl⟩:∃ b r',r=b::r':=by
   cases r with
   | nil=>simp at h15
   | cons b r=>exact ⟨b,r,rfl⟩
  have hb:b=48:=UInt8.toNat_inj.1 (by have h9:(b.toNat:Int)=48:=h15.2; show b.toNat=48; omega)
  have hr':qP r=qP digits:=by rw [← hr]; simp [qP,hb]
  simp at hrl
  refine AW.skip (AW.block (rgz [] [[],[],[0,1,2,6]] ?_))
  iterate 3 refine op1 tok ?_
  refine qA ?_
  exact ⟨r,⟨hr',by omega⟩,by simp,qD (by simp),rfl,by simp,by simp⟩
 intro h15
 try simp at h15
 have hr':qP digits=r:=by
  rw [← hr]
  cases r with
  | nil=>rfl
  | cons b r =>
   have hb:b≠48:=by rintro rfl; simp [qO] at h15
   simp [qP,hb]
 have hN:wM neg digits scale=(if (wC r scale).1=[] then (⟨false,[48],0⟩,0) else if 60<(wC r scale).1.length∨60<(wC r scale).2 then (⟨false,[],0⟩,3) else (⟨neg,(wC r scale).1,(wC r scale).2⟩,0)):=by simp only [wM,hr']
 rw [hN]
 clear hN hix h15 hr hr'
 refine AW.exit ?_
 simp
 refine AW.seq (AW.block ?_)
 refine AW.loop (α:=List UInt8 × Nat) (fun a=>wC r scale=wC a.1 a.2∧a.2≤scale∧a.1.length≤digits.length) (fun a=>⟨qV 55 [(0,.p (.bool neg)),(1,.p (.str a.1)),(2,.p (.int .i64 a.2)),(6,.ptr 6 0)],[],[(6,.vars 26 [.p (.bool false),.p (.str []),.p (.int .i64 0)])],0⟩) (fun a=>a.2) ((r,scale)) ⟨rfl,Nat.le_refl _,hrl⟩ ⟨qD (by simp),rfl,by simp,by simp⟩ ?_
 rintro ⟨d,k⟩ ⟨ht,hk,hdl⟩
 simp only at ht hk hdl
 have hix:0<d.length→d[d.length-1]?=some (d.getD (d.length-1) 0):=fun h=>yR (by omega)
 refine AW.seq (rgn [.int .u8 (qO d (d.length-1))] [[],[],[],[],[],[0,1,2,6,20,23],[],[],[],[],[0,1,2,6,25,26,28],[],[],[0,1,2,6,25,31],[0,1,2,6,32]] ?_)
 iterate 15 first | refine op1 tok ?_ (hv:=by first | with_reducible exact True.intro | (first | exact fun h1 h2=>⟨⟨h1,h2⟩,by omega,by omega⟩ | exact fun h1 h2=>⟨⟨h1,h2⟩,by omega,_,hix h2,rfl⟩ | simp; done) | omega | simp | (simp +contextual; omega)) | refine op2 tok ?_ (hv:=by first | with_reducible exact True.intro | (first | exact fun h1 h2=>⟨⟨h1,h2⟩,by omega,by omega⟩ | exact fun h1 h2=>⟨⟨h1,h2⟩,by omega,_,hix h2,rfl⟩ | simp; done) | omega | simp | (simp +contextual; omega))
 refine qA (cnd ?_ ?_)
 ·intro h32
  try simp at h32
  obtain ⟨k,rfl⟩:∃ k',k=k'+1:=⟨k-1,by omega⟩
  have hl:=(uQ h32.1.2).1 h32.2
  have ht':wC r scale=wC d.dropLast k:=by rw [ht]; simp only [wC]; rw [if_pos hl]
  refine AW.skip (AW.block (rgn [] [[],[],[],[],[0,2,6,37],[0,1,2,6]] ?_))
  iterate 6 refine op1 tok ?_
  refine qA (rgz [] [[],[],[0,1,2,6]] ?_)
  iterate 3 refine op1 tok ?_
  refine qA ?_
  exact ⟨(d.dropLast,k),⟨ht',by simp only []; omega,by simp; omega⟩,by simp,qD (by simp [jC]),rfl,by simp [jC],by simp [jC]⟩
 intro h32
 try simp at h32
 have htl:wC d k=(d,k):=by
  cases k with
  | zero=>rfl
  | succ k =>
   simp only [wC]
   rw [if_neg]
   intro hl
   have hpos:0<d.length:=by cases d with
    | nil=>simp at hl
    | cons=>simp
   have:=(uQ hpos).2 hl
   simp [hpos,this] at h32
 rw [ht,htl]
 refine AW.exit ?_
 simp
 refine AW.seq (rgn [] [[],[0,1,2,6,41]] ?_)
 iterate 2 refine op1 tok ?_
 refine qA (cnd ?_ ?_)
 ·intro h41
  try simp at h41
  subst h41
  refine rgn [] [[],[],[6,7]] ?_
  iterate 3 refine op1 tok ?_
  exact qA (AW.ret qI)
 intro h41
 try simp at h41
 refine AW.skip (AW.seq (rgn [] [[],[],[],[],[],[0,1,2,6,46,48],[0,1,2,6,49]] ?_))
 iterate 4 refine op1 tok ?_
 iterate 2 refine op2 tok ?_
 refine op1 tok ?_
 refine qA (cnd ?_ ?_)
 ·intro h49
  try simp at h49
  have hbig:60<d.length∨60<k:=by omega
  refine rgn [] [[],[],[6,7]] ?_
  iterate 3 refine op1 tok ?_
  refine qA ?_
  exact AW.ret (qI (k:=by simp [h41,hbig]))
 intro h49
 try simp at h49
 have hbig:¬ (60<d.length∨60<k):=by omega
 refine AW.skip (rgn [] [[],[],[],[6,54],[],[6,7]] ?_)
 iterate 6 refine op1 tok ?_
 refine qA ?_
 exact AW.ret (qI (k:=by simp [h41,hbig]))
def yX (d:Dc):Bool:=d.digits.all zA && decide (1≤d.digits.length∧d.digits.length≤60∧0≤d.scale∧d.scale≤60) &&
 (if d.digits=[48] then decide (d.scale=0) && !d.neg else decide (qO d.digits 0≠48) && (decide (d.scale=0) || decide (qO d.digits (d.digits.length-1)≠48)))
theorem qQM {d : Dc} (h : 1 ≤ d.digits.length ∧ d.digits.length ≤ 60 ∧ 0 ≤ d.scale ∧ d.scale ≤ 60) (ha : d.digits.all zA = true) :
  yX d=(if d.digits=[48] then decide (d.scale=0) && !d.neg else decide (qO d.digits 0≠48) && (decide (d.scale=0) || decide (qO d.digits (d.digits.length-1)≠48))):=by
 unfold yX; rw [ha,show decide (1≤d.digits.length∧d.digits.length≤60∧0≤d.scale∧d.scale≤60)=true by simpa using h]; simp
namespace Sy
variable {P:Program} {G:qG}
theorem AFn.of_calls {f : FuncId} {args : List PD} {r : PD} (hc : jS P f) (h : ∀ (M : qQ) (w : World) (vs : Array Value), GOK G M w → (∀ b o v, M b o = some v → w.cell? ⟨b, o, none⟩ = some v) → vs.size = args.length →
  (∀ (i:Nat) u d,vs[i]?=some u→args[i]?=some d→Rd M u d)→Calls P f vs w fun e w'=>∃ v,e = .returned v∧Rd M v r∧RowKit.Below w.heap.size w w'):AFn P G f args r:=by
 refine ⟨hc,fun M w vs hg hmem hsz hrd=>(h M w vs hg hmem hsz hrd).mono ?_⟩
 rintro e w' ⟨v,rfl,hv,hb⟩
 refine ⟨v,M,rfl,hv,fun b o u hu => ?_,fun _ _ _ h=>h,fun _ _ _=>rfl,hb⟩
 have h1:=hmem b o u hu
 exact (World.cell?_of_block (w:=w) (hb.block b (wW h1))).trans h1
theorem uO {f : FuncId} {fn : Func} {c : Code} (hf : P.funcs[f]? = some fn) (hn : (fn.name == "runtime.NumGoroutine") = false) (hb : fn.body = some c) : jS P f := ⟨fn, c, hf, hn, hb⟩
end Sy
@[simp] def Val.cells (v:Val):List V:=[.p (.int .i64 v.kind),.p (.int .u64 v.mask),.p (.bool v.num.neg),.p (.str v.num.digits),.p (.int .i64 v.num.scale),.p (.str v.text),.p (.sl 1 (v.keys.map PD.str)),.p (.sl 9 (v.kids.map Val.enc)),.p (.int .i64 v.code)]
def xJ (s:List UInt8):Bool:=decide ((s.length:Int)≤4096) && Lib.validD s
def qBP (l:List (List UInt8)):Bool:=l.all xJ && decide l.Nodup
def qRT (v:Val):Bool:=if v.kind=4 then yX v.num else decide (v.num.neg=false∧v.num.digits=[]∧v.num.scale=0)
def qNY (v:Val):Bool:=if v.kind=5 then xJ v.text else decide (v.text=[])
def qCL (v:Val):Bool:=if v.kind=7 then decide ((v.keys.length:Int)=v.kids.length) && qBP v.keys else decide (v.keys=[])
def qON (v:Val):Bool:=decide (v.kids=[]) || decide (v.kind=6) || decide (v.kind=7)
def qOX (v:Val):Bool:=decide (decide (v.kind=8) = !decide (v.code=0))
def uA (v:Val):Bool:=qOX v && qRT v && qNY v && qCL v && qON v
def vP (v:Val):Bool:=decide (1≤v.kind∧v.kind≤8∧v.kids.length≤200)
mutual
def kK:Val→Bool
 | .mk k m n t ks vs c=>vP (.mk k m n t ks vs c) && uA (.mk k m n t ks vs c) && qKQ vs
def qKQ:List Val→Bool
 | []=>true
 | v::vs=>kK v && qKQ vs
end
theorem qHB:∀ l,qKQ l=l.all kK
 | []=>by simp [qKQ]
 | v::vs=>by simp [qKQ,qHB vs]
theorem vD (v:Val):kK v=(vP v && uA v && v.kids.all kK):=by
 cases v; simp only [kK,qHB,Val.kids]
theorem qDZ {v k:Val} (h:kK v=true) (hk:k∈v.kids):kK k=true:=by
 rw [vD] at h; simp only [Bool.and_eq_true,List.all_eq_true] at h; exact h.2 k hk
theorem qOH {v:Val} (h:kK v=true) (h7:v.kind=7):v.keys.length=v.kids.length∧v.keys.length≤200∧v.keys.Nodup:=by
 rw [vD] at h
 simp only [Bool.and_eq_true,vP,uA,qCL,decide_eq_true_eq] at h
 obtain ⟨⟨h1,⟨⟨_,h2⟩,_⟩⟩,_⟩:=h
 rw [if_pos h7] at h2
 simp [qBP] at h2
 exact ⟨by omega,by omega,h2.2.2⟩
theorem qUS {v:Val} (h:kK v=true) (h4:v.kind=4):yX v.num=true:=by
 rw [vD] at h
 simp only [Bool.and_eq_true,uA,qRT] at h
 obtain ⟨⟨h1,⟨⟨⟨⟨_,h2⟩,_⟩,_⟩,_⟩⟩,_⟩:=h
 rw [if_pos h4] at h2; exact h2
mutual
def vF (ch:Val→Val):Val→Val
 | .mk k m n t ks vs c=>ch (.mk k m n t ks (qKS ch vs) c)
def qKS (ch:Val→Val):List Val→List Val
 | []=>[]
 | v::vs=>vF ch v::qKS ch vs
end
theorem qHD (ch:Val→Val):∀ l,qKS ch l=l.map (vF ch)
 | []=>by simp [qKS]
 | v::vs=>by simp [qKS,qHD ch vs]
theorem qOJ (ch:Val→Val) (v:Val):vF ch v=ch (.mk v.kind v.mask v.num v.text v.keys (v.kids.map (vF ch)) v.code):=by
 cases v; simp only [vF,qHD,Val.kind_mk,Val.mask_mk,Val.num_mk,Val.text_mk,Val.keys_mk,Val.kids_mk,Val.code_mk]
theorem qCM {v:Val} (h:kK v=true):v.keys.length≤200∧v.kids.length≤200:=by
 by_cases h7:v.kind=7
 ·have:=qOH h h7; omega
 rw [vD] at h
 simp only [Bool.and_eq_true,vP,uA,qCL,decide_eq_true_eq] at h
 obtain ⟨⟨h1,⟨⟨_,h2⟩,_⟩⟩,_⟩:=h
 rw [if_neg h7] at h2
 simp at h2
 rw [h2]; simp; omega
def InM (a:Int):Prop:=0≤a∧a<18446744073709551616
def wI (a:Int):Nat:=(a % 18446744073709551616).toNat
theorem qIO (a:Int):wI a<2 ^ 64:=by unfold wI; omega
theorem qOG {a:Int} (h:InM a):((wI a:Nat):Int)=a:=by unfold wI; unfold InM at h; omega
theorem qGY {n:Nat} (h:n<2 ^ 64):wI n=n:=by unfold wI; omega
def orM (a b:Int):Int:=((wI a ||| wI b:Nat):Int)
def qZH (a b:Int):Int:=((wI a &&& wI b:Nat):Int)
def qYZ (a b:Int):Int:=((wI a &&& (18446744073709551615-wI b):Nat):Int)
theorem qRR (a b:Int):wI a ||| wI b<2 ^ 64:=Nat.or_lt_two_pow (qIO a) (qIO b)
theorem qDY (a b:Int):wI (orM a b)=wI a ||| wI b:=qGY (qRR a b)
theorem qRC {n:Nat} (h:n<2 ^ 64):IntKind.u64.wrap (n:Int)=n:=by simp [IntKind.wrap,IntKind.bits,IntKind.signed]; omega
theorem qUQ (a b:Int):IntKind.u64.wrap (((a % 2 ^ IntKind.u64.bits).toNat ||| (b % 2 ^ IntKind.u64.bits).toNat:Nat):Int)=orM a b:=qRC (qRR a b)
theorem or_assoc (a b c:Int):orM (orM a b) c=orM a (orM b c):=by
 show ((wI (orM a b) ||| wI c:Nat):Int)=((wI a ||| wI (orM b c):Nat):Int)
 rw [qDY,qDY,Nat.or_assoc]
theorem or_self {a:Int} (h:InM a):orM a a=a:=by unfold orM; rw [Nat.or_self,qOG h]
def LeM (a b:Int):Prop:=orM a b=b
theorem LeM.or_left (a b:Int):LeM a (orM a b):=by
 unfold LeM; rw [← or_assoc]
 unfold orM; rw [qGY (qRR a a),Nat.or_self]
theorem LeM.trans {a b c:Int} (h1:LeM a b) (h2:LeM b c):LeM a c:=by
 unfold LeM at *; rw [← h2,← or_assoc,h1]
theorem LeM.or {a b c:Int} (h1:LeM a c) (h2:LeM b c):LeM (orM a b) c:=by
 unfold LeM at *; rw [or_assoc,h2,h1]
theorem LeM.refl {a:Int} (h:InM a):LeM a a:=or_self h
theorem LeM.and {a b:Int} (h:LeM a b) (ha:InM a):qZH b a=a:=by
 unfold LeM at h
 have h1:wI a ||| wI b=wI b:=by rw [← qDY,h]
 unfold qZH
 have:wI b &&& wI a=wI a:=by
  rw [← h1]
  apply Nat.eq_of_testBit_eq; intro i
  simp only [Nat.testBit_and,Nat.testBit_or]
  cases (wI a).testBit i <;> cases (wI b).testBit i <;> rfl
 rw [this,qOG ha]
theorem LeM.sub {a b:Int} (h:LeM a b):qYZ a b=0:=by
 unfold LeM at h
 have h1:wI a ||| wI b=wI b:=by rw [← qDY,h]
 have hb:=qIO b
 unfold qYZ
 have:wI a &&& (18446744073709551615-wI b)=0:=by
  apply Nat.eq_of_testBit_eq; intro i
  rw [show 18446744073709551615-wI b=2 ^ 64-(wI b+1) by omega]
  simp only [Nat.testBit_and,Nat.testBit_two_pow_sub_succ hb,Nat.zero_testBit]
  have h3:(wI a ||| wI b).testBit i=(wI b).testBit i:=by rw [h1]
  rw [Nat.testBit_or] at h3
  revert h3
  cases (wI a).testBit i <;> cases (wI b).testBit i <;> simp
 rw [this]; rfl
theorem qUU (v:Val):vF id v=v:=by
 induction v using Val.induct with
 | h v ih =>
  rw [qOJ]
  have:v.kids.map (vF id)=v.kids:=by
   conv=>rhs; rw [← List.map_id v.kids]
   exact List.map_congr_left fun k hk=>ih k hk
  rw [this]; cases v; rfl
mutual
def yW:Val→Int
 | .mk _ m _ _ _ vs _=>xA m vs
def xA (m:Int):List Val→Int
 | []=>m
 | v::vs=>xA (orM m (yW v)) vs
end
theorem qLI (v:Val):yW v=xA v.mask v.kids:=by cases v; simp only [yW,Val.mask_mk,Val.kids_mk]
theorem qIW (l:List Val) (x:Val):∀ m,xA m (l++[x])=orM (xA m l) (yW x):=by
 induction l with
 | nil=>intro m; simp only [List.nil_append,xA]
 | cons y l ih=>intro m; simp only [List.cons_append,xA,ih]
theorem qAW {m:Int} {l:List Val} {k:Nat} {x:Val} (h:l[k]?=some x):xA m (l.take (k+1))=orM (xA m (l.take k)) (yW x):=by
 rw [List.take_add_one,h]; exact qIW _ _ _
@[simp] theorem qWS (m:Int):xA m []=m:=by simp only [xA]
mutual
def InV:Val→Prop
 | .mk _ m _ _ _ vs _=>InM m∧qTX vs
def qTX:List Val→Prop
 | []=>True
 | v::vs=>InV v∧qTX vs
end
theorem qLW:∀ l,qTX l↔∀ v∈l,InV v
 | []=>by simp [qTX]
 | v::vs=>by simp [qTX,qLW vs]
theorem qVM (v:Val):InV v↔InM v.mask∧∀ k∈v.kids,InV k:=by cases v; simp only [InV,qLW,Val.mask_mk,Val.kids_mk]
theorem qTW {v:Val} (h:InV v):InM v.mask:=((qVM v).1 h).1
@[simp] theorem qZK:Val.szL []=0:=by simp only [Val.szL]
@[simp] theorem qZJ (x:Val):Val.szL [x]=Val.sz x:=by simp only [Val.szL,Nat.add_zero]
def kN (ch:Val→Val) (v:Val) (k:Nat):List PD:=(v.kids.take k).map (fun u=>(vF ch u).enc)++(v.kids.drop k).map Val.enc
theorem qMV (ch:Val→Val) (v:Val) (k:Nat):(kN ch v k).length=v.kids.length:=by
 simp only [kN,List.length_append,List.length_map,List.length_take,List.length_drop]; omega
@[simp] theorem qVS (ch:Val→Val) (v:Val):kN ch v 0=v.kids.map Val.enc:=by simp only [kN,List.take_zero,List.map_nil,List.nil_append,List.drop_zero]
theorem qMW {ch:Val→Val} {v x:Val} {k:Nat} (hx:v.kids[k]?=some x):(kN ch v k)[k]?=some x.enc:=by
 have hk:=(List.getElem?_eq_some_iff.1 hx).1
 have h0:((v.kids.take k).map (fun u=>(vF ch u).enc)).length=k:=by simp only [List.length_map,List.length_take]; omega
 rw [kN,List.getElem?_append_right (by omega),h0,Nat.sub_self,List.getElem?_map,List.getElem?_drop,Nat.add_zero,hx]; rfl
theorem qMU {ch:Val→Val} {v x:Val} {k:Nat} (hx:v.kids[k]?=some x):(kN ch v k).set k (vF ch x).enc=kN ch v (k+1):=by
 have hk:=(List.getElem?_eq_some_iff.1 hx).1
 have hxk:=(List.getElem?_eq_some_iff.1 hx).2
 have h0:((v.kids.take k).map (fun u=>(vF ch u).enc)).length=k:=by simp only [List.length_map,List.length_take]; omega
 rw [kN,List.set_append_right _ _ (by omega),h0,Nat.sub_self,List.drop_eq_getElem_cons hk,kN,List.take_succ_eq_append_getElem hk,hxk]
 simp only [List.map_cons,List.set_cons_zero,List.map_append,List.map_nil,List.append_assoc,List.cons_append,List.nil_append]
theorem qKR (g:FuncId) (ch:Val→Val) (v:Val) (hg:∀ u:Val,AX Tryz.prog G g [.ptr 2 0] [(2,.vars 31 u.cells)] (.tuple []) [2] [(2,.vars 31 (ch u).cells)]) (hsm:v.keys.length≤1000000∧v.kids.length≤1000000) (ih:∀ k∈v.kids,AFn Tryz.prog G 100 [k.enc,.fn g] (vF ch k).enc):AFn Tryz.prog G 100 [v.enc,.fn g] ((vF ch v).enc):=by
 refine AFn.introU tok Tryz.func100 (by kernel_rfl) rfl rfl ?_
 simp only [Tryz.f100,qN,List.map_cons,List.map_nil]
 have hck:=qQP (G:=G) v.keys (by omega)
 have hcv:=qCT (G:=G) v.kids (by omega)
 refine rgn [] [[],[1,2,4]] ?_
 iterate 2 refine op1 tok ?_
 refine qA ?_
 refine AW.seqRunDrawK tok mixed [1,2,4] 8 [[2],[7],[8],[2],[10],[11],[2],[13,9]] [.nilf,.sl 1 (v.keys.map PD.str),.clo 9 [],.nilf,.sl 9 (v.kids.map Val.enc),.clo 31 []] [] (by kernel_rfl) (by intro C; conv=>lhs; simp) (by first | exact hck | exact hcv | ((repeat' (first | with_reducible apply And.intro | intro _)) <;> first | exact (hck) | exact (hcv) | assumption | omega | contradiction | simp_all)) (by simp [Sm.sum,Sm.foot,Sm.tch,Sm.refs]; kernel_rfl) (by intro C; conv=>lhs; simp) (by first | with_reducible exact True.intro | omega | simp | (simp +contextual; omega)) ?_
 refine AW.seq (rgn [] [[],[],[],[1,2,4,16,17,18]] ?_)
 iterate 4 refine op1 tok ?_
 refine qA (AW.block ?_)
 refine AW.loop (α:=Nat) (fun k=>k≤v.kids.length) (fun k=>⟨qV 34 [(1,.p (.fn g)),(2,.ptr 2 0),(4,.ptr 4 0),(16,.ms 12),(17,.p (.int .i64 v.kids.length)),(18,.p (.int .i64 k))],[],[(2,.vars 31 [.p (.int .i64 v.kind),.p (.int .u64 v.mask),.p (.bool v.num.neg),.p (.str v.num.digits),.p (.int .i64 v.num.scale),.p (.str v.text),.ms 9,.ms 12,.p (.int .i64 v.code)]),(4,.vars 31 [.p (.int .i64 0),.p (.int .u64 0),.p (.bool false),.p (.str []),.p (.int .i64 0),.p (.str []),.nilsl,.nilsl,.p (.int .i64 0)]),(9,.row 9 1 (v.keys.map PD.str)),(12,.row 31 9 (kN ch v k))],0⟩) (fun k=>v.kids.length-k) (0) (by simp) ⟨qD (by simp),rfl,by simp,by simp⟩ ?_
 rintro k hk
 refine rgn [] [[]] ?_
 refine op1 tok ?_
 refine qA (AW.seq (cnd ?_ ?_))
 ·intro h19
  try simp at h19
  obtain ⟨x,hx⟩:∃ x,v.kids[k]?=some x:=⟨v.kids[k],by simp [h19]⟩
  have hx':=qMW (ch:=ch) hx
  have hkl:=qMV ch v k
  have hix:=ih x (List.mem_of_getElem? hx)
  have hset:=qMU (ch:=ch) hx
  simp only [Val.enc_def] at hx' hix hset
  refine AW.skip (AW.seq (AW.block (rgn [x.enc] [[],[],[],[],[],[1,2,4,5,6,16,17,18]] ?_)))
  iterate 6 refine oq1 tok hx' ?_
  refine qA ?_
  refine AW.runDrawK tok mixed [1,2,4,16,17,18] 6 [[2],[23],[5],[6],[1],[26,27]] [.nilp,(vF ch x).enc] [x.enc,(vF ch x).enc] (by kernel_rfl) (by intro C; conv=>lhs; simp) (by first | exact hix | ((repeat' (first | with_reducible apply And.intro | intro _)) <;> first | exact (hix) | exact (hx') | assumption | omega | contradiction | simp_all)) (by simp [Sm.sum,Sm.foot,Sm.tch,Sm.refs]; kernel_rfl) (by intro C; conv=>lhs; simp) (by exact ⟨by omega,hx'⟩) ?_
  refine rgz [] [[],[1,2,4,16,17,18]] ?_
  iterate 2 refine op1 tok ?_
  refine qA ?_
  exact ⟨k+1,(by omega),(by omega),qD (by simp [hset]),rfl,by simp [hset],by simp [hset]⟩
 intro h19
 try simp at h19
 obtain rfl:k=v.kids.length:=by omega
 have hfull:kN ch v v.kids.length=(v.kids.map (vF ch)).map Val.enc:=by simp only [kN,List.take_length,List.drop_length,List.map_nil,List.append_nil,List.map_map]; rfl
 rw [hfull]
 refine AW.exit ?_
 simp
 refine rgn [] [[]] ?_
 refine op1 tok ?_
 refine kD ?_
 refine qH.freeze 9 (by conv=>lhs; simp) ?_
 refine qH.freeze 12 (by conv=>lhs; simp) ?_
 refine qH.stepK [2,4] (qPE rfl (hg (.mk v.kind v.mask v.num v.text v.keys (v.kids.map (vF ch)) v.code)) (by simp)) (by conv=>lhs; simp) rfl ?_
 refine qH.nil ?_
 refine rgn [] [[],[4]] ?_
 iterate 2 refine op1 tok ?_
 refine qA ?_
 exact AW.ret (qI (k:=by simp [qOJ ch v]))
inductive Few:Val→Prop
 | mk {v:Val} (h1:v.keys.length≤1000000) (h2:v.kids.length≤1000000) (h3:∀ k∈v.kids,Few k):Few v
theorem qUZ (v:Val) (h:kK v=true):Few v :=
 Val.induct (p:=fun v=>kK v=true→Few v) (fun v ih hv=>by
  have hsm:=qCM hv
  exact .mk (by omega) (by omega) fun k hk=>ih k hk (qDZ hv hk)) v h
theorem qMT (g:FuncId) (ch:Val→Val) (hg:∀ u:Val,AX Tryz.prog G g [.ptr 2 0] [(2,.vars 31 u.cells)] (.tuple []) [2] [(2,.vars 31 (ch u).cells)]) (v:Val) (hv:Few v):AFn Tryz.prog G 100 [v.enc,.fn g] (vF ch v).enc:=by
 induction hv with
 | mk h1 h2 h3 ih=>exact qKR g ch _ hg ⟨h1,h2⟩ ih
theorem qQR (u:Val):AX Tryz.prog G 101 [.ptr 2 0] [(2,.vars 31 u.cells)] (.tuple []) [2] [(2,.vars 31 (id u).cells)]:=by
 refine AX.introU tok 900 Tryz.func101 (by kernel_rfl) rfl rfl ?_
 simp only [Tryz.f101,qN,List.map_cons,List.map_nil]
 refine AW.skip ?_
 exact qVU
theorem qQQ (v:Val) (hv:Few v):AFn Tryz.prog G 70 [v.enc] (v.enc):=by
 refine AFn.introU tok Tryz.func70 (by kernel_rfl) rfl rfl ?_
 simp only [Tryz.f70,qN,List.map_cons,List.map_nil]
 have hm:=qMT (G:=G) 101 id qQR v hv
 rw [qUU] at hm
 simp only [Val.enc_def] at hm
 refine rgn [] [[],[1,2]] ?_
 iterate 2 refine op1 tok ?_
 refine qA (rgn [.nilp,v.enc] [[],[],[2]] ?_)
 iterate 3 refine oq1 tok hm ?_
 exact qA (AW.ret qI)
theorem qQK (v:Val) (ih:∀ k∈v.kids,AFn Tryz.prog G 30 [k.enc] (.int .u64 (yW k))):AFn Tryz.prog G 30 [v.enc] (.int .u64 (yW v)):=by
 refine AFn.introU tok Tryz.func30 (by kernel_rfl) rfl rfl ?_
 simp only [Tryz.f30,qN,List.map_cons,List.map_nil]
 refine rgn [] [[],[1]] ?_
 iterate 2 refine op1 tok ?_
 refine qA (rgn [] [[],[],[1,3]] ?_)
 iterate 3 refine op1 tok ?_
 refine qA (AW.seq (rgn [] [[],[],[],[3,9,10,11]] ?_))
 iterate 4 refine op1 tok ?_
 refine qA (AW.block ?_)
 refine AW.intFactU (i:=10) rfl (by decide) ?_; intro hlen; simp at hlen
 refine AW.loop (α:=Nat) (fun k=>k≤v.kids.length) (fun k=>⟨qV 21 [(3,.p (.int .u64 (xA v.mask (v.kids.take k)))),(9,.p (.sl 9 (v.kids.map Val.enc))),(10,.p (.int .i64 v.kids.length)),(11,.p (.int .i64 k))],[],[],0⟩) (fun k=>v.kids.length-k) (0) (by omega) ⟨qD (by simp),rfl,by simp,by simp⟩ ?_
 rintro k hk
 refine rgn [] [[]] ?_
 refine op1 tok ?_
 refine qA (AW.seq (cnd ?_ ?_))
 ·intro h12
  try simp at h12
  obtain ⟨x,hx⟩:∃ x,v.kids[k]?=some x:=⟨v.kids[k],by simp [h12]⟩
  have hix:=ih x (List.mem_of_getElem? hx)
  simp only [Val.enc_def] at hix
  refine AW.skip (AW.seq (AW.block (rgn [x.enc] [[],[],[],[3,5,9,10,11]] ?_)))
  iterate 4 refine op1 tok ?_ (hv:=by first | with_reducible exact True.intro | (simp [hx]; done) | omega | simp | (simp +contextual; omega))
  refine qA (rgz [.nilp,.int .u64 (yW x)] [[],[],[],[9,10,11,18],[3,9,10,11]] ?_)
  iterate 5 refine oq1 tok hix ?_ (h:=by intro C; conv=>lhs; simp [qUQ])
  refine qA (rgz [] [[],[3,9,10,11]] ?_)
  iterate 2 refine op1 tok ?_
  refine qA ?_
  exact ⟨k+1,by omega,by omega,qD (by simp [qAW hx]),rfl,by simp [qAW hx],by simp [qAW hx]⟩
 intro h12
 try simp at h12
 rw [List.take_of_length_le h12]
 refine AW.exit ?_
 simp
 refine rgn [] [[],[2]] ?_
 iterate 2 refine op1 tok ?_
 refine qA ?_
 exact AW.ret (qI (k:=by simp [qLI v]))
theorem qVC (v:Val):AFn Tryz.prog G 30 [v.enc] (.int .u64 (yW v)):=Val.induct (fun v ih=>qQK v ih) v
open Go
open Go.Lib
def qZE (n:Nat):UInt8:=if n<10 then UInt8.ofNat (48+n) else UInt8.ofNat (87+n)
def qb (b:UInt8):List UInt8 :=
 if b=34∨b=92 then [92,b] else if b=10 then [92,110] else if b=13 then [92,114] else if b=9 then [92,116]
 else if b<32∨b=127 then [92,117,48,48,qZE (b.toNat / 16),qZE (b.toNat % 16)] else [b]
def qZB (s:List UInt8):List UInt8:=s.flatMap qb
def qRP (s:List UInt8):List UInt8:=34::(qZB s++[34])
def kF (s:List UInt8):Bool:=decide (0<s.length) && decide (qO s 0=45)
def qBJ (s:List UInt8) (k:Nat) (digits:List UInt8):Option (Nat × List UInt8 × Nat) :=
 if k<s.length∧qO s k=46 then (if zD s (k+1)=0 then none else some (k+1+zD s (k+1),digits++(s.take (k+1+zD s (k+1))).drop (k+1),zD s (k+1))) else some (k,digits,0)
def upM (s:List UInt8) (k:Nat):Nat→Int
 | 0=>0
 | i+1=>10 * upM s k i+(qO s (k+i)-48)
def wH (s:List UInt8) (k:Nat):Nat:=if k<s.length∧(qO s k=45∨qO s k=43) then k+1 else k
def qDJ (s:List UInt8) (k:Nat):Option (Nat × Int) :=
 if k<s.length∧(qO s k=101∨qO s k=69) then
  (if zD s (wH s (k+1))<1∨2<zD s (wH s (k+1)) then none
   else some (wH s (k+1)+zD s (wH s (k+1)),if k+1<s.length∧qO s (k+1)=45 then-upM s (wH s (k+1)) (zD s (wH s (k+1))) else upM s (wH s (k+1)) (zD s (wH s (k+1)))))
 else some (k,0)
def xB:Dc × Int:=(⟨false,[],0⟩,4)
def qBO (neg:Bool) (digits:List UInt8) (sc:Int):Dc × Int:=if sc<0 then wM neg (digits++wV (-sc).toNat) 0 else wM neg digits sc.toNat
def vZ (s:List UInt8) (neg:Bool) (digits:List UInt8) (scale:Nat):Option (Nat × Int)→Dc × Int
 | none=>xB
 | some (k,up)=>if k=s.length then qBO neg digits (scale-up) else xB
def qJS (s:List UInt8) (neg:Bool):Option (Nat × List UInt8 × Nat)→Dc × Int
 | none=>xB
 | some (k,digits,scale)=>vZ s neg digits scale (qDJ s k)
def a0M (s:List UInt8):Nat:=if kF s=true then 1 else 0
def kP (s:List UInt8):Dc × Int :=
 if zD s (a0M s)=0∨(1<zD s (a0M s)∧qO s (a0M s)=48) then xB
 else qJS s (kF s) (qBJ s (a0M s+zD s (a0M s)) ((s.take (a0M s+zD s (a0M s))).drop (a0M s)))
theorem qII (s:List UInt8) (k:Nat) (h:k≤s.length):k+zD s k≤s.length:=by
 unfold zD
 have:=(List.takeWhile_sublist (l:=s.drop k) fun b:UInt8=>jN b.toNat).length_le
 simp at this; omega
theorem qKB {s:List UInt8} {k:Nat} (h:0<zD s k):k<s.length:=((qIG (Nat.zero_le _)).1 h).1
theorem xZ {s:List UInt8} {k i:Nat} (h:i<zD s k):k+i<s.length∧48≤qO s (k+i)∧qO s (k+i)≤57:=by
 have:=(qIG (Nat.le_of_lt h)).1 h
 simpa [jN] using this
theorem qPG {s:List UInt8} {k:Nat}:∀ {i:Nat},i≤2→i≤zD s k→0≤upM s k i∧upM s k i≤99∧(i≤1→upM s k i≤9)
 | 0,_,_=>by simp [upM]
 | 1,_,h=>by have:=xZ (s:=s) (k:=k) (i:=0) (by omega); simp [upM] at this ⊢; omega
 | 2,_,h=>by
  have h1:=xZ (s:=s) (k:=k) (i:=0) (by omega)
  have h2:=xZ (s:=s) (k:=k) (i:=1) (by omega)
  simp [upM] at h1 h2 ⊢; omega
theorem qTS (s:List UInt8):a0M s≤1:=by unfold a0M; split <;> omega
theorem qTU (s:List UInt8) (hs:s.length≤100000):AFn Tryz.prog G 26 [.str s] (.tup [(kP s).1.enc,.int .i64 (kP s).2]):=by
 refine AFn.introU tok Tryz.func26 (by kernel_rfl) rfl rfl ?_
 simp only [Tryz.f26,qN,List.map_cons,List.map_nil]
 have hrun:=fun k hk=>qVY (G:=G) s k (by omega) hk
 have hix:∀ k:Nat,k<s.length→s[k]?=some (s.getD k 0):=fun k h=>yR h
 refine rgn [] [[],[0,2]] ?_
 iterate 2 refine op1 tok ?_
 refine qA (rgn [] [[]] ?_)
 refine op1 tok ?_
 refine qA (rgn [.int .u8 (qO s 0)] [[],[],[],[],[],[0,2,4,15,17],[],[],[0,2,4,5]] ?_)
 iterate 4 refine op1 tok ?_ (hv:=by first | with_reducible exact True.intro | (first | exact fun h=>⟨h,by omega,_,hix 0 (by omega),rfl⟩ | exact fun h=>⟨h,_,hix 0 (by omega),rfl⟩ | simp; done) | omega | simp | (simp +contextual; omega))
 iterate 3 refine op2 tok ?_ (hv:=by first | with_reducible exact True.intro | (first | exact fun h=>⟨h,by omega,_,hix 0 (by omega),rfl⟩ | exact fun h=>⟨h,_,hix 0 (by omega),rfl⟩ | simp; done) | omega | simp | (simp +contextual; omega))
 iterate 2 refine op1 tok ?_ (hv:=by first | with_reducible exact True.intro | (first | exact fun h=>⟨h,by omega,_,hix 0 (by omega),rfl⟩ | exact fun h=>⟨h,_,hix 0 (by omega),rfl⟩ | simp; done) | omega | simp | (simp +contextual; omega))
 refine qA ?_
 refine AW.join (α:=Unit) (fun _=>True) (fun a=>⟨qV 175 [(0,.p (.str s)),(2,.ptr 2 0),(4,.p (.int .i64 (a0M s))),(5,.p (.bool (kF s)))],[],[(2,.vars 26 [.p (.bool false),.p (.str []),.p (.int .i64 0)])],0⟩) ?_ ?_
 ·
  refine rgn [] [[]] ?_
  refine op1 tok ?_
  refine qA (cnd ?_ ?_)
  ·intro h20
   try simp at h20
   refine rgz [] [[]] ?_
   refine op1 tok ?_
   refine qA ?_
   exact ⟨(),trivial,qD (by simp [a0M,kF,h20]),rfl,by simp [a0M,kF,h20],by simp [a0M,kF,h20]⟩
  intro h20
  try simp at h20
  have hneg:kF s=false:=by
   rw [← Bool.not_eq_true]; intro h; simp only [kF,Bool.and_eq_true,decide_eq_true_eq] at h; exact h20 h.1 h.2
  have hneg0:=hneg
  have ha00:a0M s=0:=by simp [a0M,hneg]
  simp only [kF] at hneg0
  refine AW.skip ?_
  exact ⟨(),trivial,qD (by simp [ha00,hneg0,hneg]),rfl,by simp [ha00,hneg0,hneg],by simp [ha00,hneg0,hneg]⟩
 ·
  rintro a hI
  have ha0:=qTS s
  have hn0:=qIH s (a0M s)
  have hp0:=qKB (s:=s) (k:=a0M s)
  have hin0:=qII s (a0M s)
  refine rgn [.nilp,.int .i64 (zD s (a0M s))] [[],[],[],[0,2,4,5,6]] ?_
  iterate 4 refine op1 tok ?_ (hv:=by first | with_reducible exact True.intro | (simp [hrun (a0M s) (by have:=qTS s; omega)]; done) | omega | simp | (simp +contextual; omega))
  refine qA (AW.seq (rgn [.int .u8 (qO s (a0M s))] [[],[],[],[],[],[0,2,4,5,6,26,29],[],[],[],[],[0,2,4,5,6,26,34],[0,2,4,5,6,35]] ?_))
  iterate 3 refine op1 tok ?_ (hv:=by first | with_reducible exact True.intro | (first | exact fun h1 h2=>⟨⟨h1,h2⟩,_,hix (a0M s) (hp0 (by omega)),rfl⟩ | exact fun h1=>⟨h1,fun h2=>⟨h1,h2⟩⟩ | simp; done) | omega | simp | (simp +contextual; omega))
  iterate 8 refine op2 tok ?_ (hv:=by first | with_reducible exact True.intro | (first | exact fun h1 h2=>⟨⟨h1,h2⟩,_,hix (a0M s) (hp0 (by omega)),rfl⟩ | exact fun h1=>⟨h1,fun h2=>⟨h1,h2⟩⟩ | simp; done) | omega | simp | (simp +contextual; omega))
  refine op1 tok ?_ (hv:=by first | with_reducible exact True.intro | (first | exact fun h1 h2=>⟨⟨h1,h2⟩,_,hix (a0M s) (hp0 (by omega)),rfl⟩ | exact fun h1=>⟨h1,fun h2=>⟨h1,h2⟩⟩ | simp; done) | omega | simp | (simp +contextual; omega))
  refine qA (cnd ?_ ?_)
  ·intro h35
   try simp at h35
   have hP:kP s=xB:=by unfold kP; rw [if_pos (by omega)]
   refine rgn [] [[],[],[2,3]] ?_
   iterate 3 refine op1 tok ?_
   refine qA ?_
   exact AW.ret (qI (k:=by simp [hP,xB]))
  intro h35
  try simp at h35
  have hP:kP s=qJS s (kF s) (qBJ s (a0M s+zD s (a0M s)) ((s.take (a0M s+zD s (a0M s))).drop (a0M s))):=by unfold kP; rw [if_neg (by omega)]
  rw [hP]
  have hin:=hin0 (by have:=hp0 (by omega); omega)
  generalize hdg:(s.take (a0M s+zD s (a0M s))).drop (a0M s)=dg0
  have hdgl:dg0.length≤s.length:=by rw [← hdg]; simp; omega
  obtain ⟨k1,hk1⟩:∃ k1,k1=a0M s+zD s (a0M s):=⟨_,rfl⟩
  rw [← hk1] at hin hdg ⊢
  refine AW.skip (rgn [] [[],[],[],[],[],[0,2,4,5,6,42],[0,2,4,5,6,7]] ?_)
  iterate 7 refine op1 tok ?_ (hv:=by first | with_reducible exact True.intro | (omega; done) | omega | simp | (simp +contextual; omega))
  refine qA (rgn [] [[],[],[0,2,5,7,45],[0,2,4,5,7]] ?_)
  iterate 4 refine op1 tok ?_
  refine qA ?_
  rw [show ((a0M s:Int)+(zD s (a0M s):Nat))=(k1:Nat) by omega]
  refine rgn [] [[]] ?_
  refine op1 tok ?_
  refine qA ?_
  refine AW.join (α:=Nat × List UInt8 × Nat) (fun a=>qBJ s k1 dg0=some a∧a.1≤s.length∧a.2.1.length≤200000∧a.2.2≤s.length) (fun a=>⟨qV 175 [(0,.p (.str s)),(2,.ptr 2 0),(4,.p (.int .i64 a.1)),(5,.p (.bool (kF s))),(7,.p (.str a.2.1)),(8,.p (.int .i64 a.2.2))],[],[(2,.vars 26 [.p (.bool false),.p (.str []),.p (.int .i64 0)])],0⟩) ?_ ?_
  ·
   have hr1:=qII s (k1+1)
   refine rgn [.int .u8 (qO s k1)] [[],[],[],[],[0,2,4,5,7,8,50],[],[],[],[],[0,2,4,5,7,8,55]] ?_
   iterate 5 refine op1 tok ?_ (hv:=by first | with_reducible exact True.intro | (first | exact fun h=>⟨h,_,hix k1 (by omega),rfl⟩ | simp; done) | omega | simp | (simp +contextual; omega))
   iterate 4 refine op2 tok ?_ (hv:=by first | with_reducible exact True.intro | (first | exact fun h=>⟨h,_,hix k1 (by omega),rfl⟩ | simp; done) | omega | simp | (simp +contextual; omega))
   refine op1 tok ?_ (hv:=by first | with_reducible exact True.intro | (first | exact fun h=>⟨h,_,hix k1 (by omega),rfl⟩ | simp; done) | omega | simp | (simp +contextual; omega))
   refine qA (cnd ?_ ?_)
   ·intro h55
    try simp at h55
    refine rgn [.nilp,.int .i64 (zD s (k1+1))] [[],[],[],[],[0,2,4,5,7,8]] ?_
    iterate 5 refine op1 tok ?_ (hv:=by first | with_reducible exact True.intro | (first | omega | exact hrun (k1+1) (by omega); done) | omega | simp | (simp +contextual; omega))
    refine qA (AW.seq (rgn [] [[],[0,2,4,5,7,8,61]] ?_))
    iterate 2 refine op1 tok ?_
    refine qA (cnd ?_ ?_)
    ·intro h61
     try simp at h61
     have hP2:qBJ s k1 dg0=none:=by simp [qBJ,h55.1,h55.2,h61]
     refine rgn [] [[],[],[2,3]] ?_
     iterate 3 refine op1 tok ?_
     refine qA ?_
     exact AW.ret (qI (k:=by simp [hP2,qJS,xB]))
    intro h61
    try simp at h61
    refine AW.skip (rgn [] [[],[],[],[],[],[],[],[0,2,4,5,8,63,64,66,70],[],[0,2,4,5,8,72],[0,2,4,5,7,8]] ?_)
    iterate 11 refine op1 tok ?_
    refine qA (rgz [] [[],[],[],[0,2,5,7,8,76],[0,2,4,5,7,8]] ?_)
    iterate 5 refine op1 tok ?_
    refine qA ?_
    exact ⟨(k1+1+zD s (k1+1),dg0++(s.take (k1+1+zD s (k1+1))).drop (k1+1),zD s (k1+1)),⟨by simp [qBJ,h55.1,h55.2,h61],hr1 (by omega),by simp; omega,by have:=hr1 (by omega); show zD s (k1+1)≤s.length; omega⟩,qD (by simp [hdg,show ((k1:Int)+1+(zD s (k1+1):Nat)).toNat=k1+1+zD s (k1+1) from by omega]),rfl,by simp [hdg,show ((k1:Int)+1+(zD s (k1+1):Nat)).toNat=k1+1+zD s (k1+1) from by omega],by simp [hdg,show ((k1:Int)+1+(zD s (k1+1):Nat)).toNat=k1+1+zD s (k1+1) from by omega]⟩
   intro h55
   try simp at h55
   refine AW.skip ?_
   exact ⟨(k1,dg0,0),⟨by simp only [qBJ]; rw [if_neg (by intro h; exact h55 h.1 h.2)],hin,by show dg0.length≤200000; omega,by simp⟩,qD (by simp [hdg]),rfl,by simp [hdg],by simp [hdg]⟩
  ·
   rintro ⟨k,digits,scale⟩ ⟨hp2,hk,hdl,hsc⟩
   simp only at hk hdl hsc
   have hT:qJS s (kF s) (qBJ s k1 dg0)=vZ s (kF s) digits scale (qDJ s k):=by rw [hp2]; rfl
   rw [hT]
   have hix1:(k:Int)+1<s.length→s[((k:Int)+1).toNat]?=some (s.getD (k+1) 0):=fun h=>by rw [show ((k:Int)+1).toNat=k+1 by omega]; exact hix (k+1) (by omega)
   refine rgn [] [[]] ?_
   refine op1 tok ?_
   refine qA ?_
   refine AW.join (α:=Nat × Int) (fun b=>qDJ s k=some b∧b.1≤300000 ∧ -99≤b.2∧b.2≤99) (fun b=>⟨qV 175 [(0,.p (.str s)),(2,.ptr 2 0),(4,.p (.int .i64 b.1)),(5,.p (.bool (kF s))),(7,.p (.str digits)),(8,.p (.int .i64 scale)),(9,.p (.int .i64 b.2))],[],[(2,.vars 26 [.p (.bool false),.p (.str []),.p (.int .i64 0)])],0⟩) ?_ ?_
   ·
    refine rgn [.int .u8 (qO s k),.int .u8 (qO s k)] [[],[],[],[],[0,2,4,5,7,8,9,81],[],[],[],[],[0,2,4,5,7,8,9,81,86],[],[],[],[],[0,2,4,5,7,8,9,81,91],[0,2,4,5,7,8,9,92]] ?_
    iterate 5 refine op1 tok ?_ (hv:=by first | with_reducible exact True.intro | (((repeat' (first | with_reducible apply And.intro | intro _)) <;> first | omega | assumption | contradiction | exact ⟨_,hix _ (by omega),rfl⟩ | simp_all); done) | omega | simp | (simp +contextual; omega))
    iterate 10 refine op2 tok ?_ (hv:=by first | with_reducible exact True.intro | (((repeat' (first | with_reducible apply And.intro | intro _)) <;> first | omega | assumption | contradiction | exact ⟨_,hix _ (by omega),rfl⟩ | simp_all); done) | omega | simp | (simp +contextual; omega))
    refine op1 tok ?_ (hv:=by first | with_reducible exact True.intro | (((repeat' (first | with_reducible apply And.intro | intro _)) <;> first | omega | assumption | contradiction | exact ⟨_,hix _ (by omega),rfl⟩ | simp_all); done) | omega | simp | (simp +contextual; omega))
    refine qA (cnd ?_ ?_)
    ·intro h92
     try simp at h92
     refine rgn [] [[],[],[0,2,4,5,7,8,9]] ?_
     iterate 3 refine op1 tok ?_
     refine qA (rgn [.int .u8 (qO s (k+1))] [[],[],[],[],[0,2,4,5,7,8,9,99],[],[],[],[],[0,2,4,5,7,8,9,104],[0,2,4,5,7,8,9,10]] ?_)
     iterate 5 refine op1 tok ?_ (hv:=by first | with_reducible exact True.intro | (((repeat' (first | with_reducible apply And.intro | intro _)) <;> first | omega | assumption | contradiction | exact ⟨_,hix _ (by omega),rfl⟩ | simp_all); done) | omega | simp | (simp +contextual; omega))
     iterate 4 refine op2 tok ?_ (hv:=by first | with_reducible exact True.intro | (((repeat' (first | with_reducible apply And.intro | intro _)) <;> first | omega | assumption | contradiction | exact ⟨_,hix _ (by omega),rfl⟩ | simp_all); done) | omega | simp | (simp +contextual; omega))
     iterate 2 refine op1 tok ?_ (hv:=by first | with_reducible exact True.intro | (((repeat' (first | with_reducible apply And.intro | intro _)) <;> first | omega | assumption | contradiction | exact ⟨_,hix _ (by omega),rfl⟩ | simp_all); done) | omega | simp | (simp +contextual; omega))
     refine qA ?_
     refine AW.join (α:=Unit) (fun _=>True) (fun a=>⟨qV 175 [(0,.p (.str s)),(2,.ptr 2 0),(4,.p (.int .i64 (wH s (k+1)))),(5,.p (.bool (kF s))),(7,.p (.str digits)),(8,.p (.int .i64 scale)),(9,.p (.int .i64 0)),(10,.p (.bool (decide (k+1<s.length) && decide (qO s (k+1)=45))))],[],[(2,.vars 26 [.p (.bool false),.p (.str []),.p (.int .i64 0)])],0⟩) ?_ ?_
     ·
      refine rgn [.int .u8 (qO s (k+1)),.int .u8 (qO s (k+1))] [[],[],[],[],[0,2,4,5,7,8,9,10,109],[],[],[],[],[0,2,4,5,7,8,9,10,109,114],[],[],[],[],[0,2,4,5,7,8,9,10,109,119],[0,2,4,5,7,8,9,10,120]] ?_
      iterate 5 refine op1 tok ?_ (hv:=by first | with_reducible exact True.intro | (((repeat' (first | with_reducible apply And.intro | intro _)) <;> first | omega | assumption | contradiction | exact ⟨_,hix _ (by omega),rfl⟩ | simp_all); done) | omega | simp | (simp +contextual; omega))
      iterate 10 refine op2 tok ?_ (hv:=by first | with_reducible exact True.intro | (((repeat' (first | with_reducible apply And.intro | intro _)) <;> first | omega | assumption | contradiction | exact ⟨_,hix _ (by omega),rfl⟩ | simp_all); done) | omega | simp | (simp +contextual; omega))
      refine op1 tok ?_ (hv:=by first | with_reducible exact True.intro | (((repeat' (first | with_reducible apply And.intro | intro _)) <;> first | omega | assumption | contradiction | exact ⟨_,hix _ (by omega),rfl⟩ | simp_all); done) | omega | simp | (simp +contextual; omega))
      refine qA (cnd ?_ ?_)
      ·intro h120
       try simp at h120
       refine rgz [] [[],[],[0,2,4,5,7,8,9,10]] ?_
       iterate 3 refine op1 tok ?_
       refine qA ?_
       exact ⟨(),trivial,qD (by simp [show wH s (k+1)=k+1+1 from by (unfold wH; rw [if_pos ⟨by omega,h120.2⟩]),show ((k:Int)+1<(s.length:Int))=(k+1<s.length) from propext (by omega)]),rfl,by simp [show wH s (k+1)=k+1+1 from by (unfold wH; rw [if_pos ⟨by omega,h120.2⟩]),show ((k:Int)+1<(s.length:Int))=(k+1<s.length) from propext (by omega)],by simp [show wH s (k+1)=k+1+1 from by (unfold wH; rw [if_pos ⟨by omega,h120.2⟩]),show ((k:Int)+1<(s.length:Int))=(k+1<s.length) from propext (by omega)]⟩
      intro h120
      try simp at h120
      refine AW.skip ?_
      exact ⟨(),trivial,qD (by simp [show wH s (k+1)=k+1 from by (unfold wH; rw [if_neg (by intro h; have:=h120 (by omega); omega)]),show ((k:Int)+1<(s.length:Int))=(k+1<s.length) from propext (by omega)]),rfl,by simp [show wH s (k+1)=k+1 from by (unfold wH; rw [if_neg (by intro h; have:=h120 (by omega); omega)]),show ((k:Int)+1<(s.length:Int))=(k+1<s.length) from propext (by omega)],by simp [show wH s (k+1)=k+1 from by (unfold wH; rw [if_neg (by intro h; have:=h120 (by omega); omega)]),show ((k:Int)+1<(s.length:Int))=(k+1<s.length) from propext (by omega)]⟩
     ·
      rintro a hI
      have hsg:wH s (k+1)≤s.length+1:=by unfold wH; split <;> omega
      have hin3:=qII s (wH s (k+1))
      have hp3:=qKB (s:=s) (k:=wH s (k+1))
      have hn3:=qIH s (wH s (k+1))
      obtain ⟨k3,hk3⟩:∃ k3,k3=wH s (k+1):=⟨_,rfl⟩
      rw [← hk3] at hsg hin3 hp3 hn3 ⊢
      refine rgn [.nilp,.int .i64 (zD s k3)] [[],[],[],[0,2,4,5,6,7,8,9,10]] ?_
      iterate 4 refine op1 tok ?_ (hv:=by first | with_reducible exact True.intro | (exact hrun k3 (by omega); done) | omega | simp | (simp +contextual; omega))
      refine qA (AW.seq (rgn [] [[],[],[],[],[],[0,2,4,5,6,7,8,9,10,131]] ?_))
      iterate 3 refine op1 tok ?_
      iterate 2 refine op2 tok ?_
      refine op1 tok ?_
      refine qA (cnd ?_ ?_)
      ·intro h131
       try simp at h131
       have hP3:qDJ s k=none:=by simp only [qDJ]; rw [if_pos h92,← hk3,if_pos (by omega)]
       refine rgn [] [[],[],[2,3]] ?_
       iterate 3 refine op1 tok ?_
       refine qA ?_
       exact AW.ret (qI (k:=by simp [hP3,vZ,xB]))
      intro h131
      try simp at h131
      have hP3:qDJ s k=some (k3+zD s k3,if k+1<s.length∧qO s (k+1)=45 then-upM s k3 (zD s k3) else upM s k3 (zD s k3)):=by simp only [qDJ]; rw [if_pos h92,← hk3,if_neg (by omega)]
      have hk3l:k3<s.length:=hp3 (by omega)
      have hdig:=fun i=>xZ (s:=s) (k:=k3) (i:=i)
      refine AW.skip (AW.seq (rgn [] [[]] ?_))
      refine op1 tok ?_
      refine qA (AW.block ?_)
      refine AW.loop (α:=Nat) (fun i=>i≤zD s k3) (fun i=>⟨qV 175 [(0,.p (.str s)),(2,.ptr 2 0),(4,.p (.int .i64 k3)),(5,.p (.bool (kF s))),(6,.p (.int .i64 (zD s k3))),(7,.p (.str digits)),(8,.p (.int .i64 scale)),(9,.p (.int .i64 (upM s k3 i))),(10,.p (.bool (decide (k+1<s.length) && decide (qO s (k+1)=45)))),(11,.p (.int .i64 i))],[],[(2,.vars 26 [.p (.bool false),.p (.str []),.p (.int .i64 0)])],0⟩) (fun i=>zD s k3-i) (0) (by omega) ⟨qD (by simp [upM]),rfl,by simp,by simp⟩ ?_
      rintro i hi
      have hup:=qPG (s:=s) (k:=k3) (i:=i) (by omega) hi
      refine AW.seq (rgn [] [[],[],[0,2,4,5,6,7,8,9,10,11,135]] ?_)
      iterate 3 refine op1 tok ?_
      refine qA (cnd ?_ ?_)
      ·intro h135
       try simp at h135
       have hdi:=hdig i h135
       have hw:IntKind.u8.wrap (qO s (k3+i)-48)=qO s (k3+i)-48:=by simp [IntKind.wrap,IntKind.bits,IntKind.signed]; omega
       refine AW.skip (AW.seq (AW.block (rgz [.int .u8 (qO s (k3+i))] [[],[],[],[],[],[0,2,4,5,6,7,8,10,11,139,140,143],[],[],[0,2,4,5,6,7,8,10,11,139,146],[],[0,2,4,5,6,7,8,9,10,11]] ?_)))
       iterate 11 refine op1 tok ?_ (hv:=by first | with_reducible exact True.intro | (((repeat' (first | with_reducible apply And.intro | intro _)) <;> first | omega | assumption | contradiction | exact ⟨_,hix _ (by omega),rfl⟩ | (rw [hw]; omega) | simp_all); done) | omega | simp | (simp +contextual; omega))
       refine qA (rgz [] [[],[],[0,2,4,5,6,7,8,9,10,11]] ?_)
       iterate 3 refine op1 tok ?_
       refine qA ?_
       exact ⟨i+1,by omega,by omega,qD (by simp [upM,hw]),rfl,by simp [upM,hw],by simp [upM,hw]⟩
      intro h135
      try simp at h135
      have hi2:i=zD s k3:=by omega
      subst hi2
      have hup2:=hin3 (by omega)
      have hw2:IntKind.i64.wrap (- upM s k3 (zD s k3)) = - upM s k3 (zD s k3):=by simp [IntKind.wrap,IntKind.bits,IntKind.signed]; omega
      refine AW.exit ?_
      simp
      refine rgn [] [[],[],[0,2,5,7,8,9,10,150],[0,2,4,5,7,8,9,10]] ?_
      iterate 4 refine op1 tok ?_
      refine qA (rgn [] [[0,2,4,5,7,8,9,151]] ?_)
      refine op1 tok ?_
      refine qA (cnd ?_ ?_)
      ·intro h151
       try simp at h151
       rw [if_pos h151] at hP3
       refine rgz [] [[],[],[0,2,4,5,7,8,9]] ?_
       iterate 3 refine op1 tok ?_
       refine qA ?_
       exact ⟨k3+zD s k3, - upM s k3 (zD s k3),⟨hP3,by omega,by omega,by omega⟩,qD (by simp [hw2]),rfl,by simp [hw2],by simp [hw2]⟩
      intro h151
      try simp at h151
      rw [if_neg (by intro h; exact h151 h.1 h.2)] at hP3
      refine AW.skip ?_
      exact ⟨k3+zD s k3,upM s k3 (zD s k3),⟨hP3,by omega,by omega,by omega⟩,qD (by simp),rfl,by simp,by simp⟩
    intro h92
    try simp at h92
    refine AW.skip ?_
    exact ⟨(k,0),⟨by simp only [qDJ]; rw [if_neg (by intro h; have:=h92 h.1; omega)],by show k≤300000; omega,by simp,by simp⟩,qD (by simp),rfl,by simp,by simp⟩
   ·
    rintro ⟨k2,up⟩ ⟨hp3,hk2,hu1,hu2⟩
    simp only at hk2 hu1 hu2
    rw [hp3]
    refine AW.seq (rgn [] [[],[],[],[2,5,7,8,9,157]] ?_)
    iterate 4 refine op1 tok ?_
    refine qA (cnd ?_ ?_)
    ·intro h157
     try simp at h157
     have hR:vZ s (kF s) digits scale (some (k2,up))=xB:=by simp only [vZ]; rw [if_neg (by omega)]
     refine rgn [] [[],[],[2,3]] ?_
     iterate 3 refine op1 tok ?_
     refine qA ?_
     exact AW.ret (qI (k:=by simp [hR,xB]))
    intro h157
    try simp at h157
    have hR:vZ s (kF s) digits scale (some (k2,up))=qBO (kF s) digits (scale-up):=by simp only [vZ]; rw [if_pos (by omega)]
    rw [hR]
    clear hR hp3
    have hw3:IntKind.i64.wrap (-((scale:Int)-up)) = -((scale:Int)-up):=by simp [IntKind.wrap,IntKind.bits,IntKind.signed]; omega
    have hz:=qQZ (G:=G) (-((scale:Int)-up)) (by omega)
    have hzl:(wV (-((scale:Int)-up)).toNat).length≤300000:=by simp [wV]; omega
    refine AW.skip (rgn [] [[],[],[2,5,7,161],[2,5,7,8]] ?_)
    iterate 4 refine op1 tok ?_
    refine qA (AW.seq (rgn [] [[],[2,5,7,8,163]] ?_))
    iterate 2 refine op1 tok ?_
    refine qA (cnd ?_ ?_)
    ·intro h163
     try simp at h163
     have hL:qBO (kF s) digits ((scale:Int)-up)=wM (kF s) (digits++wV (-((scale:Int)-up)).toNat) 0:=by simp only [qBO]; rw [if_pos (by omega)]
     have hN:=qPA (G:=G) (kF s) (digits++wV (-((scale:Int)-up)).toNat) 0 (by simp; omega) (by omega)
     refine rgn [.nilp,.str (wV (-((scale:Int)-up)).toNat)] [[],[],[],[2,5,164,167],[],[2,5,7]] ?_
     iterate 6 refine op1 tok ?_ (hv:=by first | with_reducible exact True.intro | (first | (rw [hw3]; exact hz) | omega; done) | omega | simp | (simp +contextual; omega))
     refine qA (rgz [] [[]] ?_)
     refine op1 tok ?_
     refine qA (rgn [.nilp,.tup [(wM (kF s) (digits++wV (-((scale:Int)-up)).toNat) 0).1.enc,.int .i64 (wM (kF s) (digits++wV (-((scale:Int)-up)).toNat) 0).2]] [[],[],[],[2,172],[],[],[],[2,3]] ?_)
     iterate 8 refine oq1 tok hN ?_
     refine qA ?_
     exact AW.ret (qI (k:=by simp [hL]))
    intro h163
    try simp at h163
    obtain ⟨sc,hsc2⟩:∃ sc:Nat,(sc:Int)=(scale:Int)-up:=⟨((scale:Int)-up).toNat,by omega⟩
    have hL:qBO (kF s) digits ((scale:Int)-up)=wM (kF s) digits sc:=by simp only [qBO]; rw [if_neg (by omega),← hsc2]; rfl
    have hN:=qPA (G:=G) (kF s) digits sc (by omega) (by omega)
    rw [hsc2] at hN
    refine AW.skip (rgn [.nilp,.tup [(wM (kF s) digits sc).1.enc,.int .i64 (wM (kF s) digits sc).2]] [[],[],[],[2,172],[],[],[],[2,3]] ?_)
    iterate 8 refine oq1 tok hN ?_
    refine qA ?_
    exact AW.ret (qI (k:=by simp [hL]))
def qRQ (d:Dc):List UInt8:=wV (d.scale.toNat+1-d.digits.length)++d.digits
def qWM (d:Dc):List UInt8:=(if d.neg=true then [45] else [])++(if d.scale=0 then qRQ d else (qRQ d).take ((qRQ d).length-d.scale.toNat)++46::(qRQ d).drop ((qRQ d).length-d.scale.toNat))
structure RS where
 left:List UInt8
 nodes:Nat
 bad:Bool
 deep:Bool
 big:Bool
 deriving DecidableEq
def zAR (b:UInt8):Bool:=b == 32 || b == 9 || b == 13 || b == 10
def qRJ (s:List UInt8):List UInt8:=s.dropWhile zAR
def tk (w:List UInt8) (st:RS):Bool × RS :=
 if w.isPrefixOf (qRJ st.left) then (true,{ st with left:=(qRJ st.left).drop w.length }) else (false,{ st with left:=qRJ st.left })
def qWW:List UInt8:=[110,117,108,108]
def qWV:List UInt8:=[116,114,117,101]
def qVW:List UInt8:=[102,97,108,115,101]
@[simp] theorem qZP (w:List UInt8) (st:RS):(tk w st).2.bad=st.bad:=by unfold tk; split <;> rfl
@[simp] theorem qXB (w:List UInt8) (st:RS):(tk w st).2.nodes=st.nodes:=by unfold tk; split <;> rfl
@[simp] theorem qZI (w:List UInt8) (st:RS):(tk w st).2.deep=st.deep:=by unfold tk; split <;> rfl
@[simp] theorem qZO (w:List UInt8) (st:RS):(tk w st).2.big=st.big:=by unfold tk; split <;> rfl
open Go Go.RowKit Go.Shelf Go.Maps Go.Sort
attribute [local go_sem] Oper.semAt_some
def qCA {α:Type} (f:Nat→α) (k:Nat):List α:=(List.range k).map f
theorem qGN {α:Type} (f:Nat→α) (k:Nat):qCA f (k+1)=qCA f k++[f k]:=by simp [qCA,List.range_succ]
theorem qJP {α:Type} (f:Nat→α) (k:Nat):(qCA f k).length=k:=by simp [qCA]
theorem qGM (zs:List (List UInt8)) {k:Nat} (hk:k≤zs.length):qCA (fun j=>zs[j]?.getD []) k=zs.take k:=by
 apply List.ext_getElem
 ·simp [qCA,hk]
 intro i h1 h2
 have:i<zs.length:=by simp [qCA] at h1; omega
 simp [qCA,this]
theorem qRG (zs:List (List UInt8)):qCA (fun j=>zs[j]?.getD []) zs.length=zs:=by rw [qGM zs (Nat.le_refl _),List.take_length]
set_option maxRecDepth 100000 in
set_option maxHeartbeats 2000000 in
theorem qMB (F : Fence) (n : Nat) (h7 : F.fn 99) (hro : F.round = none) (hn : 1 ≤ n) (l Bs n₀ b off len cap : Nat) (zs : List (List UInt8)) (hreach : len * 16 ≤ 140737488351232) (hb : b < n₀) (J Jx : List (List UInt8) → World → Prop)
  (hY:∀ pre x W,J pre W→pre.length<len→YieldAt F (n-1) Tryz.prog l #[encStr x] W fun e W' =>
   (e = .returned (.bool true)∧J (pre++[x]) W'∧Below n₀ W W')∨(e = .returned (.bool false)∧Jx (pre++[x]) W'))
  (W:World) (hBs:W.cell? ⟨Bs,0,none⟩=some (.slice (some ⟨b,off,none⟩) len cap)) (hc:∀ j,j<len→W.cell? ⟨b,off+j,none⟩=some (encStr (zs[j]?.getD []))) (h0:J [] W) :
  CallsIn F n Tryz.prog 99 #[.func (.yield l) #[] #[],.pointer (some ⟨Bs,0,none⟩)] W fun e W'=>(∃ v,e = .returned v) ∧
   ((∃ ys,ys=qCA (fun j=>zs[j]?.getD []) len∧J ys W')∨(∃ pre,(∃ k,k≤len∧pre=qCA (fun j=>zs[j]?.getD []) k)∧Jx pre W')):=by
 refine callsIn_of_wp Tryz.func99 rfl h7 ?_ hro
 simp only [Tryz.ntmps99,List.size_toArray,List.length_cons,List.length_nil,Nat.reduceAdd,Nat.reduceSub,Array.replicate_succ,Array.replicate_zero,List.push_toArray,List.append_toArray,List.nil_append,List.cons_append]
 gi_wp2
 gi_loopw [7] (fun i wr=>∃ k:Nat,k≤len∧i = .int .i64 k∧J (qCA (fun j=>zs[j]?.getD []) k) wr∧Below n₀ W wr)
  (fun i _=>len-(intOf i).toNat)
 case atStart=>exact ⟨0,Nat.zero_le _,rfl,h0,Below.refl _ _⟩
 case round =>
  obtain ⟨k,hk,rfl,hJs,hnx⟩:=hrel
  have hcx:k<len→wr.cell? ⟨b,off+k,none⟩=some (encStr (zs[k]?.getD [])):=fun h=>(hnx.cell (p:=⟨b,off+k,none⟩) hb).trans (hc k h)
  by_cases hlt:k<len
  ·obtain ⟨fn,tmps,assign,body,hy,hR⟩:=hY _ (zs[k]?.getD []) wr hJs (by rw [qJP]; exact hlt)
   have hcx':=hcx hlt
   gi_wp2
   refine hR.mono ?_
   rintro e W3 (⟨rfl,hJ3,hk3⟩ | ⟨rfl,hJx3⟩)
   ·gi_wp2
    go_roundw
    case rel=>exact ⟨k+1,by omega,by simp,by rw [qGN]; exact hJ3,hnx.trans hk3⟩
    case measure=>simp [intOf]; omega
   gi_wp2
   refine bodyPost_ret (results_none rfl _ _ _) rfl ?_
   exact ⟨⟨_,rfl⟩,.inr ⟨_,⟨k+1,by omega,(qGN _ _).symm⟩,hJx3⟩⟩
  obtain rfl:k=len:=by omega
  gi_wp2
  go_end0
  exact ⟨⟨_,rfl⟩,.inl ⟨_,rfl,hJs⟩⟩
def qLV (n₀:Nat) (W:World) (sv:Value) (zs:List (List UInt8)):Prop :=
 (zs=[]∧∃ a c,sv = .slice a 0 c)∨∃ b off cap,sv = .slice (some ⟨b,off,none⟩) zs.length cap∧b<n₀∧∀ j,j<zs.length→W.cell? ⟨b,off+j,none⟩=some (encStr (zs[j]?.getD []))
theorem qLV.below {n₀:Nat} {A B:World} (h:Below n₀ A B) {sv:Value} {zs:List (List UInt8)}:qLV n₀ A sv zs→qLV n₀ B sv zs
 | .inl e => .inl e
 | .inr ⟨b,off,cap,e,hb,hc⟩ => .inr ⟨b,off,cap,e,hb,fun j hj=>(h.cell (p:=⟨b,off+j,none⟩) hb).trans (hc j hj)⟩
set_option maxRecDepth 100000 in
set_option maxHeartbeats 1000000 in
theorem qEE (F : Fence) (n : Nat) (h7 : F.fn 99) (hro : F.round = none) (l Bs : Nat) (a : Option Addr) (c : Nat) (J : List (List UInt8) → World → Prop) (W : World) (hBs : W.cell? ⟨Bs, 0, none⟩ = some (.slice a 0 c)) (h0 : J [] W) :
  CallsIn F n Tryz.prog 99 #[.func (.yield l) #[] #[],.pointer (some ⟨Bs,0,none⟩)] W fun e W'=>(∃ v,e = .returned v)∧J [] W':=by
 refine callsIn_of_wp Tryz.func99 rfl h7 ?_ hro
 simp only [Tryz.ntmps99,List.size_toArray,List.length_cons,List.length_nil,Nat.reduceAdd,Nat.reduceSub,Array.replicate_succ,Array.replicate_zero,List.push_toArray,List.append_toArray,List.nil_append,List.cons_append]
 gi_wp2
 gi_loopw [7] (fun i wr=>i = .int .i64 0∧J [] wr) (fun _ _=>0)
 case atStart=>exact ⟨rfl,h0⟩
 case round =>
  obtain ⟨rfl,hJs⟩:=hrel
  gi_wp2
  go_end0
  exact ⟨⟨_,rfl⟩,hJs⟩
theorem qHV (F : Fence) (n : Nat) (h7 : F.fn 99) (hro : F.round = none) (hn : 1 ≤ n) (Bs n₀ : Nat) (sv : Value) (zs : List (List UInt8)) (hreach : zs.length * 16 ≤ 140737488351232) (w : World) (hBs : Bs < w.heap.size) (hn₀ : n₀ ≤ w.heap.size)
  (hc:w.cell? ⟨Bs,0,none⟩=some sv) (hI:qLV n₀ w sv zs) :
  SeqStopsK F n Tryz.prog 99 #[.pointer (some ⟨Bs,0,none⟩)] (fun x:List UInt8 => #[encStr x]) (Below n₀) (fun ys=>ys=zs) (fun pre=>pre <+: zs) zs.length w:=fun l J Jx W hW _ _ hY h0=>by
 have hc':=(hW.cell (p:=⟨Bs,0,none⟩) hBs).trans hc
 rcases hI.below (hW.mono hn₀) with ⟨rfl,a,c,rfl⟩ | ⟨b,off,cap,rfl,hb,hcs⟩
 ·exact (qEE F n h7 hro l Bs a c J W hc' h0).mono fun e W' ⟨he,hj⟩=>⟨he,.inl ⟨_,rfl,hj⟩⟩
 refine (qMB F n h7 hro hn l Bs n₀ b off zs.length cap zs hreach hb J Jx hY W hc' hcs h0).mono ?_
 rintro e W' ⟨he,⟨ys,rfl,hj⟩ | ⟨pre,⟨k,hk,rfl⟩,hj⟩⟩
 ·exact ⟨he,.inl ⟨_,qRG zs,hj⟩⟩
 exact ⟨he,.inr ⟨_,by rw [qGM zs hk]; exact List.take_prefix _ _,hj⟩⟩
theorem qUM:(Tryz.prog.info? 9).map (fun i=>(i.zero,i.size,i.bytes))=some (some (.string .empty),1,16):=by kernel_rfl
set_option maxRecDepth 100000 in
set_option maxHeartbeats 2000000 in
theorem qJD (F : Fence) (n : Nat) (h3 : F.fn 137) (h5 : F.fn 99) (hro : F.round = none) (hn : 3 ≤ n) (Bs : Nat) (sv : Value) (zs : List (List UInt8)) (hlen : zs.length ≤ maxLen) (hbytes : zs.length * 16 ≤ 140737488351232) (w : World)
  (hBs:Bs<w.heap.size) (hc0:w.cell? ⟨Bs,0,none⟩=some sv) (hI:qLV w.heap.size w sv zs) :
  CallsIn F n Tryz.prog 137 #[.slice none 0 0,.func (.func 99) #[] #[.pointer (some ⟨Bs,0,none⟩)]] w fun e W'=>∃ v,e = .returned v∧W'.ownsRow w.heap.size 9 1 v zs.length (zs.map encStr)∧Below w.heap.size w W':=by
 have h1:1≤n:=by omega
 obtain ⟨i0,hi,hz0,hz1,hz2⟩:=info_parts qUM
 refine callsIn_of_wp_marks Tryz.func137 rfl h3 ?_ hro
 simp only [Tryz.ntmps137,List.size_toArray,List.length_cons,List.length_nil,Nat.reduceAdd,Nat.reduceSub,Array.replicate_succ,Array.replicate_zero,List.push_toArray,List.append_toArray,List.nil_append,List.cons_append]
 gi_wp2
 have bO:=Boxed.new w 27 (.slice none 0 0)
 have hB0:Below w.heap.size w (w.alloc (.cells #[.slice none 0 0] 27)):=(Below.refl _ w).alloc (Nat.le_refl _) _
 refine wpIn_rangeFunc_ownG hro h1 (gf:=99) (lb := #[.pointer (some ⟨Bs,0,none⟩)]) rfl h5 (enters_of Tryz.func99 (by kernel_rfl) rfl)
  (qHV F (n-1) h5 hro (by omega) Bs w.heap.size sv zs hbytes _ (by simp; omega) (by simp) ((hB0.cell (p:=⟨Bs,0,none⟩) hBs).trans hc0) (hI.below hB0)) belowK_t (belowK_b (by simp)) (Below.refl _ _) (fun _=>rfl)
  (fun pre W=>(∃ v,Boxed W w.heap.size 27 v∧W.ownsRow w.heap.size 9 1 v pre.length (pre.map encStr)∧True)∧Below w.heap.size w W)
  (fun _ _ _=>False)
  (OwnFrom.and (Own.from (holdsRow_own w.heap.size w.heap.size 27 9 1 (fun pre:List (List UInt8)=>pre.length) (fun pre=>pre.map encStr) (fun _ _=>True)) _) (ownFrom_below (Nat.le_refl _) (by simp)))
  (fun _ _ _ _ _ hs _ _=>hs)
  ⟨⟨_,bO,World.ownsRow_nil _ _ _ _,trivial⟩,hB0⟩
  (fun x=>{ tmps := #[.slice none 0 0,.func (.func 99) #[] #[.pointer (some ⟨Bs,0,none⟩)],.pointer (some ⟨w.heap.size,0,none⟩),undef,.slice none 0 0,encStr x,.func (.func 99) #[] #[.pointer (some ⟨Bs,0,none⟩)],encStr x,undef,undef,undef,undef,undef],defers:=[] }) ?assign ?body ?done ?stop
 case assign =>
  intro l x W K hK
  gi_wp2
  exact hK
 case body =>
  rintro l pre x W ⟨⟨v,hv,hrow,_⟩,hB⟩ hlt
  have hc:=hv.cell
  gi_wp2_with (gi_at_builtin; refine wpListIn_append_own _ rfl _ _ 27 rfl w.heap.size 9 i0 (.string .empty) 1 16 Tryz.underlying27 hi hz0 hz1 hz2 rfl (by decide) _ _ _ rfl (hrow.alloc _) ⟨W.heap.size,0,none⟩ 1 1 [encStr x] rfl rfl (cell_one_new _ _ _) (by simp [Value.oneCell']) (by omega) (by omega) (by have:=hB.size; simp; omega) ?_; intro v' w1 hown' hgrow _; obtain ⟨g',cap',rfl⟩:=ownsRow_succ hown'; obtain ⟨hv1,hv2,hr2,hk2,hb2⟩:=hv.appended (by decide) hrow hB.size (Nat.le_refl _) hown' hgrow; have hc1:=hv1.cell; have hf1:=hv1.frozen)
  exact ⟨hk2.from _,hb2,⟨_,hv2,by simpa using hr2,trivial⟩,hB.trans hb2⟩
 case done =>
  rintro D ys W hD rfl ⟨⟨v,hv,hrow,_⟩,hB⟩ hK
  have hc:=hv.cell
  gi_wp2
  refine ⟨by simp,.inl ⟨_,_,rfl,run_takeDeferred hK, ?_⟩⟩
  exact ⟨_,results_tmp rfl _ _ _,v,rfl,ownsRow_putObj hrow _ hK rfl,hB.trans (belowK_b (w:=w) (Nat.le_refl _) W D _ _ (by simp at hD; omega) hK rfl rfl)⟩
 case stop =>
  rintro D c pre W _ _ h _
  exact h.elim
set_option maxRecDepth 100000 in
set_option maxHeartbeats 2000000 in
theorem qNK (F : Fence) (n : Nat) (h2 : F.fn 97) (h3 : F.fn 137) (h5 : F.fn 99) (hro : F.round = none) (hn : 4 ≤ n) (Bs : Nat) (sv : Value) (zs : List (List UInt8)) (hlen : zs.length ≤ maxLen) (hbytes : zs.length * 16 ≤ 140737488351232) (w : World)
  (hBs:Bs<w.heap.size) (hc0:w.cell? ⟨Bs,0,none⟩=some sv) (hI:qLV w.heap.size w sv zs) :
  CallsIn F n Tryz.prog 97 #[.func (.func 99) #[] #[.pointer (some ⟨Bs,0,none⟩)]] w fun e W'=>∃ v,e = .returned v∧W'.ownsRow w.heap.size 9 1 v zs.length (zs.map encStr)∧Below w.heap.size w W':=by
 have h1:1≤n:=by omega
 refine callsIn_of_wp Tryz.func97 rfl h2 ?_ hro
 simp only [Tryz.ntmps97,List.size_toArray,List.length_cons,List.length_nil,Nat.reduceAdd,Nat.reduceSub,Array.replicate_succ,Array.replicate_zero,List.push_toArray,List.append_toArray,List.nil_append,List.cons_append]
 gi_wp2_with (gi_at_call 137; refine (qJD F (n-1) h3 h5 hro (by omega) Bs sv zs hlen hbytes _ hBs hc0 hI).mono ?_; rintro e W ⟨v,rfl,hrow,hb⟩)
 go_ret
 exact ⟨v,rfl,hrow,hb⟩
end Go.Proofs.YtgcbapchinideaaGreatDoor
namespace Go.Proofs
open Go.Shelf
def Tryz.lays105_ren:Go.Shelf.Ren:=⟨fun | 105=>108 | 212=>147 | 99=>72 | 165=>148 | 166=>149 | 170=>150 | 169=>151 | 263=>191 | 264=>192 | 206=>103 | 240=>193 | 241=>194 | 276=>220 | 277=>221 | n=>n,fun | 9=>9 | 3=>3 | 4=>4 | 20=>20 | 0=>0 | 46=>148 | 109=>159 | 5=>5 | 72=>163 | 76=>166 | 51=>202 | 146=>217 | 53=>24 | 148=>219 | 70=>161 | 37=>81 | 75=>165 | 127=>221 | 164=>241 | 80=>169 | n=>n,fun | n=>n⟩
theorem Tryz.lays105:Go.Proofs.Lays.n105 Tryz.prog Tryz.lays105_ren:={
 mixed:=by kernel_rfl
 f99:=Tryz.func72.trans (congrArg some (by kernel_rfl))
 f105:=Tryz.func108.trans (congrArg some (by kernel_rfl))
 f165:=Tryz.func148.trans (congrArg some (by kernel_rfl))
 f166:=Tryz.func149.trans (congrArg some (by kernel_rfl))
 f169:=Tryz.func151.trans (congrArg some (by kernel_rfl))
 f170:=Tryz.func150.trans (congrArg some (by kernel_rfl))
 f206:=Tryz.func103.trans (congrArg some (by kernel_rfl))
 f212:=Tryz.func147.trans (congrArg some (by kernel_rfl))
 f240:=Tryz.func193.trans (congrArg some (by kernel_rfl))
 f241:=Tryz.func194.trans (congrArg some (by kernel_rfl))
 f263:=Tryz.func191.trans (congrArg some (by kernel_rfl))
 f264:=Tryz.func192.trans (congrArg some (by kernel_rfl))
 f276:=Tryz.func220.trans (congrArg some (by kernel_rfl))
 f277:=Tryz.func221.trans (congrArg some (by kernel_rfl))
 t0:=Tryz.underlying0
 a0:=Tryz.isAgg0
 z0:=Tryz.sizeOf0
 v0:=Tryz.zeroValue0
 t3:=Tryz.underlying3
 a3:=Tryz.isAgg3
 z3:=Tryz.sizeOf3
 v3:=Tryz.zeroValue3
 t4:=Tryz.underlying4
 a4:=Tryz.isAgg4
 z4:=Tryz.sizeOf4
 v4:=Tryz.zeroValue4
 t5:=Tryz.underlying5
 a5:=Tryz.isAgg5
 z5:=Tryz.sizeOf5
 v5:=Tryz.zeroValue5
 t9:=Tryz.underlying9
 a9:=Tryz.isAgg9
 z9:=Tryz.sizeOf9
 v9:=Tryz.zeroValue9
 t20:=Tryz.underlying20
 a20:=Tryz.isAgg20
 z20:=Tryz.sizeOf20
 v20:=Tryz.zeroValue20
 t37:=Tryz.underlying81
 a37:=Tryz.isAgg81
 z37:=Tryz.sizeOf81
 v37:=Tryz.zeroValue81
 t46:=Tryz.underlying148
 a46:=Tryz.isAgg148
 z46:=Tryz.sizeOf148
 v46:=Tryz.zeroValue148
 t51:=Tryz.underlying202
 a51:=Tryz.isAgg202
 z51:=Tryz.sizeOf202
 v51:=Tryz.zeroValue202
 t53:=Tryz.underlying24
 a53:=Tryz.isAgg24
 z53:=Tryz.sizeOf24
 v53:=Tryz.zeroValue24
 t70:=Tryz.underlying161
 a70:=Tryz.isAgg161
 z70:=Tryz.sizeOf161
 v70:=Tryz.zeroValue161
 t72:=Tryz.underlying163
 a72:=Tryz.isAgg163
 z72:=Tryz.sizeOf163
 v72:=Tryz.zeroValue163
 t75:=Tryz.underlying165
 a75:=Tryz.isAgg165
 z75:=Tryz.sizeOf165
 v75:=Tryz.zeroValue165
 t76:=Tryz.underlying166
 a76:=Tryz.isAgg166
 z76:=Tryz.sizeOf166
 v76:=Tryz.zeroValue166
 t109:=Tryz.underlying159
 a109:=Tryz.isAgg159
 z109:=Tryz.sizeOf159
 v109:=Tryz.zeroValue159
 t127:=Tryz.underlying221
 a127:=Tryz.isAgg221
 z127:=Tryz.sizeOf221
 v127:=Tryz.zeroValue221
 t146:=Tryz.underlying217
 a146:=Tryz.isAgg217
 z146:=Tryz.sizeOf217
 v146:=Tryz.zeroValue217
 t148:=Tryz.underlying219
 a148:=Tryz.isAgg219
 z148:=Tryz.sizeOf219
 v148:=Tryz.zeroValue219
 t164:=Tryz.underlying241
 a164:=Tryz.isAgg241
 z164:=Tryz.sizeOf241
 v164:=Tryz.zeroValue241 }
def Tryz.lays190_ren:Go.Shelf.Ren:=⟨fun | 190=>98 | 125=>139 | 258=>138 | 128=>186 | 129=>187 | 302=>177 | 303=>178 | 304=>179 | 305=>180 | 306=>181 | 307=>182 | 308=>183 | 309=>184 | 310=>185 | 333=>211 | 329=>212 | 330=>213 | 334=>214 | 335=>215 | 336=>205 | 344=>234 | n=>n,fun | 31=>27 | 9=>9 | 3=>3 | 46=>148 | 0=>0 | 51=>202 | 53=>24 | 4=>4 | 183=>196 | 182=>195 | 131=>121 | 5=>5 | 218=>232 | 222=>236 | 228=>250 | 229=>107 | n=>n,fun | n=>n⟩
theorem Tryz.lays190:Go.Proofs.Lays.n190 Tryz.prog Tryz.lays190_ren:={
 mixed:=by kernel_rfl
 f125:=Tryz.func139.trans (congrArg some (by kernel_rfl))
 f128:=Tryz.func186.trans (congrArg some (by kernel_rfl))
 f129:=Tryz.func187.trans (congrArg some (by kernel_rfl))
 f190:=Tryz.func98.trans (congrArg some (by kernel_rfl))
 f258:=Tryz.func138.trans (congrArg some (by kernel_rfl))
 f302:=Tryz.func177.trans (congrArg some (by kernel_rfl))
 f303:=Tryz.func178.trans (congrArg some (by kernel_rfl))
 f304:=Tryz.func179.trans (congrArg some (by kernel_rfl))
 f305:=Tryz.func180.trans (congrArg some (by kernel_rfl))
 f306:=Tryz.func181.trans (congrArg some (by kernel_rfl))
 f307:=Tryz.func182.trans (congrArg some (by kernel_rfl))
 f308:=Tryz.func183.trans (congrArg some (by kernel_rfl))
 f309:=Tryz.func184.trans (congrArg some (by kernel_rfl))
 f310:=Tryz.func185.trans (congrArg some (by kernel_rfl))
 f329:=Tryz.func212.trans (congrArg some (by kernel_rfl))
 f330:=Tryz.func213.trans (congrArg some (by kernel_rfl))
 f333:=Tryz.func211.trans (congrArg some (by kernel_rfl))
 f334:=Tryz.func214.trans (congrArg some (by kernel_rfl))
 f335:=Tryz.func215.trans (congrArg some (by kernel_rfl))
 f336:=Tryz.func205.trans (congrArg some (by kernel_rfl))
 f344:=Tryz.func234.trans (congrArg some (by kernel_rfl))
 t0:=Tryz.underlying0
 a0:=Tryz.isAgg0
 z0:=Tryz.sizeOf0
 v0:=Tryz.zeroValue0
 t3:=Tryz.underlying3
 a3:=Tryz.isAgg3
 z3:=Tryz.sizeOf3
 v3:=Tryz.zeroValue3
 t4:=Tryz.underlying4
 a4:=Tryz.isAgg4
 z4:=Tryz.sizeOf4
 v4:=Tryz.zeroValue4
 t5:=Tryz.underlying5
 a5:=Tryz.isAgg5
 z5:=Tryz.sizeOf5
 v5:=Tryz.zeroValue5
 t9:=Tryz.underlying9
 a9:=Tryz.isAgg9
 z9:=Tryz.sizeOf9
 v9:=Tryz.zeroValue9
 t31:=Tryz.underlying27
 a31:=Tryz.isAgg27
 z31:=Tryz.sizeOf27
 v31:=Tryz.zeroValue27
 t46:=Tryz.underlying148
 a46:=Tryz.isAgg148
 z46:=Tryz.sizeOf148
 v46:=Tryz.zeroValue148
 t51:=Tryz.underlying202
 a51:=Tryz.isAgg202
 z51:=Tryz.sizeOf202
 v51:=Tryz.zeroValue202
 t53:=Tryz.underlying24
 a53:=Tryz.isAgg24
 z53:=Tryz.sizeOf24
 v53:=Tryz.zeroValue24
 t131:=Tryz.underlying121
 a131:=Tryz.isAgg121
 z131:=Tryz.sizeOf121
 v131:=Tryz.zeroValue121
 t182:=Tryz.underlying195
 a182:=Tryz.isAgg195
 z182:=Tryz.sizeOf195
 v182:=Tryz.zeroValue195
 t183:=Tryz.underlying196
 a183:=Tryz.isAgg196
 z183:=Tryz.sizeOf196
 v183:=Tryz.zeroValue196
 t218:=Tryz.underlying232
 a218:=Tryz.isAgg232
 z218:=Tryz.sizeOf232
 v218:=Tryz.zeroValue232
 t222:=Tryz.underlying236
 a222:=Tryz.isAgg236
 z222:=Tryz.sizeOf236
 v222:=Tryz.zeroValue236
 t228:=Tryz.underlying250
 a228:=Tryz.isAgg250
 z228:=Tryz.sizeOf250
 v228:=Tryz.zeroValue250
 t229:=Tryz.underlying107
 a229:=Tryz.isAgg107
 z229:=Tryz.sizeOf107
 v229:=Tryz.zeroValue107 }
def Tryz.lays156_ren:Go.Shelf.Ren:=⟨fun | 156=>135 | 165=>148 | 166=>149 | 169=>151 | 240=>193 | 241=>194 | 276=>220 | 277=>221 | n=>n,fun | 31=>27 | 9=>9 | 3=>3 | 4=>4 | 0=>0 | 20=>20 | 72=>163 | 76=>166 | 70=>161 | 37=>81 | 75=>165 | 127=>221 | 164=>241 | 5=>5 | 80=>169 | n=>n,fun | n=>n⟩
theorem Tryz.lays156:Go.Proofs.Lays.n156 Tryz.prog Tryz.lays156_ren:={
 mixed:=by kernel_rfl
 f156:=Tryz.func135.trans (congrArg some (by kernel_rfl))
 f165:=Tryz.func148.trans (congrArg some (by kernel_rfl))
 f166:=Tryz.func149.trans (congrArg some (by kernel_rfl))
 f169:=Tryz.func151.trans (congrArg some (by kernel_rfl))
 f240:=Tryz.func193.trans (congrArg some (by kernel_rfl))
 f241:=Tryz.func194.trans (congrArg some (by kernel_rfl))
 f276:=Tryz.func220.trans (congrArg some (by kernel_rfl))
 f277:=Tryz.func221.trans (congrArg some (by kernel_rfl))
 t0:=Tryz.underlying0
 a0:=Tryz.isAgg0
 z0:=Tryz.sizeOf0
 v0:=Tryz.zeroValue0
 t3:=Tryz.underlying3
 a3:=Tryz.isAgg3
 z3:=Tryz.sizeOf3
 v3:=Tryz.zeroValue3
 t4:=Tryz.underlying4
 a4:=Tryz.isAgg4
 z4:=Tryz.sizeOf4
 v4:=Tryz.zeroValue4
 t9:=Tryz.underlying9
 a9:=Tryz.isAgg9
 z9:=Tryz.sizeOf9
 v9:=Tryz.zeroValue9
 t20:=Tryz.underlying20
 a20:=Tryz.isAgg20
 z20:=Tryz.sizeOf20
 v20:=Tryz.zeroValue20
 t31:=Tryz.underlying27
 a31:=Tryz.isAgg27
 z31:=Tryz.sizeOf27
 v31:=Tryz.zeroValue27
 t37:=Tryz.underlying81
 a37:=Tryz.isAgg81
 z37:=Tryz.sizeOf81
 v37:=Tryz.zeroValue81
 t70:=Tryz.underlying161
 a70:=Tryz.isAgg161
 z70:=Tryz.sizeOf161
 v70:=Tryz.zeroValue161
 t72:=Tryz.underlying163
 a72:=Tryz.isAgg163
 z72:=Tryz.sizeOf163
 v72:=Tryz.zeroValue163
 t75:=Tryz.underlying165
 a75:=Tryz.isAgg165
 z75:=Tryz.sizeOf165
 v75:=Tryz.zeroValue165
 t76:=Tryz.underlying166
 a76:=Tryz.isAgg166
 z76:=Tryz.sizeOf166
 v76:=Tryz.zeroValue166
 t127:=Tryz.underlying221
 a127:=Tryz.isAgg221
 z127:=Tryz.sizeOf221
 v127:=Tryz.zeroValue221
 t164:=Tryz.underlying241
 a164:=Tryz.isAgg241
 z164:=Tryz.sizeOf241
 v164:=Tryz.zeroValue241 }
end Go.Proofs
namespace Go.Proofs.YtgcbapchinideaaGreatDoor
open Sy Go
variable {G:qG}
theorem qNP {M:qQ} {vs:Array Value} {s:List UInt8} {n:Int} (hsz:vs.size=2) (h:∀ (i:Nat) u d,vs[i]?=some u→[PD.str s,PD.int .i64 n][i]?=some d→Rd M u d):∃ a:ByteArray,vs = #[.string a,.int .i64 n]∧a.data.toList=s∧n≤9223372036854775807:=by
 obtain ⟨l⟩:=vs
 match l,hsz with
 | [u,v],_ =>
  have h1:=h 0 u (.str s) rfl rfl
  have h2:=h 1 v (.int .i64 n) rfl rfl
  cases h1 with
  | @str a _ ha _ =>
  cases h2 with
  | int h3 h4=>exact ⟨a,rfl,ha,by rw [kR] at h4; exact h4⟩
theorem qGJ:Builder.Extra Tryz.prog Tryz.lays105_ren where
 sizeBuilder:=by kernel_rfl
 liesBuilder:=by kernel_rfl
 t5:=Tryz.underlying5
 a5:=Tryz.isAgg5
 z5:=Tryz.sizeOf5
 v5:=Tryz.zeroValue5
 infoByte:=by kernel_rfl
 cellsByte:=by kernel_rfl
 sizeByte:=by kernel_rfl
 neB5:=by decide
theorem qQX (s:List UInt8) (n:Nat) (h:s.length * n≤140737488355328):AFn Tryz.prog G 108 [.str s,.int .i64 n] (.str (Lib.repeatL s n)):=by
 refine AFn.of_calls (uO Tryz.func108 (by kernel_rfl) rfl) fun M w vs hg hmem hsz hrd => ?_
 obtain ⟨x,rfl,rfl,hn⟩:=qNP hsz hrd
 refine (Any.strings_Repeat Tryz.lays105 qGJ x n w (by omega) (by rw [kB rfl]; exact h)).mono ?_
 rintro e w' ⟨rfl,hb⟩
 refine ⟨_,rfl,.str (by simp) ?_,hb⟩
 rw [Lib.repeatL_length,Nat.mul_comm]; simp only [maxLen]; omega
open Sy Go Go.RowKit Go.Shelf Go.Maps Go.Sort
attribute [local go_sem] Oper.semAt_some
set_option linter.unusedSimpArgs false
set_option linter.unusedVariables false
def wD (ks:List (List UInt8)):List (List UInt8):=ks.mergeSort fun x y=>decide (x≤y)
theorem uU (ks:List (List UInt8)):(wD ks).length=ks.length:=List.length_mergeSort _
set_option maxRecDepth 100000 in
set_option maxHeartbeats 2000000 in
theorem qID (Bs : Nat) (sv : Value) (zs : List (List UInt8)) (hlen : zs.length ≤ maxLen) (hbytes : zs.length * 16 ≤ 140737488351232) (w : World) (hBs : Bs < w.heap.size) (hc0 : w.cell? ⟨Bs, 0, none⟩ = some sv) (hI : qLV w.heap.size w sv zs) :
  Calls Tryz.prog 67 #[.func (.func 99) #[] #[.pointer (some ⟨Bs,0,none⟩)]] w fun e W'=>∃ v,e = .returned v∧W'.ownsRow w.heap.size 9 1 v zs.length ((wD zs).map encStr)∧Below w.heap.size w W':=by
 refine (callsIn_wide (n:=6)).1 ?_
 have h1:1≤6:=by omega
 refine callsIn_of_wp Tryz.func67 rfl trivial ?_ rfl
 simp only [Tryz.ntmps67,List.size_toArray,List.length_cons,List.length_nil,Nat.reduceAdd,Nat.reduceSub,Array.replicate_succ,Array.replicate_zero,List.push_toArray,List.append_toArray,List.nil_append,List.cons_append]
 gi_wp2_with (refine ⟨trivial, ?_⟩; gi_at_call 97; refine (qNK Fence.wide 5 trivial trivial trivial rfl (by omega) Bs sv zs hlen hbytes _ hBs hc0 hI).mono ?_; rintro e W ⟨v,rfl,hrow,hb⟩)
 rcases hrow.2 with ⟨rfl,hz⟩ | ⟨gb,cap,cur,rfl,hbase,hgb,r1,r2,r3,r4⟩
 ·have hss:zs=[]:=List.eq_nil_of_length_eq_zero hz
  subst hss
  gi_wp2_with (refine ⟨trivial, ?_⟩; gi_at_call 98; refine (callsIn_wide.2 (Any.slices_Sort_string_none Tryz.lays190 none 0 W)).mono ?_; rintro e w' ⟨rfl,rfl⟩)
  go_ret
  exact ⟨.slice none 0 0,rfl,by simpa [wD] using hrow,hb⟩
 have hH:Holds encStr W gb 0 zs.toArray:=holds_of_block hgb (by simpa using r4)
 have hgl:gb<W.heap.size:=(Array.getElem?_eq_some_iff.1 hgb).1
 have cS:=Any.slices_Sort_string Tryz.lays190 gb 0 cap zs W hH hgl (by omega)
 gi_wp2_with (refine ⟨trivial, ?_⟩; gi_at_call 98; refine (callsIn_wide.2 cS).mono ?_; rintro e w' ⟨rfl,nn,os,rfl⟩)
 go_ret
 exact ⟨_,rfl,ownsRow_sorted (by simp) hbase hgb r1 r2 r3,hb.grown (grownBy_sorted _) hb.size (fun j hj=>by cases hj; exact hbase)⟩
theorem qQI {ba:ByteArray} {s:List UInt8} (h:ba.data.toList=s):Value.string ba=encStr s:=by
 subst h; rfl
theorem qUL {M:qQ} {w:World} {u:Value} {ks:List (List UInt8)} (hmem:∀ b o v,M b o=some v→w.cell? ⟨b,o,none⟩=some v) (h:Rd M u (.sl 1 (ks.map PD.str))):qLV w.heap.size w u ks∧ks.length≤maxLen∧∀ s∈ks,s.length≤maxLen:=by
 cases h with
 | @sl a n c _ _ b o hn hnc hcm ha h5 h6 h7 =>
 rw [List.length_map] at hn
 by_cases hk:ks=[]
 ·subst hk; simp at hn; subst hn; exact ⟨.inl ⟨rfl,a,c,rfl⟩,by simp,by simp⟩
 have hpos:0<ks.length:=List.length_pos_iff.2 hk
 obtain rfl:=ha (by omega)
 subst hn
 have hcell:∀ j,j<ks.length→w.cell? ⟨b,o+j,none⟩=some (encStr (ks[j]?.getD []))∧(ks[j]?.getD []).length≤maxLen:=fun j hj=>by
  have hg:(ks.map PD.str)[j]?=some (.str ks[j]):=by simp [hj]
  obtain ⟨u,hu,_⟩:=h6 j _ 0 hg (by omega)
  have h8:=h7 j _ 0 _ u hg rfl hu
  cases h8 with
  | @str ba _ hba hl =>
  have:=hmem _ _ _ hu
  simp only [Nat.mul_one,Nat.add_zero] at this
  refine ⟨by rw [this,qQI hba]; simp [hj],by simpa [hj] using hl⟩
 refine ⟨.inr ⟨b,o,c,rfl,wW (hcell 0 hpos).1,fun j hj=>(hcell j hj).1⟩,by omega,fun s hs => ?_⟩
 obtain ⟨j,hj,rfl⟩:=List.mem_iff_getElem.1 hs
 have:=(hcell j hj).2
 simpa [hj] using this
theorem qPL (i : Nat) (ks : List (List UInt8)) (hb : ks.length * 16 ≤ 140737488351232) : AX Tryz.prog G 67 [.func (.func 99) [] [.ptr i 0]] [(i, .vars 27 [.p (.sl 1 (ks.map PD.str))])]
  (.p (.sl 1 ((wD ks).map PD.str))) [] []:=by
 refine ⟨uO Tryz.func67 (by kernel_rfl) rfl,fun M μ w vs hg rel => ?_⟩
 have hsz:vs.size=1:=rel.slots.1
 obtain ⟨l⟩:=vs
 match l,hsz with
 | [u],_ =>
 have hu:=rel.slots.2 0 u _ rfl rfl
 cases hu with
 | @func _ fa ca _ _ h1 h2 h3 h4 =>
 obtain rfl:fa = #[]:=Array.eq_empty_of_size_eq_zero h1
 obtain ⟨c⟩:=ca
 match c,h2,h4 with
 | [q],_,h4 =>
 have hq:=h4 0 q _ rfl rfl
 cases hq with
 | @ptr _ _ b hblk =>
 have hbx:=rel.box i (.vars 27 [.p (.sl 1 (ks.map PD.str))]) (List.mem_singleton.2 rfl)
 cases hbx with
 | @vars _ _ b' arr g0 g1 g2 g3 g4 =>
 rw [hblk] at g0
 cases g0
 obtain ⟨al⟩:=arr
 match al,g2,g1,g4 with
 | [sv],_,g1,g4 =>
 have hsv:=(g4 0 sv _ rfl rfl).p_inv
 obtain ⟨hS,hlen,hsl⟩:=qUL rel.mem hsv
 have hbl:b<w.heap.size:=(Array.getElem?_eq_some_iff.1 g1).1
 refine (qID b sv ks hlen hb w hbl (by simp [World.cell?,g1]) hS).mono ?_
 rintro e w' ⟨v,rfl,hrow,hbel⟩
 have hkeep:∀ b o v,M b o=some v→w'.cell? ⟨b,o,none⟩=some v:=fun b o v hv=>by
  have h:=rel.mem b o v hv
  exact (World.cell?_of_block (w:=w) (hbel.block b (wW h))).trans h
 have base : ∀ M' : qQ, (∀ b o v, M b o = some v → M' b o = some v) → (∀ b o v, M' b o = some v → w'.cell? ⟨b, o, none⟩ = some v) → (∀ b o, b < w.heap.size → M' b o = M b o) → Rd M' v (.sl 1 ((wD ks).map PD.str)) →
   ∃ v_1 M' μ',Ending.returned v=Ending.returned v_1∧Rel ⟨w.heap.size,w,M,μ,wF μ [(i,.vars 27 [.p (.sl 1 (ks.map PD.str))])]⟩ M' μ' ⟨[.p (.sl 1 ((wD ks).map PD.str))],[],[],0⟩ #[v_1] w':=by
  intro M' hM hmem hold hrd
  refine ⟨v,M',μ,rfl,hmem,hM,fun b o hb=>hold b o (by have:¬ w.heap.size≤b:=fun e=>hb (.inl e); omega),⟨rfl,fun k u x hu hx => ?_⟩,fun i hi=>by simp at hi,fun i b hi=>by simp at hi,by simp,fun i j b hi=>by simp [qE] at hi,fun i b hi=>by simp [qE] at hi,hbel.size, ?_⟩
  ·cases k with
   | zero=>simp at hu hx; subst hu; subst hx; exact .p hrd
   | succ k=>simp at hu
  exact ⟨hbel.os,hbel.tape,hbel.output,hbel.size,fun k hk=>hbel.block k (by have:¬ w.heap.size≤k:=fun e=>hk (.inl e); omega)⟩
 have hsk:=uU ks
 rcases hrow.2 with ⟨rfl,hz⟩ | ⟨gb,cap,cur,rfl,hbase,hgb,r1,r2,r3,r4⟩
 ·have hks:ks=[]:=List.eq_nil_of_length_eq_zero hz
  subst hks
  refine base M (fun _ _ _ h=>h) hkeep (fun _ _ _=>rfl) ?_
  exact .sl 0 0 (by simp [wD]) (Nat.le_refl _) (by simp [maxLen]) (fun h=>(h rfl).elim) (fun i e h=>by simp [wD] at h) (fun i e j h=>by simp [wD] at h) (fun i e j d u h=>by simp [wD] at h)
 have hcell:∀ j,w'.cell? ⟨gb,j,none⟩=cur[j]?:=fun j=>zU hgb
 let M2:qQ:=fun b o=>if b=gb∧o<ks.length then cur[o]? else M b o
 have hlt:∀ b o v,M b o=some v→b<w.heap.size:=fun b o v hv=>wW (rel.mem b o v hv)
 have hcur:∀ j,j<ks.length→cur[j]?=some (encStr ((wD ks)[j]?.getD [])):=fun j hj=>by
  have h5:(cur.toList.take (ks.length * 1))[j]?=((wD ks).map encStr)[j]?:=by rw [r4]
  rw [List.getElem?_take_of_lt (by omega)] at h5
  rw [← Array.getElem?_toList,h5]; simp [show j<(wD ks).length by omega]
 have hM2:∀ o,o<ks.length→M2 gb o=cur[o]?:=fun o ho=>if_pos ⟨rfl,ho⟩
 refine base M2 (fun b o v hv => ?_) (fun b o v hv => ?_) (fun b o hb => ?_) ?_
 ·have:=hlt b o v hv
  show (if b=gb∧o<ks.length then cur[o]? else M b o)=some v
  rw [if_neg (by omega)]; exact hv
 ·have hv':(if b=gb∧o<ks.length then cur[o]? else M b o)=some v:=hv
  split at hv'
  ·rename_i h; rw [h.1,hcell]; exact hv'
  exact hkeep b o v hv'
 ·show (if b=gb∧o<ks.length then cur[o]? else M b o)=M b o
  rw [if_neg (by omega)]
 refine .sl gb 0 (by simp [hsk]) r1 r2 (fun _=>rfl) (fun j e he => ?_) (fun j e k he hk => ?_) (fun j e k d u he hd hu => ?_)
 ·simp at he; obtain ⟨s,_,rfl⟩:=he; rfl
 ·have hj:j<ks.length:=by have:=(List.getElem?_eq_some_iff.1 he).1; simp [hsk] at this; exact this
  obtain rfl:k=0:=by omega
  refine ⟨_,by simp only [Nat.mul_one,Nat.add_zero,Nat.zero_add]; rw [hM2 j hj,hcur j hj],rfl⟩
 have hj:j<ks.length:=by have:=(List.getElem?_eq_some_iff.1 he).1; simp [hsk] at this; exact this
 have hjs:j<(wD ks).length:=by omega
 simp [hjs] at he
 subst he
 cases k with
 | succ k=>simp [PD.cells] at hd
 | zero =>
  simp [PD.cells] at hd
  subst hd
  simp at hu
  rw [hM2 j hj,hcur j hj] at hu
  simp [hjs] at hu
  subst hu
  refine .str (by simp [encStr]) ?_
  exact hsl _ ((List.mergeSort_perm ks _).mem_iff.1 (List.getElem_mem hjs))
end Go.Proofs.YtgcbapchinideaaGreatDoor
namespace Go.Proofs.YtgcbapchinideaaGreatDoor
open Sy Go
set_option maxRecDepth 100000
set_option maxHeartbeats 4000000
set_option linter.unusedSimpArgs false
set_option linter.unusedVariables false
variable {G:qG}
def zH (s:List UInt8):Nat:=s.foldl (fun n b=>n * 10+(b.toNat-48)) 0
theorem wK (b:UInt8):zA b=true↔48≤b.toNat∧b.toNat≤57:=by simp [zA,jN]; omega
theorem qEG (s:List UInt8):∀ n,s.foldl (fun n b=>n * 10+(b.toNat-48)) n=n * 10 ^ s.length+zH s:=by
 induction s with
 | nil=>intro n; simp [zH]
 | cons b s ih =>
  intro n
  have e:zH (b::s)=(b.toNat-48) * 10 ^ s.length+zH s:=by unfold zH; rw [List.foldl_cons,ih]; simp [zH]
  rw [List.foldl_cons,ih,e,List.length_cons,Nat.pow_succ,Nat.add_mul,Nat.mul_assoc,Nat.mul_comm 10,Nat.add_assoc]
theorem yT (b:UInt8) (s:List UInt8):zH (b::s)=(b.toNat-48) * 10 ^ s.length+zH s:=by
 unfold zH; rw [List.foldl_cons,qEG]; simp [zH]
theorem qDC (s t:List UInt8):zH (s++t)=zH s * 10 ^ t.length+zH t:=by
 unfold zH; rw [List.foldl_append,qEG]; rfl
theorem qGL (s:List UInt8) (b:UInt8):zH (s++[b])=zH s * 10+(b.toNat-48):=by rw [qDC]; simp [zH]
theorem jU {s:List UInt8} (h:s.all zA=true):zH s<10 ^ s.length:=by
 induction s with
 | nil=>simp [zH]
 | cons b s ih =>
  simp only [List.all_cons,Bool.and_eq_true] at h
  have h1:=(wK b).1 h.1
  have h2:=ih h.2
  rw [yT,List.length_cons,Nat.pow_succ]
  have:b.toNat-48≤9:=by omega
  have:=Nat.mul_le_mul_right (10 ^ s.length) this
  omega
theorem qPD (n:Nat):Lib.repeatL [48] n=List.replicate n 48:=by
 induction n with
 | zero=>rfl
 | succ n ih=>simp [Lib.repeatL,ih,List.replicate_succ]
theorem qBW {s:List UInt8} (h:s.all zA=true) (n:Nat):(s++List.replicate n 48).all zA=true:=by
 rw [List.all_append,h]
 have:(List.replicate n (48:UInt8)).all zA=true:=List.all_eq_true.2 fun b hb=>by rw [(List.mem_replicate.1 hb).2]; rfl
 rw [this]; rfl
def qF:Nat:=1000000000
def qJ:List Nat→Nat
 | []=>0
 | x::xs=>x+qF * qJ xs
def okL (l:List Nat):Prop:=∀ x∈l,x<qF
def zS (l:List Nat):List Nat:=(l.reverse.dropWhile (· == 0)).reverse
def vG (s:List UInt8) (e:Nat):Nat:=zH ((s.take e).drop (e-9))
def uF (s:List UInt8):Nat→Nat→List Nat
 | 0,_=>[]
 | f+1,e=>if 0<e then vG s e::uF s f (e-9) else []
theorem qDM (s:List UInt8):∀ (f g e:Nat),e≤f→e≤g→uF s f e=uF s g e
 | 0,0,_,_,_=>rfl
 | 0,g+1,e,h,_=>by simp only [uF]; rw [if_neg (by omega)]
 | f+1,0,e,_,h=>by simp only [uF]; rw [if_neg (by omega)]
 | f+1,g+1,e,h1,h2=>by
  simp only [uF]
  split
  ·rw [qDM s f g _ (by omega) (by omega)]
  rfl
def jI (s:List UInt8) (e:Nat):List Nat:=uF s e e
theorem uZ {s:List UInt8} {e:Nat} (h:0<e):jI s e=vG s e::jI s (e-9):=by
 unfold jI
 rw [show e=(e-1)+1 by omega]
 simp only [uF]
 rw [if_pos (by omega),qDM s (e-1) (e-1+1-9) _ (by omega) (by omega)]
theorem yQ (s:List UInt8):jI s 0=[]:=rfl
theorem qFQ {s:List UInt8} (h:s.all zA=true) (n:Nat):(s.take n).all zA=true:=by
 rw [List.all_eq_true] at h ⊢; exact fun b hb=>h b (List.mem_of_mem_take hb)
theorem qLT {s:List UInt8} (h:s.all zA=true) (n:Nat):(s.drop n).all zA=true:=by
 rw [List.all_eq_true] at h ⊢; exact fun b hb=>h b (List.mem_of_mem_drop hb)
theorem qQB {s:List UInt8} (h:s.all zA=true) (e:Nat):vG s e<qF:=by
 have h1:=jU (qLT (qFQ h e) (e-9))
 have h2:((s.take e).drop (e-9)).length≤9:=by simp; omega
 have:=Nat.pow_le_pow_right (n:=10) (by omega) h2
 unfold vG qF; omega
theorem qKU {s:List UInt8} (h:s.all zA=true):∀ (f e:Nat),e≤f→okL (jI s e)
 | 0,e,he=>by rw [show e=0 by omega,yQ]; intro x hx; cases hx
 | f+1,e,he=>by
  by_cases hp:0<e
  ·rw [uZ hp]
   intro x hx
   rcases List.mem_cons.1 hx with rfl | hx
   ·exact qQB h e
   exact qKU h f (e-9) (by omega) x hx
  rw [show e=0 by omega,yQ]; intro x hx; cases hx
theorem qHJ {s:List UInt8} (h:s.all zA=true):∀ (f e:Nat),e≤f→e≤s.length→qJ (jI s e)=zH (s.take e)
 | 0,e,he,_=>by rw [show e=0 by omega,yQ]; rfl
 | f+1,e,he,hs=>by
  by_cases hp:0<e
  ·rw [uZ hp]
   simp only [qJ]
   rw [qHJ h f (e-9) (by omega) (by omega)]
   have e1:s.take e=s.take (e-9)++(s.take e).drop (e-9):=by
    have h2:=List.take_append_drop (e-9) (s.take e)
    rw [List.take_take,Nat.min_eq_left (by omega)] at h2
    exact h2.symm
   have e2:zH (s.take e)=zH (s.take (e-9)) * 10 ^ ((s.take e).drop (e-9)).length+vG s e:=by
    rw [e1,qDC,← e1]; rfl
   rw [e2]
   by_cases h9:9≤e
   ·have:((s.take e).drop (e-9)).length=9:=by simp; omega
    rw [this]; unfold qF; omega
   rw [show e-9=0 by omega]; simp [zH]
  rw [show e=0 by omega,yQ]; rfl
theorem jV (l:List Nat) (x:Nat):zS (l++[x])=if x=0 then zS l else l++[x]:=by
 unfold zS
 rw [List.reverse_append]
 simp only [List.reverse_cons,List.reverse_nil,List.nil_append,List.singleton_append,List.dropWhile_cons]
 by_cases h:x=0
 ·simp [h]
 simp [h]
theorem wX (l:List Nat) (x:Nat):qJ (l++[x])=qJ l+qF ^ l.length * x:=by
 induction l with
 | nil=>simp [qJ]
 | cons a l ih=>simp only [List.cons_append,qJ,ih,List.length_cons,Nat.pow_succ,Nat.mul_add]; rw [Nat.add_assoc,Nat.mul_comm (qF ^ l.length) qF,Nat.mul_assoc]
theorem qIE {p:List Nat→Prop} (h0:p []) (h1:∀ l x,p l→p (l++[x])) (l:List Nat):p l:=by
 have:∀ r:List Nat,p r.reverse:=by
  intro r
  induction r with
  | nil=>exact h0
  | cons a r ih=>rw [List.reverse_cons]; exact h1 _ _ ih
 simpa using this l.reverse
theorem qAJ (l:List Nat):qJ (zS l)=qJ l:=by
 refine qIE (p:=fun l=>qJ (zS l)=qJ l) rfl (fun l x ih => ?_) l
 rw [jV]
 split
 ·rename_i h; rw [ih,wX,h]; simp
 rfl
theorem qCD {l:List Nat} (h:okL l):okL (zS l):=by
 intro x hx
 unfold zS at hx
 rw [List.mem_reverse] at hx
 exact h x (List.mem_reverse.1 ((List.dropWhile_sublist _).subset hx))
def qDU (l:List Nat):Prop:=okL l∧l.getLast?≠some 0
theorem qMD {l:List Nat} (h:okL l):qDU (zS l):=by
 refine ⟨qCD h, ?_⟩
 refine qIE (p:=fun l=>(zS l).getLast?≠some 0) (by simp [zS]) (fun l x ih => ?_) l
 rw [jV]
 split
 ·exact ih
 rename_i h; simp; exact h
theorem uG {l:List Nat} (h:okL l):qJ l<qF ^ l.length:=by
 induction l with
 | nil=>simp [qJ]
 | cons a l ih =>
  have h1:=h a (by simp)
  have h2:=ih fun x hx=>h x (by simp [hx])
  simp only [qJ,List.length_cons,Nat.pow_succ]
  have:qF * (qJ l+1)≤qF * qF ^ l.length:=Nat.mul_le_mul_left _ h2
  rw [Nat.mul_comm (qF ^ l.length)]
  rw [Nat.mul_add] at this; omega
theorem qSF {l:List Nat} (h:l≠[]) (hc:l.getLast?≠some 0):qF ^ (l.length-1)≤qJ l:=by
 have hs:l=l.dropLast++[l.getLast h]:=(List.dropLast_concat_getLast h).symm
 have hx:l.getLast h≠0:=fun e=>hc (by rw [← e]; exact List.getLast?_eq_some_getLast h)
 have hv:qJ l=qJ l.dropLast+qF ^ l.dropLast.length * l.getLast h:=by
  conv=>lhs; rw [hs]
  exact wX _ _
 rw [hv,List.length_dropLast]
 have:qF ^ (l.length-1) * 1≤qF ^ (l.length-1) * l.getLast h:=Nat.mul_le_mul_left _ (by omega)
 omega
theorem qFB {l m:List Nat} (hl:qDU l) (hm:qDU m) (h:l.length<m.length):qJ l<qJ m:=by
 have h1:=uG hl.1
 have h2:=qSF (l:=m) (by rintro rfl; simp at h) hm.2
 have h3:qF ^ l.length≤qF ^ (m.length-1):=Nat.pow_le_pow_right (by decide) (by omega)
 omega
def xE (l m:List Nat):Nat→Int
 | 0=>0
 | i+1=>if l.getD i 0=m.getD i 0 then xE l m i else if l.getD i 0<m.getD i 0 then -1 else 1
def xH (l m:List Nat):Int:=if l.length≠m.length then (l.length:Int)-m.length else xE l m l.length
theorem qAL {l:List Nat} {i:Nat} (h:i<l.length):l.take (i+1)=l.take i++[l.getD i 0]:=by
 rw [List.take_succ_eq_append_getElem h]; simp [List.getD_eq_getElem?_getD,h]
theorem qDD {l m : List Nat} (hl : okL l) (hm : okL m) (hlen : l.length = m.length) : ∀ i, i ≤ l.length →
  xE l m i=if qJ (l.take i)<qJ (m.take i) then -1 else if qJ (l.take i)=qJ (m.take i) then 0 else 1
 | 0,_=>by simp [xE,qJ]
 | i+1,hi=>by
  have h1:=uG (l:=l.take i) fun x hx=>hl x (List.mem_of_mem_take hx)
  have h2:=uG (l:=m.take i) fun x hx=>hm x (List.mem_of_mem_take hx)
  have e1:(l.take i).length=i:=by simp; omega
  have e2:(m.take i).length=i:=by simp; omega
  rw [e1] at h1
  rw [e2] at h2
  rw [qAL (by omega),qAL (by omega),wX,wX,e1,e2]
  simp only [xE]
  by_cases h:l.getD i 0=m.getD i 0
  ·rw [if_pos h,qDD hl hm hlen i (by omega),h]
   have a1:(qJ (l.take i)+qF ^ i * m.getD i 0<qJ (m.take i)+qF ^ i * m.getD i 0)=(qJ (l.take i)<qJ (m.take i)):=propext (by omega)
   have a2:(qJ (l.take i)+qF ^ i * m.getD i 0=qJ (m.take i)+qF ^ i * m.getD i 0)=(qJ (l.take i)=qJ (m.take i)):=propext (by omega)
   simp only [a1,a2]
  rw [if_neg h]
  by_cases h3:l.getD i 0<m.getD i 0
  ·rw [if_pos h3]
   have:=Nat.mul_le_mul_left (qF ^ i) (show l.getD i 0+1≤m.getD i 0 by omega)
   rw [Nat.mul_add,Nat.mul_one] at this
   rw [if_pos (by omega)]
  rw [if_neg h3]
  have:=Nat.mul_le_mul_left (qF ^ i) (show m.getD i 0+1≤l.getD i 0 by omega)
  rw [Nat.mul_add,Nat.mul_one] at this
  rw [if_neg (by omega),if_neg (by omega)]
def sgn (n:Int):Int:=if n<0 then -1 else if n=0 then 0 else 1
theorem qKM {l m:List Nat} (hl:qDU l) (hm:qDU m):sgn (xH l m)=sgn ((qJ l:Int)-qJ m):=by
 unfold xH
 by_cases h:l.length=m.length
 ·rw [if_neg (by omega),qDD hl.1 hm.1 h l.length (Nat.le_refl _),List.take_length,h,List.take_length]
  unfold sgn
  split
  ·rw [if_pos (by omega),if_pos (by omega)]
  split
  ·rw [if_neg (by omega),if_pos rfl,if_neg (by omega),if_pos (by omega)]
  rw [if_neg (by omega),if_neg (by omega),if_neg (by omega),if_neg (by omega)]
 rw [if_pos h]
 unfold sgn
 rcases Nat.lt_or_gt_of_ne h with h1 | h1
 ·have:=qFB hl hm h1
  rw [if_pos (by omega),if_pos (by omega)]
 have:=qFB hm hl h1
 rw [if_neg (by omega),if_neg (by omega),if_neg (by omega),if_neg (by omega)]
def jT (s:List UInt8):List Nat:=zS (jI s s.length)
theorem qKK {s:List UInt8} (h:s.all zA=true):qDU (jT s):=qMD (qKU h _ _ (Nat.le_refl _))
theorem qKI {s:List UInt8} (h:s.all zA=true):qJ (jT s)=zH s:=by
 unfold jT; rw [qAJ,qHJ h _ _ (Nat.le_refl _) (Nat.le_refl _),List.take_length]
theorem qHK (s:List UInt8):∀ (f e:Nat),e≤f→(jI s e).length≤e
 | 0,e,he=>by rw [show e=0 by omega,yQ]; simp
 | f+1,e,he=>by
  by_cases hp:0<e
  ·rw [uZ hp]; have:=qHK s f (e-9) (by omega); simp; omega
  rw [show e=0 by omega,yQ]; simp
theorem qKJ (s:List UInt8):(jT s).length≤s.length:=by
 have h1:(jT s).length≤(jI s s.length).length:=by
  unfold jT zS; rw [List.length_reverse]; have:=(List.dropWhile_sublist (fun x:Nat=>x == 0) (l:=(jI s s.length).reverse)).length_le; simpa using this
 have:=qHK s _ s.length (Nat.le_refl _); omega
@[simp] def zF (n:Nat):PD := .int .u64 n
theorem qIA (l:List Nat):AFn Tryz.prog G 208 [.sl 1 (l.map zF)] (.sl 1 ((zS l).map zF)):=by
 refine AFn.introU tok Tryz.func208 (by kernel_rfl) rfl rfl ?_
 simp only [Tryz.f208,qN,List.map_cons,List.map_nil]
 refine rgn [] [[0]] ?_
 refine op1 tok ?_
 refine qA (AW.seq (AW.block ?_))
 refine AW.loop (α:=List Nat) (fun r=>zS r=zS l) (fun r=>⟨qV 21 [(0,.p (.sl 1 (r.map zF)))],[],[],0⟩) (fun r=>r.length) (l) rfl ⟨qD (by simp),rfl,by simp,by simp⟩ ?_
 rintro r hr
 refine AW.slFactU (i:=0) rfl (by decide) ?_
 intro hlen
 simp at hlen
 have hlast:0<r.length→r[r.length-1]?=some (r.getD (r.length-1) 0):=fun h=>by simp [List.getD_eq_getElem?_getD,show r.length-1<r.length by omega]
 refine AW.seq (rgn [.int .u64 (r.getD (r.length-1) 0:Nat)] [[],[],[],[],[],[],[0,6,7,9],[],[],[0,6,12],[],[0,14]] ?_)
 iterate 4 refine op1 tok ?_ (hv:=by first | with_reducible exact True.intro | ((intro h; refine ⟨h,by omega,_,hlast h, ?_⟩; simp); done) | omega | simp | (simp +contextual; omega))
 iterate 7 refine op2 tok ?_ (hv:=by first | with_reducible exact True.intro | ((intro h; refine ⟨h,by omega,_,hlast h, ?_⟩; simp); done) | omega | simp | (simp +contextual; omega))
 refine op1 tok ?_ (hv:=by first | with_reducible exact True.intro | ((intro h; refine ⟨h,by omega,_,hlast h, ?_⟩; simp); done) | omega | simp | (simp +contextual; omega))
 refine qA (cnd ?_ ?_)
 ·intro h14
  try simp at h14
  obtain ⟨s,x,rfl⟩:∃ s x,r=s++[x]:=⟨r.dropLast,r.getLast (by rintro rfl; simp at h14),(List.dropLast_concat_getLast _).symm⟩
  simp at h14
  subst h14
  have hr':zS s=zS l:=by rw [← hr,jV]; simp
  have hsl:(s.length:Int)≤9223372036854775807:=by simp at hlen; omega
  refine AW.skip (AW.block (rgz [] [[],[],[],[],[19],[0]] ?_))
  iterate 6 refine op1 tok ?_
  refine qA ?_
  exact ⟨s,hr',by simp,qD (by simp),rfl,by simp,by simp⟩
 intro h14
 try simp at h14
 have hN:zS r=r:=by
  refine qIE (p:=fun r=>(0<r.length→¬ r.getD (r.length-1) 0=0)→zS r=r) (fun _=>rfl) (fun s x _ h => ?_) r (fun h=>by have:=h14 h; simpa using this)
  have:=h (by simp)
  rw [jV,if_neg (by simpa using this)]
 rw [← hr,hN]
 refine AW.exit ?_
 simp
 refine rgn [] [[],[2]] ?_
 iterate 2 refine op1 tok ?_
 exact qA (AW.ret qI)
theorem wQ {x:Int} (h0:0≤x) (h1:x<18446744073709551616):IntKind.u64.wrap x=x:=by simp [IntKind.wrap,IntKind.bits,IntKind.signed]; omega
theorem qNV {x:Int} (h0:0≤x) (h1:x<256):IntKind.u8.wrap x=x:=by simp [IntKind.wrap,IntKind.bits,IntKind.signed]; omega
theorem qRY (s:List UInt8) (hs:s.all zA=true) (hl:s.length≤1000000):AFn Tryz.prog G 203 [.str s] (.sl 1 ((jT s).map zF)):=by
 refine AFn.introU tok Tryz.func203 (by kernel_rfl) rfl rfl ?_
 simp only [Tryz.f203,qN,List.map_cons,List.map_nil]
 refine rgn [] [[0]] ?_
 refine op1 tok ?_
 refine qA (rgn [] [[]] ?_)
 refine op1 tok ?_
 refine qA (AW.seq (rgn [] [[],[],[0,3,4]] ?_))
 iterate 3 refine op1 tok ?_
 refine qA (AW.block ?_)
 refine AW.beginE 3 36 24 1 (by simp) (by simp) (by conv=>lhs; simp) ?_
 refine AW.loop (α:=Int × List Nat) (fun a=>a.1≤s.length ∧ -9<a.1∧a.2.length≤s.length-a.1.toNat∧a.2++jI s a.1.toNat=jI s s.length) (fun a=>⟨qV 39 [(0,.p (.str s)),(3,.ms 36),(4,.p (.int .i64 a.1))],[],[(36,.row 24 1 (a.2.map zF))],0⟩) (fun a=>a.1.toNat) (((s.length:Int),[])) ⟨by simp,by simp only []; omega,by simp,by simp⟩ ⟨qD (by simp),rfl,by simp,by simp⟩ ?_
 rintro ⟨e,acc⟩ ⟨h1,h2,hal,h3⟩
 simp only at h1 h2 h3 hal
 refine AW.seq (rgn [] [[],[0,3,4,11]] ?_)
 iterate 2 refine op1 tok ?_
 refine qA (cnd ?_ ?_)
 ·intro h11
  try simp at h11
  obtain ⟨n,rfl⟩:∃ n:Nat,e=n:=⟨e.toNat,by omega⟩
  obtain ⟨c,hc⟩:∃ c,c=(s.take n).drop (n-9):=⟨_,rfl⟩
  have hcd:c.all zA=true:=by rw [hc]; exact qLT (qFQ hs n) _
  have hcl:c.length≤9:=by rw [hc]; simp; omega
  have hvc:zH c=vG s n:=by rw [hc]; rfl
  have hmx:(if 9<(n:Int) then (n:Int)-9 else 0).toNat=n-9:=by split <;> omega
  refine AW.skip (AW.seq (AW.block (rgn [] [[]] ?_)))
  refine op1 tok ?_
  refine qA (AW.seq (rgn [] [[],[],[],[],[],[0,3,4,5,19],[],[],[0,3,4,5,20,21,22]] ?_))
  iterate 9 refine op1 tok ?_
  refine qA (AW.block ?_)
  refine AW.loop (α:=Nat) (fun k=>k≤c.length) (fun k=>⟨qV 39 [(0,.p (.str s)),(3,.ms 36),(4,.p (.int .i64 n)),(5,.p (.int .u64 (zH (c.take k):Nat))),(20,.p (.sl 1 (qY c))),(21,.p (.int .i64 c.length)),(22,.p (.int .i64 k))],[],[(36,.row 24 1 (acc.map zF))],0⟩) (fun k=>c.length-k) (0) (by omega) ⟨qD (by simp [hmx,hc,zH]),rfl,by simp,by simp⟩ ?_
  rintro k hk
  have hck:=jU (qFQ hcd k)
  have hck2:(c.take k).length≤8→zH (c.take k)<100000000:=fun h=>Nat.lt_of_lt_of_le hck (Nat.pow_le_pow_right (n:=10) (by omega) h)
  have hix:∀ k:Nat,k<c.length→c[k]?=some (c.getD k 0):=fun k h=>yR h
  refine rgn [] [[]] ?_
  refine op1 tok ?_
  refine qA (AW.seq (cnd ?_ ?_))
  ·intro h23
   try simp at h23
   have hdk:=(wK _).1 (List.all_eq_true.1 hcd _ (List.mem_of_getElem? (hix k h23)))
   have hv8:zH (c.take k)<100000000:=hck2 (by simp; omega)
   have hsn:zH (c.take (k+1))=zH (c.take k) * 10+((c.getD k 0).toNat-48):=by rw [List.take_add_one,hix k h23]; exact qGL _ _
   have hbk:qO c k=((c.getD k 0).toNat:Int):=rfl
   have hw1:IntKind.u8.wrap (qO c k-48)=qO c k-48:=qNV (by omega) (by omega)
   have hw2:IntKind.u64.wrap ((zH (c.take k):Int) * 10)=(zH (c.take k):Int) * 10:=wQ (by omega) (by omega)
   have hw3:IntKind.u64.wrap ((zH (c.take k):Int) * 10+(qO c k-48))=(zH (c.take (k+1)):Int):=by rw [wQ (by omega) (by omega),hsn]; omega
   refine AW.skip (AW.seq (AW.block (rgn [.int .u8 (qO c k)] [[],[],[0,3,4,5,7,20,21,22]] ?_)))
   iterate 3 refine op1 tok ?_ (hv:=by first | with_reducible exact True.intro | (first | exact jP (hix k h23) | simp; done) | omega | simp | (simp +contextual; omega))
   refine qA (rgz [] [[],[],[],[0,3,4,20,21,22,27,29],[],[],[0,3,4,5,20,21,22]] ?_)
   iterate 7 refine op1 tok ?_
   refine qA (rgz [] [[],[0,3,4,5,20,21,22]] ?_)
   iterate 2 refine op1 tok ?_
   refine qA ?_
   exact ⟨k+1,by omega,by omega,qD (by simp [hw1,hw2,hw3]),rfl,by simp [hw1,hw2,hw3],by simp [hw1,hw2,hw3]⟩
  intro h23
  try simp at h23
  have hkc:k=c.length:=by omega
  subst hkc
  simp only [List.take_length,hvc]
  have hlz:=uZ (s:=s) (e:=n) (by omega)
  have h3':acc++[vG s n]++jI s ((n:Int)-9).toNat=jI s s.length:=by
   rw [← h3,show ((n:Int)).toNat=n by omega,hlz,show ((n:Int)-9).toNat=n-9 by omega]; simp
  refine AW.exit ?_
  simp
  refine rgz [.int .u64 (vG s n:Nat)] [[],[],[],[0,4,36],[0,3,4]] ?_
  iterate 5 refine op1 tok ?_ (hv:=by first | with_reducible exact True.intro | ((simp; omega); done) | omega | simp | (simp +contextual; omega))
  refine qA (rgz [] [[],[],[0,3,4]] ?_)
  iterate 3 refine op1 tok ?_
  refine qA ?_
  exact ⟨(n:Int)-9,acc++[vG s n],⟨by omega,by omega,by simp; omega,h3'⟩,by omega,qD (by simp),rfl,by simp,by simp⟩
 intro h11
 try simp at h11
 have hacc:acc=jI s s.length:=by rw [← h3,show e.toNat=0 by omega,yQ]; simp
 subst hacc
 refine AW.exit ?_
 simp
 refine rgn [.nilp,.sl 1 ((jT s).map zF)] [[],[],[2]] ?_
 iterate 3 refine op1 tok ?_ (hv:=by first | with_reducible exact True.intro | (exact qIA _; done) | omega | simp | (simp +contextual; omega))
 exact qA (AW.ret qI)
theorem qPW (l m:List Nat) (h1:l.length≤1000000) (h2:m.length≤1000000):AFn Tryz.prog G 164 [.sl 1 (l.map zF),.sl 1 (m.map zF)] (.int .i64 (xH l m)):=by
 refine AFn.introU tok Tryz.func164 (by kernel_rfl) rfl rfl ?_
 simp only [Tryz.f164,qN,List.map_cons,List.map_nil]
 have hixl:∀ k:Nat,k<l.length→l[k]?=some (l.getD k 0):=fun k h=>by simp [List.getD_eq_getElem?_getD,h]
 have hixm:∀ k:Nat,k<m.length→m[k]?=some (m.getD k 0):=fun k h=>by simp [List.getD_eq_getElem?_getD,h]
 refine rgn [] [[0,1]] ?_
 refine op1 tok ?_
 refine qA (AW.seq (rgn [] [[],[],[],[],[0,1,10]] ?_))
 iterate 5 refine op1 tok ?_
 refine qA (cnd ?_ ?_)
 ·intro h10
  try simp at h10
  have hN:xH l m=(l.length:Int)-m.length:=by simp only [xH]; rw [if_pos (by omega)]
  refine rgn [] [[],[],[],[12,14],[],[4]] ?_
  iterate 6 refine op1 tok ?_
  refine qA ?_
  exact AW.ret (qI (k:=by simp [hN]))
 intro h10
 try simp at h10
 have hlen:l.length=m.length:=by omega
 have hN:xH l m=xE l m l.length:=by simp only [xH]; rw [if_neg (by omega)]
 rw [hN]
 refine AW.skip (AW.seq (rgn [] [[],[],[],[0,1,5]] ?_))
 iterate 4 refine op1 tok ?_
 refine qA (AW.block ?_)
 refine AW.loop (α:=Nat) (fun k=>k≤l.length∧xE l m l.length=xE l m k) (fun k=>⟨qV 41 [(0,.p (.sl 1 (l.map zF))),(1,.p (.sl 1 (m.map zF))),(5,.p (.int .i64 (k-1)))],[],[],0⟩) (fun k=>k) (l.length) ⟨Nat.le_refl _,rfl⟩ ⟨qD (by simp),rfl,by simp,by simp⟩ ?_
 rintro k ⟨hk,ht⟩
 refine AW.seq (rgn [] [[],[0,1,5,20]] ?_)
 iterate 2 refine op1 tok ?_
 refine qA (cnd ?_ ?_)
 ·intro h20
  try simp at h20
  obtain ⟨k,rfl⟩:∃ j,k=j+1:=⟨k-1,by omega⟩
  have hkl:k<l.length:=by omega
  have hkm:k<m.length:=by omega
  have hgl:=hixl k hkl
  have hgm:=hixm k hkm
  have hti:((k+1:Nat):Int)-1=k:=by omega
  simp only [hti]
  generalize hx:l.getD k 0=x at *
  generalize hy:m.getD k 0=y at *
  simp only [xE,hx,hy] at ht
  rw [ht]
  refine AW.skip (AW.seq (AW.block ?_))
  refine AW.seqRunDrawK tok mixed [0,1,5,31] 9 [[0],[5],[23,24],[25],[1],[5],[27,28],[29],[26,30]] [.int .u64 x,.int .u64 y] [] (by kernel_rfl) (by intro C; conv=>lhs; simp) (by simp [hgl,hgm]) (by simp [Sm.sum,Sm.foot,Sm.tch,Sm.refs]; kernel_rfl) (by intro C; conv=>lhs; simp) (by first | with_reducible exact True.intro | omega | simp | (simp +contextual; omega)) ?_
  refine cnd ?_ ?_
  ·intro h31
   try simp at h31
   rw [if_neg (by omega)]
   refine AW.seq ?_
   refine AW.seqRunDrawK tok mixed [40] 9 [[0],[5],[32,33],[34],[1],[5],[36,37],[38],[35,39]] [.int .u64 x,.int .u64 y] [] (by kernel_rfl) (by intro C; conv=>lhs; simp) (by simp [hgl,hgm]) (by simp [Sm.sum,Sm.foot,Sm.tch,Sm.refs]; kernel_rfl) (by intro C; conv=>lhs; simp) (by first | with_reducible exact True.intro | omega | simp | (simp +contextual; omega)) ?_
   refine cnd ?_ ?_
   ·intro h40
    try simp at h40
    rw [if_pos (by omega)]
    refine rgn [] [[]] ?_
    refine op1 tok ?_
    exact qA (AW.ret qI)
   intro h40
   try simp at h40
   rw [if_neg (by omega)]
   refine AW.skip (rgn [] [[]] ?_)
   refine op1 tok ?_
   exact qA (AW.ret qI)
  intro h31
  try simp at h31
  refine AW.skip (rgz [] [[],[],[0,1,5]] ?_)
  iterate 3 refine op1 tok ?_
  refine qA ?_
  exact ⟨k,⟨by omega,by rw [if_pos (by omega)]⟩,by omega,qD (by simp),rfl,by simp,by simp⟩
 intro h20
 try simp at h20
 have hk0:k=0:=by omega
 subst hk0
 rw [ht]
 simp only [xE]
 refine AW.exit ?_
 simp
 refine rgn [] [[]] ?_
 refine op1 tok ?_
 exact qA (AW.ret qI)
def jG (d:Dc) (sc:Int):List UInt8:=d.digits++List.replicate (sc-d.scale).toNat 48
theorem qLU (d:Dc) (sc:Int) (h1:d.digits.length≤1000) (h2:0≤d.scale) (h3:d.scale≤sc) (h4:sc≤1000) (hd:d.digits.all zA=true):AFn Tryz.prog G 202 [d.enc,.ref [.int .i64 sc]] (.sl 1 ((jT (jG d sc)).map zF)):=by
 refine AFn.introU tok Tryz.func202 (by kernel_rfl) rfl rfl ?_
 simp only [Tryz.f202,qN,List.map_cons,List.map_nil]
 have hre:=qQX (G:=G) [48] (sc-d.scale).toNat (by simp; omega)
 rw [qPD,show (((sc-d.scale).toNat:Nat):Int)=sc-d.scale by omega] at hre
 have hna:=qRY (G:=G) (jG d sc) (qBW hd _) (by simp [jG]; omega)
 unfold jG at hna
 unfold jG
 refine rgn [] [[],[1,2]] ?_
 iterate 2 refine op1 tok ?_
 refine qA ?_
 refine AW.seqRunDrawK tok mixed [3] 9 [[2],[4],[1],[2],[7],[6,8],[9],[5,10],[11]] [.nilp,.str (List.replicate (sc-d.scale).toNat 48),.nilp,.sl 1 ((jT (d.digits++List.replicate (sc-d.scale).toNat 48)).map zF)] [] (by kernel_rfl) (by intro C; conv=>lhs; simp) (by ((repeat' (first | with_reducible apply And.intro | intro _)) <;> first | exact (hre) | exact (hna) | assumption | omega | contradiction | simp_all)) (by simp [Sm.sum,Sm.foot,Sm.tch,Sm.refs]; kernel_rfl) (by intro C; conv=>lhs; simp) (by first | with_reducible exact True.intro | omega | simp | (simp +contextual; omega)) ?_
 exact AW.ret qI
def wG (a b:Dc):Int:=if a.scale<b.scale then b.scale else a.scale
def okD (d:Dc):Prop:=d.digits.length≤1000∧0≤d.scale∧d.scale≤1000∧d.digits.all zA=true
theorem qNS (a b:Dc) (ha:okD a) (hb:okD b):AFn Tryz.prog G 163 [a.enc,b.enc] (.tup [.sl 1 ((jT (jG a (wG a b))).map zF),.sl 1 ((jT (jG b (wG a b))).map zF),.int .i64 (wG a b)]):=by
 refine AFn.introU tok Tryz.func163 (by kernel_rfl) rfl rfl ?_
 simp only [Tryz.f163,qN,List.map_cons,List.map_nil]
 obtain ⟨a1,a2,a3,a4⟩:=ha
 obtain ⟨b1,b2,b3,b4⟩:=hb
 have hm1:a.scale≤wG a b:=by unfold wG; split <;> omega
 have hm2:b.scale≤wG a b:=by unfold wG; split <;> omega
 have hm3:wG a b≤1000:=by unfold wG; split <;> omega
 have e1:=qLU (G:=G) a (wG a b) a1 a2 hm1 hm3 a4
 have e2:=qLU (G:=G) b (wG a b) b1 b2 hm2 hm3 b4
 have hmx:(if a.scale<b.scale then b.scale else a.scale)=wG a b:=rfl
 refine rgn [] [[],[],[],[2,3],[2,3]] ?_
 iterate 5 refine op1 tok ?_
 refine qA (rgn [] [[],[],[],[],[2,3,13],[],[2,3,7]] ?_)
 iterate 7 refine op1 tok ?_
 refine qA (rgn [] [[],[2,3,7,8]] ?_)
 iterate 2 refine op1 tok ?_
 refine qA ?_
 refine AW.freezeV 7 (by conv=>lhs; simp [hmx]) ?_
 refine AW.seqRunDrawK tok mixed [4,5,6] 9 [[8],[2],[15,16],[8],[3],[18,19],[7],[17],[20]] [.nilp,.sl 1 ((jT (jG a (wG a b))).map zF),.nilp,.sl 1 ((jT (jG b (wG a b))).map zF)] [] (by kernel_rfl) (by intro C; conv=>lhs; simp) (by ((repeat' (first | with_reducible apply And.intro | intro _)) <;> first | exact (e1) | exact (e2) | assumption | omega | contradiction | simp_all)) (by simp [Sm.sum,Sm.foot,Sm.tch,Sm.refs]; kernel_rfl) (by intro C; conv=>lhs; simp) (by first | with_reducible exact True.intro | omega | simp | (simp +contextual; omega)) ?_
 exact AW.ret qI
theorem qLL {d:Dc} (h:yX d=true):okD d∧d.digits.length≤60∧d.scale≤60:=by
 unfold yX at h
 simp only [Bool.and_eq_true,decide_eq_true_eq] at h
 obtain ⟨⟨h1,h2⟩,_⟩:=h
 exact ⟨⟨by omega,by omega,by omega,h1⟩,by omega,by omega⟩
theorem qEF {s:List UInt8} (hd:s.all zA=true) (hl:0<s.length) (h:qO s 0≠48):10 ^ (s.length-1)≤zH s:=by
 cases s with
 | nil=>simp at hl
 | cons b s =>
  simp only [List.all_cons,Bool.and_eq_true] at hd
  have h1:=(wK b).1 hd.1
  have h2:b.toNat≠48:=by simp [qO] at h; omega
  rw [yT]
  have:=Nat.mul_le_mul_right (10 ^ s.length) (show 1≤b.toNat-48 by omega)
  simp; omega
def kE (s:List UInt8) (i:Nat):Nat→Nat→Int→Option Int
 | 0,_,v=>some v
 | r+1,j,v=>match s[i+j]? with
  | none=>none
  | some c=>if (c.toNat:Int)<128∨192≤(c.toNat:Int) then none else kE s i r (j+1) (64 * v+c.toNat-128)
def wR (c:Int):Nat × Int × Int :=
 if 194≤c∧c<224 then (2,128,c-192) else if 224≤c∧c<240 then (3,2048,c-224) else if 240≤c∧c<245 then (4,65536,c-240) else (0,0,0)
def qEO (low:Int) (need:Nat):Option Int→Int × Int
 | none=>(0,0)
 | some v=>if v<low∨v > 1114111∨(55296≤v∧v<57344) then (0,0) else (v,need)
def wT (s:List UInt8) (i:Nat) (x:Nat × Int × Int):Int × Int:=if x.1=0∨s.length<i+x.1 then (0,0) else qEO x.2.1 x.1 (kE s i (x.1-1) 1 x.2.2)
def zX (s:List UInt8) (i:Nat):Int × Int:=match s[i]? with
 | none=>(0,0)
 | some b=>if (b.toNat:Int)<128 then (b.toNat,1) else wT s i (wR b.toNat)
def rS (s:List UInt8) (i:Nat) (x:Nat × Int × Int):St:=⟨[.p (.str s),.p (.int .i64 i),.dead,.dead,.p (.int .i64 0),.p (.int .i64 0),.dead,.p (.int .i64 x.1),.p (.int .i64 x.2.1),.p (.int .i64 x.2.2)]++List.replicate 86 .dead,[],[],0⟩
def rS2 (s:List UInt8) (i:Nat) (need:Nat) (low:Int) (a:Nat × Int):St:=⟨[.p (.str s),.p (.int .i64 i),.dead,.dead,.p (.int .i64 0),.p (.int .i64 0),.dead,.p (.int .i64 need),.p (.int .i64 low),.p (.int .i64 a.2),.p (.int .i64 a.1)]++List.replicate 85 .dead,[],[],0⟩
theorem qVI (s:List UInt8) (i:Nat) (hi:i<s.length) (hs:s.length≤1000000000):AFn Tryz.prog G 92 [.str s,.int .i64 i] (.tup [.int .i64 (zX s i).1,.int .i64 (zX s i).2]):=by
 refine AFn.intro tok Tryz.func92 (by kernel_rfl) rfl ?_
 simp only [Tryz.f92,St.start]
 obtain ⟨b,hb⟩:∃ b,s[i]?=some b:=⟨s[i],by simp [hi]⟩
 have hblt:b.toNat<256:=b.toNat_lt
 have hrune:zX s i=if (b.toNat:Int)<128 then ((b.toNat:Int),1) else wT s i (wR b.toNat):=by simp only [zX,hb]
 refine AW.seqRun tok [] (by intro C; conv=>lhs; simp) trivial ?_
 refine AW.seqRun tok [.int .u8 b.toNat] (by intro C; conv=>lhs; simp) (by simp [hb]) ?_
 refine AW.seqRun tok [] (by intro C; conv=>lhs; simp) trivial ?_
 refine AW.seqRun tok [] (by intro C; conv=>lhs; simp) trivial ?_
 refine AW.seqRun tok [] (by intro C; conv=>lhs; simp) trivial ?_
 refine AW.join (α:=Nat × Int × Int) (fun x=>zX s i=wT s i x∧x.1≤4∧0≤x.2.2∧x.2.2≤40) (fun x=>rS s i x) ?_ ?_
 ·refine AW.block ?_
  refine AW.seqRun tok [] (by intro C; conv=>lhs; simp) trivial ?_
  refine AW.cond (c := .tmp 16) (by conv=>lhs; simp) trivial ?_ ?_
  ·intro h1
   simp at h1
   refine AW.seqRun tok [] (by intro C; conv=>lhs; simp) trivial ?_
   exact AW.ret ⟨.inr rfl,_,_,by (conv=>lhs; simp),trivial,by rw [hrune,if_pos h1]; simp⟩
  intro h1
  simp at h1
  have hr2:zX s i=wT s i (wR b.toNat):=by rw [hrune,if_neg (by omega)]
  refine AW.seqRun tok [] (by intro C; conv=>lhs; simp) (by simp) ?_
  refine AW.cond (c := .tmp 20) (by conv=>lhs; simp) trivial ?_ ?_
  ·intro h2
   simp at h2
   refine AW.seqRun tok [] (by intro C; conv=>lhs; simp) trivial ?_
   refine AW.seqRun tok [] (by intro C; conv=>lhs; simp) trivial ?_
   refine AW.run tok [] (by intro C; conv=>lhs; simp) (by omega) ?_
   exact ⟨(2,128,b.toNat-192),⟨by rw [hr2]; simp [wR,h2],by simp,by simp; omega,by simp; omega⟩,by simp [rS],rfl,by simp [rS],by simp [rS]⟩
  intro h2
  refine AW.seqRun tok [] (by intro C; conv=>lhs; simp) (by simp) ?_
  refine AW.cond (c := .tmp 29) (by conv=>lhs; simp) trivial ?_ ?_
  ·intro h3
   simp at h3
   refine AW.seqRun tok [] (by intro C; conv=>lhs; simp) trivial ?_
   refine AW.seqRun tok [] (by intro C; conv=>lhs; simp) trivial ?_
   refine AW.run tok [] (by intro C; conv=>lhs; simp) (by omega) ?_
   exact ⟨(3,2048,b.toNat-224),⟨by rw [hr2]; simp [wR,h3,show ¬ ((b.toNat:Int)<224) by omega],by simp,by simp; omega,by simp; omega⟩,by simp [rS],rfl,by simp [rS],by simp [rS]⟩
  intro h3
  refine AW.seqRun tok [] (by intro C; conv=>lhs; simp) (by simp) ?_
  refine AW.cond (c := .tmp 38) (by conv=>lhs; simp) trivial ?_ ?_
  ·intro h4
   simp at h4
   refine AW.seqRun tok [] (by intro C; conv=>lhs; simp) trivial ?_
   refine AW.seqRun tok [] (by intro C; conv=>lhs; simp) trivial ?_
   refine AW.run tok [] (by intro C; conv=>lhs; simp) (by omega) ?_
   exact ⟨(4,65536,b.toNat-240),⟨by rw [hr2]; simp [wR,h4,show ¬ ((b.toNat:Int)<224) by omega,show ¬ ((b.toNat:Int)<240) by omega],by simp,by simp; omega,by simp; omega⟩,by simp [rS],rfl,by simp [rS],by simp [rS]⟩
  intro h4
  simp at h2 h3 h4
  refine AW.skip ?_
  exact ⟨(0,0,0),⟨by rw [hr2]; simp [wR,show ¬ (194≤(b.toNat:Int)∧(b.toNat:Int)<224) by omega,show ¬ (224≤(b.toNat:Int)∧(b.toNat:Int)<240) by omega,show ¬ (240≤(b.toNat:Int)∧(b.toNat:Int)<245) by omega],
   by simp,by simp,by simp⟩,by simp [rS],rfl,by simp [rS],by simp [rS]⟩
 rintro ⟨need,low,v0⟩ ⟨hr,hneed,hv0,hv1⟩
 simp only at hneed hv0 hv1
 simp only [rS]
 rw [hr]
 refine AW.seq ?_
 refine AW.seqRun tok [] (by intro C; conv=>lhs; simp) (by simp +contextual; omega) ?_
 refine AW.cond (c := .tmp 56) (by conv=>lhs; simp) trivial ?_ ?_
 ·intro h1
  simp at h1
  refine AW.seqRun tok [] (by intro C; conv=>lhs; simp) trivial ?_
  exact AW.ret ⟨.inr rfl,_,_,by (conv=>lhs; simp),trivial,by simp [wT,show need=0∨s.length<i+need by omega]⟩
 intro h1
 simp at h1
 have hfit:¬ (need=0∨s.length<i+need):=by omega
 have htl:wT s i (need,low,v0)=qEO low need (kE s i (need-1) 1 v0):=by simp only [wT]; rw [if_neg hfit]
 rw [htl]
 refine AW.skip (AW.seq ?_)
 refine AW.seqRun tok [] (by intro C; conv=>lhs; simp) trivial ?_
 refine AW.block ?_
 refine AW.loop (α:=Nat × Int) (fun a=>1≤a.1∧a.1≤need∧kE s i (need-1) 1 v0=kE s i (need-a.1) a.1 a.2∧0≤a.2∧(a.1=1→a.2≤40)∧(a.1=2→a.2≤3000)∧(a.1=3→a.2≤200000)∧(a.1=4→a.2≤14000000))
  (fun a=>rS2 s i need low a) (fun a=>need-a.1) (1,v0) ⟨by simp,by omega,rfl,hv0,fun _=>hv1,by simp,by simp,by simp⟩ ⟨by simp [rS2],rfl,by simp [rS2],by simp [rS2]⟩ ?_
 rintro ⟨j,v⟩ ⟨hj1,hj2,hlp,hv,hb1,hb2,hb3,hb4⟩
 simp only at hj1 hj2 hlp hv hb1 hb2 hb3 hb4
 simp only [rS2]
 refine AW.seq ?_
 refine AW.seqRun tok [] (by intro C; conv=>lhs; simp) trivial ?_
 refine AW.cond (c := .tmp 59) (by conv=>lhs; simp) trivial ?_ ?_
 ·intro h4
  simp at h4
  obtain ⟨c,hc⟩:∃ c,s[i+j]?=some c:=⟨s[i+j]'(by omega),by simp [show i+j<s.length by omega]⟩
  have hclt:c.toNat<256:=c.toNat_lt
  have hstep:kE s i (need-j) j v=if (c.toNat:Int)<128∨192≤(c.toNat:Int) then none else kE s i (need-(j+1)) (j+1) (64 * v+c.toNat-128):=by
   rw [show need-j=(need-(j+1))+1 by omega]; simp only [kE,hc]
  refine AW.skip (AW.seq (AW.block ?_))
  refine AW.seqRun tok [.int .u8 c.toNat] (by intro C; conv=>lhs; simp) (by rw [show ((i:Int)+j).toNat=i+j by omega]; simp [hc]; omega) ?_
  refine AW.seq ?_
  refine AW.seqRun tok [] (by intro C; conv=>lhs; simp) (by simp) ?_
  refine AW.cond (c := .tmp 73) (by conv=>lhs; simp) trivial ?_ ?_
  ·intro h5
   simp at h5
   refine AW.seqRun tok [] (by intro C; conv=>lhs; simp) trivial ?_
   exact AW.ret ⟨.inr rfl,_,_,by (conv=>lhs; simp),trivial,by rw [hlp,hstep,if_pos (by omega)]; simp [qEO]⟩
  intro h5
  simp at h5
  refine AW.skip ?_
  refine AW.run tok [] (by intro C; conv=>lhs; simp) (by omega) ?_
  refine AW.run tok [] (by intro C; conv=>lhs; simp) (by omega) ?_
  exact ⟨(j+1,64 * v+c.toNat-128),⟨by simp,by simp; omega,by rw [hlp,hstep,if_neg (by omega)],by simp; omega,by simp; omega,by simp; omega,by simp; omega,by simp; omega⟩,by simp; omega,by simp [rS2],rfl,by simp [rS2],by simp [rS2]⟩
 intro h4
 simp at h4
 have hjn:j=need:=by omega
 subst hjn
 rw [hlp]
 simp only [Nat.sub_self,kE]
 refine AW.exit ?_
 simp
 refine AW.seq ?_
 refine AW.seqRun tok [] (by intro C; conv=>lhs; simp) (by omega) ?_
 refine AW.cond (c := .tmp 93) (by conv=>lhs; simp) trivial ?_ ?_
 ·intro h5
  simp at h5
  refine AW.seqRun tok [] (by intro C; conv=>lhs; simp) trivial ?_
  exact AW.ret ⟨.inr rfl,_,_,by (conv=>lhs; simp),trivial,by simp only [qEO]; rw [if_pos (by omega)]; simp⟩
 intro h5
 simp at h5
 refine AW.skip ?_
 refine AW.seqRun tok [] (by intro C; conv=>lhs; simp) trivial ?_
 exact AW.ret ⟨.inr rfl,_,_,by (conv=>lhs; simp),trivial,by simp only [qEO]; rw [if_neg (by omega)]; simp⟩
theorem qGT (s:List UInt8) (i:Nat) (hi:i<s.length):0≤(zX s i).2∧(i:Int)+(zX s i).2≤s.length∧(zX s i).2≤4:=by
 unfold zX
 split
 ·simp; omega
 rename_i b hb
 split
 ·simp; omega
 have h4:(wR b.toNat).1≤4:=by
  unfold wR; split
  ·simp
  split
  ·simp
  split <;> simp
 generalize wR b.toNat=x at h4
 unfold wT
 split
 ·simp; omega
 rename_i h
 have h':i+x.1≤s.length:=by omega
 unfold qEO
 split
 ·simp; omega
 split
 ·simp; omega
 simp only; omega
def qDB (s:List UInt8):Nat→Nat→Bool
 | 0,_=>true
 | f+1,i=>if i<s.length then (if (zX s i).2=0 then false else qDB s f (i+(zX s i).2.toNat)) else true
def jE (s:List UInt8):Bool:=qDB s (s.length+1) 0
def vS (s:List UInt8) (i:Nat):St:=⟨[.p (.str s),.dead,.p (.bool false),.p (.int .i64 i)]++List.replicate 17 .dead,[],[],0⟩
theorem qDH (s:List UInt8) (hs:s.length≤1000000000):AFn Tryz.prog G 48 [.str s] (.bool (jE s)):=by
 refine AFn.intro tok Tryz.func48 (by kernel_rfl) rfl ?_
 simp only [Tryz.f48,St.start]
 refine AW.seqRun tok [] (by intro C; conv=>lhs; simp) trivial ?_
 refine AW.seqRun tok [] (by intro C; conv=>lhs; simp) trivial ?_
 refine AW.seq (AW.block ?_)
 refine AW.loop (α:=Nat × Nat) (fun a=>jE s=qDB s a.2 a.1∧a.1≤s.length∧s.length+1≤a.2+a.1) (fun a=>vS s a.1) (fun a=>s.length-a.1) (0,s.length+1) ⟨rfl,by simp,by simp⟩ ⟨by simp [vS],rfl,by simp [vS],by simp [vS]⟩ ?_
 rintro ⟨i,f⟩ ⟨hI,hi,hf⟩
 simp only at hI hi hf
 simp only [vS]
 refine AW.seq ?_
 refine AW.seqRun tok [] (by intro C; conv=>lhs; simp) trivial ?_
 refine AW.cond (c := .tmp 9) (by conv=>lhs; simp) trivial ?_ ?_
 ·intro h1
  simp at h1
  obtain ⟨f,rfl⟩:∃ f',f=f'+1:=⟨f-1,by omega⟩
  have hl:=qGT s i h1
  have hR:=qVI (G:=G) s i h1 hs
  simp only [qDB,h1,if_true] at hI
  refine AW.skip (AW.block ?_)
  refine AW.seqRun tok [.tup [.str s,.int .i64 i],.tup [.int .i64 (zX s i).1,.int .i64 (zX s i).2]] (by intro C; conv=>lhs; simp) (by simp [hR]) ?_
  refine AW.seq ?_
  refine AW.seqRun tok [] (by intro C; conv=>lhs; simp) trivial ?_
  refine AW.cond (c := .tmp 17) (by conv=>lhs; simp) trivial ?_ ?_
  ·intro h2
   simp at h2
   refine AW.seqRun tok [] (by intro C; conv=>lhs; simp) trivial ?_
   exact AW.ret ⟨.inr rfl,_,_,by (conv=>lhs; simp),trivial,by rw [hI]; simp [h2]⟩
  intro h2
  simp at h2
  rw [if_neg h2] at hI
  refine AW.skip ?_
  refine AW.run tok [] (by intro C; conv=>lhs; simp) (by omega) ?_
  exact ⟨(i+(zX s i).2.toNat,f),⟨hI,by simp; omega,by simp; omega⟩,by simp; omega,by simp [vS]; omega,rfl,by simp [vS],by simp [vS]⟩
 intro h1
 simp at h1
 refine AW.exit ?_
 simp
 refine AW.seqRun tok [] (by intro C; conv=>lhs; simp) trivial ?_
 exact AW.ret ⟨.inr rfl,_,_,by (conv=>lhs; simp),trivial,by
  rw [hI]
  cases f with
  | zero=>simp [qDB]
  | succ f=>simp only [qDB]; rw [if_neg (by omega)]; simp⟩
theorem qNO {s:List UInt8} {j:Nat} {c:UInt8} (h:s[j]?=some c):(⟨s.toArray⟩:ByteArray).get! j=c:=by
 have hj:=(List.getElem?_eq_some_iff.1 h).1
 have hc:=(List.getElem?_eq_some_iff.1 h).2
 show s.toArray[j]! = c
 rw [getElem!_pos s.toArray j (by simpa using hj)]
 simpa using hc
def yC (o:Option UInt8):Nat:=match o with
 | some c=>c.toNat
 | none=>0
def zZ (o:Option UInt8):Bool:=match o with
 | some c=>c.toNat / 64 == 2
 | none=>false
def qFK (b0:Nat) (o1 o2 o3:Option UInt8):Nat × Nat :=
 if b0<0x80 then (b0,1)
 else if b0 / 32 == 6 && zZ o1 then
  if (b0 % 32) * 64+yC o1 % 64 ≥ 0x80 then ((b0 % 32) * 64+yC o1 % 64,2) else (65533,1)
 else if b0 / 16 == 14 && zZ o1 && zZ o2 then
  if (b0 % 16) * 4096+(yC o1 % 64) * 64+yC o2 % 64 ≥ 0x800 && Utf8.valid ((b0 % 16) * 4096+(yC o1 % 64) * 64+yC o2 % 64:Nat) then ((b0 % 16) * 4096+(yC o1 % 64) * 64+yC o2 % 64,3) else (65533,1)
 else if b0 / 8 == 30 && zZ o1 && zZ o2 && zZ o3 then
  if (b0 % 8) * 262144+(yC o1 % 64) * 4096+(yC o2 % 64) * 64+yC o3 % 64 ≥ 0x10000 && Utf8.valid ((b0 % 8) * 262144+(yC o1 % 64) * 4096+(yC o2 % 64) * 64+yC o3 % 64:Nat) then
   ((b0 % 8) * 262144+(yC o1 % 64) * 4096+(yC o2 % 64) * 64+yC o3 % 64,4) else (65533,1)
 else (65533,1)
theorem qTE {s:List UInt8} {i:Nat} {b:UInt8} (h:s[i]?=some b):Utf8.decode ⟨s.toArray⟩ i=qFK b.toNat s[i+1]? s[i+2]? s[i+3]?:=by
 have hsz:(⟨s.toArray⟩:ByteArray).size=s.length:=by simp [ByteArray.size]
 have cont:∀ k,(decide (i+k<(⟨s.toArray⟩:ByteArray).size) && ((⟨s.toArray⟩:ByteArray).get! (i+k)).toNat / 64 == 2)=zZ s[i+k]?:=by
  intro k
  rw [hsz]
  cases hk:s[i+k]? with
  | none =>
   have:¬ i+k<s.length:=by have:=List.getElem?_eq_none_iff.1 hk; omega
   simp [zZ,this]
  | some c =>
   have:=(List.getElem?_eq_some_iff.1 hk).1
   simp [zZ,this,qNO hk]
 have byt:∀ k,zZ s[i+k]?=true→((⟨s.toArray⟩:ByteArray).get! (i+k)).toNat=yC s[i+k]?:=by
  intro k hk
  cases hc:s[i+k]? with
  | none=>rw [hc] at hk; cases hk
  | some c=>rw [qNO hc]; rfl
 have b0:((⟨s.toArray⟩:ByteArray).get! (i+0)).toNat=b.toNat:=by rw [Nat.add_zero,qNO h]
 unfold Utf8.decode qFK
 simp only [cont,b0]
 by_cases h1:zZ s[i+1]?=true
 ·rw [byt 1 h1]
  by_cases h2:zZ s[i+2]?=true
  ·rw [byt 2 h2]
   by_cases h3:zZ s[i+3]?=true
   ·rw [byt 3 h3]; simp only [h1,h2,h3]; rfl
   simp only [h1,h2,h3,Bool.and_false,Bool.false_eq_true,if_false]; rfl
  simp only [h1,h2,Bool.and_false,Bool.false_and,Bool.false_eq_true,if_false]; rfl
 simp only [h1,Bool.and_false,Bool.false_and,Bool.false_eq_true,if_false]; rfl
theorem qSW (low v : Int) (m k : Nat) (hk : k ≠ 0) (hv : v = (m : Int)) : (if (qEO low k (some v)).2 = 0 then ((65533 : Nat), (1 : Nat)) else ((qEO low k (some v)).1.toNat, (qEO low k (some v)).2.toNat)) =
  if (m:Int)<low∨(m:Int) > 1114111∨(55296≤(m:Int)∧(m:Int)<57344) then (65533,1) else (m,k):=by
 subst hv
 unfold qEO
 by_cases h:(m:Int)<low∨(m:Int) > 1114111∨(55296≤(m:Int)∧(m:Int)<57344)
 ·simp only [h,if_true]
 simp only [h,if_false]
 rw [if_neg (by omega)]
 rfl
theorem qAI (m:Nat):Utf8.valid (m:Int)=decide (¬ ((m:Int) > 1114111∨(55296≤(m:Int)∧(m:Int)<57344))):=by
 rw [Bool.eq_iff_iff]; simp only [Utf8.valid,Bool.or_eq_true,Bool.and_eq_true,decide_eq_true_eq]; omega
theorem isC (c:UInt8):(c.toNat / 64 == 2)=decide (128≤c.toNat∧c.toNat<192):=by rw [Bool.eq_iff_iff]; simp only [beq_iff_eq,decide_eq_true_eq]; omega
theorem zR (c:UInt8):zZ (some c)=decide (128≤c.toNat∧c.toNat<192):=isC c
theorem yF {s:List UInt8} {i r j:Nat} {v:Int} {c:UInt8} (h:s[i+j]?=some c) (hc:128≤c.toNat∧c.toNat<192):kE s i (r+1) j v=kE s i r (j+1) (64 * v+c.toNat-128):=by
 simp only [kE,h]; rw [if_neg (by omega)]
theorem xN {s:List UInt8} {i r j:Nat} {v:Int} {c:UInt8} (h:s[i+j]?=some c) (hc:¬ (128≤c.toNat∧c.toNat<192)):kE s i (r+1) j v=none:=by
 simp only [kE,h]; rw [if_pos (by omega)]
theorem yI {n : Nat} {o1 o2 o3 : Option UInt8} (h0 : ¬ n < 128) (h : (n / 32 = 6 → zZ o1 = true → n % 32 * 64 + yC o1 % 64 < 128) ∧ (n / 16 = 14 → zZ o1 = true → zZ o2 = false) ∧ (n / 8 = 30 → zZ o1 = true → zZ o2 = true → zZ o3 = true → 1114111 < n % 8 * 262144)) :
  qFK n o1 o2 o3=(65533,1):=by
 obtain ⟨h1,h2,h3⟩:=h
 unfold qFK
 rw [if_neg h0]
 by_cases a:n / 32=6
 ·have b:¬ n / 16=14:=by omega
  have c:¬ n / 8=30:=by omega
  cases hc:zZ o1 with
  | true=>simp only [a,beq_self_eq_true,Bool.and_self,if_true]; rw [if_neg (by have:=h1 a hc; omega)]
  | false=>simp [a,b,c]
 by_cases b:n / 16=14
 ·have c:¬ n / 8=30:=by omega
  cases hc:zZ o1 with
  | true=>simp [a,b,c,h2 b hc]
  | false=>simp [a,b,c]
 by_cases c:n / 8=30
 ·cases hc1:zZ o1 with
  | false=>simp [a,b]
  | true =>
   cases hc2:zZ o2 with
   | false=>simp [a,b]
   | true =>
    cases hc3:zZ o3 with
    | false=>simp [a,b]
    | true =>
     have hb:=h3 c hc1 hc2 hc3
     simp only [a,b,c,beq_iff_eq,beq_self_eq_true,Bool.false_and,Bool.and_self,Bool.and_true,if_false,if_true,Bool.false_eq_true]
     rw [if_neg]
     rw [qAI]
     simp only [Bool.and_eq_true,decide_eq_true_eq]
     omega
 simp [a,b,c]
theorem qWI {n : Nat} {c : UInt8} {o2 o3 : Option UInt8} (h0 : ¬ n < 128) (hn : n / 32 = 6) (hc : 128 ≤ c.toNat ∧ c.toNat < 192) :
  qFK n (some c) o2 o3=if n % 32 * 64+c.toNat % 64 ≥ 128 then (n % 32 * 64+c.toNat % 64,2) else (65533,1):=by
 have h1:zZ (some c)=true:=by rw [zR]; exact decide_eq_true hc
 unfold qFK
 rw [if_neg h0,if_pos (by rw [h1,hn]; rfl)]
 rfl
theorem qWH {n : Nat} {c d : UInt8} {o3 : Option UInt8} (h0 : ¬ n < 128) (hn : n / 16 = 14) (hc : 128 ≤ c.toNat ∧ c.toNat < 192) (hd : 128 ≤ d.toNat ∧ d.toNat < 192) {m : Nat} (hm : m = n % 16 * 4096 + c.toNat % 64 * 64 + d.toNat % 64) :
  qFK n (some c) (some d) o3=if (m:Int)<2048∨(m:Int) > 1114111∨(55296≤(m:Int)∧(m:Int)<57344) then (65533,1) else (m,3):=by
 have h1:zZ (some c)=true:=by rw [zR]; exact decide_eq_true hc
 have h2:zZ (some d)=true:=by rw [zR]; exact decide_eq_true hd
 have e1:¬ n / 32=6:=by omega
 unfold qFK
 rw [if_neg h0,if_neg (by rw [h1]; simp [e1]),if_pos (by rw [h1,h2,hn]; rfl)]
 simp only [yC,← hm,qAI]
 clear hm
 by_cases hb:(m:Int)<2048∨(m:Int) > 1114111∨55296≤(m:Int)∧(m:Int)<57344
 ·rw [if_pos hb,if_neg]; simp only [Bool.and_eq_true,decide_eq_true_eq]; omega
 rw [if_neg hb,if_pos]; simp only [Bool.and_eq_true,decide_eq_true_eq]; omega
theorem qWG {n : Nat} {c d e : UInt8} (h0 : ¬ n < 128) (hn : n / 8 = 30) (hc : 128 ≤ c.toNat ∧ c.toNat < 192) (hd : 128 ≤ d.toNat ∧ d.toNat < 192) (he : 128 ≤ e.toNat ∧ e.toNat < 192) {m : Nat}
  (hm:m=n % 8 * 262144+c.toNat % 64 * 4096+d.toNat % 64 * 64+e.toNat % 64) :
  qFK n (some c) (some d) (some e)=if (m:Int)<65536∨(m:Int) > 1114111∨(55296≤(m:Int)∧(m:Int)<57344) then (65533,1) else (m,4):=by
 have h1:zZ (some c)=true:=by rw [zR]; exact decide_eq_true hc
 have h2:zZ (some d)=true:=by rw [zR]; exact decide_eq_true hd
 have h3:zZ (some e)=true:=by rw [zR]; exact decide_eq_true he
 have e1:¬ n / 32=6:=by omega
 have e2:¬ n / 16=14:=by omega
 unfold qFK
 rw [if_neg h0,if_neg (by rw [h1]; simp [e1]),if_neg (by rw [h1,h2]; simp [e2]),if_pos (by rw [h1,h2,h3,hn]; rfl)]
 simp only [yC,← hm,qAI]
 clear hm
 by_cases hb:(m:Int)<65536∨(m:Int) > 1114111∨55296≤(m:Int)∧(m:Int)<57344
 ·rw [if_pos hb,if_neg]; simp only [Bool.and_eq_true,decide_eq_true_eq]; omega
 rw [if_neg hb,if_pos]; simp only [Bool.and_eq_true,decide_eq_true_eq]; omega
theorem qKA {s:List UInt8} {i:Nat} (hi:i<s.length):Utf8.decode ⟨s.toArray⟩ i=if (zX s i).2=0 then (65533,1) else ((zX s i).1.toNat,(zX s i).2.toNat):=by
 obtain ⟨b,hb⟩:∃ b,s[i]?=some b:=⟨s[i],by simp [hi]⟩
 rw [qTE hb]
 have hblt:b.toNat<256:=b.toNat_lt
 have hr:zX s i=if (b.toNat:Int)<128 then ((b.toNat:Int),1) else wT s i (wR b.toNat):=by simp only [zX,hb]
 have in1:∀ k,s[i+k]?=none↔s.length≤i+k:=fun k=>List.getElem?_eq_none_iff
 have has:∀ k,i+k<s.length→∃ c,s[i+k]?=some c:=fun k hk=>⟨s[i+k],by simp [hk]⟩
 generalize b.toNat=n at hblt hr
 by_cases h0:n<128
 ·rw [if_pos (by omega)] at hr
  rw [hr]
  simp [qFK,h0]
 rw [if_neg (by omega)] at hr
 rw [hr]
 clear hr
 have tail0:∀ x:Nat × Int × Int,(x.1=0∨s.length<i+x.1)→(if (wT s i x).2=0 then ((65533:Nat),(1:Nat)) else ((wT s i x).1.toNat,(wT s i x).2.toNat))=(65533,1):=by
  intro x hx; unfold wT; rw [if_pos hx]; rfl
 have tailn:∀ x:Nat × Int × Int, ¬ (x.1=0∨s.length<i+x.1)→kE s i (x.1-1) 1 x.2.2=none→(if (wT s i x).2=0 then ((65533:Nat),(1:Nat)) else ((wT s i x).1.toNat,(wT s i x).2.toNat))=(65533,1):=by
  intro x hx hn; unfold wT; rw [if_neg hx,hn]; rfl
 have tails : ∀ (x : Nat × Int × Int) (v : Int) (m : Nat), ¬ (x.1 = 0 ∨ s.length < i + x.1) → kE s i (x.1 - 1) 1 x.2.2 = some v → v = m → (if (wT s i x).2 = 0 then ((65533 : Nat), (1 : Nat)) else ((wT s i x).1.toNat, (wT s i x).2.toNat)) =
   if (m:Int)<x.2.1∨(m:Int) > 1114111∨(55296≤(m:Int)∧(m:Int)<57344) then (65533,1) else (m,x.1):=by
  intro x v m hx hl hv; unfold wT; rw [if_neg hx,hl]; exact qSW _ _ _ _ (by omega) hv
 by_cases hA:194≤n∧n<224
 ·have hrc:wR n=(2,128,(n:Int)-192):=by unfold wR; rw [if_pos (by omega)]
  rw [hrc]
  by_cases hl:s.length<i+2
  ·rw [tail0 _ (Or.inr hl)]
   refine yI h0 ⟨fun _ h => ?_,fun h=>by omega,fun h=>by omega⟩
   rw [(in1 1).2 (by omega)] at h; cases h
  obtain ⟨c,h1⟩:=has 1 (by omega)
  rw [h1]
  by_cases hc:128≤c.toNat∧c.toNat<192
  ·rw [tails (2,128,(n:Int)-192) _ (n % 32 * 64+c.toNat % 64) (by simp; omega) (by rw [show (2:Nat)-1=0+1 from rfl,yF h1 hc]; rfl) (by simp only []; omega)]
   rw [qWI h0 (by omega) hc,if_pos (by omega),if_neg (by simp only []; omega)]
  rw [tailn _ (by simp; omega) (by rw [show ((2:Nat),(128:Int),(n:Int)-192).1-1=0+1 from rfl,xN h1 hc])]
  refine yI h0 ⟨fun _ h => ?_,fun h=>by omega,fun h=>by omega⟩
  rw [zR] at h; exact (hc (of_decide_eq_true h)).elim
 by_cases hB:224≤n∧n<240
 ·have hrc:wR n=(3,2048,(n:Int)-224):=by unfold wR; rw [if_neg (by omega),if_pos (by omega)]
  rw [hrc]
  by_cases hl:s.length<i+3
  ·rw [tail0 _ (Or.inr hl)]
   refine yI h0 ⟨fun h=>by omega,fun _ _ => ?_,fun h=>by omega⟩
   rw [(in1 2).2 (by omega)]; rfl
  obtain ⟨c,h1⟩:=has 1 (by omega)
  obtain ⟨d,h2⟩:=has 2 (by omega)
  rw [h1,h2]
  by_cases hc:128≤c.toNat∧c.toNat<192
  ·by_cases hd:128≤d.toNat∧d.toNat<192
   ·rw [tails (3,2048,(n:Int)-224) _ (n % 16 * 4096+c.toNat % 64 * 64+d.toNat % 64) (by simp; omega) (by rw [show (3:Nat)-1=1+1 from rfl,yF h1 hc,show (1:Nat)=0+1 from rfl,yF h2 hd]; rfl) (by simp only []; omega)]
    exact qWH h0 (by omega) hc hd rfl
   rw [tailn _ (by simp; omega) (by rw [show ((3:Nat),(2048:Int),(n:Int)-224).1-1=1+1 from rfl,yF h1 hc,show (1:Nat)=0+1 from rfl,xN h2 hd])]
   refine yI h0 ⟨fun h=>by omega,fun _ _ => ?_,fun h=>by omega⟩
   rw [zR]; exact decide_eq_false hd
  rw [tailn _ (by simp; omega) (by rw [show ((3:Nat),(2048:Int),(n:Int)-224).1-1=1+1 from rfl,xN h1 hc])]
  refine yI h0 ⟨fun h=>by omega,fun _ h => ?_,fun h=>by omega⟩
  rw [zR] at h; exact (hc (of_decide_eq_true h)).elim
 by_cases hC:240≤n∧n<245
 ·have hrc:wR n=(4,65536,(n:Int)-240):=by unfold wR; rw [if_neg (by omega),if_neg (by omega),if_pos (by omega)]
  rw [hrc]
  by_cases hl:s.length<i+4
  ·rw [tail0 _ (Or.inr hl)]
   refine yI h0 ⟨fun h=>by omega,fun h=>by omega,fun _ _ _ h => ?_⟩
   rw [(in1 3).2 (by omega)] at h; cases h
  obtain ⟨c,h1⟩:=has 1 (by omega)
  obtain ⟨d,h2⟩:=has 2 (by omega)
  obtain ⟨e,h3⟩:=has 3 (by omega)
  rw [h1,h2,h3]
  by_cases hc:128≤c.toNat∧c.toNat<192
  ·by_cases hd:128≤d.toNat∧d.toNat<192
   ·by_cases he:128≤e.toNat∧e.toNat<192
    ·rw [tails (4,65536,(n:Int)-240) _ (n % 8 * 262144+c.toNat % 64 * 4096+d.toNat % 64 * 64+e.toNat % 64) (by simp; omega)
      (by rw [show (4:Nat)-1=2+1 from rfl,yF h1 hc,show (2:Nat)=1+1 from rfl,yF h2 hd,show (1:Nat)=0+1 from rfl,yF h3 he]; rfl) (by simp only []; omega)]
     exact qWG h0 (by omega) hc hd he rfl
    rw [tailn _ (by simp; omega) (by rw [show ((4:Nat),(65536:Int),(n:Int)-240).1-1=2+1 from rfl,yF h1 hc,show (2:Nat)=1+1 from rfl,yF h2 hd,show (1:Nat)=0+1 from rfl,xN h3 he])]
    refine yI h0 ⟨fun h=>by omega,fun h=>by omega,fun _ _ _ h => ?_⟩
    rw [zR] at h; exact (he (of_decide_eq_true h)).elim
   rw [tailn _ (by simp; omega) (by rw [show ((4:Nat),(65536:Int),(n:Int)-240).1-1=2+1 from rfl,yF h1 hc,show (2:Nat)=1+1 from rfl,xN h2 hd])]
   refine yI h0 ⟨fun h=>by omega,fun h=>by omega,fun _ _ h => ?_⟩
   rw [zR] at h; exact (hd (of_decide_eq_true h)).elim
  rw [tailn _ (by simp; omega) (by rw [show ((4:Nat),(65536:Int),(n:Int)-240).1-1=2+1 from rfl,xN h1 hc])]
  refine yI h0 ⟨fun h=>by omega,fun h=>by omega,fun _ h => ?_⟩
  rw [zR] at h; exact (hc (of_decide_eq_true h)).elim
 have hrc:wR n=(0,0,0):=by unfold wR; rw [if_neg (by omega),if_neg (by omega),if_neg (by omega)]
 rw [hrc,tail0 _ (.inl rfl)]
 refine yI h0 ⟨fun h _ => ?_,fun h=>by omega,fun h _ _ _=>by omega⟩
 have:yC s[i+1]? % 64<64:=Nat.mod_lt _ (by omega)
 omega
theorem qMK (s:List UInt8) (i:Nat):zX s i=zX (s.drop i) 0:=by
 have h:∀ k,(s.drop i)[k]?=s[i+k]?:=fun k=>by rw [List.getElem?_drop]
 have hl:∀ (f:Nat) (j:Nat) (v:Int),kE s i f j v=kE (s.drop i) 0 f j v:=by
  intro f
  induction f with
  | zero=>intro j v; rfl
  | succ f ih =>
   intro j v
   simp only [kE,Nat.zero_add,h,ih]
 unfold zX
 rw [h 0,Nat.add_zero]
 cases hb:s[i]? with
 | none=>rfl
 | some b =>
  have hi:=(List.getElem?_eq_some_iff.1 hb).1
  simp only [wT,hl,List.length_drop]
  have e:(s.length<i+(wR ↑b.toNat).1)↔(s.length-i<0+(wR ↑b.toNat).1):=by omega
  simp only [e]
theorem qJO (s:List UInt8):Lib.validD s=jE s:=by
 have key:∀ (n:Nat) (s:List UInt8) (i f:Nat),n=s.length-i→i≤s.length→s.length+1≤f+i→qDB s f i=Lib.validD (s.drop i):=by
  intro n
  induction n using Nat.strongRecOn with
  | _ n ih =>
   intro s i f hn hi hf
   cases f with
   | zero=>omega
   | succ f =>
    simp only [qDB]
    by_cases hlt:i<s.length
    ·rw [if_pos hlt]
     have hne:s.drop i≠[]:=by simp; omega
     rw [Lib.validD_step _ hne]
     have hd:=qKA (s:=s.drop i) (i:=0) (by simp; omega)
     rw [← qMK] at hd
     have hl:=qGT s i hlt
     have hdl:Lib.decodeL (s.drop i)=Utf8.decode ⟨(s.drop i).toArray⟩ 0:=rfl
     rw [hdl,hd]
     by_cases h0:(zX s i).2=0
     ·rw [if_pos h0,if_pos h0,if_pos ⟨rfl,rfl⟩]
     rw [if_neg h0,if_neg h0]
     have hne2:¬ ((zX s i).1.toNat=65533∧(zX s i).2.toNat=1):=by
      rintro ⟨h1,h2⟩
      have:(zX s i).1=65533:=by omega
      have h3:(zX s i).2=1:=by omega
      obtain ⟨b,hb⟩:∃ b,s[i]?=some b:=⟨s[i],by simp [hlt]⟩
      have hb256:b.toNat<256:=b.toNat_lt
      have hr:zX s i=if (b.toNat:Int)<128 then ((b.toNat:Int),1) else wT s i (wR b.toNat):=by simp only [zX,hb]
      rw [hr] at this h3
      split at this
      ·simp only [] at this; omega
      rename_i hge
      rw [if_neg hge] at h3
      unfold wT at h3
      split at h3
      ·simp at h3
      rename_i hx
      have:(wR b.toNat).1=0∨2≤(wR b.toNat).1:=by
       unfold wR; repeat' split
       all_goals simp
      unfold qEO at h3
      split at h3
      ·simp at h3
      split at h3
      ·simp at h3
      simp only [] at h3; omega
     simp only []
     rw [if_neg hne2,List.drop_drop]
     exact ih _ (by omega) s (i+(zX s i).2.toNat) f rfl (by omega) (by omega)
    rw [if_neg hlt,List.drop_eq_nil_of_le (by omega)]; rfl
 exact (key _ s 0 (s.length+1) rfl (by omega) (by omega)).symm
def yD (s:List UInt8):List UInt8:=s.take 100
theorem qJZ (s:List UInt8):AFn Tryz.prog G 27 [.str s] (.str (yD s)):=by
 refine AFn.introU tok Tryz.func27 (by kernel_rfl) rfl rfl ?_
 simp only [Tryz.f27,qN,List.map_cons,List.map_nil]
 refine rgn [] [[0]] ?_
 refine op1 tok ?_
 refine qA (AW.seq (rgn [] [[],[],[0,5]] ?_))
 iterate 3 refine op1 tok ?_
 refine qA (cnd ?_ ?_)
 ·intro h5
  try simp at h5
  refine rgn [] [[],[],[2]] ?_
  iterate 3 refine op1 tok ?_
  refine qA ?_
  exact AW.ret (qI (k:=by simp [yD]))
 intro h5
 try simp at h5
 refine AW.skip (rgn [] [[],[2]] ?_)
 iterate 2 refine op1 tok ?_
 refine qA ?_
 exact AW.ret (qI (k:=by simp [yD]; rw [List.take_of_length_le (by omega)]))
def xK (s:List UInt8):List UInt8:=if jE (yD s)=true then yD s else [97]
theorem qAN (s:List UInt8):(yD s).length≤100:=by simp [yD]; omega
theorem qGK (s:List UInt8):(xK s).length≤100:=by
 unfold xK; split
 ·exact qAN s
 simp
theorem qNX (s:List UInt8):AFn Tryz.prog G 28 [.str s] (.str (xK s)):=by
 refine AFn.introU tok Tryz.func28 (by kernel_rfl) rfl rfl ?_
 simp only [Tryz.f28,qN,List.map_cons,List.map_nil]
 have h1:=qJZ (G:=G) s
 have hl:=qAN s
 have h2:=qDH (G:=G) (yD s) (by omega)
 refine rgn [] [[0]] ?_
 refine op1 tok ?_
 refine qA (rgn [.nilp,.str (yD s)] [[],[],[0]] ?_)
 iterate 3 refine op1 tok ?_ (hv:=by first | with_reducible exact True.intro | (simp [h1]; done) | omega | simp | (simp +contextual; omega))
 refine qA (AW.seq (rgn [.nilp,.bool (jE (yD s))] [[],[],[0,7]] ?_))
 iterate 3 refine op1 tok ?_ (hv:=by first | with_reducible exact True.intro | (simp [h2]; done) | omega | simp | (simp +contextual; omega))
 refine qA (cnd ?_ ?_)
 ·intro h7
  try simp at h7
  refine rgn [] [[]] ?_
  refine op1 tok ?_
  refine qA ?_
  exact AW.ret (qI (k:=by simp [xK,h7]))
 intro h7
 try simp at h7
 refine AW.skip (rgn [] [[],[2]] ?_)
 iterate 2 refine op1 tok ?_
 refine qA ?_
 exact AW.ret (qI (k:=by simp [xK,h7]))
def jK (n:Nat):List UInt8:=List.replicate n 107
def yP (l:List (List UInt8)) (i:Nat):List UInt8:=if h:i<l.length then xK l[i] else jK (i-l.length+1)
def qCW (out:List (List UInt8)) (s:List UInt8):List (List UInt8):=if s∈out then out else out++[s]
def kG (l:List (List UInt8)) (many:Nat):Nat→Nat→List (List UInt8)→List (List UInt8)
 | 0,_,out=>out
 | f+1,i,out=>if out.length<many then kG l many f (i+1) (qCW out (yP l i)) else out
def uC (l:List (List UInt8)) (many:Nat):List (List UInt8):=kG l many (l.length+many+1) 0 []
theorem qKF {α:Type} [DecidableEq α]:∀ {l m:List α},l.Nodup→(∀ x∈l,x∈m)→l.length≤m.length
 | [],m,_,_=>by simp
 | a::l,m,hn,hs=>by
  have ha:=hs a (by simp)
  have hn':=List.nodup_cons.1 hn
  have:=qKF (l:=l) (m:=m.erase a) hn'.2 fun x hx=>(List.mem_erase_of_ne (by rintro rfl; exact hn'.1 hx)).2 (hs x (by simp [hx]))
  rw [List.length_erase_of_mem ha] at this
  have:=List.length_pos_of_mem ha
  simp; omega
theorem qOP {out:List (List UInt8)} {n:Nat} (h:∀ t,1≤t→t≤n→jK t∈out):n≤out.length:=by
 have hs:((List.range n).map fun t=>jK (t+1)).Nodup:=by
  unfold List.Nodup
  refine List.Pairwise.map _ (fun a b hab => ?_) List.nodup_range
  intro he; have:=congrArg List.length he; simp [jK] at this; exact hab this
 have:=qKF hs (m:=out) (by
  intro x hx; obtain ⟨t,ht,rfl⟩:=List.mem_map.1 hx
  simp at ht; exact h _ (by omega) (by omega))
 simpa using this
theorem qKN {l:List (List UInt8)} {many:Nat} {out:List (List UInt8)} (h:¬ out.length<many):∀ f i,kG l many f i out=out
 | 0,_=>rfl
 | f+1,i=>by simp only [kG]; rw [if_neg h]
theorem qRZ (l:List (List UInt8)) (many:Nat) (hl:l.length≤140737488351232) (hm:many≤100000):AFn Tryz.prog G 29 [.sl 1 (l.map PD.str),.int .i64 many] (.sl 1 ((uC l many).map PD.str)):=by
 refine AFn.introU tok Tryz.func29 (by kernel_rfl) rfl rfl ?_
 simp only [Tryz.f29,qN,List.map_cons,List.map_nil]
 have hw:=fun s=>qNX (G:=G) s
 refine rgn [] [[0,1]] ?_
 refine op1 tok ?_
 refine qA (rgn [] [[],[0,1,5]] ?_)
 iterate 2 refine op1 tok ?_
 refine qA (rgn [] [[]] ?_)
 refine op1 tok ?_
 refine qA (AW.seq (rgn [] [[]] ?_))
 refine op1 tok ?_
 refine qA (AW.block ?_)
 refine AW.loop (α:=Nat × List (List UInt8)) (fun a=>a.1≤l.length+many∧uC l many=kG l many (l.length+many+1-a.1) a.1 a.2∧a.2.length≤many∧(∀ t,1≤t→t+l.length≤a.1→jK t∈a.2)) (fun a=>⟨qV 52 [(0,.p (.sl 1 (l.map PD.str))),(1,.p (.int .i64 many)),(5,.ms 11),(6,.p (.str (jK (a.1-l.length+1)))),(7,.p (.int .i64 a.1))],[],[(11,.row 9 1 (a.2.map PD.str))],0⟩) (fun a=>l.length+many-a.1) ((0,[])) ⟨by simp,rfl,by simp,by intro t h1 h2; simp at h2; omega⟩ ⟨qD (by simp [jK]),rfl,by simp,by simp⟩ ?_
 rintro ⟨i,out⟩ ⟨hi,hn,ho,hk⟩
 simp only at hi hn ho hk
 have hkl:i-l.length≤out.length:=qOP fun t h1 h2=>hk t h1 (by omega)
 refine AW.seq (rgn [] [[],[],[],[0,1,5,6,7,15]] ?_)
 iterate 4 refine op1 tok ?_
 refine qA (cnd ?_ ?_)
 ·intro h15
  try simp at h15
  have hstep:uC l many=kG l many (l.length+many+1-(i+1)) (i+1) (qCW out (yP l i)):=by
   rw [hn,show l.length+many+1-i=(l.length+many+1-(i+1))+1 by omega]; simp only [kG]; rw [if_pos h15]
  refine AW.skip (AW.seq (AW.block (rgn [] [[],[0,1,5,6,7,8]] ?_)))
  iterate 2 refine op1 tok ?_
  refine qA ?_
  refine AW.join (α:=Unit) (fun _=>True) (fun a=>⟨qV 52 [(0,.p (.sl 1 (l.map PD.str))),(1,.p (.int .i64 many)),(5,.ms 11),(6,.p (.str (jK (i+1-l.length+1)))),(7,.p (.int .i64 i)),(8,.p (.str (yP l i)))],[],[(11,.row 9 1 (out.map PD.str))],0⟩) ?_ ?_
  ·
   refine rgn [] [[],[],[],[0,1,5,6,7,8,22]] ?_
   iterate 4 refine op1 tok ?_
   refine qA (cnd ?_ ?_)
   ·intro h22
    try simp at h22
    have hs:yP l i=xK l[i]:=by simp [yP,h22]
    have hsl:=qGK l[i]
    refine rgz [.str l[i],.nilp,.str (xK l[i])] [[],[],[],[],[0,1,5,6,7,27],[0,1,5,6,7,8]] ?_
    iterate 6 refine op1 tok ?_ (hv:=by first | with_reducible exact True.intro | (simp [hw,h22]; done) | omega | simp | (simp +contextual; omega))
    refine qA ?_
    exact ⟨(),trivial,qD (by simp [hs,show i+1-l.length=i-l.length from by omega]),rfl,by simp [hs,show i+1-l.length=i-l.length from by omega],by simp [hs,show i+1-l.length=i-l.length from by omega]⟩
   intro h22
   try simp at h22
   have hs:yP l i=jK (i-l.length+1):=by simp [yP]; omega
   refine rgz [] [[],[],[0,1,5,6,7,8]] ?_
   iterate 3 refine op1 tok ?_ (hv:=by first | with_reducible exact True.intro | (simp [jK]; omega; done) | omega | simp | (simp +contextual; omega))
   refine qA ?_
   exact ⟨(),trivial,qD (by simp [hs,show i+1-l.length+1=i-l.length+1+1 from by omega,jK,List.replicate_succ']),rfl,by simp [hs,show i+1-l.length+1=i-l.length+1+1 from by omega,jK,List.replicate_succ'],by simp [hs,show i+1-l.length+1=i-l.length+1+1 from by omega,jK,List.replicate_succ']⟩
  ·
   rintro a hI
   generalize hns:yP l i=s at *
   have hkay:∀ t,1≤t→t+l.length≤i+1→jK t∈qCW out s:=by
    intro t h1 h2
    by_cases h3:t+l.length≤i
    ·have:=hk t h1 h3
     unfold qCW; split
     ·exact this
     simp [this]
    have:jK t=s:=by rw [← hns]; simp only [yP]; rw [dif_neg (by omega)]; congr 1; omega
    rw [this]; unfold qCW; split
    ·assumption
    simp
   refine rgn [] [[]] ?_
   refine op1 tok ?_
   refine qA (AW.seq (rgn [] [[]] ?_))
   refine op1 tok ?_
   refine qA (AW.block ?_)
   refine AW.loop (α:=Nat) (fun k=>k≤out.length) (fun k=>⟨qV 52 [(0,.p (.sl 1 (l.map PD.str))),(1,.p (.int .i64 many)),(5,.ms 11),(6,.p (.str (jK (i+1-l.length+1)))),(7,.p (.int .i64 i)),(8,.p (.str s)),(9,.p (.bool (decide (s∈out.take k)))),(10,.p (.int .i64 k))],[],[(11,.row 9 1 (out.map PD.str))],0⟩) (fun k=>out.length-k) (0) (by omega) ⟨qD (by simp),rfl,by simp,by simp⟩ ?_
   rintro k hko
   refine AW.seq (rgn [] [[],[],[],[0,1,5,6,7,8,9,10,33]] ?_)
   iterate 4 refine op1 tok ?_
   refine qA (cnd ?_ ?_)
   ·intro h33
    try simp at h33
    have hsn:(decide (s∈out.take k) || decide (out[k]=s))=decide (s∈out.take (k+1)):=by
     rw [List.take_succ_eq_append_getElem h33,Bool.eq_iff_iff]; simp only [Bool.or_eq_true,decide_eq_true_eq,List.mem_append,List.mem_singleton]; exact ⟨fun h=>h.imp id Eq.symm,fun h=>h.imp id Eq.symm⟩
    refine AW.skip (AW.seq (AW.block (rgz [.str out[k]] [[],[],[],[],[0,1,5,6,7,8,10,37,40],[],[],[],[0,1,5,6,7,8,10,44],[0,1,5,6,7,8,9,10]] ?_)))
    iterate 2 refine op1 tok ?_ (hv:=by first | with_reducible exact True.intro | (simp [h33]; done) | omega | simp | (simp +contextual; omega))
    iterate 6 refine op2 tok ?_ (hv:=by first | with_reducible exact True.intro | (simp [h33]; done) | omega | simp | (simp +contextual; omega))
    iterate 2 refine op1 tok ?_ (hv:=by first | with_reducible exact True.intro | (simp [h33]; done) | omega | simp | (simp +contextual; omega))
    refine qA (rgz [] [[],[],[0,1,5,6,7,8,9,10]] ?_)
    iterate 3 refine op1 tok ?_
    refine qA ?_
    exact ⟨k+1,by omega,by omega,qD (by simp [hsn]),rfl,by simp [hsn],by simp [hsn]⟩
   intro h33
   try simp at h33
   have hkk:k=out.length:=by omega
   subst hkk
   simp only [List.take_length]
   refine AW.exit ?_
   simp
   refine rgn [] [[],[0,1,5,6,7,8,46]] ?_
   iterate 2 refine op1 tok ?_
   refine qA (cnd ?_ ?_)
   ·intro h46
    try simp at h46
    have had:qCW out s=out++[s]:=by unfold qCW; rw [if_neg h46]
    rw [had] at hstep hkay
    refine rgz [.str s] [[],[],[],[0,1,6,7,50],[0,1,5,6,7]] ?_
    iterate 5 refine op1 tok ?_
    refine qA (rgz [] [[],[],[0,1,5,6,7]] ?_)
    iterate 3 refine op1 tok ?_
    refine qA ?_
    exact ⟨i+1,out++[s],⟨by omega,hstep,by simp; omega,hkay⟩,by omega,qD (by simp),rfl,by simp,by simp⟩
   intro h46
   try simp at h46
   have had:qCW out s=out:=by unfold qCW; rw [if_pos h46]
   rw [had] at hstep hkay
   refine AW.skip (rgz [] [[],[],[0,1,5,6,7]] ?_)
   iterate 3 refine op1 tok ?_
   refine qA ?_
   exact ⟨i+1,out,⟨by omega,hstep,by omega,hkay⟩,by omega,qD (by simp),rfl,by simp,by simp⟩
 intro h15
 try simp at h15
 have hn2:uC l many=out:=by rw [hn]; exact qKN (by omega) _ _
 refine AW.exit ?_
 simp
 refine rgn [] [[],[4]] ?_
 iterate 2 refine op1 tok ?_
 refine qA ?_
 exact AW.ret (qI (k:=by simp [hn2]))
theorem qGR {ks:List (List UInt8)} {s:List UInt8}:s∈wD ks↔s∈ks:=(List.mergeSort_perm ks _).mem_iff
theorem qPF (ks:List (List UInt8)):AX Tryz.prog G 68 [.p (.sl 1 (ks.map PD.str))] [] (.func (.func 99) [] [.ptr 901 0]) [] [(901,.vars 27 [.p (.sl 1 (ks.map PD.str))])]:=by
 refine AX.introU tok 900 Tryz.func68 (by kernel_rfl) rfl rfl ?_
 simp only [Tryz.f68,qN,List.map_cons,List.map_nil]
 refine rgn [] [[],[1]] ?_
 iterate 2 refine op1 tok ?_
 refine qA (rgn [] [[],[2]] ?_)
 iterate 2 refine op1 tok ?_
 refine qA ?_
 exact AW.ret qDP
structure Ord {α:Type} (p:α→α→Int) (S:α→Prop):Prop where
 anti:∀ x y,S x→S y→p x y = - p y x
 tr:∀ x y z,S x→S y→S z→p x y≤0→p y z≤0→p x z≤0
theorem Ord.refl {α:Type} {p:α→α→Int} {S:α→Prop} (h:Ord p S) {x:α} (hx:S x):p x x=0:=by have:=h.anti x x hx hx; omega
theorem Ord.lt_le {α:Type} {p:α→α→Int} {S:α→Prop} (h:Ord p S) {x y z:α} (hx:S x) (hy:S y) (hz:S z) (h1:p x y<0) (h2:p y z≤0):p x z<0:=by
 have h3:=h.tr x y z hx hy hz (by omega) h2
 by_cases h4:p x z=0
 ·have a1:=h.anti x z hx hz
  have a2:=h.anti x y hx hy
  have:=h.tr y z x hy hz hx h2 (by omega)
  omega
 omega
theorem Ord.le_lt {α:Type} {p:α→α→Int} {S:α→Prop} (h:Ord p S) {x y z:α} (hx:S x) (hy:S y) (hz:S z) (h1:p x y≤0) (h2:p y z<0):p x z<0:=by
 have h3:=h.tr x y z hx hy hz h1 (by omega)
 by_cases h4:p x z=0
 ·have a1:=h.anti x z hx hz
  have a2:=h.anti y z hy hz
  have:=h.tr z x y hz hx hy (by omega) h1
  omega
 omega
theorem Ord.eq_eq {α:Type} {p:α→α→Int} {S:α→Prop} (h:Ord p S) {x y z:α} (hx:S x) (hy:S y) (hz:S z) (h1:p x y=0) (h2:p y z=0):p x z=0:=by
 have a1:=h.anti x y hx hy
 have a2:=h.anti y z hy hz
 have a3:=h.anti x z hx hz
 have:=h.tr x y z hx hy hz (by omega) (by omega)
 have:=h.tr z y x hz hy hx (by omega) (by omega)
 omega
theorem Ord.then {α:Type} {p q:α→α→Int} {S:α→Prop} (hp:Ord p S) (hq:Ord q S):Ord (fun x y=>if p x y≠0 then p x y else q x y) S:=by
 refine ⟨fun x y hx hy => ?_,fun x y z hx hy hz h1 h2 => ?_⟩
 ·have a1:=hp.anti x y hx hy
  have a2:=hq.anti x y hx hy
  by_cases h:p x y=0
  ·rw [if_neg (by omega),if_neg (by omega)]; exact a2
  rw [if_pos h,if_pos (by omega)]; exact a1
 by_cases e1:p x y=0
 ·rw [if_neg (by omega)] at h1
  by_cases e2:p y z=0
  ·rw [if_neg (by omega)] at h2
   rw [if_neg (by have:=hp.eq_eq hx hy hz e1 e2; omega)]
   exact hq.tr x y z hx hy hz h1 h2
  rw [if_pos e2] at h2
  have:=hp.le_lt hx hy hz (by omega) (show p y z<0 by omega)
  rw [if_pos (by omega)]; omega
 rw [if_pos e1] at h1
 by_cases e2:p y z=0
 ·have:=hp.lt_le hx hy hz (show p x y<0 by omega) (by omega)
  rw [if_pos (by omega)]; omega
 rw [if_pos e2] at h2
 have:=hp.lt_le hx hy hz (show p x y<0 by omega) h2
 rw [if_pos (by omega)]; omega
theorem Ord.map {α β:Type} {p:β→β→Int} {S:β→Prop} (h:Ord p S) (f:α→β) {S':α→Prop} (hS:∀ x,S' x→S (f x)):Ord (fun x y=>p (f x) (f y)) S' :=
 ⟨fun x y hx hy=>h.anti _ _ (hS x hx) (hS y hy),fun x y z hx hy hz=>h.tr _ _ _ (hS x hx) (hS y hy) (hS z hz)⟩
def zG (code m:Int):Val := .mk 8 m dc0 [] [] [] code
def qGD (r:Dc × Int) (m:Int):Val:=if r.2=0 then .mk 4 m r.1 [] [] [] 0 else zG r.2 m
def vX (b:Bool) (m:Int):Val := .mk (if b=true then 3 else 2) m dc0 [] [] [] 0
def zT (c:UInt8):List UInt8→List (List UInt8)
 | []=>[[]]
 | b::r=>if b=c then []::zT c r else match zT c r with
  | []=>[[b]]
  | h::t=>(b::h)::t
theorem qPK (c:UInt8):∀ s,zT c s≠[]
 | []=>by simp [zT]
 | b::r=>by
  simp only [zT]
  split
  ·simp
  split <;> simp
theorem qEM (c:UInt8):∀ s,(zT c s).length=s.count c+1
 | []=>by simp [zT]
 | b::r=>by
  have ih:=qEM c r
  simp only [zT]
  split
  ·rename_i h; subst h; simp [ih]
  rename_i h
  rw [List.count_cons_of_ne h,← ih]
  split
  ·rename_i h2; exact absurd h2 (qPK c r)
  rename_i h2; rw [h2]; simp
theorem qGP {c:UInt8}:∀ {s},c ∉ s→zT c s=[s]
 | [],_=>rfl
 | b::r,h=>by
  simp only [List.mem_cons,not_or] at h
  simp only [zT,qGP h.2]
  rw [if_neg (fun e=>h.1 e.symm)]
theorem qGQ {c:UInt8}:∀ {a r:List UInt8},c ∉ a→zT c (a++c::r)=a::zT c r
 | [],r,_=>by simp [zT]
 | b::a,r,h=>by
  simp only [List.mem_cons,not_or] at h
  simp only [List.cons_append,zT]
  rw [if_neg (fun e=>h.1 e.symm),qGQ h.2]
theorem qHM {c:UInt8}:∀ {a r:List UInt8},c ∉ a→Lib.indexByte (a++c::r) c=a.length
 | [],r,_=>by simp [Lib.indexByte]
 | b::a,r,h=>by
  simp only [List.mem_cons,not_or] at h
  have ih:=qHM (r:=r) h.2
  simp only [List.cons_append,Lib.indexByte]
  rw [if_neg (by intro e; exact h.1 (eq_of_beq e).symm),ih,List.length_cons,if_neg (by intro e; have:=eq_of_beq e; omega)]
  omega
theorem qPY {c:UInt8} {s:List UInt8} (h:c∈s):∃ a r,s=a++c::r∧c ∉ a:=by
 induction s with
 | nil=>cases h
 | cons b s ih =>
  by_cases e:b=c
  ·subst e; exact ⟨[],s,rfl,by simp⟩
  obtain ⟨a,r,rfl,hn⟩:=ih (by rcases List.mem_cons.1 h with h | h; exact absurd h.symm e; exact h)
  exact ⟨b::a,r,rfl,by simp only [List.mem_cons,not_or]; exact ⟨fun h=>e h.symm,hn⟩⟩
theorem qTH {c:UInt8} {a r:List UInt8} (h:c ∉ a):(a++c::r).count c=r.count c+1:=by
 rw [List.count_append,List.count_cons_self,List.count_eq_zero.2 h]; omega
def kL (u:Nat):List UInt8:=if h:u=0 then [] else kL (u / 10)++[UInt8.ofNat (48+u % 10)]
termination_by u
decreasing_by omega
theorem yB:kL 0=[]:=by rw [kL]; simp
theorem xU {u:Nat} (h:0<u):kL u=kL (u / 10)++[UInt8.ofNat (48+u % 10)]:=by rw [kL]; rw [dif_neg (by omega)]
theorem qBV:∀ k u:Nat,u<10 ^ k→(kL u).length≤k
 | 0,u,h=>by
  have:u=0:=by simpa using h
  subst this; rw [yB]; simp
 | k+1,u,h=>by
  rcases Nat.eq_zero_or_pos u with h0 | h0
  ·subst h0; rw [yB]; simp
  rw [xU h0,List.length_append,List.length_singleton]
  have:=qBV k (u / 10) (by rw [Nat.pow_succ] at h; omega)
  omega
def xI (n:Int):Dc:=(wM (decide (n<0)) (kL n.natAbs) 0).1
def qGA (l:List UInt8) (k:Nat):List UInt8:=(List.range l.length).map fun i=>if i<k∨l.length-k≤i then l.getD (l.length-1-i) 0 else l.getD i 0
theorem xO (l:List UInt8) (k:Nat):(qGA l k).length=l.length:=by simp [qGA]
theorem xP (l:List UInt8) (k:Nat) {i:Nat} (h:i<l.length):(qGA l k)[i]?=some (if i<k∨l.length-k≤i then l.getD (l.length-1-i) 0 else l.getD i 0):=by
 simp [qGA,h]
theorem uP (L:List UInt8) (i:Nat) (b:UInt8):(qY L).set i (.int .u8 b.toNat)=qY (L.set i b):=by unfold qY; rw [List.map_set]
theorem qPS (l:List UInt8):qGA l 0=l:=by
 apply List.ext_getElem?
 intro i
 by_cases h:i<l.length
 ·rw [xP l 0 h,if_neg (by omega),List.getD_eq_getElem?_getD,List.getElem?_eq_getElem h]; rfl
 rw [List.getElem?_eq_none (by rw [xO]; omega),List.getElem?_eq_none (by omega)]
theorem qRO (l:List UInt8) {k:Nat} (h:l.length≤2 * k+1):qGA l k=l.reverse:=by
 apply List.ext_getElem?
 intro i
 by_cases hi:i<l.length
 ·rw [xP l k hi,List.getElem?_reverse hi]
  have h1:l[l.length-1-i]?=some (l[l.length-1-i]'(by omega)):=List.getElem?_eq_getElem _
  rw [h1]
  congr 1
  split
  ·rw [List.getD_eq_getElem?_getD,h1]; rfl
  have h2:l[i]?=some (l[l.length-1-i]'(by omega)):=by rw [← h1]; congr 1; omega
  rw [List.getD_eq_getElem?_getD,h2]; rfl
 rw [List.getElem?_eq_none (by rw [xO]; omega),List.getElem?_eq_none (by rw [List.length_reverse]; omega)]
theorem qPT (l:List UInt8) {k:Nat} (h:2 * k+1<l.length):((qGA l k).set k (l.getD (l.length-1-k) 0)).set (l.length-1-k) (l.getD k 0)=qGA l (k+1):=by
 apply List.ext_getElem?
 intro i
 by_cases hi:i<l.length
 ·rw [xP l (k+1) hi,List.getElem?_set,List.getElem?_set]
  simp only [List.length_set,xO]
  by_cases h1:l.length-1-k=i
  ·subst h1
   rw [if_pos rfl,if_pos (by omega),if_pos (.inr (by omega)),show l.length-1-(l.length-1-k)=k by omega]
  rw [if_neg h1]
  by_cases h2:k=i
  ·subst h2
   rw [if_pos rfl,if_pos (by omega),if_pos (.inl (by omega))]
  rw [if_neg h2,xP l k hi]
  congr 1
  by_cases h3:i<k∨l.length-k≤i
  ·rw [if_pos h3,if_pos (by omega)]
  rw [if_neg h3,if_neg (by omega)]
 rw [List.getElem?_eq_none (by simp [xO]; omega),List.getElem?_eq_none (by rw [xO]; omega)]
theorem qTA (u:Nat):(kL u).all zA=true:=by
 induction u using Nat.strongRecOn with
 | _ u ih =>
  rcases Nat.eq_zero_or_pos u with h | h
  ·subst h; rw [yB]; rfl
  rw [xU h,List.all_append,ih (u / 10) (by omega)]
  have:zA (UInt8.ofNat (48+u % 10))=true:=by
   rw [wK,UInt8.toNat_ofNat']; omega
  rw [List.all_cons,this]; rfl
theorem qIC (s:List UInt8) (h:qP s≠[]):qO (qP s) 0≠48:=by
 unfold qP at h ⊢
 have:=List.head?_dropWhile_not (fun b:UInt8=>b == 48) s
 cases hs:s.dropWhile (fun b=>b == 48) with
 | nil=>exact absurd hs h
 | cons b r =>
  rw [hs] at this
  simp only [List.head?_cons] at this
  have hb:¬ b=48:=by simpa using this
  unfold qO
  simp only [List.getD_cons_zero]
  intro e
  exact hb (UInt8.toNat_inj.1 (by show b.toNat=48; omega))
theorem qSM {n:Int} (h0 : -9223372036854775808≤n) (h1:n≤9223372036854775807):yX (xI n)=true:=by
 have hl:=qBV 20 n.natAbs (by omega)
 have hd:=qTA n.natAbs
 have hsl:(qP (kL n.natAbs)).length≤20:=Nat.le_trans (List.dropWhile_sublist _).length_le hl
 have hsd:(qP (kL n.natAbs)).all zA=true:=by
  rw [List.all_eq_true] at hd ⊢
  exact fun b hb=>hd b ((List.dropWhile_sublist _).subset hb)
 have hh:=qIC (kL n.natAbs)
 have e:xI n=if qP (kL n.natAbs)=[] then ⟨false,[48],0⟩ else ⟨decide (n<0),qP (kL n.natAbs),0⟩:=by
  have ht:wC (qP (kL n.natAbs)) 0=(qP (kL n.natAbs),0):=rfl
  unfold xI wM
  rw [ht]
  by_cases h:qP (kL n.natAbs)=[]
  ·rw [if_pos h,if_pos h]
  rw [if_neg h,if_neg h,if_neg (by simp only; omega)]; rfl
 rw [e]
 generalize qP (kL n.natAbs)=s at *
 split
 ·decide
 rename_i hne
 have hpos:0<s.length:=List.length_pos_iff.2 hne
 have h48:¬ s=[48]:=by
  intro he; exact hh hne (by rw [he]; rfl)
 unfold yX
 simp only
 rw [if_neg h48,hsd]
 have:=hh hne
 simp [this]; omega
def qRW (m:Int):Val := .mk 1 m dc0 [] [] [] 0
def wB (s:List UInt8) (m:Int):Val:=if 4096<s.length then zG 3 m else .mk 5 m dc0 s [] [] 0
def kT (l:List Val) (m:Int):Val:=if 200<l.length then zG 3 m else .mk 6 m dc0 [] [] l 0
def qAC (n:Int) (m:Int):Val:=qGD (xI n,0) m
def qKL:Nat→Nat→List UInt8→List UInt8
 | 0,n,s=>s
 | f+1,n,s=>if 9<n then qKL f (n / 10) (UInt8.ofNat (48+n % 10)::s) else UInt8.ofNat (48+n)::s
theorem qKH:∀ (f n:Nat) (s:List UInt8),0<n→n<10 ^ f→qKL f n s=kL n++s
 | 0,n,s,h0,h=>by simp at h; omega
 | f+1,n,s,h0,h1=>by
  simp only [qKL]
  rw [xU h0,List.append_assoc]
  have hf:n / 10<10 ^ f:=by rw [Nat.pow_succ] at h1; omega
  by_cases h9:9<n
  ·rw [if_pos h9,qKH f (n / 10) _ (by omega) hf]; rfl
  rw [if_neg h9,show n / 10=0 by omega,yB,show n % 10=n by omega]; rfl
theorem qHQ (u:Nat) (h:0<u):∃ b r,kL u=b::r∧b≠48:=by
 induction u using Nat.strongRecOn with
 | _ u ih =>
  rcases Nat.eq_zero_or_pos (u / 10) with h0 | h0
  ·refine ⟨UInt8.ofNat (48+u % 10),[],by rw [xU h,h0,yB]; rfl,fun e => ?_⟩
   have:=congrArg UInt8.toNat e
   rw [UInt8.toNat_ofNat'] at this
   simp at this
   omega
  obtain ⟨b,r,e,hb⟩:=ih (u / 10) (by omega) h0
  exact ⟨b,r++[UInt8.ofNat (48+u % 10)],by rw [xU h,e]; rfl,hb⟩
theorem qMF (u:Nat):qP (kL u)=kL u:=by
 rcases Nat.eq_zero_or_pos u with h | h
 ·subst h; rw [yB]; rfl
 obtain ⟨b,r,e,hb⟩:=qHQ u h
 rw [e]
 unfold qP
 rw [List.dropWhile_cons,if_neg (by simpa using hb)]
theorem qSL {n:Nat} (h:n<1000000):(xI (n:Int)).digits=qKL 20 n []:=by
 have hl:=qBV 6 n (by omega)
 unfold xI wM
 simp only [Int.natAbs_natCast,qMF,wC]
 rcases Nat.eq_zero_or_pos n with h0 | h0
 ·subst h0; rw [yB]; rfl
 obtain ⟨b,r,e,hb⟩:=qHQ n h0
 rw [if_neg (by rw [e]; simp),if_neg (by omega),qKH 20 n [] h0 (by omega),List.append_nil]
end Go.Proofs.YtgcbapchinideaaGreatDoor
