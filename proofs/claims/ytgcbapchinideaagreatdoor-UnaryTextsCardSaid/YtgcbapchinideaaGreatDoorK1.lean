import Derived.Test.YtgcbapchinideaaGreatDoorM4
import Derived.Test.YtgcbapchinideaaGreatDoorM3
import Derived.Test.YtgcbapchinideaaGreatDoorM1
import Derived.Maps.RangeRun
import Derived.Laws.RangeString
import Derived.Lib.RuneCount
import Derived.Lib.ValidU
import Derived.Lib.LaidU8T
import Derived.Lib.MapLaws
import Derived.Lib.ValidLaws
import Derived.RangeFuncBox
import Derived.RangeFuncLeaves
import Derived.Shelf.Abstract
import Derived.WalkKit
import Derived.OwnWalkIn
import Derived.TacticsInMore
import Derived.LoopNIn
import Derived.LoopIn
import Derived.Maps.AppendAt
import Derived.Shelf.Sort.Plain
import Derived.Test.YtgcbapchinideaaGreatDoorProg
import Derived.Shelf.Unicode.DecodeAny
import Derived.Shelf.Small.Strs
import Derived.Shelf.Strings.Repeat
import Derived.Shelf.Strings.Builder1
import Derived.Shelf.Strings.OnBuilder
import Derived.Shelf.Slices.In.SortNone
import Derived.Sort.OwnSorted
import Derived.Lib.Repeat
import Derived.Shelf.Unicode.ValidAny
import Derived.Lib.Bytealg
import Derived.Lib.AppendZerosOnto
import Derived.Scope
import Derived.Control
namespace Go.Proofs.YtgcbapchinideaaGreatDoor
open Sy Go
set_option maxRecDepth 100000
set_option linter.unusedSimpArgs false
set_option linter.unusedVariables false
structure Dc where
 neg:Bool
 digits:List UInt8
 scale:Int
 deriving DecidableEq
@[simp] def Dc.enc (d:Dc):PD := .agg [.bool d.neg,.str d.digits,.int .i64 d.scale]
inductive Val where
 | mk (kind mask:Int) (num:Dc) (text:List UInt8) (keys:List (List UInt8)) (kids:List Val) (code:Int)
def Val.kind:Val→Int
 | .mk k _ _ _ _ _ _=>k
def Val.mask:Val→Int
 | .mk _ m _ _ _ _ _=>m
def Val.num:Val→Dc
 | .mk _ _ n _ _ _ _=>n
def Val.text:Val→List UInt8
 | .mk _ _ _ t _ _ _=>t
def Val.keys:Val→List (List UInt8)
 | .mk _ _ _ _ ks _ _=>ks
def Val.kids:Val→List Val
 | .mk _ _ _ _ _ vs _=>vs
def Val.code:Val→Int
 | .mk _ _ _ _ _ _ c=>c
@[simp] theorem Val.kind_mk (k m:Int) (n:Dc) (t:List UInt8) (ks:List (List UInt8)) (vs:List Val) (c:Int):(Val.mk k m n t ks vs c).kind=k:=rfl
@[simp] theorem Val.mask_mk (k m:Int) (n:Dc) (t:List UInt8) (ks:List (List UInt8)) (vs:List Val) (c:Int):(Val.mk k m n t ks vs c).mask=m:=rfl
@[simp] theorem Val.num_mk (k m:Int) (n:Dc) (t:List UInt8) (ks:List (List UInt8)) (vs:List Val) (c:Int):(Val.mk k m n t ks vs c).num=n:=rfl
@[simp] theorem Val.text_mk (k m:Int) (n:Dc) (t:List UInt8) (ks:List (List UInt8)) (vs:List Val) (c:Int):(Val.mk k m n t ks vs c).text=t:=rfl
@[simp] theorem Val.keys_mk (k m:Int) (n:Dc) (t:List UInt8) (ks:List (List UInt8)) (vs:List Val) (c:Int):(Val.mk k m n t ks vs c).keys=ks:=rfl
@[simp] theorem Val.kids_mk (k m:Int) (n:Dc) (t:List UInt8) (ks:List (List UInt8)) (vs:List Val) (c:Int):(Val.mk k m n t ks vs c).kids=vs:=rfl
@[simp] theorem Val.code_mk (k m:Int) (n:Dc) (t:List UInt8) (ks:List (List UInt8)) (vs:List Val) (c:Int):(Val.mk k m n t ks vs c).code=c:=rfl
mutual
def Val.enc:Val→PD
 | .mk k m n t ks vs c => .agg [.int .i64 k,.int .u64 m,.bool n.neg,.str n.digits,.int .i64 n.scale,.str t,.sl 1 (ks.map PD.str),.sl 9 (Val.encL vs),.int .i64 c]
def Val.encL:List Val→List PD
 | []=>[]
 | v::vs=>Val.enc v::Val.encL vs
end
def dc0:Dc:=⟨false,[],0⟩
theorem Val.encL_map:∀ l,Val.encL l=l.map Val.enc
 | []=>by simp only [Val.encL,List.map_nil]
 | v::vs=>by simp only [Val.encL,List.map_cons,Val.encL_map vs]
@[simp] theorem Val.enc_def (v:Val):v.enc = .agg [.int .i64 v.kind,.int .u64 v.mask,.bool v.num.neg,.str v.num.digits,.int .i64 v.num.scale,.str v.text,.sl 1 (v.keys.map PD.str),.sl 9 (v.kids.map Val.enc),.int .i64 v.code]:=by
 cases v; simp only [Val.enc,Val.encL_map,Val.kind,Val.mask,Val.num,Val.text,Val.keys,Val.kids,Val.code]
mutual
def Val.sz:Val→Nat
 | .mk _ _ _ _ _ vs _=>1+Val.szL vs
def Val.szL:List Val→Nat
 | []=>0
 | v::vs=>Val.sz v+Val.szL vs
end
theorem Val.szL_mem {k:Val}:∀ {l:List Val},k∈l→Val.sz k≤Val.szL l
 | v::vs,h=>by
  simp only [Val.szL]
  rcases List.mem_cons.1 h with rfl | h
  ·omega
  have:=Val.szL_mem h; omega
theorem Val.sz_kid {v k:Val} (h:k∈v.kids):Val.sz k<Val.sz v:=by
 cases v; simp only [Val.kids] at h; simp only [Val.sz]; have:=Val.szL_mem h; omega
theorem Val.induct {p:Val→Prop} (h:∀ v,(∀ k∈v.kids,p k)→p v) (v:Val):p v:=by
 have key:∀ n v,Val.sz v=n→p v:=by
  intro n
  induction n using Nat.strongRecOn with
  | _ n ih=>intro v hv; exact h v fun k hk=>ih _ (hv ▸ Val.sz_kid hk) k rfl
 exact key _ v rfl
theorem Val.ext {a b:Val} (h1:a.kind=b.kind) (h2:a.mask=b.mask) (h3:a.num=b.num) (h4:a.text=b.text) (h5:a.keys=b.keys) (h6:a.kids=b.kids) (h7:a.code=b.code):a=b:=by
 cases a; cases b; simp_all [Val.kind,Val.mask,Val.num,Val.text,Val.keys,Val.kids,Val.code]
theorem Dc.ext' {a b:Dc} (h1:a.neg=b.neg) (h2:a.digits=b.digits) (h3:a.scale=b.scale):a=b:=by cases a; cases b; simp_all
end Go.Proofs.YtgcbapchinideaaGreatDoor
namespace Go.Proofs.YtgcbapchinideaaGreatDoor.Sy
open Go
section
variable {P:Program} {T:Tab} {G:qJ} {Q:Exit→St→Prop} {st st':St}
theorem Turned.refl (w:World) (b:Nat):Turned w w b:=⟨rfl,rfl,rfl,rfl,fun _ _=>rfl⟩
theorem Rel.beginBox {c : Ctx} {M : qQ} {μ : Mu} {st : St} {tmps : Array Value} {w : World} (r : Rel c M μ st tmps w) {id k j : Nat} {e : TypeId} {cells : List V} (hb : zE id st.H = some (.vars e cells)) (hj : cells[j]? = some .nilsl)
  (hf:st.fresh k=true) (e':TypeId) (sz:Nat):∃ μ',Rel c M μ' { st with H:=zL id (.vars e (cells.set j (.ms k))) ((k,.row e' sz [])::st.H) } tmps w:=by
 have hm:=qW hb
 have hk:qH id st.H=true:=qD.2 ⟨_,hm⟩
 have hne:id≠k:=by
  rintro rfl
  have:=(St.fresh_spec hf).2.2.2
  rw [hk] at this; cases this
 have r1:=r.adopt (l:=⟨none,.slice none 0 0⟩) hf (fun b hb=>by cases hb) (bx := .row e' sz []) (.rowN (by rw [qM]) (by rw [qM]))
 have hbx:=r1.box id _ (List.mem_cons_of_mem _ hm)
 cases hbx with
 | @vars _ _ b arr h0 hh hs ho hc =>
 refine ⟨_,r1.write (id:=id) (b:=b) (w':=w) (bx := .vars e (cells.set j (.ms k))) (by simp [qH,hk]) h0 (Turned.refl w b) (.vars h0 hh (by simpa using hs) ho fun i u x hu hx => ?_)⟩
 rw [List.getElem?_set] at hx
 split at hx
 ·rename_i hji
  subst hji
  split at hx
  ·cases hx
   have:=hc j u .nilsl hu hj
   cases this
   exact .ms (by rw [qM]) rfl
  cases hx
 exact hc i u x hu hx
theorem AW.beginBox {c : Code} (id k j : Nat) (e' : TypeId) (sz : Nat) {e : TypeId} {cells : List V} (hb : zE id st.H = some (.vars e cells)) (hj : cells[j]? = some .nilsl) (hf : st.fresh k = true)
  (h:({ st with H:=zL id (.vars e (cells.set j (.ms k))) ((k,.row e' sz [])::st.H) }:St)=st') (k:AW P G c Q st'):AW P G c Q st:=fun x M μ tmps w hg r=>by
 obtain ⟨μ',r'⟩:=r.beginBox hb hj hf e' sz
 exact k x M μ' tmps w hg (h ▸ r')
theorem qF.beginBox {ops : Array Oper} {l : List Oper} {orc : List PD} (id k j : Nat) (e' : TypeId) (sz : Nat) {e : TypeId} {cells : List V} (hb : zE id st.H = some (.vars e cells)) (hj : cells[j]? = some .nilsl) (hf : st.fresh k = true)
  (h:({ st with H:=zL id (.vars e (cells.set j (.ms k))) ((k,.row e' sz [])::st.H) }:St)=st') (k:qF P G ops Q l st' orc):qF P G ops Q l st orc:=fun x M μ tmps w hg r=>by
 obtain ⟨μ',r'⟩:=r.beginBox hb hj hf e' sz
 exact k x M μ' tmps w hg (h ▸ r')
end
set_option linter.unusedSimpArgs false
section
variable {P:Program} {T:Tab} {G:qJ} {Q:Exit→St→Prop} {st st':St}
def xP (ks:List (List UInt8)) (vs:List V) (s:List UInt8) (v:V):List V:=if s∈ks then vs.set (ks.idxOf s) v else vs++[v]
theorem qSB (hT : TOK P T) {o : Oper} {t el : TypeId} {x y : Operand} (ho : o.op = .slice t x none (some y) none) (ht : zH T t = some (.sl el)) {p q : Prop} {id : Nat} {kd : IntKind} {z : Int} (n : Nat)
  (h1:st.arg G x=(p,.ms id)) (hp:p) (h2:st.arg G y=(q,.p (.int kd z))) (hq:q) {e sz:Nat} {es:List PD} {ti:TI} (hti:T el=some ti) (hb:zE id st.H=some (.row e sz es)) (hn:n≤es.length) (hz:z=(n:Int)) :
  qU P G o st (.ms id) { st.kill id with H:=(id,.row e sz (es.take n))::(st.kill id).H }:=by
 subst hz
 intro c M μ tmps w hg r
 have hd:=hT.sl ht
 obtain ⟨i,de,hi',_,_,hsz,_⟩:=hT.get hti
 have hso:(sizeOf el).run P w = .ok ti.size w:=by simp [sizeOf,typeInfo,hi',hsz]
 have e1:=qB hg r h1 hp
 have e2:=(qB hg r h2 hq).p_inv
 generalize hu1:Act.eval ⟨tmps,[]⟩ x=u1 at e1
 generalize hu2:Act.eval ⟨tmps,[]⟩ y=u2 at e2
 cases e1 with
 | ms hval hone =>
 cases e2 with
 | int _ _ =>
 have hm:=qW hb
 have hk:qH id st.H=true:=qD.2 ⟨_,hm⟩
 have rk:=r.kill id
 have hbx:=r.box id _ hm
 cases hbx with
 | rowN h0 hv =>
  rw [hv] at hval
  subst hval
  obtain rfl:n=0:=by simpa using hn
  have hbd:=yK (P:=P) (isSlice:=true) (len:=0) (cap:=0) (lo:=none) (hi:=some (.int kd 0)) (l:=0) (h:=0) (.inl ⟨rfl,rfl⟩) (.inr ⟨kd,rfl⟩) (by omega) (by omega) (by omega) w
  have er:(execOp (Act.eval ⟨tmps,[]⟩) o).run P w = .ok (.value (.slice none 0 0)) w:=by
   simp at hbd
   simp [execOp,ho,hu1,hu2,Instr.sliceAt,Instr.slice,run_underlying hd,hbd,hso]
  rw [er]
  exact ⟨M,upd μ id ⟨none,.slice none 0 0⟩,rk.adopt (l:=⟨none,.slice none 0 0⟩) (jB st id) (fun b hb=>by cases hb) (.rowN (by rw [qM]) (by rw [qM])),.ms (by rw [qM]) rfl⟩
 | @row _ _ _ b cap arr h0 hv hh has hlc hcm hone' hz hcc =>
  rw [hv] at hval
  subst hval
  have hbd:=yK (P:=P) (isSlice:=true) (len:=es.length) (cap:=cap) (lo:=none) (hi:=some (.int kd n)) (l:=0) (h:=n) (.inl ⟨rfl,rfl⟩) (.inr ⟨kd,rfl⟩) (by omega) (by omega) (by omega) w
  have er:(execOp (Act.eval ⟨tmps,[]⟩) o).run P w = .ok (.value (.slice (some ⟨b,0,none⟩) n cap)) w:=by
   simp at hbd
   have ha:(if cap=0 then (some (⟨b,0,none⟩:Addr)) else (some (⟨b,0,none⟩:Addr)).map (·.add (0 * ti.size)))=some ⟨b,0,none⟩:=by
    split
    ·rfl
    simp [Addr.add]
   simp [execOp,ho,hu1,hu2,Instr.sliceAt,Instr.slice,run_underlying hd,hbd,hso]
   try simpa using ha
  rw [er]
  have hown:=r.own id b hk h0
  refine ⟨M,upd μ id ⟨some b,.slice (some ⟨b,0,none⟩) n cap⟩,rk.adopt (l:=⟨some b,.slice (some ⟨b,0,none⟩) n cap⟩) (jB st id) (fun b' hb' => ?_) (.row (cap:=cap) (by rw [qM]) (by rw [qM]; simp [Nat.min_eq_left hn]) hh has (by simp; omega) hcm hone' (fun i e' he=>hz i e' ?_) fun i e' j d u he hd hu=>hcc i e' j d u ?_ hd hu),.ms (by rw [qM]) rfl⟩
  ·cases hb'; exact ⟨hown.1,hown.2.1,hown.2.2,qFC r hk h0⟩
  ·rw [List.getElem?_take] at he; split at he
   ·exact he
   cases he
  rw [List.getElem?_take] at he; split at he
  ·exact he
  cases he
theorem qFY {o : Oper} {st : St} {x a b : Operand} {tys : Array TypeId} {f : FuncId} (he : qPY P f Extern.BytealgCount.count)
  (ho:o.op = .call { callee := .value x,args := #[a,b],argTypes:=tys }) {p q r:Prop} {s:List UInt8} {n:Int} (hf:st.arg G x=(p,.p (.fn f))) (hp:p)
  (ha:st.arg G a=(q,.p (.str s))) (hq:q) (hb:st.arg G b=(r,.p (.int .u8 n))) (hr:r):qU P G o st (.p (.int .i64 (s.count n.toNat.toUInt8:Nat))) st:=by
 intro c M μ tmps w hg rel
 have h1:=(qB hg rel hf hp).p_inv
 have h2:=(qB hg rel ha hq).p_inv
 have h3:=(qB hg rel hb hr).p_inv
 generalize hu1:Act.eval ⟨tmps,[]⟩ x=u1 at h1
 generalize hu2:Act.eval ⟨tmps,[]⟩ a=u2 at h2
 generalize hu3:Act.eval ⟨tmps,[]⟩ b=u3 at h3
 cases h1
 cases h3
 cases h2 with
 | @str bb _ hs hm =>
 have e:(execOp (Act.eval ⟨tmps,[]⟩) o).run P w = .ok (.value (.int .i64 (s.count n.toNat.toUInt8:Nat))) w:=by
  have e1:=he #[.string bb,.int .u8 n] w
  rw [Lib.run_countString] at e1
  subst hs
  simp only [execOp,ho,resolve,Deferred.ofValue,hu1,invoke]
  simpa [hu2,hu3,Lib.countByte] using e1
 rw [e]
 have hc:s.count n.toNat.toUInt8≤s.length:=List.count_le_length
 simp [maxLen] at hm
 exact ⟨M,μ,rel,.p (Rd.intOf (by simp [wN]) (by simp only [wO]; omega))⟩
end
end Go.Proofs.YtgcbapchinideaaGreatDoor.Sy
namespace Go.Proofs.YtgcbapchinideaaGreatDoor
open Sy Go
set_option maxRecDepth 100000
set_option maxHeartbeats 4000000
set_option linter.unusedSimpArgs false
set_option linter.unusedVariables false
variable {G:qJ}
theorem qRG (ks:List (List UInt8)) (hn:ks.length≤1000000):AX Tryz.prog G 140 [.p (.sl 1 (ks.map PD.str))] [] (.ms 905) [] [(905,.row 9 1 (ks.map PD.str))]:=by
 refine AX.introU tok 900 Tryz.func140 (by kernel_rfl) rfl rfl ?_
 simp only [Tryz.f140,qK,List.map_cons,List.map_nil]
 refine rgn [] [[0]] ?_
 refine op1 tok ?_
 refine qA (AW.seq (rgn [] [[]] ?_))
 refine op1 tok ?_
 refine zG ?_
 refine qF.nilEq tok [0,4] rfl rfl (by conv=>lhs; simp) trivial rfl ?_
 intro bn1 hbn1
 refine qF.same (by conv=>lhs; simp) ?_
 refine qF.nil ?_
 refine cnd ?_ ?_
 ·intro h4
  try simp at h4
  have hks:ks=[]:=by
   by_cases h:ks=[]
   ·exact h
   rw [hbn1 (by simpa using h)] at h4; cases h4
  subst hks
  refine rgn [] [[]] ?_
  refine op1 tok ?_
  refine qA ?_
  refine AW.beginE 2 905 9 1 (by simp) (by simp) (by conv=>lhs; simp) ?_
  exact AW.ret wD
 intro h4
 try simp at h4
 refine AW.skip (rgn [] [[],[],[],[2]] ?_)
 iterate 4 refine op1 tok ?_
 refine qA ?_
 exact AW.ret wD
theorem qRH (ks:List (List UInt8)) (hn:ks.length≤1000000):AR Tryz.prog G 140 [.sl 1 (ks.map PD.str)] 9 1 (ks.map PD.str):=AR.of_AX (k:=905) (by simpa using qRG ks hn)
theorem qRF (vs:List Val) (hn:vs.length≤1000000):AX Tryz.prog G 38 [.p (.sl 9 (vs.map Val.enc))] [] (.ms 905) [] [(905,.row 31 9 (vs.map Val.enc))]:=by
 refine AX.introU tok 900 Tryz.func38 (by kernel_rfl) rfl rfl ?_
 simp only [Tryz.f38,qK,List.map_cons,List.map_nil]
 refine rgn [] [[0]] ?_
 refine op1 tok ?_
 refine qA (AW.seq (rgn [] [[]] ?_))
 refine op1 tok ?_
 refine zG ?_
 refine qF.nilEq tok [0,4] rfl rfl (by conv=>lhs; simp) trivial rfl ?_
 intro bn1 hbn1
 refine qF.same (by conv=>lhs; simp) ?_
 refine qF.nil ?_
 refine cnd ?_ ?_
 ·intro h4
  try simp at h4
  have hks:vs=[]:=by
   by_cases h:vs=[]
   ·exact h
   rw [hbn1 (by simpa using h)] at h4; cases h4
  subst hks
  refine rgn [] [[]] ?_
  refine op1 tok ?_
  refine qA ?_
  refine AW.beginE 2 905 31 9 (by simp) (by simp) (by conv=>lhs; simp) ?_
  exact AW.ret wD
 intro h4
 try simp at h4
 refine AW.skip (rgn [] [[],[],[],[2]] ?_)
 iterate 4 refine op1 tok ?_
 refine qA ?_
 exact AW.ret wD
theorem uQ (vs:List Val) (hn:vs.length≤1000000):AR Tryz.prog G 38 [.sl 9 (vs.map Val.enc)] 31 9 (vs.map Val.enc):=AR.of_AX (k:=905) (by simpa using qRF vs hn)
theorem qUD {s:List UInt8} {pos:Nat} (h:pos<s.length):1≤(qGM s pos).2:=Lib.decode_width_pos _ _ (by simpa [ByteArray.size] using h)
def qTZ (n:Int):Bool:=decide (48≤n) && decide (n≤57)
def zB (b:UInt8):Bool:=qTZ b.toNat
def zR (s:List UInt8) (i:Nat):Int:=((s.getD i 0).toNat:Int)
theorem qFR {s:List UInt8} {i:Nat} (h:i<s.length):s[i]?=some (s.getD i 0):=by simp [List.getD_eq_getElem?_getD,h]
def xJ (n:Nat):List UInt8:=List.replicate n 48
def qT (s:List UInt8):List UInt8:=s.dropWhile (· == 48)
def kI (d:List UInt8):Nat→List UInt8 × Nat
 | 0=>(d,0)
 | k+1=>if d.getLast?=some 48 then kI d.dropLast k else (d,k+1)
def jF (neg:Bool) (digits:List UInt8) (scale:Nat):Dc × Int :=
 let x:=kI (qT digits) scale
 if x.1=[] then (⟨false,[48],0⟩,0) else if 60<x.1.length∨60<x.2 then (⟨false,[],0⟩,3) else (⟨neg,x.1,x.2⟩,0)
theorem qMG {d:List UInt8} (h:0<d.length):zR d (d.length-1)=48↔d.getLast?=some 48:=by
 rw [List.getLast?_eq_getElem?,zR,List.getD_eq_getElem?_getD,qFR (by omega)]
 simp only [Option.getD_some,Option.some.injEq]
 constructor
 ·intro h2; exact UInt8.toNat_inj.1 (by have:((d.getD (d.length-1) 0).toNat:Int)=48:=h2; show (d.getD (d.length-1) 0).toNat=48; omega)
 intro h2; rw [h2]; rfl
theorem qBY (d:List UInt8):d.take (d.length-1)=d.dropLast:=(List.dropLast_eq_take).symm
def yT (d:Dc):Bool:=d.digits.all zB && decide (1≤d.digits.length∧d.digits.length≤60∧0≤d.scale∧d.scale≤60) &&
 (if d.digits=[48] then decide (d.scale=0) && !d.neg else decide (zR d.digits 0≠48) && (decide (d.scale=0) || decide (zR d.digits (d.digits.length-1)≠48)))
theorem qRE {d : Dc} (h : 1 ≤ d.digits.length ∧ d.digits.length ≤ 60 ∧ 0 ≤ d.scale ∧ d.scale ≤ 60) (ha : d.digits.all zB = true) :
  yT d=(if d.digits=[48] then decide (d.scale=0) && !d.neg else decide (zR d.digits 0≠48) && (decide (d.scale=0) || decide (zR d.digits (d.digits.length-1)≠48))):=by
 unfold yT; rw [ha,show decide (1≤d.digits.length∧d.digits.length≤60∧0≤d.scale∧d.scale≤60)=true by simpa using h]; simp
namespace Sy
variable {P:Program} {G:qJ}
theorem AFn.of_calls {f : FuncId} {args : List PD} {r : PD} (hc : jG P f) (h : ∀ (M : qQ) (w : World) (vs : Array Value), GOK G M w → (∀ b o v, M b o = some v → w.cell? ⟨b, o, none⟩ = some v) → vs.size = args.length →
  (∀ (i:Nat) u d,vs[i]?=some u→args[i]?=some d→Rd M u d)→Calls P f vs w fun e w'=>∃ v,e = .returned v∧Rd M v r∧RowKit.Below w.heap.size w w'):AFn P G f args r:=by
 refine ⟨hc,fun M w vs hg hmem hsz hrd=>(h M w vs hg hmem hsz hrd).mono ?_⟩
 rintro e w' ⟨v,rfl,hv,hb⟩
 refine ⟨v,M,rfl,hv,fun b o u hu => ?_,fun _ _ _ h=>h,fun _ _ _=>rfl,hb⟩
 have h1:=hmem b o u hu
 exact (World.cell?_of_block (w:=w) (hb.block b (yO h1))).trans h1
theorem wV {f : FuncId} {fn : Func} {c : Code} (hf : P.funcs[f]? = some fn) (hn : (fn.name == "runtime.NumGoroutine") = false) (hb : fn.body = some c) : jG P f := ⟨fn, c, hf, hn, hb⟩
theorem qPW {M:qQ} {vs:Array Value} {s:List UInt8} (hsz:vs.size=1) (h:∀ (i:Nat) u d,vs[i]?=some u→[PD.str s][i]?=some d→Rd M u d):∃ b:ByteArray,vs = #[.string b]∧b.data.toList=s∧b.size≤maxLen:=by
 obtain ⟨l⟩:=vs
 match l,hsz with
 | [u],_ =>
  have:=h 0 u (.str s) rfl rfl
  cases this with
  | @str b _ hs hm=>exact ⟨b,rfl,hs,by rw [yD hs]; exact hm⟩
def qCN:List PD:=(List.range 256).map fun c => .int .u8 (Lib.firstT c)
def qOQ:List PD:=(List.range 32).map fun i => .int .u8 (if i % 2=0 then Lib.accLo (i / 2) else Lib.accHi (i / 2))
def qMQ (g3 g4:Nat) (G:qJ):Prop:=G g3=some qCN∧G g4=some qOQ
theorem qVM {g3 g4:Nat} {M:qQ} {w:World} (hG:qMQ g3 g4 G) (hg:GOK G M w) (hmem:∀ b o v,M b o=some v→w.cell? ⟨b,o,none⟩=some v):Lib.Utf8Tabs g3 g4 w:=by
 have key:∀ (g:Nat) (cs:List PD) (j:Nat) (n:Int),G g=some cs→cs[j]?=some (.int .u8 n)→w.cell? ⟨g,j,none⟩=some (.int .u8 n):=by
  intro g cs j n h1 h2
  obtain ⟨h3,h4⟩:=hg.1 g cs h1
  obtain ⟨u,hu,_⟩:=h3 j _ h2
  have:=h4 j _ u h2 hu
  cases this
  exact hmem _ _ _ hu
 refine ⟨fun c hc=>key _ _ _ _ hG.1 (by simp [qCN,hc]),fun i hi=>⟨key _ _ _ _ hG.2 ?_,key _ _ _ _ hG.2 ?_⟩⟩
 ·simp [qOQ,show 2 * i<32 by omega]
 simp only [qOQ,List.getElem?_map,List.getElem?_range (show 2 * i+1<32 by omega),Option.map_some]
 rw [if_neg (by omega),show (2 * i+1) / 2=i by omega]
def u8G (g3 g4:Nat):qJ:=fun g=>if g=g3 then some qCN else if g=g4 then some qOQ else none
theorem qVN {g3 g4:Nat} (h:g4≠g3):qMQ g3 g4 (u8G g3 g4):=⟨by simp [u8G],by simp [u8G,h]⟩
theorem qXE {g3 g4:Nat} {W:World} (h:Lib.Utf8Tabs g3 g4 W) (hne:g4≠g3):GOK (u8G g3 g4) (kP W) W:=by
 have one : ∀ (g j : Nat) (cs : List PD), (∀ (j : Nat) d, cs[j]? = some d → ∃ n : Int, d = .int .u8 n ∧ 0 ≤ n ∧ n ≤ 255 ∧ W.cell? ⟨g, j, none⟩ = some (.int .u8 n)) →
   (∀ (j:Nat) d,cs[j]?=some d→∃ u,kP W g j=some u∧u.oneCell'=true)∧(∀ (j:Nat) d u,cs[j]?=some d→kP W g j=some u→Rd (kP W) u d):=by
  intro g _ cs hc
  refine ⟨fun j d hd => ?_,fun j d u hd hu => ?_⟩
  ·obtain ⟨n,rfl,_,_,h⟩:=hc j d hd; exact ⟨_,h,rfl⟩
  obtain ⟨n,rfl,h0,h1,h⟩:=hc j d hd
  have:some u=some (Value.int .u8 n):=hu.symm.trans h
  cases this
  exact .int (by rw [wY]; exact h0) (by rw [wR]; exact h1)
 have hft:∀ c,(0:Int)≤Lib.firstT c∧(Lib.firstT c:Int)≤255:=fun c=>by
  rcases Lib.firstT_cases c with h | h | h | h | h | h | h | h | h <;> rw [h] <;> omega
 have hno:GX (u8G g3 g4) W:=fun g cs hg ht=>by
  simp only [u8G] at hg
  split at hg
  ·cases hg; exact absurd ht (by rw [show qPP qCN=false from rfl]; simp)
  split at hg
  ·cases hg; exact absurd ht (by rw [show qPP qOQ=false from rfl]; simp)
  cases hg
 refine ⟨?_,hno⟩
 intro g cs hg
 simp only [u8G] at hg
 split at hg
 ·rename_i e
  subst e
  cases hg
  refine one g 0 _ fun j d hd => ?_
  have hj:j<256:=by have:=(List.getElem?_eq_some_iff.1 hd).1; simpa [qCN] using this
  simp [qCN,hj] at hd
  exact ⟨_,hd.symm,(hft j).1,(hft j).2,h.1 j hj⟩
 split at hg
 ·rename_i _ e
  subst e
  cases hg
  refine one g 0 _ fun j d hd => ?_
  have hj:j<32:=by have:=(List.getElem?_eq_some_iff.1 hd).1; simpa [qOQ] using this
  simp only [qOQ,List.getElem?_map,List.getElem?_range hj,Option.map_some,Option.some.injEq] at hd
  have hb:=h.2 (j / 2) (by omega)
  have hacc:∀ i,i<16→(0:Int)≤Lib.accLo i∧(Lib.accLo i:Int)≤255∧(0:Int)≤Lib.accHi i∧(Lib.accHi i:Int)≤255:=by decide
  have hac:=hacc (j / 2) (by omega)
  by_cases h2:j % 2=0
  ·rw [if_pos h2] at hd
   exact ⟨_,hd.symm,hac.1,hac.2.1,by have:=hb.1; rwa [show 2 * (j / 2)=j by omega] at this⟩
  rw [if_neg h2] at hd
  exact ⟨_,hd.symm,hac.2.2.1,hac.2.2.2,by have:=hb.2; rwa [show 2 * (j / 2)+1=j by omega] at this⟩
 cases hg
end Sy
abbrev U8 (G:qJ):Prop:=qMQ 1 2 G
@[simp] def Val.cells (v:Val):List V:=[.p (.int .i64 v.kind),.p (.int .u64 v.mask),.p (.bool v.num.neg),.p (.str v.num.digits),.p (.int .i64 v.num.scale),.p (.str v.text),.p (.sl 1 (v.keys.map PD.str)),.p (.sl 9 (v.kids.map Val.enc)),.p (.int .i64 v.code)]
def qDX (s:List UInt8):Bool:=decide ((s.length:Int)≤4096) && Lib.validD s
def qPN (l:List (List UInt8)):Bool:=l.all qDX && decide l.Nodup
def qST (v:Val):Bool:=if v.kind=4 then yT v.num else decide (v.num.neg=false∧v.num.digits=[]∧v.num.scale=0)
def qOV (v:Val):Bool:=if v.kind=5 then qDX v.text else decide (v.text=[])
def qIS (v:Val):Bool:=if v.kind=7 then decide ((v.keys.length:Int)=v.kids.length) && qPN v.keys else decide (v.keys=[])
def qPM (v:Val):Bool:=decide (v.kids=[]) || decide (v.kind=6) || decide (v.kind=7)
def qPT (v:Val):Bool:=decide (decide (v.kind=8) = !decide (v.code=0))
def qCF (v:Val):Bool:=qPT v && qST v && qOV v && qIS v && qPM v
def qBQ (v:Val):Bool:=decide (1≤v.kind∧v.kind≤8∧v.kids.length≤200)
mutual
def xN:Val→Bool
 | .mk k m n t ks vs c=>qBQ (.mk k m n t ks vs c) && qCF (.mk k m n t ks vs c) && qLH vs
def qLH:List Val→Bool
 | []=>true
 | v::vs=>xN v && qLH vs
end
theorem qHH:∀ l,qLH l=l.all xN
 | []=>by simp [qLH]
 | v::vs=>by simp [qLH,qHH vs]
theorem qBE (v:Val):xN v=(qBQ v && qCF v && v.kids.all xN):=by
 cases v; simp only [xN,qHH,Val.kids]
theorem qPF {v k:Val} (h:xN v=true) (hk:k∈v.kids):xN k=true:=by
 rw [qBE] at h; simp only [Bool.and_eq_true,List.all_eq_true] at h; exact h.2 k hk
theorem qPE {v:Val} (h:xN v=true) (h4:v.kind=4):yT v.num=true:=by
 rw [qBE] at h
 simp only [Bool.and_eq_true,qCF,qST] at h
 obtain ⟨⟨h1,⟨⟨⟨⟨_,h2⟩,_⟩,_⟩,_⟩⟩,_⟩:=h
 rw [if_pos h4] at h2; exact h2
mutual
def xP (ch:Val→Val):Val→Val
 | .mk k m n t ks vs c=>ch (.mk k m n t ks (qLJ ch vs) c)
def qLJ (ch:Val→Val):List Val→List Val
 | []=>[]
 | v::vs=>xP ch v::qLJ ch vs
end
theorem qHJ (ch:Val→Val):∀ l,qLJ ch l=l.map (xP ch)
 | []=>by simp [qLJ]
 | v::vs=>by simp [qLJ,qHJ ch vs]
theorem qPH (ch:Val→Val) (v:Val):xP ch v=ch (.mk v.kind v.mask v.num v.text v.keys (v.kids.map (xP ch)) v.code):=by
 cases v; simp only [xP,qHJ,Val.kind_mk,Val.mask_mk,Val.num_mk,Val.text_mk,Val.keys_mk,Val.kids_mk,Val.code_mk]
def InM (a:Int):Prop:=0≤a∧a<18446744073709551616
def wB (a:Int):Nat:=(a % 18446744073709551616).toNat
theorem qIR (a:Int):wB a<2 ^ 64:=by unfold wB; omega
theorem qPD {a:Int} (h:InM a):((wB a:Nat):Int)=a:=by unfold wB; unfold InM at h; omega
theorem qHE {n:Nat} (h:n<2 ^ 64):wB n=n:=by unfold wB; omega
def orM (a b:Int):Int:=((wB a ||| wB b:Nat):Int)
def zBD (a b:Int):Int:=((wB a &&& wB b:Nat):Int)
def zAS (a b:Int):Int:=((wB a &&& (18446744073709551615-wB b):Nat):Int)
theorem qSQ (a b:Int):wB a ||| wB b<2 ^ 64:=Nat.or_lt_two_pow (qIR a) (qIR b)
theorem qDV (a b:Int):wB (orM a b)=wB a ||| wB b:=qHE (qSQ a b)
theorem qSC {n:Nat} (h:n<2 ^ 64):IntKind.u64.wrap (n:Int)=n:=by simp [IntKind.wrap,IntKind.bits,IntKind.signed]; omega
theorem qVU (a b:Int):IntKind.u64.wrap (((a % 2 ^ IntKind.u64.bits).toNat ||| (b % 2 ^ IntKind.u64.bits).toNat:Nat):Int)=orM a b:=qSC (qSQ a b)
theorem or_assoc (a b c:Int):orM (orM a b) c=orM a (orM b c):=by
 show ((wB (orM a b) ||| wB c:Nat):Int)=((wB a ||| wB (orM b c):Nat):Int)
 rw [qDV,qDV,Nat.or_assoc]
theorem or_self {a:Int} (h:InM a):orM a a=a:=by unfold orM; rw [Nat.or_self,qPD h]
def LeM (a b:Int):Prop:=orM a b=b
theorem LeM.or_left (a b:Int):LeM a (orM a b):=by
 unfold LeM; rw [← or_assoc]
 unfold orM; rw [qHE (qSQ a a),Nat.or_self]
theorem LeM.trans {a b c:Int} (h1:LeM a b) (h2:LeM b c):LeM a c:=by
 unfold LeM at *; rw [← h2,← or_assoc,h1]
theorem LeM.or {a b c:Int} (h1:LeM a c) (h2:LeM b c):LeM (orM a b) c:=by
 unfold LeM at *; rw [or_assoc,h2,h1]
theorem LeM.refl {a:Int} (h:InM a):LeM a a:=or_self h
theorem LeM.and {a b:Int} (h:LeM a b) (ha:InM a):zBD b a=a:=by
 unfold LeM at h
 have h1:wB a ||| wB b=wB b:=by rw [← qDV,h]
 unfold zBD
 have:wB b &&& wB a=wB a:=by
  rw [← h1]
  apply Nat.eq_of_testBit_eq; intro i
  simp only [Nat.testBit_and,Nat.testBit_or]
  cases (wB a).testBit i <;> cases (wB b).testBit i <;> rfl
 rw [this,qPD ha]
theorem LeM.sub {a b:Int} (h:LeM a b):zAS a b=0:=by
 unfold LeM at h
 have h1:wB a ||| wB b=wB b:=by rw [← qDV,h]
 have hb:=qIR b
 unfold zAS
 have:wB a &&& (18446744073709551615-wB b)=0:=by
  apply Nat.eq_of_testBit_eq; intro i
  rw [show 18446744073709551615-wB b=2 ^ 64-(wB b+1) by omega]
  simp only [Nat.testBit_and,Nat.testBit_two_pow_sub_succ hb,Nat.zero_testBit]
  have h3:(wB a ||| wB b).testBit i=(wB b).testBit i:=by rw [h1]
  rw [Nat.testBit_or] at h3
  revert h3
  cases (wB a).testBit i <;> cases (wB b).testBit i <;> simp
 rw [this]; rfl
theorem qVX (v:Val):xP id v=v:=by
 induction v using Val.induct with
 | h v ih =>
  rw [qPH]
  have:v.kids.map (xP id)=v.kids:=by
   conv=>rhs; rw [← List.map_id v.kids]
   exact List.map_congr_left fun k hk=>ih k hk
  rw [this]; cases v; rfl
mutual
def wE:Val→Int
 | .mk _ m _ _ _ vs _=>kR m vs
def kR (m:Int):List Val→Int
 | []=>m
 | v::vs=>kR (orM m (wE v)) vs
end
theorem vZ (v:Val):wE v=kR v.mask v.kids:=by cases v; simp only [wE,Val.mask_mk,Val.kids_mk]
theorem qJD (l:List Val) (x:Val):∀ m,kR m (l++[x])=orM (kR m l) (wE x):=by
 induction l with
 | nil=>intro m; simp only [List.nil_append,kR]
 | cons y l ih=>intro m; simp only [List.cons_append,kR,ih]
theorem qAP {m:Int} {l:List Val} {k:Nat} {x:Val} (h:l[k]?=some x):kR m (l.take (k+1))=orM (kR m (l.take k)) (wE x):=by
 rw [List.take_add_one,h]; exact qJD _ _ _
@[simp] theorem qYN (m:Int):kR m []=m:=by simp only [kR]
mutual
def InV:Val→Prop
 | .mk _ m _ _ _ vs _=>InM m∧qUX vs
def qUX:List Val→Prop
 | []=>True
 | v::vs=>InV v∧qUX vs
end
theorem qMP:∀ l,qUX l↔∀ v∈l,InV v
 | []=>by simp [qUX]
 | v::vs=>by simp [qUX,qMP vs]
theorem qWT (v:Val):InV v↔InM v.mask∧∀ k∈v.kids,InV k:=by cases v; simp only [InV,qMP,Val.mask_mk,Val.kids_mk]
theorem qUW {v:Val} (h:InV v):InM v.mask:=((qWT v).1 h).1
theorem qSJ (v:Val):Val.sz v=1+Val.szL v.kids:=by cases v; simp only [Val.sz,Val.kids_mk]
@[simp] theorem zBH:Val.szL []=0:=by simp only [Val.szL]
@[simp] theorem zBG (x:Val):Val.szL [x]=Val.sz x:=by simp only [Val.szL,Nat.add_zero]
theorem qXH (v:Val):1≤Val.sz v:=by rw [qSJ]; omega
theorem qOX:∀ l:List Val,l.length≤Val.szL l
 | []=>by simp
 | v::l=>by simp only [Val.szL,List.length_cons]; have:=qOX l; have:=qXH v; omega
theorem qNL {v:Val} {n:Nat} (h:Val.sz v≤n):v.kids.length≤n:=by rw [qSJ] at h; have:=qOX v.kids; omega
def kG (ch:Val→Val) (v:Val) (k:Nat):List PD:=(v.kids.take k).map (fun u=>(xP ch u).enc)++(v.kids.drop k).map Val.enc
theorem qNN (ch:Val→Val) (v:Val) (k:Nat):(kG ch v k).length=v.kids.length:=by
 simp only [kG,List.length_append,List.length_map,List.length_take,List.length_drop]; omega
@[simp] theorem qXA (ch:Val→Val) (v:Val):kG ch v 0=v.kids.map Val.enc:=by simp only [kG,List.take_zero,List.map_nil,List.nil_append,List.drop_zero]
theorem qNO {ch:Val→Val} {v x:Val} {k:Nat} (hx:v.kids[k]?=some x):(kG ch v k)[k]?=some x.enc:=by
 have hk:=(List.getElem?_eq_some_iff.1 hx).1
 have h0:((v.kids.take k).map (fun u=>(xP ch u).enc)).length=k:=by simp only [List.length_map,List.length_take]; omega
 rw [kG,List.getElem?_append_right (by omega),h0,Nat.sub_self,List.getElem?_map,List.getElem?_drop,Nat.add_zero,hx]; rfl
theorem qNM {ch:Val→Val} {v x:Val} {k:Nat} (hx:v.kids[k]?=some x):(kG ch v k).set k (xP ch x).enc=kG ch v (k+1):=by
 have hk:=(List.getElem?_eq_some_iff.1 hx).1
 have hxk:=(List.getElem?_eq_some_iff.1 hx).2
 have h0:((v.kids.take k).map (fun u=>(xP ch u).enc)).length=k:=by simp only [List.length_map,List.length_take]; omega
 rw [kG,List.set_append_right _ _ (by omega),h0,Nat.sub_self,List.drop_eq_getElem_cons hk,kG,List.take_succ_eq_append_getElem hk,hxk]
 simp only [List.map_cons,List.set_cons_zero,List.map_append,List.map_nil,List.append_assoc,List.cons_append,List.nil_append]
theorem qLI (g:FuncId) (ch:Val→Val) (v:Val) (hg:∀ u:Val,AX Tryz.prog G g [.ptr 2 0] [(2,.vars 31 u.cells)] (.tuple []) [2] [(2,.vars 31 (ch u).cells)]) (hsm:v.keys.length≤1000000∧v.kids.length≤1000000) (ih:∀ k∈v.kids,AFn Tryz.prog G 100 [k.enc,.fn g] (xP ch k).enc):AFn Tryz.prog G 100 [v.enc,.fn g] ((xP ch v).enc):=by
 refine AFn.introU tok Tryz.func100 (by kernel_rfl) rfl rfl ?_
 simp only [Tryz.f100,qK,List.map_cons,List.map_nil]
 have hck:=qRH (G:=G) v.keys (by omega)
 have hcv:=uQ (G:=G) v.kids (by omega)
 refine rgn [] [[],[1,2,4]] ?_
 iterate 2 refine op1 tok ?_
 refine qA ?_
 refine AW.seqRunDrawK tok mixed [1,2,4] 8 [[2],[7],[8],[2],[10],[11],[2],[13,9]] [.nilf,.sl 1 (v.keys.map PD.str),.clo 9 [],.nilf,.sl 9 (v.kids.map Val.enc),.clo 31 []] [] (by kernel_rfl) (by intro C; conv=>lhs; simp) (by first | exact hck | exact hcv | ((repeat' (first | with_reducible apply And.intro | intro _)) <;> first | exact (hck) | exact (hcv) | assumption | omega | contradiction | simp_all)) (by simp [Sm.sum,Sm.foot,Sm.tch,Sm.refs]; kernel_rfl) (by intro C; conv=>lhs; simp) (by first | with_reducible exact True.intro | omega | simp | (simp +contextual; omega)) ?_
 refine AW.seq (rgn [] [[],[],[],[1,2,4,16,17,18]] ?_)
 iterate 4 refine op1 tok ?_
 refine qA (AW.block ?_)
 refine AW.loop (α:=Nat) (fun k=>k≤v.kids.length) (fun k=>⟨zA 34 [(1,.p (.fn g)),(2,.ptr 2 0),(4,.ptr 4 0),(16,.ms 12),(17,.p (.int .i64 v.kids.length)),(18,.p (.int .i64 k))],[],[(2,.vars 31 [.p (.int .i64 v.kind),.p (.int .u64 v.mask),.p (.bool v.num.neg),.p (.str v.num.digits),.p (.int .i64 v.num.scale),.p (.str v.text),.ms 9,.ms 12,.p (.int .i64 v.code)]),(4,.vars 31 [.p (.int .i64 0),.p (.int .u64 0),.p (.bool false),.p (.str []),.p (.int .i64 0),.p (.str []),.nilsl,.nilsl,.p (.int .i64 0)]),(9,.row 9 1 (v.keys.map PD.str)),(12,.row 31 9 (kG ch v k))],0⟩) (fun k=>v.kids.length-k) (0) (by simp) ⟨qG (by simp),rfl,by simp,by simp⟩ ?_
 rintro k hk
 refine rgn [] [[]] ?_
 refine op1 tok ?_
 refine qA (AW.seq (cnd ?_ ?_))
 ·intro h19
  try simp at h19
  obtain ⟨x,hx⟩:∃ x,v.kids[k]?=some x:=⟨v.kids[k],by simp [h19]⟩
  have hx':=qNO (ch:=ch) hx
  have hkl:=qNN ch v k
  have hix:=ih x (List.mem_of_getElem? hx)
  have hset:=qNM (ch:=ch) hx
  simp only [Val.enc_def] at hx' hix hset
  refine AW.skip (AW.seq (AW.block (rgn [x.enc] [[],[],[],[],[],[1,2,4,5,6,16,17,18]] ?_)))
  iterate 6 refine oq1 tok hx' ?_
  refine qA ?_
  refine AW.runDrawK tok mixed [1,2,4,16,17,18] 6 [[2],[23],[5],[6],[1],[26,27]] [.nilp,(xP ch x).enc] [x.enc,(xP ch x).enc] (by kernel_rfl) (by intro C; conv=>lhs; simp) (by first | exact hix | ((repeat' (first | with_reducible apply And.intro | intro _)) <;> first | exact (hix) | exact (hx') | assumption | omega | contradiction | simp_all)) (by simp [Sm.sum,Sm.foot,Sm.tch,Sm.refs]; kernel_rfl) (by intro C; conv=>lhs; simp) (by exact ⟨by omega,hx'⟩) ?_
  refine rgz [] [[],[1,2,4,16,17,18]] ?_
  iterate 2 refine op1 tok ?_
  refine qA ?_
  exact ⟨k+1,(by omega),(by omega),qG (by simp [hset]),rfl,by simp [hset],by simp [hset]⟩
 intro h19
 try simp at h19
 obtain rfl:k=v.kids.length:=by omega
 have hfull:kG ch v v.kids.length=(v.kids.map (xP ch)).map Val.enc:=by simp only [kG,List.take_length,List.drop_length,List.map_nil,List.append_nil,List.map_map]; rfl
 rw [hfull]
 refine AW.exit ?_
 simp
 refine rgn [] [[]] ?_
 refine op1 tok ?_
 refine zG ?_
 refine qF.freeze 9 (by conv=>lhs; simp) ?_
 refine qF.freeze 12 (by conv=>lhs; simp) ?_
 refine qF.stepK [2,4] (yC rfl (hg (.mk v.kind v.mask v.num v.text v.keys (v.kids.map (xP ch)) v.code)) (by simp)) (by conv=>lhs; simp) rfl ?_
 refine qF.nil ?_
 refine rgn [] [[],[4]] ?_
 iterate 2 refine op1 tok ?_
 refine qA ?_
 exact AW.ret (qO (k:=by simp [qPH ch v]))
inductive Few:Val→Prop
 | mk {v:Val} (h1:v.keys.length≤1000000) (h2:v.kids.length≤1000000) (h3:∀ k∈v.kids,Few k):Few v
theorem qNJ (g:FuncId) (ch:Val→Val) (hg:∀ u:Val,AX Tryz.prog G g [.ptr 2 0] [(2,.vars 31 u.cells)] (.tuple []) [2] [(2,.vars 31 (ch u).cells)]) (v:Val) (hv:Few v):AFn Tryz.prog G 100 [v.enc,.fn g] (xP ch v).enc:=by
 induction hv with
 | mk h1 h2 h3 ih=>exact qLI g ch _ hg ⟨h1,h2⟩ ih
theorem qRJ (u:Val):AX Tryz.prog G 101 [.ptr 2 0] [(2,.vars 31 u.cells)] (.tuple []) [2] [(2,.vars 31 (id u).cells)]:=by
 refine AX.introU tok 900 Tryz.func101 (by kernel_rfl) rfl rfl ?_
 simp only [Tryz.f101,qK,List.map_cons,List.map_nil]
 refine AW.skip ?_
 exact qXC
theorem qRI (v:Val) (hv:Few v):AFn Tryz.prog G 70 [v.enc] (v.enc):=by
 refine AFn.introU tok Tryz.func70 (by kernel_rfl) rfl rfl ?_
 simp only [Tryz.f70,qK,List.map_cons,List.map_nil]
 have hm:=qNJ (G:=G) 101 id qRJ v hv
 rw [qVX] at hm
 simp only [Val.enc_def] at hm
 refine rgn [] [[],[1,2]] ?_
 iterate 2 refine op1 tok ?_
 refine qA (rgn [.nilp,v.enc] [[],[],[2]] ?_)
 iterate 3 refine oq1 tok hm ?_
 exact qA (AW.ret qO)
theorem qRC (v:Val) (ih:∀ k∈v.kids,AFn Tryz.prog G 30 [k.enc] (.int .u64 (wE k))):AFn Tryz.prog G 30 [v.enc] (.int .u64 (wE v)):=by
 refine AFn.introU tok Tryz.func30 (by kernel_rfl) rfl rfl ?_
 simp only [Tryz.f30,qK,List.map_cons,List.map_nil]
 refine rgn [] [[],[1]] ?_
 iterate 2 refine op1 tok ?_
 refine qA (rgn [] [[],[],[1,3]] ?_)
 iterate 3 refine op1 tok ?_
 refine qA (AW.seq (rgn [] [[],[],[],[3,9,10,11]] ?_))
 iterate 4 refine op1 tok ?_
 refine qA (AW.block ?_)
 refine AW.intFactU (i:=10) rfl (by decide) ?_; intro hlen; simp at hlen
 refine AW.loop (α:=Nat) (fun k=>k≤v.kids.length) (fun k=>⟨zA 21 [(3,.p (.int .u64 (kR v.mask (v.kids.take k)))),(9,.p (.sl 9 (v.kids.map Val.enc))),(10,.p (.int .i64 v.kids.length)),(11,.p (.int .i64 k))],[],[],0⟩) (fun k=>v.kids.length-k) (0) (by omega) ⟨qG (by simp),rfl,by simp,by simp⟩ ?_
 rintro k hk
 refine rgn [] [[]] ?_
 refine op1 tok ?_
 refine qA (AW.seq (cnd ?_ ?_))
 ·intro h12
  try simp at h12
  obtain ⟨x,hx⟩:∃ x,v.kids[k]?=some x:=⟨v.kids[k],by simp [h12]⟩
  have hix:=ih x (List.mem_of_getElem? hx)
  simp only [Val.enc_def] at hix
  refine AW.skip (AW.seq (AW.block (rgn [x.enc] [[],[],[],[3,5,9,10,11]] ?_)))
  iterate 4 refine op1 tok ?_ (hv:=by first | with_reducible exact True.intro | (simp [hx]; done) | omega | simp | (simp +contextual; omega))
  refine qA (rgz [.nilp,.int .u64 (wE x)] [[],[],[],[9,10,11,18],[3,9,10,11]] ?_)
  iterate 5 refine oq1 tok hix ?_ (h:=by intro C; conv=>lhs; simp [qVU])
  refine qA (rgz [] [[],[3,9,10,11]] ?_)
  iterate 2 refine op1 tok ?_
  refine qA ?_
  exact ⟨k+1,by omega,by omega,qG (by simp [qAP hx]),rfl,by simp [qAP hx],by simp [qAP hx]⟩
 intro h12
 try simp at h12
 rw [List.take_of_length_le h12]
 refine AW.exit ?_
 simp
 refine rgn [] [[],[2]] ?_
 iterate 2 refine op1 tok ?_
 refine qA ?_
 exact AW.ret (qO (k:=by simp [vZ v]))
theorem qWG (v:Val):AFn Tryz.prog G 30 [v.enc] (.int .u64 (wE v)):=Val.induct (fun v ih=>qRC v ih) v
open Go
open Go.Lib
def xD (n:Nat):UInt8:=if n<10 then UInt8.ofNat (48+n) else UInt8.ofNat (87+n)
def qb (b:UInt8):List UInt8 :=
 if b=34∨b=92 then [92,b] else if b=10 then [92,110] else if b=13 then [92,114] else if b=9 then [92,116]
 else if b<32∨b=127 then [92,117,48,48,xD (b.toNat / 16),xD (b.toNat % 16)] else [b]
def wQ (s:List UInt8):List UInt8:=s.flatMap qb
def zM (s:List UInt8):List UInt8:=34::(wQ s++[34])
theorem qOF {b:UInt8} {t:List UInt8} (h:b.toNat<128):decodeL (b::t)=(b.toNat,1):=by
 unfold decodeL
 rw [decode_at]
 have e:(⟨(b::t).toArray⟩:ByteArray).get! 0=b:=rfl
 rw [e]
 unfold decodeN
 rw [if_pos h]
theorem qSS {b:UInt8} (h:b.toNat<128):encodeRune (b.toNat:Int)=[b]:=by
 simp only [encodeRune,encodeRuneZ_one (r:=(b.toNat:Int)) (by omega) (by omega),List.map_cons,List.map_nil]
 congr 1
 simp
theorem qDO (l:List UInt8):decodeL l=decodeN l.length (l.getD 0 0).toNat (l.getD 1 0).toNat (l.getD 2 0).toNat (l.getD 3 0).toNat:=by
 unfold decodeL
 rw [decode_at]
 have e:∀ k,(⟨l.toArray⟩:ByteArray).get! k=l.getD k 0:=by
  intro k
  show l.toArray[k]! = _
  simp [List.getD_eq_getElem?_getD]
  rfl
 simp only [e]
 rfl
theorem qRN (l:List UInt8) (hne:l≠[]) (hv:¬ ((decodeL l).1=65533∧(decodeL l).2=1)) (hb:128≤(l.getD 0 0).toNat):(∀ b∈l.take (decodeL l).2,128≤b.toNat)∧128≤(decodeL l).1:=by
 have hr:=qDO l
 have hle:=decodeL_le l hne
 have hlen:0<l.length:=by cases l with
  | nil=>exact absurd rfl hne
  | cons a l=>simp
 unfold decodeN at hr
 rw [if_neg (by omega)] at hr
 split at hr
 ·rename_i c
  split at hr
  ·rw [hr] at hv hle ⊢
   simp only at hle ⊢
   rw [takeB l (by omega)]
   refine ⟨fun b hb' => ?_,by omega⟩
   simp at hb'
   rcases hb' with h | h <;> (subst h; simp at hb c; omega)
  rw [hr] at hv; exact absurd ⟨rfl,rfl⟩ hv
 split at hr
 ·rename_i c
  split at hr
  ·rw [hr] at hv hle ⊢
   simp only at hle ⊢
   rw [takeC l (by omega)]
   refine ⟨fun b hb' => ?_,by omega⟩
   simp at hb'
   rcases hb' with h | h | h <;> (subst h; simp at hb c; omega)
  rw [hr] at hv; exact absurd ⟨rfl,rfl⟩ hv
 split at hr
 ·rename_i c
  split at hr
  ·rw [hr] at hv hle ⊢
   simp only at hle ⊢
   rw [takeD l (by omega)]
   refine ⟨fun b hb' => ?_,by omega⟩
   simp at hb'
   rcases hb' with h | h | h | h <;> (subst h; simp at hb c; omega)
  rw [hr] at hv; exact absurd ⟨rfl,rfl⟩ hv
 rw [hr] at hv; exact absurd ⟨rfl,rfl⟩ hv
theorem qQM {l:List UInt8} (h:∀ b∈l,128≤b.toNat):wQ l=l:=by
 induction l with
 | nil=>rfl
 | cons b l ih =>
  have hb:=h b (by simp)
  have h1:qb b=[b]:=by
   unfold qb
   have ne:∀ c:UInt8,c.toNat<128→b≠c:=fun c hc e=>by subst e; omega
   rw [if_neg (by rintro (e | e) <;> exact ne _ (by decide) e),if_neg (ne _ (by decide)),if_neg (ne _ (by decide)),if_neg (ne _ (by decide)),if_neg]
   rintro (e | e)
   ·rw [UInt8.lt_iff_toNat_lt] at e
    simp at e; omega
   exact ne _ (by decide) e
  show qb b++wQ l=_
  rw [h1,ih fun b hb=>h b (List.mem_cons_of_mem _ hb)]
  rfl
theorem qBA (a b:List UInt8):wQ (a++b)=wQ a++wQ b:=by simp [wQ]
def vI (d:Dc):List UInt8:=xJ (d.scale.toNat+1-d.digits.length)++d.digits
def vE (d:Dc):List UInt8:=(if d.neg=true then [45] else [])++(if d.scale=0 then vI d else (vI d).take ((vI d).length-d.scale.toNat)++46::(vI d).drop ((vI d).length-d.scale.toNat))
structure RS where
 left:List UInt8
 nodes:Nat
 bad:Bool
 deep:Bool
 big:Bool
 deriving DecidableEq
def zCP (b:UInt8):Bool:=b == 32 || b == 9 || b == 13 || b == 10
def qSI (s:List UInt8):List UInt8:=s.dropWhile zCP
def tk (w:List UInt8) (st:RS):Bool × RS :=
 if w.isPrefixOf (qSI st.left) then (true,{ st with left:=(qSI st.left).drop w.length }) else (false,{ st with left:=qSI st.left })
def qJW:List UInt8:=[110,117,108,108]
def qJV:List UInt8:=[116,114,117,101]
def qDY:List UInt8:=[102,97,108,115,101]
@[simp] theorem zBM (w:List UInt8) (st:RS):(tk w st).2.bad=st.bad:=by unfold tk; split <;> rfl
@[simp] theorem qYU (w:List UInt8) (st:RS):(tk w st).2.nodes=st.nodes:=by unfold tk; split <;> rfl
@[simp] theorem zBF (w:List UInt8) (st:RS):(tk w st).2.deep=st.deep:=by unfold tk; split <;> rfl
@[simp] theorem zBL (w:List UInt8) (st:RS):(tk w st).2.big=st.big:=by unfold tk; split <;> rfl
open Go Go.RowKit Go.Shelf Go.Maps Go.Sort
attribute [local go_sem] Oper.semAt_some
def qYH (n₀:Nat) (W:World) (sv:Value) (zs:List (List UInt8)):Prop :=
 (zs=[]∧∃ a c,sv = .slice a 0 c)∨∃ b off cap,sv = .slice (some ⟨b,off,none⟩) zs.length cap∧b<n₀∧∀ j,j<zs.length→W.cell? ⟨b,off+j,none⟩=some (encStr (zs[j]?.getD []))
theorem qYH.below {n₀:Nat} {A B:World} (h:Below n₀ A B) {sv:Value} {zs:List (List UInt8)}:qYH n₀ A sv zs→qYH n₀ B sv zs
 | .inl e => .inl e
 | .inr ⟨b,off,cap,e,hb,hc⟩ => .inr ⟨b,off,cap,e,hb,fun j hj=>(h.cell (p:=⟨b,off+j,none⟩) hb).trans (hc j hj)⟩
end Go.Proofs.YtgcbapchinideaaGreatDoor
namespace Go.Proofs
open Go.Shelf
def Tryz.lays197_ren:Go.Shelf.Ren:=⟨fun | 197=>195 | 260=>222 | n=>n,fun | 9=>9 | 21=>21 | 3=>3 | 4=>4 | 5=>5 | 105=>222 | 119=>254 | 0=>0 | 46=>148 | 139=>257 | 138=>256 | n=>n,fun | 3=>1 | 4=>2 | n=>n⟩
theorem Tryz.lays197:Go.Proofs.Lays.n197 Tryz.prog Tryz.lays197_ren:={
 mixed:=by kernel_rfl
 f197:=Tryz.func195.trans (congrArg some (by kernel_rfl))
 f260:=Tryz.func222.trans (congrArg some (by kernel_rfl))
 t0:=Tryz.underlying0
 a0:=Tryz.isAgg0
 z0:=Tryz.sizeOf0
 v0:=Tryz.zeroValue0
 t3:=Tryz.underlying3
 a3:=Tryz.isAgg3
 z3:=Tryz.sizeOf3
 v3:=Tryz.zeroValue3
 t4:=Tryz.underlying4
 a4:=Tryz.isAgg4
 z4:=Tryz.sizeOf4
 v4:=Tryz.zeroValue4
 t5:=Tryz.underlying5
 a5:=Tryz.isAgg5
 z5:=Tryz.sizeOf5
 v5:=Tryz.zeroValue5
 t9:=Tryz.underlying9
 a9:=Tryz.isAgg9
 z9:=Tryz.sizeOf9
 v9:=Tryz.zeroValue9
 t21:=Tryz.underlying21
 a21:=Tryz.isAgg21
 z21:=Tryz.sizeOf21
 v21:=Tryz.zeroValue21
 t46:=Tryz.underlying148
 a46:=Tryz.isAgg148
 z46:=Tryz.sizeOf148
 v46:=Tryz.zeroValue148
 t105:=Tryz.underlying222
 a105:=Tryz.isAgg222
 z105:=Tryz.sizeOf222
 v105:=Tryz.zeroValue222
 t119:=Tryz.underlying254
 a119:=Tryz.isAgg254
 z119:=Tryz.sizeOf254
 t138:=Tryz.underlying256
 a138:=Tryz.isAgg256
 z138:=Tryz.sizeOf256
 v138:=Tryz.zeroValue256
 t139:=Tryz.underlying257
 a139:=Tryz.isAgg257
 z139:=Tryz.sizeOf257
 v139:=Tryz.zeroValue257
 g3:=by kernel_rfl
 g4:=by kernel_rfl }
def Tryz.lays105_ren:Go.Shelf.Ren:=⟨fun | 105=>108 | 212=>147 | 99=>72 | 165=>148 | 166=>149 | 170=>150 | 169=>151 | 263=>191 | 264=>192 | 206=>103 | 240=>193 | 241=>194 | 276=>220 | 277=>221 | n=>n,fun | 9=>9 | 3=>3 | 4=>4 | 20=>20 | 0=>0 | 46=>148 | 109=>159 | 5=>5 | 72=>163 | 76=>166 | 51=>202 | 146=>217 | 53=>24 | 148=>219 | 70=>161 | 37=>81 | 75=>165 | 127=>221 | 164=>241 | 80=>169 | n=>n,fun | n=>n⟩
theorem Tryz.lays105:Go.Proofs.Lays.n105 Tryz.prog Tryz.lays105_ren:={
 mixed:=by kernel_rfl
 f99:=Tryz.func72.trans (congrArg some (by kernel_rfl))
 f105:=Tryz.func108.trans (congrArg some (by kernel_rfl))
 f165:=Tryz.func148.trans (congrArg some (by kernel_rfl))
 f166:=Tryz.func149.trans (congrArg some (by kernel_rfl))
 f169:=Tryz.func151.trans (congrArg some (by kernel_rfl))
 f170:=Tryz.func150.trans (congrArg some (by kernel_rfl))
 f206:=Tryz.func103.trans (congrArg some (by kernel_rfl))
 f212:=Tryz.func147.trans (congrArg some (by kernel_rfl))
 f240:=Tryz.func193.trans (congrArg some (by kernel_rfl))
 f241:=Tryz.func194.trans (congrArg some (by kernel_rfl))
 f263:=Tryz.func191.trans (congrArg some (by kernel_rfl))
 f264:=Tryz.func192.trans (congrArg some (by kernel_rfl))
 f276:=Tryz.func220.trans (congrArg some (by kernel_rfl))
 f277:=Tryz.func221.trans (congrArg some (by kernel_rfl))
 t0:=Tryz.underlying0
 a0:=Tryz.isAgg0
 z0:=Tryz.sizeOf0
 v0:=Tryz.zeroValue0
 t3:=Tryz.underlying3
 a3:=Tryz.isAgg3
 z3:=Tryz.sizeOf3
 v3:=Tryz.zeroValue3
 t4:=Tryz.underlying4
 a4:=Tryz.isAgg4
 z4:=Tryz.sizeOf4
 v4:=Tryz.zeroValue4
 t5:=Tryz.underlying5
 a5:=Tryz.isAgg5
 z5:=Tryz.sizeOf5
 v5:=Tryz.zeroValue5
 t9:=Tryz.underlying9
 a9:=Tryz.isAgg9
 z9:=Tryz.sizeOf9
 v9:=Tryz.zeroValue9
 t20:=Tryz.underlying20
 a20:=Tryz.isAgg20
 z20:=Tryz.sizeOf20
 v20:=Tryz.zeroValue20
 t37:=Tryz.underlying81
 a37:=Tryz.isAgg81
 z37:=Tryz.sizeOf81
 v37:=Tryz.zeroValue81
 t46:=Tryz.underlying148
 a46:=Tryz.isAgg148
 z46:=Tryz.sizeOf148
 v46:=Tryz.zeroValue148
 t51:=Tryz.underlying202
 a51:=Tryz.isAgg202
 z51:=Tryz.sizeOf202
 v51:=Tryz.zeroValue202
 t53:=Tryz.underlying24
 a53:=Tryz.isAgg24
 z53:=Tryz.sizeOf24
 v53:=Tryz.zeroValue24
 t70:=Tryz.underlying161
 a70:=Tryz.isAgg161
 z70:=Tryz.sizeOf161
 v70:=Tryz.zeroValue161
 t72:=Tryz.underlying163
 a72:=Tryz.isAgg163
 z72:=Tryz.sizeOf163
 v72:=Tryz.zeroValue163
 t75:=Tryz.underlying165
 a75:=Tryz.isAgg165
 z75:=Tryz.sizeOf165
 v75:=Tryz.zeroValue165
 t76:=Tryz.underlying166
 a76:=Tryz.isAgg166
 z76:=Tryz.sizeOf166
 v76:=Tryz.zeroValue166
 t109:=Tryz.underlying159
 a109:=Tryz.isAgg159
 z109:=Tryz.sizeOf159
 v109:=Tryz.zeroValue159
 t127:=Tryz.underlying221
 a127:=Tryz.isAgg221
 z127:=Tryz.sizeOf221
 v127:=Tryz.zeroValue221
 t146:=Tryz.underlying217
 a146:=Tryz.isAgg217
 z146:=Tryz.sizeOf217
 v146:=Tryz.zeroValue217
 t148:=Tryz.underlying219
 a148:=Tryz.isAgg219
 z148:=Tryz.sizeOf219
 v148:=Tryz.zeroValue219
 t164:=Tryz.underlying241
 a164:=Tryz.isAgg241
 z164:=Tryz.sizeOf241
 v164:=Tryz.zeroValue241 }
def Tryz.lays169_ren:Go.Shelf.Ren:=⟨fun | 169=>151 | n=>n,fun | 70=>161 | 9=>9 | 0=>0 | 72=>163 | 37=>81 | 127=>221 | 3=>3 | 5=>5 | n=>n,fun | n=>n⟩
theorem Tryz.lays169:Go.Proofs.Lays.n169 Tryz.prog Tryz.lays169_ren:={
 mixed:=by kernel_rfl
 f169:=Tryz.func151.trans (congrArg some (by kernel_rfl))
 t0:=Tryz.underlying0
 a0:=Tryz.isAgg0
 z0:=Tryz.sizeOf0
 v0:=Tryz.zeroValue0
 t3:=Tryz.underlying3
 a3:=Tryz.isAgg3
 z3:=Tryz.sizeOf3
 v3:=Tryz.zeroValue3
 t9:=Tryz.underlying9
 a9:=Tryz.isAgg9
 z9:=Tryz.sizeOf9
 v9:=Tryz.zeroValue9
 t37:=Tryz.underlying81
 a37:=Tryz.isAgg81
 z37:=Tryz.sizeOf81
 v37:=Tryz.zeroValue81
 t70:=Tryz.underlying161
 a70:=Tryz.isAgg161
 z70:=Tryz.sizeOf161
 v70:=Tryz.zeroValue161
 t72:=Tryz.underlying163
 a72:=Tryz.isAgg163
 z72:=Tryz.sizeOf163
 v72:=Tryz.zeroValue163
 t127:=Tryz.underlying221
 a127:=Tryz.isAgg221
 z127:=Tryz.sizeOf221
 v127:=Tryz.zeroValue221 }
def Tryz.lays156_ren:Go.Shelf.Ren:=⟨fun | 156=>135 | 165=>148 | 166=>149 | 169=>151 | 240=>193 | 241=>194 | 276=>220 | 277=>221 | n=>n,fun | 31=>27 | 9=>9 | 3=>3 | 4=>4 | 0=>0 | 20=>20 | 72=>163 | 76=>166 | 70=>161 | 37=>81 | 75=>165 | 127=>221 | 164=>241 | 5=>5 | 80=>169 | n=>n,fun | n=>n⟩
theorem Tryz.lays156:Go.Proofs.Lays.n156 Tryz.prog Tryz.lays156_ren:={
 mixed:=by kernel_rfl
 f156:=Tryz.func135.trans (congrArg some (by kernel_rfl))
 f165:=Tryz.func148.trans (congrArg some (by kernel_rfl))
 f166:=Tryz.func149.trans (congrArg some (by kernel_rfl))
 f169:=Tryz.func151.trans (congrArg some (by kernel_rfl))
 f240:=Tryz.func193.trans (congrArg some (by kernel_rfl))
 f241:=Tryz.func194.trans (congrArg some (by kernel_rfl))
 f276:=Tryz.func220.trans (congrArg some (by kernel_rfl))
 f277:=Tryz.func221.trans (congrArg some (by kernel_rfl))
 t0:=Tryz.underlying0
 a0:=Tryz.isAgg0
 z0:=Tryz.sizeOf0
 v0:=Tryz.zeroValue0
 t3:=Tryz.underlying3
 a3:=Tryz.isAgg3
 z3:=Tryz.sizeOf3
 v3:=Tryz.zeroValue3
 t4:=Tryz.underlying4
 a4:=Tryz.isAgg4
 z4:=Tryz.sizeOf4
 v4:=Tryz.zeroValue4
 t9:=Tryz.underlying9
 a9:=Tryz.isAgg9
 z9:=Tryz.sizeOf9
 v9:=Tryz.zeroValue9
 t20:=Tryz.underlying20
 a20:=Tryz.isAgg20
 z20:=Tryz.sizeOf20
 v20:=Tryz.zeroValue20
 t31:=Tryz.underlying27
 a31:=Tryz.isAgg27
 z31:=Tryz.sizeOf27
 v31:=Tryz.zeroValue27
 t37:=Tryz.underlying81
 a37:=Tryz.isAgg81
 z37:=Tryz.sizeOf81
 v37:=Tryz.zeroValue81
 t70:=Tryz.underlying161
 a70:=Tryz.isAgg161
 z70:=Tryz.sizeOf161
 v70:=Tryz.zeroValue161
 t72:=Tryz.underlying163
 a72:=Tryz.isAgg163
 z72:=Tryz.sizeOf163
 v72:=Tryz.zeroValue163
 t75:=Tryz.underlying165
 a75:=Tryz.isAgg165
 z75:=Tryz.sizeOf165
 v75:=Tryz.zeroValue165
 t76:=Tryz.underlying166
 a76:=Tryz.isAgg166
 z76:=Tryz.sizeOf166
 v76:=Tryz.zeroValue166
 t127:=Tryz.underlying221
 a127:=Tryz.isAgg221
 z127:=Tryz.sizeOf221
 v127:=Tryz.zeroValue221
 t164:=Tryz.underlying241
 a164:=Tryz.isAgg241
 z164:=Tryz.sizeOf241
 v164:=Tryz.zeroValue241 }
end Go.Proofs
namespace Go.Proofs.YtgcbapchinideaaGreatDoor
open Sy Go
variable {G:qJ}
theorem qUO {M:qQ} {vs:Array Value} {s t:List UInt8} (hsz:vs.size=2) (h:∀ (i:Nat) u d,vs[i]?=some u→[PD.str s,PD.str t][i]?=some d→Rd M u d):∃ a b:ByteArray,vs = #[.string a,.string b]∧a.data.toList=s∧b.data.toList=t:=by
 obtain ⟨l⟩:=vs
 match l,hsz with
 | [u,v],_ =>
  have h1:=h 0 u (.str s) rfl rfl
  have h2:=h 1 v (.str t) rfl rfl
  cases h1 with
  | @str a _ ha _ =>
  cases h2 with
  | @str b _ hb _=>exact ⟨a,b,rfl,ha,hb⟩
theorem qOM {M:qQ} {vs:Array Value} {s:List UInt8} {n:Int} (hsz:vs.size=2) (h:∀ (i:Nat) u d,vs[i]?=some u→[PD.str s,PD.int .i64 n][i]?=some d→Rd M u d):∃ a:ByteArray,vs = #[.string a,.int .i64 n]∧a.data.toList=s∧n≤9223372036854775807:=by
 obtain ⟨l⟩:=vs
 match l,hsz with
 | [u,v],_ =>
  have h1:=h 0 u (.str s) rfl rfl
  have h2:=h 1 v (.int .i64 n) rfl rfl
  cases h1 with
  | @str a _ ha _ =>
  cases h2 with
  | int h3 h4=>exact ⟨a,rfl,ha,by rw [wR] at h4; exact h4⟩
theorem qGO:Builder.Extra Tryz.prog Tryz.lays105_ren where
 sizeBuilder:=by kernel_rfl
 liesBuilder:=by kernel_rfl
 t5:=Tryz.underlying5
 a5:=Tryz.isAgg5
 z5:=Tryz.sizeOf5
 v5:=Tryz.zeroValue5
 infoByte:=by kernel_rfl
 cellsByte:=by kernel_rfl
 sizeByte:=by kernel_rfl
 neB5:=by decide
theorem qIC (s:List UInt8) (n:Nat) (h:s.length * n≤140737488355328):AFn Tryz.prog G 108 [.str s,.int .i64 n] (.str (Lib.repeatL s n)):=by
 refine AFn.of_calls (wV Tryz.func108 (by kernel_rfl) rfl) fun M w vs hg hmem hsz hrd => ?_
 obtain ⟨x,rfl,rfl,hn⟩:=qOM hsz hrd
 refine (Any.strings_Repeat Tryz.lays105 qGO x n w (by omega) (by rw [yD rfl]; exact h)).mono ?_
 rintro e w' ⟨rfl,hb⟩
 refine ⟨_,rfl,.str (by simp) ?_,hb⟩
 rw [Lib.repeatL_length,Nat.mul_comm]; simp only [maxLen]; omega
open Sy Go Go.RowKit Go.Shelf Go.Maps Go.Sort
attribute [local go_sem] Oper.semAt_some
set_option linter.unusedSimpArgs false
set_option linter.unusedVariables false
end Go.Proofs.YtgcbapchinideaaGreatDoor
namespace Go.Proofs.YtgcbapchinideaaGreatDoor
open Sy Go
set_option maxRecDepth 100000
set_option maxHeartbeats 4000000
set_option linter.unusedSimpArgs false
set_option linter.unusedVariables false
variable {G:qJ}
def zF (s:List UInt8):Nat:=s.foldl (fun n b=>n * 10+(b.toNat-48)) 0
theorem wC (b:UInt8):zB b=true↔48≤b.toNat∧b.toNat≤57:=by simp [zB,qTZ]; omega
theorem qEA (s:List UInt8):∀ n,s.foldl (fun n b=>n * 10+(b.toNat-48)) n=n * 10 ^ s.length+zF s:=by
 induction s with
 | nil=>intro n; simp [zF]
 | cons b s ih =>
  intro n
  have e:zF (b::s)=(b.toNat-48) * 10 ^ s.length+zF s:=by unfold zF; rw [List.foldl_cons,ih]; simp [zF]
  rw [List.foldl_cons,ih,e,List.length_cons,Nat.pow_succ,Nat.add_mul,Nat.mul_assoc,Nat.mul_comm 10,Nat.add_assoc]
theorem yR (b:UInt8) (s:List UInt8):zF (b::s)=(b.toNat-48) * 10 ^ s.length+zF s:=by
 unfold zF; rw [List.foldl_cons,qEA]; simp [zF]
theorem qCY (s t:List UInt8):zF (s++t)=zF s * 10 ^ t.length+zF t:=by
 unfold zF; rw [List.foldl_append,qEA]; rfl
theorem qGU (s:List UInt8) (b:UInt8):zF (s++[b])=zF s * 10+(b.toNat-48):=by rw [qCY]; simp [zF]
theorem jJ {s:List UInt8} (h:s.all zB=true):zF s<10 ^ s.length:=by
 induction s with
 | nil=>simp [zF]
 | cons b s ih =>
  simp only [List.all_cons,Bool.and_eq_true] at h
  have h1:=(wC b).1 h.1
  have h2:=ih h.2
  rw [yR,List.length_cons,Nat.pow_succ]
  have:b.toNat-48≤9:=by omega
  have:=Nat.mul_le_mul_right (10 ^ s.length) this
  omega
theorem qQA (n:Nat):Lib.repeatL [48] n=List.replicate n 48:=by
 induction n with
 | zero=>rfl
 | succ n ih=>simp [Lib.repeatL,ih,List.replicate_succ]
theorem qBK {s:List UInt8} (h:s.all zB=true) (n:Nat):(s++List.replicate n 48).all zB=true:=by
 rw [List.all_append,h]
 have:(List.replicate n (48:UInt8)).all zB=true:=List.all_eq_true.2 fun b hb=>by rw [(List.mem_replicate.1 hb).2]; rfl
 rw [this]; rfl
def qI:Nat:=1000000000
def qL:List Nat→Nat
 | []=>0
 | x::xs=>x+qI * qL xs
def okL (l:List Nat):Prop:=∀ x∈l,x<qI
def zQ (l:List Nat):List Nat:=(l.reverse.dropWhile (· == 0)).reverse
def xQ (s:List UInt8) (e:Nat):Nat:=zF ((s.take e).drop (e-9))
def vR (s:List UInt8):Nat→Nat→List Nat
 | 0,_=>[]
 | f+1,e=>if 0<e then xQ s e::vR s f (e-9) else []
theorem qDI (s:List UInt8):∀ (f g e:Nat),e≤f→e≤g→vR s f e=vR s g e
 | 0,0,_,_,_=>rfl
 | 0,g+1,e,h,_=>by simp only [vR]; rw [if_neg (by omega)]
 | f+1,0,e,_,h=>by simp only [vR]; rw [if_neg (by omega)]
 | f+1,g+1,e,h1,h2=>by
  simp only [vR]
  split
  ·rw [qDI s f g _ (by omega) (by omega)]
  rfl
def kZ (s:List UInt8) (e:Nat):List Nat:=vR s e e
theorem uO {s:List UInt8} {e:Nat} (h:0<e):kZ s e=xQ s e::kZ s (e-9):=by
 unfold kZ
 rw [show e=(e-1)+1 by omega]
 simp only [vR]
 rw [if_pos (by omega),qDI s (e-1) (e-1+1-9) _ (by omega) (by omega)]
theorem yP (s:List UInt8):kZ s 0=[]:=rfl
theorem qFV {s:List UInt8} (h:s.all zB=true) (n:Nat):(s.take n).all zB=true:=by
 rw [List.all_eq_true] at h ⊢; exact fun b hb=>h b (List.mem_of_mem_take hb)
theorem qMM {s:List UInt8} (h:s.all zB=true) (n:Nat):(s.drop n).all zB=true:=by
 rw [List.all_eq_true] at h ⊢; exact fun b hb=>h b (List.mem_of_mem_drop hb)
theorem qQW {s:List UInt8} (h:s.all zB=true) (e:Nat):xQ s e<qI:=by
 have h1:=jJ (qMM (qFV h e) (e-9))
 have h2:((s.take e).drop (e-9)).length≤9:=by simp; omega
 have:=Nat.pow_le_pow_right (n:=10) (by omega) h2
 unfold xQ qI; omega
theorem qLL {s:List UInt8} (h:s.all zB=true):∀ (f e:Nat),e≤f→okL (kZ s e)
 | 0,e,he=>by rw [show e=0 by omega,yP]; intro x hx; cases hx
 | f+1,e,he=>by
  by_cases hp:0<e
  ·rw [uO hp]
   intro x hx
   rcases List.mem_cons.1 hx with rfl | hx
   ·exact qQW h e
   exact qLL h f (e-9) (by omega) x hx
  rw [show e=0 by omega,yP]; intro x hx; cases hx
theorem qHN {s:List UInt8} (h:s.all zB=true):∀ (f e:Nat),e≤f→e≤s.length→qL (kZ s e)=zF (s.take e)
 | 0,e,he,_=>by rw [show e=0 by omega,yP]; rfl
 | f+1,e,he,hs=>by
  by_cases hp:0<e
  ·rw [uO hp]
   simp only [qL]
   rw [qHN h f (e-9) (by omega) (by omega)]
   have e1:s.take e=s.take (e-9)++(s.take e).drop (e-9):=by
    have h2:=List.take_append_drop (e-9) (s.take e)
    rw [List.take_take,Nat.min_eq_left (by omega)] at h2
    exact h2.symm
   have e2:zF (s.take e)=zF (s.take (e-9)) * 10 ^ ((s.take e).drop (e-9)).length+xQ s e:=by
    rw [e1,qCY,← e1]; rfl
   rw [e2]
   by_cases h9:9≤e
   ·have:((s.take e).drop (e-9)).length=9:=by simp; omega
    rw [this]; unfold qI; omega
   rw [show e-9=0 by omega]; simp [zF]
  rw [show e=0 by omega,yP]; rfl
theorem jK (l:List Nat) (x:Nat):zQ (l++[x])=if x=0 then zQ l else l++[x]:=by
 unfold zQ
 rw [List.reverse_append]
 simp only [List.reverse_cons,List.reverse_nil,List.nil_append,List.singleton_append,List.dropWhile_cons]
 by_cases h:x=0
 ·simp [h]
 simp [h]
theorem wT (l:List Nat) (x:Nat):qL (l++[x])=qL l+qI ^ l.length * x:=by
 induction l with
 | nil=>simp [qL]
 | cons a l ih=>simp only [List.cons_append,qL,ih,List.length_cons,Nat.pow_succ,Nat.mul_add]; rw [Nat.add_assoc,Nat.mul_comm (qI ^ l.length) qI,Nat.mul_assoc]
theorem qIM {p:List Nat→Prop} (h0:p []) (h1:∀ l x,p l→p (l++[x])) (l:List Nat):p l:=by
 have:∀ r:List Nat,p r.reverse:=by
  intro r
  induction r with
  | nil=>exact h0
  | cons a r ih=>rw [List.reverse_cons]; exact h1 _ _ ih
 simpa using this l.reverse
theorem qAB (l:List Nat):qL (zQ l)=qL l:=by
 refine qIM (p:=fun l=>qL (zQ l)=qL l) rfl (fun l x ih => ?_) l
 rw [jK]
 split
 ·rename_i h; rw [ih,wT,h]; simp
 rfl
theorem qBW {l:List Nat} (h:okL l):okL (zQ l):=by
 intro x hx
 unfold zQ at hx
 rw [List.mem_reverse] at hx
 exact h x (List.mem_reverse.1 ((List.dropWhile_sublist _).subset hx))
def qDS (l:List Nat):Prop:=okL l∧l.getLast?≠some 0
theorem qMV {l:List Nat} (h:okL l):qDS (zQ l):=by
 refine ⟨qBW h, ?_⟩
 refine qIM (p:=fun l=>(zQ l).getLast?≠some 0) (by simp [zQ]) (fun l x ih => ?_) l
 rw [jK]
 split
 ·exact ih
 rename_i h; simp; exact h
theorem vT {l:List Nat} (h:okL l):qL l<qI ^ l.length:=by
 induction l with
 | nil=>simp [qL]
 | cons a l ih =>
  have h1:=h a (by simp)
  have h2:=ih fun x hx=>h x (by simp [hx])
  simp only [qL,List.length_cons,Nat.pow_succ]
  have:qI * (qL l+1)≤qI * qI ^ l.length:=Nat.mul_le_mul_left _ h2
  rw [Nat.mul_comm (qI ^ l.length)]
  rw [Nat.mul_add] at this; omega
theorem qTD {l:List Nat} (h:l≠[]) (hc:l.getLast?≠some 0):qI ^ (l.length-1)≤qL l:=by
 have hs:l=l.dropLast++[l.getLast h]:=(List.dropLast_concat_getLast h).symm
 have hx:l.getLast h≠0:=fun e=>hc (by rw [← e]; exact List.getLast?_eq_some_getLast h)
 have hv:qL l=qL l.dropLast+qI ^ l.dropLast.length * l.getLast h:=by
  conv=>lhs; rw [hs]
  exact wT _ _
 rw [hv,List.length_dropLast]
 have:qI ^ (l.length-1) * 1≤qI ^ (l.length-1) * l.getLast h:=Nat.mul_le_mul_left _ (by omega)
 omega
theorem qFA {l m:List Nat} (hl:qDS l) (hm:qDS m) (h:l.length<m.length):qL l<qL m:=by
 have h1:=vT hl.1
 have h2:=qTD (l:=m) (by rintro rfl; simp at h) hm.2
 have h3:qI ^ l.length≤qI ^ (m.length-1):=Nat.pow_le_pow_right (by decide) (by omega)
 omega
def jR (l m:List Nat):Nat→Int
 | 0=>0
 | i+1=>if l.getD i 0=m.getD i 0 then jR l m i else if l.getD i 0<m.getD i 0 then -1 else 1
def jT (l m:List Nat):Int:=if l.length≠m.length then (l.length:Int)-m.length else jR l m l.length
theorem qAD {l:List Nat} {i:Nat} (h:i<l.length):l.take (i+1)=l.take i++[l.getD i 0]:=by
 rw [List.take_succ_eq_append_getElem h]; simp [List.getD_eq_getElem?_getD,h]
theorem qCZ {l m : List Nat} (hl : okL l) (hm : okL m) (hlen : l.length = m.length) : ∀ i, i ≤ l.length →
  jR l m i=if qL (l.take i)<qL (m.take i) then -1 else if qL (l.take i)=qL (m.take i) then 0 else 1
 | 0,_=>by simp [jR,qL]
 | i+1,hi=>by
  have h1:=vT (l:=l.take i) fun x hx=>hl x (List.mem_of_mem_take hx)
  have h2:=vT (l:=m.take i) fun x hx=>hm x (List.mem_of_mem_take hx)
  have e1:(l.take i).length=i:=by simp; omega
  have e2:(m.take i).length=i:=by simp; omega
  rw [e1] at h1
  rw [e2] at h2
  rw [qAD (by omega),qAD (by omega),wT,wT,e1,e2]
  simp only [jR]
  by_cases h:l.getD i 0=m.getD i 0
  ·rw [if_pos h,qCZ hl hm hlen i (by omega),h]
   have a1:(qL (l.take i)+qI ^ i * m.getD i 0<qL (m.take i)+qI ^ i * m.getD i 0)=(qL (l.take i)<qL (m.take i)):=propext (by omega)
   have a2:(qL (l.take i)+qI ^ i * m.getD i 0=qL (m.take i)+qI ^ i * m.getD i 0)=(qL (l.take i)=qL (m.take i)):=propext (by omega)
   simp only [a1,a2]
  rw [if_neg h]
  by_cases h3:l.getD i 0<m.getD i 0
  ·rw [if_pos h3]
   have:=Nat.mul_le_mul_left (qI ^ i) (show l.getD i 0+1≤m.getD i 0 by omega)
   rw [Nat.mul_add,Nat.mul_one] at this
   rw [if_pos (by omega)]
  rw [if_neg h3]
  have:=Nat.mul_le_mul_left (qI ^ i) (show m.getD i 0+1≤l.getD i 0 by omega)
  rw [Nat.mul_add,Nat.mul_one] at this
  rw [if_neg (by omega),if_neg (by omega)]
def sgn (n:Int):Int:=if n<0 then -1 else if n=0 then 0 else 1
theorem qLC {l m:List Nat} (hl:qDS l) (hm:qDS m):sgn (jT l m)=sgn ((qL l:Int)-qL m):=by
 unfold jT
 by_cases h:l.length=m.length
 ·rw [if_neg (by omega),qCZ hl.1 hm.1 h l.length (Nat.le_refl _),List.take_length,h,List.take_length]
  unfold sgn
  split
  ·rw [if_pos (by omega),if_pos (by omega)]
  split
  ·rw [if_neg (by omega),if_pos rfl,if_neg (by omega),if_pos (by omega)]
  rw [if_neg (by omega),if_neg (by omega),if_neg (by omega),if_neg (by omega)]
 rw [if_pos h]
 unfold sgn
 rcases Nat.lt_or_gt_of_ne h with h1 | h1
 ·have:=qFA hl hm h1
  rw [if_pos (by omega),if_pos (by omega)]
 have:=qFA hm hl h1
 rw [if_neg (by omega),if_neg (by omega),if_neg (by omega),if_neg (by omega)]
def jH (s:List UInt8):List Nat:=zQ (kZ s s.length)
theorem qLA {s:List UInt8} (h:s.all zB=true):qDS (jH s):=qMV (qLL h _ _ (Nat.le_refl _))
theorem qKY {s:List UInt8} (h:s.all zB=true):qL (jH s)=zF s:=by
 unfold jH; rw [qAB,qHN h _ _ (Nat.le_refl _) (Nat.le_refl _),List.take_length]
theorem qHO (s:List UInt8):∀ (f e:Nat),e≤f→(kZ s e).length≤e
 | 0,e,he=>by rw [show e=0 by omega,yP]; simp
 | f+1,e,he=>by
  by_cases hp:0<e
  ·rw [uO hp]; have:=qHO s f (e-9) (by omega); simp; omega
  rw [show e=0 by omega,yP]; simp
theorem qKZ (s:List UInt8):(jH s).length≤s.length:=by
 have h1:(jH s).length≤(kZ s s.length).length:=by
  unfold jH zQ; rw [List.length_reverse]; have:=(List.dropWhile_sublist (fun x:Nat=>x == 0) (l:=(kZ s s.length).reverse)).length_le; simpa using this
 have:=qHO s _ s.length (Nat.le_refl _); omega
@[simp] def zC (n:Nat):PD := .int .u64 n
theorem qII (l:List Nat):AFn Tryz.prog G 208 [.sl 1 (l.map zC)] (.sl 1 ((zQ l).map zC)):=by
 refine AFn.introU tok Tryz.func208 (by kernel_rfl) rfl rfl ?_
 simp only [Tryz.f208,qK,List.map_cons,List.map_nil]
 refine rgn [] [[0]] ?_
 refine op1 tok ?_
 refine qA (AW.seq (AW.block ?_))
 refine AW.loop (α:=List Nat) (fun r=>zQ r=zQ l) (fun r=>⟨zA 21 [(0,.p (.sl 1 (r.map zC)))],[],[],0⟩) (fun r=>r.length) (l) rfl ⟨qG (by simp),rfl,by simp,by simp⟩ ?_
 rintro r hr
 refine AW.slFactU (i:=0) rfl (by decide) ?_
 intro hlen
 simp at hlen
 have hlast:0<r.length→r[r.length-1]?=some (r.getD (r.length-1) 0):=fun h=>by simp [List.getD_eq_getElem?_getD,show r.length-1<r.length by omega]
 refine AW.seq (rgn [.int .u64 (r.getD (r.length-1) 0:Nat)] [[],[],[],[],[],[],[0,6,7,9],[],[],[0,6,12],[],[0,14]] ?_)
 iterate 4 refine op1 tok ?_ (hv:=by first | with_reducible exact True.intro | ((intro h; refine ⟨h,by omega,_,hlast h, ?_⟩; simp); done) | omega | simp | (simp +contextual; omega))
 iterate 7 refine op2 tok ?_ (hv:=by first | with_reducible exact True.intro | ((intro h; refine ⟨h,by omega,_,hlast h, ?_⟩; simp); done) | omega | simp | (simp +contextual; omega))
 refine op1 tok ?_ (hv:=by first | with_reducible exact True.intro | ((intro h; refine ⟨h,by omega,_,hlast h, ?_⟩; simp); done) | omega | simp | (simp +contextual; omega))
 refine qA (cnd ?_ ?_)
 ·intro h14
  try simp at h14
  obtain ⟨s,x,rfl⟩:∃ s x,r=s++[x]:=⟨r.dropLast,r.getLast (by rintro rfl; simp at h14),(List.dropLast_concat_getLast _).symm⟩
  simp at h14
  subst h14
  have hr':zQ s=zQ l:=by rw [← hr,jK]; simp
  have hsl:(s.length:Int)≤9223372036854775807:=by simp at hlen; omega
  refine AW.skip (AW.block (rgz [] [[],[],[],[],[19],[0]] ?_))
  iterate 6 refine op1 tok ?_
  refine qA ?_
  exact ⟨s,hr',by simp,qG (by simp),rfl,by simp,by simp⟩
 intro h14
 try simp at h14
 have hN:zQ r=r:=by
  refine qIM (p:=fun r=>(0<r.length→¬ r.getD (r.length-1) 0=0)→zQ r=r) (fun _=>rfl) (fun s x _ h => ?_) r (fun h=>by have:=h14 h; simpa using this)
  have:=h (by simp)
  rw [jK,if_neg (by simpa using this)]
 rw [← hr,hN]
 refine AW.exit ?_
 simp
 refine rgn [] [[],[2]] ?_
 iterate 2 refine op1 tok ?_
 exact qA (AW.ret qO)
theorem wJ {x:Int} (h0:0≤x) (h1:x<18446744073709551616):IntKind.u64.wrap x=x:=by simp [IntKind.wrap,IntKind.bits,IntKind.signed]; omega
theorem qOT {x:Int} (h0:0≤x) (h1:x<256):IntKind.u8.wrap x=x:=by simp [IntKind.wrap,IntKind.bits,IntKind.signed]; omega
theorem qSW (s:List UInt8) (hs:s.all zB=true) (hl:s.length≤1000000):AFn Tryz.prog G 203 [.str s] (.sl 1 ((jH s).map zC)):=by
 refine AFn.introU tok Tryz.func203 (by kernel_rfl) rfl rfl ?_
 simp only [Tryz.f203,qK,List.map_cons,List.map_nil]
 refine rgn [] [[0]] ?_
 refine op1 tok ?_
 refine qA (rgn [] [[]] ?_)
 refine op1 tok ?_
 refine qA (AW.seq (rgn [] [[],[],[0,3,4]] ?_))
 iterate 3 refine op1 tok ?_
 refine qA (AW.block ?_)
 refine AW.beginE 3 36 24 1 (by simp) (by simp) (by conv=>lhs; simp) ?_
 refine AW.loop (α:=Int × List Nat) (fun a=>a.1≤s.length ∧ -9<a.1∧a.2.length≤s.length-a.1.toNat∧a.2++kZ s a.1.toNat=kZ s s.length) (fun a=>⟨zA 39 [(0,.p (.str s)),(3,.ms 36),(4,.p (.int .i64 a.1))],[],[(36,.row 24 1 (a.2.map zC))],0⟩) (fun a=>a.1.toNat) (((s.length:Int),[])) ⟨by simp,by simp only []; omega,by simp,by simp⟩ ⟨qG (by simp),rfl,by simp,by simp⟩ ?_
 rintro ⟨e,acc⟩ ⟨h1,h2,hal,h3⟩
 simp only at h1 h2 h3 hal
 refine AW.seq (rgn [] [[],[0,3,4,11]] ?_)
 iterate 2 refine op1 tok ?_
 refine qA (cnd ?_ ?_)
 ·intro h11
  try simp at h11
  obtain ⟨n,rfl⟩:∃ n:Nat,e=n:=⟨e.toNat,by omega⟩
  obtain ⟨c,hc⟩:∃ c,c=(s.take n).drop (n-9):=⟨_,rfl⟩
  have hcd:c.all zB=true:=by rw [hc]; exact qMM (qFV hs n) _
  have hcl:c.length≤9:=by rw [hc]; simp; omega
  have hvc:zF c=xQ s n:=by rw [hc]; rfl
  have hmx:(if 9<(n:Int) then (n:Int)-9 else 0).toNat=n-9:=by split <;> omega
  refine AW.skip (AW.seq (AW.block (rgn [] [[]] ?_)))
  refine op1 tok ?_
  refine qA (AW.seq (rgn [] [[],[],[],[],[],[0,3,4,5,19],[],[],[0,3,4,5,20,21,22]] ?_))
  iterate 9 refine op1 tok ?_
  refine qA (AW.block ?_)
  refine AW.loop (α:=Nat) (fun k=>k≤c.length) (fun k=>⟨zA 39 [(0,.p (.str s)),(3,.ms 36),(4,.p (.int .i64 n)),(5,.p (.int .u64 (zF (c.take k):Nat))),(20,.p (.sl 1 (qE c))),(21,.p (.int .i64 c.length)),(22,.p (.int .i64 k))],[],[(36,.row 24 1 (acc.map zC))],0⟩) (fun k=>c.length-k) (0) (by omega) ⟨qG (by simp [hmx,hc,zF]),rfl,by simp,by simp⟩ ?_
  rintro k hk
  have hck:=jJ (qFV hcd k)
  have hck2:(c.take k).length≤8→zF (c.take k)<100000000:=fun h=>Nat.lt_of_lt_of_le hck (Nat.pow_le_pow_right (n:=10) (by omega) h)
  have hix:∀ k:Nat,k<c.length→c[k]?=some (c.getD k 0):=fun k h=>qFR h
  refine rgn [] [[]] ?_
  refine op1 tok ?_
  refine qA (AW.seq (cnd ?_ ?_))
  ·intro h23
   try simp at h23
   have hdk:=(wC _).1 (List.all_eq_true.1 hcd _ (List.mem_of_getElem? (hix k h23)))
   have hv8:zF (c.take k)<100000000:=hck2 (by simp; omega)
   have hsn:zF (c.take (k+1))=zF (c.take k) * 10+((c.getD k 0).toNat-48):=by rw [List.take_add_one,hix k h23]; exact qGU _ _
   have hbk:zR c k=((c.getD k 0).toNat:Int):=rfl
   have hw1:IntKind.u8.wrap (zR c k-48)=zR c k-48:=qOT (by omega) (by omega)
   have hw2:IntKind.u64.wrap ((zF (c.take k):Int) * 10)=(zF (c.take k):Int) * 10:=wJ (by omega) (by omega)
   have hw3:IntKind.u64.wrap ((zF (c.take k):Int) * 10+(zR c k-48))=(zF (c.take (k+1)):Int):=by rw [wJ (by omega) (by omega),hsn]; omega
   refine AW.skip (AW.seq (AW.block (rgn [.int .u8 (zR c k)] [[],[],[0,3,4,5,7,20,21,22]] ?_)))
   iterate 3 refine op1 tok ?_ (hv:=by first | with_reducible exact True.intro | (first | exact jD (hix k h23) | simp; done) | omega | simp | (simp +contextual; omega))
   refine qA (rgz [] [[],[],[],[0,3,4,20,21,22,27,29],[],[],[0,3,4,5,20,21,22]] ?_)
   iterate 7 refine op1 tok ?_
   refine qA (rgz [] [[],[0,3,4,5,20,21,22]] ?_)
   iterate 2 refine op1 tok ?_
   refine qA ?_
   exact ⟨k+1,by omega,by omega,qG (by simp [hw1,hw2,hw3]),rfl,by simp [hw1,hw2,hw3],by simp [hw1,hw2,hw3]⟩
  intro h23
  try simp at h23
  have hkc:k=c.length:=by omega
  subst hkc
  simp only [List.take_length,hvc]
  have hlz:=uO (s:=s) (e:=n) (by omega)
  have h3':acc++[xQ s n]++kZ s ((n:Int)-9).toNat=kZ s s.length:=by
   rw [← h3,show ((n:Int)).toNat=n by omega,hlz,show ((n:Int)-9).toNat=n-9 by omega]; simp
  refine AW.exit ?_
  simp
  refine rgz [.int .u64 (xQ s n:Nat)] [[],[],[],[0,4,36],[0,3,4]] ?_
  iterate 5 refine op1 tok ?_ (hv:=by first | with_reducible exact True.intro | ((simp; omega); done) | omega | simp | (simp +contextual; omega))
  refine qA (rgz [] [[],[],[0,3,4]] ?_)
  iterate 3 refine op1 tok ?_
  refine qA ?_
  exact ⟨(n:Int)-9,acc++[xQ s n],⟨by omega,by omega,by simp; omega,h3'⟩,by omega,qG (by simp),rfl,by simp,by simp⟩
 intro h11
 try simp at h11
 have hacc:acc=kZ s s.length:=by rw [← h3,show e.toNat=0 by omega,yP]; simp
 subst hacc
 refine AW.exit ?_
 simp
 refine rgn [.nilp,.sl 1 ((jH s).map zC)] [[],[],[2]] ?_
 iterate 3 refine op1 tok ?_ (hv:=by first | with_reducible exact True.intro | (exact qII _; done) | omega | simp | (simp +contextual; omega))
 exact qA (AW.ret qO)
theorem qQU (l m:List Nat) (h1:l.length≤1000000) (h2:m.length≤1000000):AFn Tryz.prog G 164 [.sl 1 (l.map zC),.sl 1 (m.map zC)] (.int .i64 (jT l m)):=by
 refine AFn.introU tok Tryz.func164 (by kernel_rfl) rfl rfl ?_
 simp only [Tryz.f164,qK,List.map_cons,List.map_nil]
 have hixl:∀ k:Nat,k<l.length→l[k]?=some (l.getD k 0):=fun k h=>by simp [List.getD_eq_getElem?_getD,h]
 have hixm:∀ k:Nat,k<m.length→m[k]?=some (m.getD k 0):=fun k h=>by simp [List.getD_eq_getElem?_getD,h]
 refine rgn [] [[0,1]] ?_
 refine op1 tok ?_
 refine qA (AW.seq (rgn [] [[],[],[],[],[0,1,10]] ?_))
 iterate 5 refine op1 tok ?_
 refine qA (cnd ?_ ?_)
 ·intro h10
  try simp at h10
  have hN:jT l m=(l.length:Int)-m.length:=by simp only [jT]; rw [if_pos (by omega)]
  refine rgn [] [[],[],[],[12,14],[],[4]] ?_
  iterate 6 refine op1 tok ?_
  refine qA ?_
  exact AW.ret (qO (k:=by simp [hN]))
 intro h10
 try simp at h10
 have hlen:l.length=m.length:=by omega
 have hN:jT l m=jR l m l.length:=by simp only [jT]; rw [if_neg (by omega)]
 rw [hN]
 refine AW.skip (AW.seq (rgn [] [[],[],[],[0,1,5]] ?_))
 iterate 4 refine op1 tok ?_
 refine qA (AW.block ?_)
 refine AW.loop (α:=Nat) (fun k=>k≤l.length∧jR l m l.length=jR l m k) (fun k=>⟨zA 41 [(0,.p (.sl 1 (l.map zC))),(1,.p (.sl 1 (m.map zC))),(5,.p (.int .i64 (k-1)))],[],[],0⟩) (fun k=>k) (l.length) ⟨Nat.le_refl _,rfl⟩ ⟨qG (by simp),rfl,by simp,by simp⟩ ?_
 rintro k ⟨hk,ht⟩
 refine AW.seq (rgn [] [[],[0,1,5,20]] ?_)
 iterate 2 refine op1 tok ?_
 refine qA (cnd ?_ ?_)
 ·intro h20
  try simp at h20
  obtain ⟨k,rfl⟩:∃ j,k=j+1:=⟨k-1,by omega⟩
  have hkl:k<l.length:=by omega
  have hkm:k<m.length:=by omega
  have hgl:=hixl k hkl
  have hgm:=hixm k hkm
  have hti:((k+1:Nat):Int)-1=k:=by omega
  simp only [hti]
  generalize hx:l.getD k 0=x at *
  generalize hy:m.getD k 0=y at *
  simp only [jR,hx,hy] at ht
  rw [ht]
  refine AW.skip (AW.seq (AW.block ?_))
  refine AW.seqRunDrawK tok mixed [0,1,5,31] 9 [[0],[5],[23,24],[25],[1],[5],[27,28],[29],[26,30]] [.int .u64 x,.int .u64 y] [] (by kernel_rfl) (by intro C; conv=>lhs; simp) (by simp [hgl,hgm]) (by simp [Sm.sum,Sm.foot,Sm.tch,Sm.refs]; kernel_rfl) (by intro C; conv=>lhs; simp) (by first | with_reducible exact True.intro | omega | simp | (simp +contextual; omega)) ?_
  refine cnd ?_ ?_
  ·intro h31
   try simp at h31
   rw [if_neg (by omega)]
   refine AW.seq ?_
   refine AW.seqRunDrawK tok mixed [40] 9 [[0],[5],[32,33],[34],[1],[5],[36,37],[38],[35,39]] [.int .u64 x,.int .u64 y] [] (by kernel_rfl) (by intro C; conv=>lhs; simp) (by simp [hgl,hgm]) (by simp [Sm.sum,Sm.foot,Sm.tch,Sm.refs]; kernel_rfl) (by intro C; conv=>lhs; simp) (by first | with_reducible exact True.intro | omega | simp | (simp +contextual; omega)) ?_
   refine cnd ?_ ?_
   ·intro h40
    try simp at h40
    rw [if_pos (by omega)]
    refine rgn [] [[]] ?_
    refine op1 tok ?_
    exact qA (AW.ret qO)
   intro h40
   try simp at h40
   rw [if_neg (by omega)]
   refine AW.skip (rgn [] [[]] ?_)
   refine op1 tok ?_
   exact qA (AW.ret qO)
  intro h31
  try simp at h31
  refine AW.skip (rgz [] [[],[],[0,1,5]] ?_)
  iterate 3 refine op1 tok ?_
  refine qA ?_
  exact ⟨k,⟨by omega,by rw [if_pos (by omega)]⟩,by omega,qG (by simp),rfl,by simp,by simp⟩
 intro h20
 try simp at h20
 have hk0:k=0:=by omega
 subst hk0
 rw [ht]
 simp only [jR]
 refine AW.exit ?_
 simp
 refine rgn [] [[]] ?_
 refine op1 tok ?_
 exact qA (AW.ret qO)
def kX (d:Dc) (sc:Int):List UInt8:=d.digits++List.replicate (sc-d.scale).toNat 48
theorem qMN (d:Dc) (sc:Int) (h1:d.digits.length≤1000) (h2:0≤d.scale) (h3:d.scale≤sc) (h4:sc≤1000) (hd:d.digits.all zB=true):AFn Tryz.prog G 202 [d.enc,.ref [.int .i64 sc]] (.sl 1 ((jH (kX d sc)).map zC)):=by
 refine AFn.introU tok Tryz.func202 (by kernel_rfl) rfl rfl ?_
 simp only [Tryz.f202,qK,List.map_cons,List.map_nil]
 have hre:=qIC (G:=G) [48] (sc-d.scale).toNat (by simp; omega)
 rw [qQA,show (((sc-d.scale).toNat:Nat):Int)=sc-d.scale by omega] at hre
 have hna:=qSW (G:=G) (kX d sc) (qBK hd _) (by simp [kX]; omega)
 unfold kX at hna
 unfold kX
 refine rgn [] [[],[1,2]] ?_
 iterate 2 refine op1 tok ?_
 refine qA ?_
 refine AW.seqRunDrawK tok mixed [3] 9 [[2],[4],[1],[2],[7],[6,8],[9],[5,10],[11]] [.nilp,.str (List.replicate (sc-d.scale).toNat 48),.nilp,.sl 1 ((jH (d.digits++List.replicate (sc-d.scale).toNat 48)).map zC)] [] (by kernel_rfl) (by intro C; conv=>lhs; simp) (by ((repeat' (first | with_reducible apply And.intro | intro _)) <;> first | exact (hre) | exact (hna) | assumption | omega | contradiction | simp_all)) (by simp [Sm.sum,Sm.foot,Sm.tch,Sm.refs]; kernel_rfl) (by intro C; conv=>lhs; simp) (by first | with_reducible exact True.intro | omega | simp | (simp +contextual; omega)) ?_
 exact AW.ret qO
def zZ (a b:Dc):Int:=if a.scale<b.scale then b.scale else a.scale
def okD (d:Dc):Prop:=d.digits.length≤1000∧0≤d.scale∧d.scale≤1000∧d.digits.all zB=true
theorem qOP (a b:Dc) (ha:okD a) (hb:okD b):AFn Tryz.prog G 163 [a.enc,b.enc] (.tup [.sl 1 ((jH (kX a (zZ a b))).map zC),.sl 1 ((jH (kX b (zZ a b))).map zC),.int .i64 (zZ a b)]):=by
 refine AFn.introU tok Tryz.func163 (by kernel_rfl) rfl rfl ?_
 simp only [Tryz.f163,qK,List.map_cons,List.map_nil]
 obtain ⟨a1,a2,a3,a4⟩:=ha
 obtain ⟨b1,b2,b3,b4⟩:=hb
 have hm1:a.scale≤zZ a b:=by unfold zZ; split <;> omega
 have hm2:b.scale≤zZ a b:=by unfold zZ; split <;> omega
 have hm3:zZ a b≤1000:=by unfold zZ; split <;> omega
 have e1:=qMN (G:=G) a (zZ a b) a1 a2 hm1 hm3 a4
 have e2:=qMN (G:=G) b (zZ a b) b1 b2 hm2 hm3 b4
 have hmx:(if a.scale<b.scale then b.scale else a.scale)=zZ a b:=rfl
 refine rgn [] [[],[],[],[2,3],[2,3]] ?_
 iterate 5 refine op1 tok ?_
 refine qA (rgn [] [[],[],[],[],[2,3,13],[],[2,3,7]] ?_)
 iterate 7 refine op1 tok ?_
 refine qA (rgn [] [[],[2,3,7,8]] ?_)
 iterate 2 refine op1 tok ?_
 refine qA ?_
 refine AW.freezeV 7 (by conv=>lhs; simp [hmx]) ?_
 refine AW.seqRunDrawK tok mixed [4,5,6] 9 [[8],[2],[15,16],[8],[3],[18,19],[7],[17],[20]] [.nilp,.sl 1 ((jH (kX a (zZ a b))).map zC),.nilp,.sl 1 ((jH (kX b (zZ a b))).map zC)] [] (by kernel_rfl) (by intro C; conv=>lhs; simp) (by ((repeat' (first | with_reducible apply And.intro | intro _)) <;> first | exact (e1) | exact (e2) | assumption | omega | contradiction | simp_all)) (by simp [Sm.sum,Sm.foot,Sm.tch,Sm.refs]; kernel_rfl) (by intro C; conv=>lhs; simp) (by first | with_reducible exact True.intro | omega | simp | (simp +contextual; omega)) ?_
 exact AW.ret qO
theorem qLZ {d:Dc} (h:yT d=true):okD d∧d.digits.length≤60∧d.scale≤60:=by
 unfold yT at h
 simp only [Bool.and_eq_true,decide_eq_true_eq] at h
 obtain ⟨⟨h1,h2⟩,_⟩:=h
 exact ⟨⟨by omega,by omega,by omega,h1⟩,by omega,by omega⟩
theorem qDZ {s:List UInt8} (hd:s.all zB=true) (hl:0<s.length) (h:zR s 0≠48):10 ^ (s.length-1)≤zF s:=by
 cases s with
 | nil=>simp at hl
 | cons b s =>
  simp only [List.all_cons,Bool.and_eq_true] at hd
  have h1:=(wC b).1 hd.1
  have h2:b.toNat≠48:=by simp [zR] at h; omega
  rw [yR]
  have:=Nat.mul_le_mul_right (10 ^ s.length) (show 1≤b.toNat-48 by omega)
  simp; omega
def yX (s:List UInt8) (i:Nat):Nat→Nat→Int→Option Int
 | 0,_,v=>some v
 | r+1,j,v=>match s[i+j]? with
  | none=>none
  | some c=>if (c.toNat:Int)<128∨192≤(c.toNat:Int) then none else yX s i r (j+1) (64 * v+c.toNat-128)
def wK (c:Int):Nat × Int × Int :=
 if 194≤c∧c<224 then (2,128,c-192) else if 224≤c∧c<240 then (3,2048,c-224) else if 240≤c∧c<245 then (4,65536,c-240) else (0,0,0)
def qEM (low:Int) (need:Nat):Option Int→Int × Int
 | none=>(0,0)
 | some v=>if v<low∨v > 1114111∨(55296≤v∧v<57344) then (0,0) else (v,need)
def wP (s:List UInt8) (i:Nat) (x:Nat × Int × Int):Int × Int:=if x.1=0∨s.length<i+x.1 then (0,0) else qEM x.2.1 x.1 (yX s i (x.1-1) 1 x.2.2)
def zT (s:List UInt8) (i:Nat):Int × Int:=match s[i]? with
 | none=>(0,0)
 | some b=>if (b.toNat:Int)<128 then (b.toNat,1) else wP s i (wK b.toNat)
def rS (s:List UInt8) (i:Nat) (x:Nat × Int × Int):St:=⟨[.p (.str s),.p (.int .i64 i),.dead,.dead,.p (.int .i64 0),.p (.int .i64 0),.dead,.p (.int .i64 x.1),.p (.int .i64 x.2.1),.p (.int .i64 x.2.2)]++List.replicate 86 .dead,[],[],0⟩
def rS2 (s:List UInt8) (i:Nat) (need:Nat) (low:Int) (a:Nat × Int):St:=⟨[.p (.str s),.p (.int .i64 i),.dead,.dead,.p (.int .i64 0),.p (.int .i64 0),.dead,.p (.int .i64 need),.p (.int .i64 low),.p (.int .i64 a.2),.p (.int .i64 a.1)]++List.replicate 85 .dead,[],[],0⟩
theorem qWQ (s:List UInt8) (i:Nat) (hi:i<s.length) (hs:s.length≤1000000000):AFn Tryz.prog G 92 [.str s,.int .i64 i] (.tup [.int .i64 (zT s i).1,.int .i64 (zT s i).2]):=by
 refine AFn.intro tok Tryz.func92 (by kernel_rfl) rfl ?_
 simp only [Tryz.f92,St.start]
 obtain ⟨b,hb⟩:∃ b,s[i]?=some b:=⟨s[i],by simp [hi]⟩
 have hblt:b.toNat<256:=b.toNat_lt
 have hrune:zT s i=if (b.toNat:Int)<128 then ((b.toNat:Int),1) else wP s i (wK b.toNat):=by simp only [zT,hb]
 refine AW.seqRun tok [] (by intro C; conv=>lhs; simp) trivial ?_
 refine AW.seqRun tok [.int .u8 b.toNat] (by intro C; conv=>lhs; simp) (by simp [hb]) ?_
 refine AW.seqRun tok [] (by intro C; conv=>lhs; simp) trivial ?_
 refine AW.seqRun tok [] (by intro C; conv=>lhs; simp) trivial ?_
 refine AW.seqRun tok [] (by intro C; conv=>lhs; simp) trivial ?_
 refine AW.join (α:=Nat × Int × Int) (fun x=>zT s i=wP s i x∧x.1≤4∧0≤x.2.2∧x.2.2≤40) (fun x=>rS s i x) ?_ ?_
 ·refine AW.block ?_
  refine AW.seqRun tok [] (by intro C; conv=>lhs; simp) trivial ?_
  refine AW.cond (c := .tmp 16) (by conv=>lhs; simp) trivial ?_ ?_
  ·intro h1
   simp at h1
   refine AW.seqRun tok [] (by intro C; conv=>lhs; simp) trivial ?_
   exact AW.ret ⟨.inr rfl,_,_,by (conv=>lhs; simp),trivial,by rw [hrune,if_pos h1]; simp⟩
  intro h1
  simp at h1
  have hr2:zT s i=wP s i (wK b.toNat):=by rw [hrune,if_neg (by omega)]
  refine AW.seqRun tok [] (by intro C; conv=>lhs; simp) (by simp) ?_
  refine AW.cond (c := .tmp 20) (by conv=>lhs; simp) trivial ?_ ?_
  ·intro h2
   simp at h2
   refine AW.seqRun tok [] (by intro C; conv=>lhs; simp) trivial ?_
   refine AW.seqRun tok [] (by intro C; conv=>lhs; simp) trivial ?_
   refine AW.run tok [] (by intro C; conv=>lhs; simp) (by omega) ?_
   exact ⟨(2,128,b.toNat-192),⟨by rw [hr2]; simp [wK,h2],by simp,by simp; omega,by simp; omega⟩,by simp [rS],rfl,by simp [rS],by simp [rS]⟩
  intro h2
  refine AW.seqRun tok [] (by intro C; conv=>lhs; simp) (by simp) ?_
  refine AW.cond (c := .tmp 29) (by conv=>lhs; simp) trivial ?_ ?_
  ·intro h3
   simp at h3
   refine AW.seqRun tok [] (by intro C; conv=>lhs; simp) trivial ?_
   refine AW.seqRun tok [] (by intro C; conv=>lhs; simp) trivial ?_
   refine AW.run tok [] (by intro C; conv=>lhs; simp) (by omega) ?_
   exact ⟨(3,2048,b.toNat-224),⟨by rw [hr2]; simp [wK,h3,show ¬ ((b.toNat:Int)<224) by omega],by simp,by simp; omega,by simp; omega⟩,by simp [rS],rfl,by simp [rS],by simp [rS]⟩
  intro h3
  refine AW.seqRun tok [] (by intro C; conv=>lhs; simp) (by simp) ?_
  refine AW.cond (c := .tmp 38) (by conv=>lhs; simp) trivial ?_ ?_
  ·intro h4
   simp at h4
   refine AW.seqRun tok [] (by intro C; conv=>lhs; simp) trivial ?_
   refine AW.seqRun tok [] (by intro C; conv=>lhs; simp) trivial ?_
   refine AW.run tok [] (by intro C; conv=>lhs; simp) (by omega) ?_
   exact ⟨(4,65536,b.toNat-240),⟨by rw [hr2]; simp [wK,h4,show ¬ ((b.toNat:Int)<224) by omega,show ¬ ((b.toNat:Int)<240) by omega],by simp,by simp; omega,by simp; omega⟩,by simp [rS],rfl,by simp [rS],by simp [rS]⟩
  intro h4
  simp at h2 h3 h4
  refine AW.skip ?_
  exact ⟨(0,0,0),⟨by rw [hr2]; simp [wK,show ¬ (194≤(b.toNat:Int)∧(b.toNat:Int)<224) by omega,show ¬ (224≤(b.toNat:Int)∧(b.toNat:Int)<240) by omega,show ¬ (240≤(b.toNat:Int)∧(b.toNat:Int)<245) by omega],
   by simp,by simp,by simp⟩,by simp [rS],rfl,by simp [rS],by simp [rS]⟩
 rintro ⟨need,low,v0⟩ ⟨hr,hneed,hv0,hv1⟩
 simp only at hneed hv0 hv1
 simp only [rS]
 rw [hr]
 refine AW.seq ?_
 refine AW.seqRun tok [] (by intro C; conv=>lhs; simp) (by simp +contextual; omega) ?_
 refine AW.cond (c := .tmp 56) (by conv=>lhs; simp) trivial ?_ ?_
 ·intro h1
  simp at h1
  refine AW.seqRun tok [] (by intro C; conv=>lhs; simp) trivial ?_
  exact AW.ret ⟨.inr rfl,_,_,by (conv=>lhs; simp),trivial,by simp [wP,show need=0∨s.length<i+need by omega]⟩
 intro h1
 simp at h1
 have hfit:¬ (need=0∨s.length<i+need):=by omega
 have htl:wP s i (need,low,v0)=qEM low need (yX s i (need-1) 1 v0):=by simp only [wP]; rw [if_neg hfit]
 rw [htl]
 refine AW.skip (AW.seq ?_)
 refine AW.seqRun tok [] (by intro C; conv=>lhs; simp) trivial ?_
 refine AW.block ?_
 refine AW.loop (α:=Nat × Int) (fun a=>1≤a.1∧a.1≤need∧yX s i (need-1) 1 v0=yX s i (need-a.1) a.1 a.2∧0≤a.2∧(a.1=1→a.2≤40)∧(a.1=2→a.2≤3000)∧(a.1=3→a.2≤200000)∧(a.1=4→a.2≤14000000))
  (fun a=>rS2 s i need low a) (fun a=>need-a.1) (1,v0) ⟨by simp,by omega,rfl,hv0,fun _=>hv1,by simp,by simp,by simp⟩ ⟨by simp [rS2],rfl,by simp [rS2],by simp [rS2]⟩ ?_
 rintro ⟨j,v⟩ ⟨hj1,hj2,hlp,hv,hb1,hb2,hb3,hb4⟩
 simp only at hj1 hj2 hlp hv hb1 hb2 hb3 hb4
 simp only [rS2]
 refine AW.seq ?_
 refine AW.seqRun tok [] (by intro C; conv=>lhs; simp) trivial ?_
 refine AW.cond (c := .tmp 59) (by conv=>lhs; simp) trivial ?_ ?_
 ·intro h4
  simp at h4
  obtain ⟨c,hc⟩:∃ c,s[i+j]?=some c:=⟨s[i+j]'(by omega),by simp [show i+j<s.length by omega]⟩
  have hclt:c.toNat<256:=c.toNat_lt
  have hstep:yX s i (need-j) j v=if (c.toNat:Int)<128∨192≤(c.toNat:Int) then none else yX s i (need-(j+1)) (j+1) (64 * v+c.toNat-128):=by
   rw [show need-j=(need-(j+1))+1 by omega]; simp only [yX,hc]
  refine AW.skip (AW.seq (AW.block ?_))
  refine AW.seqRun tok [.int .u8 c.toNat] (by intro C; conv=>lhs; simp) (by rw [show ((i:Int)+j).toNat=i+j by omega]; simp [hc]; omega) ?_
  refine AW.seq ?_
  refine AW.seqRun tok [] (by intro C; conv=>lhs; simp) (by simp) ?_
  refine AW.cond (c := .tmp 73) (by conv=>lhs; simp) trivial ?_ ?_
  ·intro h5
   simp at h5
   refine AW.seqRun tok [] (by intro C; conv=>lhs; simp) trivial ?_
   exact AW.ret ⟨.inr rfl,_,_,by (conv=>lhs; simp),trivial,by rw [hlp,hstep,if_pos (by omega)]; simp [qEM]⟩
  intro h5
  simp at h5
  refine AW.skip ?_
  refine AW.run tok [] (by intro C; conv=>lhs; simp) (by omega) ?_
  refine AW.run tok [] (by intro C; conv=>lhs; simp) (by omega) ?_
  exact ⟨(j+1,64 * v+c.toNat-128),⟨by simp,by simp; omega,by rw [hlp,hstep,if_neg (by omega)],by simp; omega,by simp; omega,by simp; omega,by simp; omega,by simp; omega⟩,by simp; omega,by simp [rS2],rfl,by simp [rS2],by simp [rS2]⟩
 intro h4
 simp at h4
 have hjn:j=need:=by omega
 subst hjn
 rw [hlp]
 simp only [Nat.sub_self,yX]
 refine AW.exit ?_
 simp
 refine AW.seq ?_
 refine AW.seqRun tok [] (by intro C; conv=>lhs; simp) (by omega) ?_
 refine AW.cond (c := .tmp 93) (by conv=>lhs; simp) trivial ?_ ?_
 ·intro h5
  simp at h5
  refine AW.seqRun tok [] (by intro C; conv=>lhs; simp) trivial ?_
  exact AW.ret ⟨.inr rfl,_,_,by (conv=>lhs; simp),trivial,by simp only [qEM]; rw [if_pos (by omega)]; simp⟩
 intro h5
 simp at h5
 refine AW.skip ?_
 refine AW.seqRun tok [] (by intro C; conv=>lhs; simp) trivial ?_
 exact AW.ret ⟨.inr rfl,_,_,by (conv=>lhs; simp),trivial,by simp only [qEM]; rw [if_neg (by omega)]; simp⟩
theorem qHA (s:List UInt8) (i:Nat) (hi:i<s.length):0≤(zT s i).2∧(i:Int)+(zT s i).2≤s.length∧(zT s i).2≤4:=by
 unfold zT
 split
 ·simp; omega
 rename_i b hb
 split
 ·simp; omega
 have h4:(wK b.toNat).1≤4:=by
  unfold wK; split
  ·simp
  split
  ·simp
  split <;> simp
 generalize wK b.toNat=x at h4
 unfold wP
 split
 ·simp; omega
 rename_i h
 have h':i+x.1≤s.length:=by omega
 unfold qEM
 split
 ·simp; omega
 split
 ·simp; omega
 simp only; omega
def qCX (s:List UInt8):Nat→Nat→Bool
 | 0,_=>true
 | f+1,i=>if i<s.length then (if (zT s i).2=0 then false else qCX s f (i+(zT s i).2.toNat)) else true
def qBU (s:List UInt8):Bool:=qCX s (s.length+1) 0
def vS (s:List UInt8) (i:Nat):St:=⟨[.p (.str s),.dead,.p (.bool false),.p (.int .i64 i)]++List.replicate 17 .dead,[],[],0⟩
theorem qKO (s:List UInt8) (hs:s.length≤1000000000):AFn Tryz.prog G 48 [.str s] (.bool (qBU s)):=by
 refine AFn.intro tok Tryz.func48 (by kernel_rfl) rfl ?_
 simp only [Tryz.f48,St.start]
 refine AW.seqRun tok [] (by intro C; conv=>lhs; simp) trivial ?_
 refine AW.seqRun tok [] (by intro C; conv=>lhs; simp) trivial ?_
 refine AW.seq (AW.block ?_)
 refine AW.loop (α:=Nat × Nat) (fun a=>qBU s=qCX s a.2 a.1∧a.1≤s.length∧s.length+1≤a.2+a.1) (fun a=>vS s a.1) (fun a=>s.length-a.1) (0,s.length+1) ⟨rfl,by simp,by simp⟩ ⟨by simp [vS],rfl,by simp [vS],by simp [vS]⟩ ?_
 rintro ⟨i,f⟩ ⟨hI,hi,hf⟩
 simp only at hI hi hf
 simp only [vS]
 refine AW.seq ?_
 refine AW.seqRun tok [] (by intro C; conv=>lhs; simp) trivial ?_
 refine AW.cond (c := .tmp 9) (by conv=>lhs; simp) trivial ?_ ?_
 ·intro h1
  simp at h1
  obtain ⟨f,rfl⟩:∃ f',f=f'+1:=⟨f-1,by omega⟩
  have hl:=qHA s i h1
  have hR:=qWQ (G:=G) s i h1 hs
  simp only [qCX,h1,if_true] at hI
  refine AW.skip (AW.block ?_)
  refine AW.seqRun tok [.tup [.str s,.int .i64 i],.tup [.int .i64 (zT s i).1,.int .i64 (zT s i).2]] (by intro C; conv=>lhs; simp) (by simp [hR]) ?_
  refine AW.seq ?_
  refine AW.seqRun tok [] (by intro C; conv=>lhs; simp) trivial ?_
  refine AW.cond (c := .tmp 17) (by conv=>lhs; simp) trivial ?_ ?_
  ·intro h2
   simp at h2
   refine AW.seqRun tok [] (by intro C; conv=>lhs; simp) trivial ?_
   exact AW.ret ⟨.inr rfl,_,_,by (conv=>lhs; simp),trivial,by rw [hI]; simp [h2]⟩
  intro h2
  simp at h2
  rw [if_neg h2] at hI
  refine AW.skip ?_
  refine AW.run tok [] (by intro C; conv=>lhs; simp) (by omega) ?_
  exact ⟨(i+(zT s i).2.toNat,f),⟨hI,by simp; omega,by simp; omega⟩,by simp; omega,by simp [vS]; omega,rfl,by simp [vS],by simp [vS]⟩
 intro h1
 simp at h1
 refine AW.exit ?_
 simp
 refine AW.seqRun tok [] (by intro C; conv=>lhs; simp) trivial ?_
 exact AW.ret ⟨.inr rfl,_,_,by (conv=>lhs; simp),trivial,by
  rw [hI]
  cases f with
  | zero=>simp [qCX]
  | succ f=>simp only [qCX]; rw [if_neg (by omega)]; simp⟩
theorem qOL {s:List UInt8} {j:Nat} {c:UInt8} (h:s[j]?=some c):(⟨s.toArray⟩:ByteArray).get! j=c:=by
 have hj:=(List.getElem?_eq_some_iff.1 h).1
 have hc:=(List.getElem?_eq_some_iff.1 h).2
 show s.toArray[j]! = c
 rw [getElem!_pos s.toArray j (by simpa using hj)]
 simpa using hc
def yA (o:Option UInt8):Nat:=match o with
 | some c=>c.toNat
 | none=>0
def zV (o:Option UInt8):Bool:=match o with
 | some c=>c.toNat / 64 == 2
 | none=>false
def qFN (b0:Nat) (o1 o2 o3:Option UInt8):Nat × Nat :=
 if b0<0x80 then (b0,1)
 else if b0 / 32 == 6 && zV o1 then
  if (b0 % 32) * 64+yA o1 % 64 ≥ 0x80 then ((b0 % 32) * 64+yA o1 % 64,2) else (65533,1)
 else if b0 / 16 == 14 && zV o1 && zV o2 then
  if (b0 % 16) * 4096+(yA o1 % 64) * 64+yA o2 % 64 ≥ 0x800 && Utf8.valid ((b0 % 16) * 4096+(yA o1 % 64) * 64+yA o2 % 64:Nat) then ((b0 % 16) * 4096+(yA o1 % 64) * 64+yA o2 % 64,3) else (65533,1)
 else if b0 / 8 == 30 && zV o1 && zV o2 && zV o3 then
  if (b0 % 8) * 262144+(yA o1 % 64) * 4096+(yA o2 % 64) * 64+yA o3 % 64 ≥ 0x10000 && Utf8.valid ((b0 % 8) * 262144+(yA o1 % 64) * 4096+(yA o2 % 64) * 64+yA o3 % 64:Nat) then
   ((b0 % 8) * 262144+(yA o1 % 64) * 4096+(yA o2 % 64) * 64+yA o3 % 64,4) else (65533,1)
 else (65533,1)
theorem qUC {s:List UInt8} {i:Nat} {b:UInt8} (h:s[i]?=some b):Utf8.decode ⟨s.toArray⟩ i=qFN b.toNat s[i+1]? s[i+2]? s[i+3]?:=by
 have hsz:(⟨s.toArray⟩:ByteArray).size=s.length:=by simp [ByteArray.size]
 have cont:∀ k,(decide (i+k<(⟨s.toArray⟩:ByteArray).size) && ((⟨s.toArray⟩:ByteArray).get! (i+k)).toNat / 64 == 2)=zV s[i+k]?:=by
  intro k
  rw [hsz]
  cases hk:s[i+k]? with
  | none =>
   have:¬ i+k<s.length:=by have:=List.getElem?_eq_none_iff.1 hk; omega
   simp [zV,this]
  | some c =>
   have:=(List.getElem?_eq_some_iff.1 hk).1
   simp [zV,this,qOL hk]
 have byt:∀ k,zV s[i+k]?=true→((⟨s.toArray⟩:ByteArray).get! (i+k)).toNat=yA s[i+k]?:=by
  intro k hk
  cases hc:s[i+k]? with
  | none=>rw [hc] at hk; cases hk
  | some c=>rw [qOL hc]; rfl
 have b0:((⟨s.toArray⟩:ByteArray).get! (i+0)).toNat=b.toNat:=by rw [Nat.add_zero,qOL h]
 unfold Utf8.decode qFN
 simp only [cont,b0]
 by_cases h1:zV s[i+1]?=true
 ·rw [byt 1 h1]
  by_cases h2:zV s[i+2]?=true
  ·rw [byt 2 h2]
   by_cases h3:zV s[i+3]?=true
   ·rw [byt 3 h3]; simp only [h1,h2,h3]; rfl
   simp only [h1,h2,h3,Bool.and_false,Bool.false_eq_true,if_false]; rfl
  simp only [h1,h2,Bool.and_false,Bool.false_and,Bool.false_eq_true,if_false]; rfl
 simp only [h1,Bool.and_false,Bool.false_and,Bool.false_eq_true,if_false]; rfl
theorem qTR (low v : Int) (m k : Nat) (hk : k ≠ 0) (hv : v = (m : Int)) : (if (qEM low k (some v)).2 = 0 then ((65533 : Nat), (1 : Nat)) else ((qEM low k (some v)).1.toNat, (qEM low k (some v)).2.toNat)) =
  if (m:Int)<low∨(m:Int) > 1114111∨(55296≤(m:Int)∧(m:Int)<57344) then (65533,1) else (m,k):=by
 subst hv
 unfold qEM
 by_cases h:(m:Int)<low∨(m:Int) > 1114111∨(55296≤(m:Int)∧(m:Int)<57344)
 ·simp only [h,if_true]
 simp only [h,if_false]
 rw [if_neg (by omega)]
 rfl
theorem qAA (m:Nat):Utf8.valid (m:Int)=decide (¬ ((m:Int) > 1114111∨(55296≤(m:Int)∧(m:Int)<57344))):=by
 rw [Bool.eq_iff_iff]; simp only [Utf8.valid,Bool.or_eq_true,Bool.and_eq_true,decide_eq_true_eq]; omega
theorem isC (c:UInt8):(c.toNat / 64 == 2)=decide (128≤c.toNat∧c.toNat<192):=by rw [Bool.eq_iff_iff]; simp only [beq_iff_eq,decide_eq_true_eq]; omega
theorem zP (c:UInt8):zV (some c)=decide (128≤c.toNat∧c.toNat<192):=isC c
theorem yF {s:List UInt8} {i r j:Nat} {v:Int} {c:UInt8} (h:s[i+j]?=some c) (hc:128≤c.toNat∧c.toNat<192):yX s i (r+1) j v=yX s i r (j+1) (64 * v+c.toNat-128):=by
 simp only [yX,h]; rw [if_neg (by omega)]
theorem jX {s:List UInt8} {i r j:Nat} {v:Int} {c:UInt8} (h:s[i+j]?=some c) (hc:¬ (128≤c.toNat∧c.toNat<192)):yX s i (r+1) j v=none:=by
 simp only [yX,h]; rw [if_pos (by omega)]
theorem yI {n : Nat} {o1 o2 o3 : Option UInt8} (h0 : ¬ n < 128) (h : (n / 32 = 6 → zV o1 = true → n % 32 * 64 + yA o1 % 64 < 128) ∧ (n / 16 = 14 → zV o1 = true → zV o2 = false) ∧ (n / 8 = 30 → zV o1 = true → zV o2 = true → zV o3 = true → 1114111 < n % 8 * 262144)) :
  qFN n o1 o2 o3=(65533,1):=by
 obtain ⟨h1,h2,h3⟩:=h
 unfold qFN
 rw [if_neg h0]
 by_cases a:n / 32=6
 ·have b:¬ n / 16=14:=by omega
  have c:¬ n / 8=30:=by omega
  cases hc:zV o1 with
  | true=>simp only [a,beq_self_eq_true,Bool.and_self,if_true]; rw [if_neg (by have:=h1 a hc; omega)]
  | false=>simp [a,b,c]
 by_cases b:n / 16=14
 ·have c:¬ n / 8=30:=by omega
  cases hc:zV o1 with
  | true=>simp [a,b,c,h2 b hc]
  | false=>simp [a,b,c]
 by_cases c:n / 8=30
 ·cases hc1:zV o1 with
  | false=>simp [a,b]
  | true =>
   cases hc2:zV o2 with
   | false=>simp [a,b]
   | true =>
    cases hc3:zV o3 with
    | false=>simp [a,b]
    | true =>
     have hb:=h3 c hc1 hc2 hc3
     simp only [a,b,c,beq_iff_eq,beq_self_eq_true,Bool.false_and,Bool.and_self,Bool.and_true,if_false,if_true,Bool.false_eq_true]
     rw [if_neg]
     rw [qAA]
     simp only [Bool.and_eq_true,decide_eq_true_eq]
     omega
 simp [a,b,c]
theorem qYD {n : Nat} {c : UInt8} {o2 o3 : Option UInt8} (h0 : ¬ n < 128) (hn : n / 32 = 6) (hc : 128 ≤ c.toNat ∧ c.toNat < 192) :
  qFN n (some c) o2 o3=if n % 32 * 64+c.toNat % 64 ≥ 128 then (n % 32 * 64+c.toNat % 64,2) else (65533,1):=by
 have h1:zV (some c)=true:=by rw [zP]; exact decide_eq_true hc
 unfold qFN
 rw [if_neg h0,if_pos (by rw [h1,hn]; rfl)]
 rfl
theorem qYC {n : Nat} {c d : UInt8} {o3 : Option UInt8} (h0 : ¬ n < 128) (hn : n / 16 = 14) (hc : 128 ≤ c.toNat ∧ c.toNat < 192) (hd : 128 ≤ d.toNat ∧ d.toNat < 192) {m : Nat} (hm : m = n % 16 * 4096 + c.toNat % 64 * 64 + d.toNat % 64) :
  qFN n (some c) (some d) o3=if (m:Int)<2048∨(m:Int) > 1114111∨(55296≤(m:Int)∧(m:Int)<57344) then (65533,1) else (m,3):=by
 have h1:zV (some c)=true:=by rw [zP]; exact decide_eq_true hc
 have h2:zV (some d)=true:=by rw [zP]; exact decide_eq_true hd
 have e1:¬ n / 32=6:=by omega
 unfold qFN
 rw [if_neg h0,if_neg (by rw [h1]; simp [e1]),if_pos (by rw [h1,h2,hn]; rfl)]
 simp only [yA,← hm,qAA]
 clear hm
 by_cases hb:(m:Int)<2048∨(m:Int) > 1114111∨55296≤(m:Int)∧(m:Int)<57344
 ·rw [if_pos hb,if_neg]; simp only [Bool.and_eq_true,decide_eq_true_eq]; omega
 rw [if_neg hb,if_pos]; simp only [Bool.and_eq_true,decide_eq_true_eq]; omega
theorem qYB {n : Nat} {c d e : UInt8} (h0 : ¬ n < 128) (hn : n / 8 = 30) (hc : 128 ≤ c.toNat ∧ c.toNat < 192) (hd : 128 ≤ d.toNat ∧ d.toNat < 192) (he : 128 ≤ e.toNat ∧ e.toNat < 192) {m : Nat}
  (hm:m=n % 8 * 262144+c.toNat % 64 * 4096+d.toNat % 64 * 64+e.toNat % 64) :
  qFN n (some c) (some d) (some e)=if (m:Int)<65536∨(m:Int) > 1114111∨(55296≤(m:Int)∧(m:Int)<57344) then (65533,1) else (m,4):=by
 have h1:zV (some c)=true:=by rw [zP]; exact decide_eq_true hc
 have h2:zV (some d)=true:=by rw [zP]; exact decide_eq_true hd
 have h3:zV (some e)=true:=by rw [zP]; exact decide_eq_true he
 have e1:¬ n / 32=6:=by omega
 have e2:¬ n / 16=14:=by omega
 unfold qFN
 rw [if_neg h0,if_neg (by rw [h1]; simp [e1]),if_neg (by rw [h1,h2]; simp [e2]),if_pos (by rw [h1,h2,h3,hn]; rfl)]
 simp only [yA,← hm,qAA]
 clear hm
 by_cases hb:(m:Int)<65536∨(m:Int) > 1114111∨55296≤(m:Int)∧(m:Int)<57344
 ·rw [if_pos hb,if_neg]; simp only [Bool.and_eq_true,decide_eq_true_eq]; omega
 rw [if_neg hb,if_pos]; simp only [Bool.and_eq_true,decide_eq_true_eq]; omega
theorem qKM {s:List UInt8} {i:Nat} (hi:i<s.length):Utf8.decode ⟨s.toArray⟩ i=if (zT s i).2=0 then (65533,1) else ((zT s i).1.toNat,(zT s i).2.toNat):=by
 obtain ⟨b,hb⟩:∃ b,s[i]?=some b:=⟨s[i],by simp [hi]⟩
 rw [qUC hb]
 have hblt:b.toNat<256:=b.toNat_lt
 have hr:zT s i=if (b.toNat:Int)<128 then ((b.toNat:Int),1) else wP s i (wK b.toNat):=by simp only [zT,hb]
 have in1:∀ k,s[i+k]?=none↔s.length≤i+k:=fun k=>List.getElem?_eq_none_iff
 have has:∀ k,i+k<s.length→∃ c,s[i+k]?=some c:=fun k hk=>⟨s[i+k],by simp [hk]⟩
 generalize b.toNat=n at hblt hr
 by_cases h0:n<128
 ·rw [if_pos (by omega)] at hr
  rw [hr]
  simp [qFN,h0]
 rw [if_neg (by omega)] at hr
 rw [hr]
 clear hr
 have tail0:∀ x:Nat × Int × Int,(x.1=0∨s.length<i+x.1)→(if (wP s i x).2=0 then ((65533:Nat),(1:Nat)) else ((wP s i x).1.toNat,(wP s i x).2.toNat))=(65533,1):=by
  intro x hx; unfold wP; rw [if_pos hx]; rfl
 have tailn:∀ x:Nat × Int × Int, ¬ (x.1=0∨s.length<i+x.1)→yX s i (x.1-1) 1 x.2.2=none→(if (wP s i x).2=0 then ((65533:Nat),(1:Nat)) else ((wP s i x).1.toNat,(wP s i x).2.toNat))=(65533,1):=by
  intro x hx hn; unfold wP; rw [if_neg hx,hn]; rfl
 have tails : ∀ (x : Nat × Int × Int) (v : Int) (m : Nat), ¬ (x.1 = 0 ∨ s.length < i + x.1) → yX s i (x.1 - 1) 1 x.2.2 = some v → v = m → (if (wP s i x).2 = 0 then ((65533 : Nat), (1 : Nat)) else ((wP s i x).1.toNat, (wP s i x).2.toNat)) =
   if (m:Int)<x.2.1∨(m:Int) > 1114111∨(55296≤(m:Int)∧(m:Int)<57344) then (65533,1) else (m,x.1):=by
  intro x v m hx hl hv; unfold wP; rw [if_neg hx,hl]; exact qTR _ _ _ _ (by omega) hv
 by_cases hA:194≤n∧n<224
 ·have hrc:wK n=(2,128,(n:Int)-192):=by unfold wK; rw [if_pos (by omega)]
  rw [hrc]
  by_cases hl:s.length<i+2
  ·rw [tail0 _ (Or.inr hl)]
   refine yI h0 ⟨fun _ h => ?_,fun h=>by omega,fun h=>by omega⟩
   rw [(in1 1).2 (by omega)] at h; cases h
  obtain ⟨c,h1⟩:=has 1 (by omega)
  rw [h1]
  by_cases hc:128≤c.toNat∧c.toNat<192
  ·rw [tails (2,128,(n:Int)-192) _ (n % 32 * 64+c.toNat % 64) (by simp; omega) (by rw [show (2:Nat)-1=0+1 from rfl,yF h1 hc]; rfl) (by simp only []; omega)]
   rw [qYD h0 (by omega) hc,if_pos (by omega),if_neg (by simp only []; omega)]
  rw [tailn _ (by simp; omega) (by rw [show ((2:Nat),(128:Int),(n:Int)-192).1-1=0+1 from rfl,jX h1 hc])]
  refine yI h0 ⟨fun _ h => ?_,fun h=>by omega,fun h=>by omega⟩
  rw [zP] at h; exact (hc (of_decide_eq_true h)).elim
 by_cases hB:224≤n∧n<240
 ·have hrc:wK n=(3,2048,(n:Int)-224):=by unfold wK; rw [if_neg (by omega),if_pos (by omega)]
  rw [hrc]
  by_cases hl:s.length<i+3
  ·rw [tail0 _ (Or.inr hl)]
   refine yI h0 ⟨fun h=>by omega,fun _ _ => ?_,fun h=>by omega⟩
   rw [(in1 2).2 (by omega)]; rfl
  obtain ⟨c,h1⟩:=has 1 (by omega)
  obtain ⟨d,h2⟩:=has 2 (by omega)
  rw [h1,h2]
  by_cases hc:128≤c.toNat∧c.toNat<192
  ·by_cases hd:128≤d.toNat∧d.toNat<192
   ·rw [tails (3,2048,(n:Int)-224) _ (n % 16 * 4096+c.toNat % 64 * 64+d.toNat % 64) (by simp; omega) (by rw [show (3:Nat)-1=1+1 from rfl,yF h1 hc,show (1:Nat)=0+1 from rfl,yF h2 hd]; rfl) (by simp only []; omega)]
    exact qYC h0 (by omega) hc hd rfl
   rw [tailn _ (by simp; omega) (by rw [show ((3:Nat),(2048:Int),(n:Int)-224).1-1=1+1 from rfl,yF h1 hc,show (1:Nat)=0+1 from rfl,jX h2 hd])]
   refine yI h0 ⟨fun h=>by omega,fun _ _ => ?_,fun h=>by omega⟩
   rw [zP]; exact decide_eq_false hd
  rw [tailn _ (by simp; omega) (by rw [show ((3:Nat),(2048:Int),(n:Int)-224).1-1=1+1 from rfl,jX h1 hc])]
  refine yI h0 ⟨fun h=>by omega,fun _ h => ?_,fun h=>by omega⟩
  rw [zP] at h; exact (hc (of_decide_eq_true h)).elim
 by_cases hC:240≤n∧n<245
 ·have hrc:wK n=(4,65536,(n:Int)-240):=by unfold wK; rw [if_neg (by omega),if_neg (by omega),if_pos (by omega)]
  rw [hrc]
  by_cases hl:s.length<i+4
  ·rw [tail0 _ (Or.inr hl)]
   refine yI h0 ⟨fun h=>by omega,fun h=>by omega,fun _ _ _ h => ?_⟩
   rw [(in1 3).2 (by omega)] at h; cases h
  obtain ⟨c,h1⟩:=has 1 (by omega)
  obtain ⟨d,h2⟩:=has 2 (by omega)
  obtain ⟨e,h3⟩:=has 3 (by omega)
  rw [h1,h2,h3]
  by_cases hc:128≤c.toNat∧c.toNat<192
  ·by_cases hd:128≤d.toNat∧d.toNat<192
   ·by_cases he:128≤e.toNat∧e.toNat<192
    ·rw [tails (4,65536,(n:Int)-240) _ (n % 8 * 262144+c.toNat % 64 * 4096+d.toNat % 64 * 64+e.toNat % 64) (by simp; omega)
      (by rw [show (4:Nat)-1=2+1 from rfl,yF h1 hc,show (2:Nat)=1+1 from rfl,yF h2 hd,show (1:Nat)=0+1 from rfl,yF h3 he]; rfl) (by simp only []; omega)]
     exact qYB h0 (by omega) hc hd he rfl
    rw [tailn _ (by simp; omega) (by rw [show ((4:Nat),(65536:Int),(n:Int)-240).1-1=2+1 from rfl,yF h1 hc,show (2:Nat)=1+1 from rfl,yF h2 hd,show (1:Nat)=0+1 from rfl,jX h3 he])]
    refine yI h0 ⟨fun h=>by omega,fun h=>by omega,fun _ _ _ h => ?_⟩
    rw [zP] at h; exact (he (of_decide_eq_true h)).elim
   rw [tailn _ (by simp; omega) (by rw [show ((4:Nat),(65536:Int),(n:Int)-240).1-1=2+1 from rfl,yF h1 hc,show (2:Nat)=1+1 from rfl,jX h2 hd])]
   refine yI h0 ⟨fun h=>by omega,fun h=>by omega,fun _ _ h => ?_⟩
   rw [zP] at h; exact (hd (of_decide_eq_true h)).elim
  rw [tailn _ (by simp; omega) (by rw [show ((4:Nat),(65536:Int),(n:Int)-240).1-1=2+1 from rfl,jX h1 hc])]
  refine yI h0 ⟨fun h=>by omega,fun h=>by omega,fun _ h => ?_⟩
  rw [zP] at h; exact (hc (of_decide_eq_true h)).elim
 have hrc:wK n=(0,0,0):=by unfold wK; rw [if_neg (by omega),if_neg (by omega),if_neg (by omega)]
 rw [hrc,tail0 _ (.inl rfl)]
 refine yI h0 ⟨fun h _ => ?_,fun h=>by omega,fun h _ _ _=>by omega⟩
 have:yA s[i+1]? % 64<64:=Nat.mod_lt _ (by omega)
 omega
theorem qNC (s:List UInt8) (i:Nat):zT s i=zT (s.drop i) 0:=by
 have h:∀ k,(s.drop i)[k]?=s[i+k]?:=fun k=>by rw [List.getElem?_drop]
 have hl:∀ (f:Nat) (j:Nat) (v:Int),yX s i f j v=yX (s.drop i) 0 f j v:=by
  intro f
  induction f with
  | zero=>intro j v; rfl
  | succ f ih =>
   intro j v
   simp only [yX,Nat.zero_add,h,ih]
 unfold zT
 rw [h 0,Nat.add_zero]
 cases hb:s[i]? with
 | none=>rfl
 | some b =>
  have hi:=(List.getElem?_eq_some_iff.1 hb).1
  simp only [wP,hl,List.length_drop]
  have e:(s.length<i+(wK ↑b.toNat).1)↔(s.length-i<0+(wK ↑b.toNat).1):=by omega
  simp only [e]
theorem qSF (s:List UInt8):Lib.validD s=qBU s:=by
 have key:∀ (n:Nat) (s:List UInt8) (i f:Nat),n=s.length-i→i≤s.length→s.length+1≤f+i→qCX s f i=Lib.validD (s.drop i):=by
  intro n
  induction n using Nat.strongRecOn with
  | _ n ih =>
   intro s i f hn hi hf
   cases f with
   | zero=>omega
   | succ f =>
    simp only [qCX]
    by_cases hlt:i<s.length
    ·rw [if_pos hlt]
     have hne:s.drop i≠[]:=by simp; omega
     rw [Lib.validD_step _ hne]
     have hd:=qKM (s:=s.drop i) (i:=0) (by simp; omega)
     rw [← qNC] at hd
     have hl:=qHA s i hlt
     have hdl:Lib.decodeL (s.drop i)=Utf8.decode ⟨(s.drop i).toArray⟩ 0:=rfl
     rw [hdl,hd]
     by_cases h0:(zT s i).2=0
     ·rw [if_pos h0,if_pos h0,if_pos ⟨rfl,rfl⟩]
     rw [if_neg h0,if_neg h0]
     have hne2:¬ ((zT s i).1.toNat=65533∧(zT s i).2.toNat=1):=by
      rintro ⟨h1,h2⟩
      have:(zT s i).1=65533:=by omega
      have h3:(zT s i).2=1:=by omega
      obtain ⟨b,hb⟩:∃ b,s[i]?=some b:=⟨s[i],by simp [hlt]⟩
      have hb256:b.toNat<256:=b.toNat_lt
      have hr:zT s i=if (b.toNat:Int)<128 then ((b.toNat:Int),1) else wP s i (wK b.toNat):=by simp only [zT,hb]
      rw [hr] at this h3
      split at this
      ·simp only [] at this; omega
      rename_i hge
      rw [if_neg hge] at h3
      unfold wP at h3
      split at h3
      ·simp at h3
      rename_i hx
      have:(wK b.toNat).1=0∨2≤(wK b.toNat).1:=by
       unfold wK; repeat' split
       all_goals simp
      unfold qEM at h3
      split at h3
      ·simp at h3
      split at h3
      ·simp at h3
      simp only [] at h3; omega
     simp only []
     rw [if_neg hne2,List.drop_drop]
     exact ih _ (by omega) s (i+(zT s i).2.toNat) f rfl (by omega) (by omega)
    rw [if_neg hlt,List.drop_eq_nil_of_le (by omega)]; rfl
 exact (key _ s 0 (s.length+1) rfl (by omega) (by omega)).symm
theorem qQZ (l:List Val) (g:FuncId) (p:Val→Bool) (hg:∀ v∈l,AFn Tryz.prog G g [v.enc] (.bool (p v))):AFn Tryz.prog G 156 [.sl 9 (l.map Val.enc),.fn g] (.int .i64 (match l.findIdx? p with | some i=>(i:Int) | none => -1)):=by
 refine AFn.introU tok Tryz.func156 (by kernel_rfl) rfl rfl ?_
 simp only [Tryz.f156,qK,List.map_cons,List.map_nil]
 refine rgn [] [[0,1]] ?_
 refine op1 tok ?_
 refine qA (AW.seq (rgn [] [[],[],[0,1,7,8]] ?_))
 iterate 3 refine op1 tok ?_
 refine qA (AW.block ?_)
 refine AW.intFactU (i:=7) rfl (by decide) ?_; intro hlen; simp at hlen
 refine AW.loop (α:=Nat) (fun k=>k≤l.length∧(l.take k).all (fun v => !p v)=true) (fun k=>⟨zA 19 [(0,.p (.sl 9 (l.map Val.enc))),(1,.p (.fn g)),(7,.p (.int .i64 l.length)),(8,.p (.int .i64 k))],[],[],0⟩) (fun k=>l.length-k) (0) ⟨by omega,rfl⟩ ⟨qG (by simp),rfl,by simp,by simp⟩ ?_
 rintro k ⟨hk,hall⟩
 refine rgn [] [[]] ?_
 refine op1 tok ?_
 refine qA (AW.seq (cnd ?_ ?_))
 ·intro h9
  try simp at h9
  obtain ⟨v,hv⟩:∃ v,l[k]?=some v:=⟨l[k],by simp [h9]⟩
  have hgv:=hg v (List.mem_of_getElem? hv)
  refine AW.skip (AW.seq (AW.block (rgn [] [[],[0,1,5,7,8]] ?_)))
  iterate 2 refine op1 tok ?_
  refine qA (rgn [v.enc,.tup [v.enc],.bool (p v)] [[],[],[],[],[],[0,1,5,7,8,16]] ?_)
  iterate 6 refine op1 tok ?_ (hv:=by first | with_reducible exact True.intro | (first | (simp [hv]; done) | (simp at hgv ⊢; exact hgv); done) | omega | simp | (simp +contextual; omega))
  refine qA (cnd ?_ ?_)
  ·intro h16
   try simp at h16
   have hf:l.findIdx? p=some k:=by
    rw [List.findIdx?_eq_some_iff_getElem]
    have h9':=h9
    refine ⟨h9, ?_,fun j hj => ?_⟩
    ·rw [List.getElem?_eq_getElem h9] at hv; cases hv; exact h16
    have:=List.all_eq_true.1 hall (l[j]'(by omega)) (List.mem_iff_getElem.2 ⟨j,by simp; omega,by simp⟩)
    simpa using this
   refine rgn [] [[],[4]] ?_
   iterate 2 refine op1 tok ?_
   refine qA ?_
   exact AW.ret (qO (k:=by simp [hf]))
  intro h16
  try simp at h16
  refine AW.skip (rgz [] [[],[0,1,7,8]] ?_)
  iterate 2 refine op1 tok ?_
  refine qA ?_
  exact ⟨k+1,⟨by omega,by rw [List.take_add_one,hv,List.all_append,hall]; simpa using h16⟩,by omega,qG (by simp),rfl,by simp,by simp⟩
 intro h9
 try simp at h9
 rw [List.take_of_length_le h9] at hall
 have hf:l.findIdx? p=none:=by
  rw [List.findIdx?_eq_none_iff]; intro x hx; simpa using List.all_eq_true.1 hall x hx
 refine AW.exit ?_
 simp
 refine rgn [] [[]] ?_
 refine op1 tok ?_
 refine qA ?_
 exact AW.ret (qO (k:=by simp [hf]))
theorem qJE (l:List Val) (g:FuncId) (p:Val→Bool) (hg:∀ v∈l,AFn Tryz.prog G g [v.enc] (.bool (p v))):AFn Tryz.prog G 113 [.sl 9 (l.map Val.enc),.fn g] (.bool (l.any p)):=by
 refine AFn.introU tok Tryz.func113 (by kernel_rfl) rfl rfl ?_
 simp only [Tryz.f113,qK,List.map_cons,List.map_nil]
 have hi:=qQZ l g p hg
 have ha:l.any p=decide (0≤(match l.findIdx? p with | some i=>(i:Int) | none => -1)):=by
  cases h:l.findIdx? p with
  | none=>simp; intro x hx; simpa using List.findIdx?_eq_none_iff.1 h x hx
  | some i =>
   obtain ⟨h1,h2,_⟩:=List.findIdx?_eq_some_iff_getElem.1 h
   simp; exact ⟨_,List.getElem_mem h1,h2⟩
 rw [ha]
 generalize (match l.findIdx? p with | some i=>(i:Int) | none => -1)=n at *
 refine rgn [] [[0,1]] ?_
 refine op1 tok ?_
 refine qA (rgn [.nilp,.int .i64 n] [[],[],[7],[],[4]] ?_)
 iterate 5 refine oq1 tok hi ?_
 exact qA (AW.ret qO)
structure Ord {α:Type} (p:α→α→Int) (S:α→Prop):Prop where
 anti:∀ x y,S x→S y→p x y = - p y x
 tr:∀ x y z,S x→S y→S z→p x y≤0→p y z≤0→p x z≤0
theorem Ord.refl {α:Type} {p:α→α→Int} {S:α→Prop} (h:Ord p S) {x:α} (hx:S x):p x x=0:=by have:=h.anti x x hx hx; omega
theorem Ord.lt_le {α:Type} {p:α→α→Int} {S:α→Prop} (h:Ord p S) {x y z:α} (hx:S x) (hy:S y) (hz:S z) (h1:p x y<0) (h2:p y z≤0):p x z<0:=by
 have h3:=h.tr x y z hx hy hz (by omega) h2
 by_cases h4:p x z=0
 ·have a1:=h.anti x z hx hz
  have a2:=h.anti x y hx hy
  have:=h.tr y z x hy hz hx h2 (by omega)
  omega
 omega
theorem Ord.le_lt {α:Type} {p:α→α→Int} {S:α→Prop} (h:Ord p S) {x y z:α} (hx:S x) (hy:S y) (hz:S z) (h1:p x y≤0) (h2:p y z<0):p x z<0:=by
 have h3:=h.tr x y z hx hy hz h1 (by omega)
 by_cases h4:p x z=0
 ·have a1:=h.anti x z hx hz
  have a2:=h.anti y z hy hz
  have:=h.tr z x y hz hx hy (by omega) h1
  omega
 omega
theorem Ord.eq_eq {α:Type} {p:α→α→Int} {S:α→Prop} (h:Ord p S) {x y z:α} (hx:S x) (hy:S y) (hz:S z) (h1:p x y=0) (h2:p y z=0):p x z=0:=by
 have a1:=h.anti x y hx hy
 have a2:=h.anti y z hy hz
 have a3:=h.anti x z hx hz
 have:=h.tr x y z hx hy hz (by omega) (by omega)
 have:=h.tr z y x hz hy hx (by omega) (by omega)
 omega
theorem Ord.then {α:Type} {p q:α→α→Int} {S:α→Prop} (hp:Ord p S) (hq:Ord q S):Ord (fun x y=>if p x y≠0 then p x y else q x y) S:=by
 refine ⟨fun x y hx hy => ?_,fun x y z hx hy hz h1 h2 => ?_⟩
 ·have a1:=hp.anti x y hx hy
  have a2:=hq.anti x y hx hy
  by_cases h:p x y=0
  ·rw [if_neg (by omega),if_neg (by omega)]; exact a2
  rw [if_pos h,if_pos (by omega)]; exact a1
 by_cases e1:p x y=0
 ·rw [if_neg (by omega)] at h1
  by_cases e2:p y z=0
  ·rw [if_neg (by omega)] at h2
   rw [if_neg (by have:=hp.eq_eq hx hy hz e1 e2; omega)]
   exact hq.tr x y z hx hy hz h1 h2
  rw [if_pos e2] at h2
  have:=hp.le_lt hx hy hz (by omega) (show p y z<0 by omega)
  rw [if_pos (by omega)]; omega
 rw [if_pos e1] at h1
 by_cases e2:p y z=0
 ·have:=hp.lt_le hx hy hz (show p x y<0 by omega) (by omega)
  rw [if_pos (by omega)]; omega
 rw [if_pos e2] at h2
 have:=hp.lt_le hx hy hz (show p x y<0 by omega) h2
 rw [if_pos (by omega)]; omega
theorem Ord.map {α β:Type} {p:β→β→Int} {S:β→Prop} (h:Ord p S) (f:α→β) {S':α→Prop} (hS:∀ x,S' x→S (f x)):Ord (fun x y=>p (f x) (f y)) S' :=
 ⟨fun x y hx hy=>h.anti _ _ (hS x hx) (hS y hy),fun x y z hx hy hz=>h.tr _ _ _ (hS x hx) (hS y hy) (hS z hz)⟩
def zD (code m:Int):Val := .mk 8 m dc0 [] [] [] code
def qKV (r:Dc × Int) (m:Int):Val:=if r.2=0 then .mk 4 m r.1 [] [] [] 0 else zD r.2 m
def kU (b:Bool) (m:Int):Val := .mk (if b=true then 3 else 2) m dc0 [] [] [] 0
def splitB (c:UInt8):List UInt8→List (List UInt8)
 | []=>[[]]
 | b::r=>if b=c then []::splitB c r else match splitB c r with
  | []=>[[b]]
  | h::t=>(b::h)::t
theorem qQD (c:UInt8):∀ s,splitB c s≠[]
 | []=>by simp [splitB]
 | b::r=>by
  simp only [splitB]
  split
  ·simp
  split <;> simp
theorem qEK (c:UInt8):∀ s,(splitB c s).length=s.count c+1
 | []=>by simp [splitB]
 | b::r=>by
  have ih:=qEK c r
  simp only [splitB]
  split
  ·rename_i h; subst h; simp [ih]
  rename_i h
  rw [List.count_cons_of_ne h,← ih]
  split
  ·rename_i h2; exact absurd h2 (qQD c r)
  rename_i h2; rw [h2]; simp
theorem qGX {c:UInt8}:∀ {s},c ∉ s→splitB c s=[s]
 | [],_=>rfl
 | b::r,h=>by
  simp only [List.mem_cons,not_or] at h
  simp only [splitB,qGX h.2]
  rw [if_neg (fun e=>h.1 e.symm)]
theorem qGY {c:UInt8}:∀ {a r:List UInt8},c ∉ a→splitB c (a++c::r)=a::splitB c r
 | [],r,_=>by simp [splitB]
 | b::a,r,h=>by
  simp only [List.mem_cons,not_or] at h
  simp only [List.cons_append,splitB]
  rw [if_neg (fun e=>h.1 e.symm),qGY h.2]
theorem qHR {c:UInt8}:∀ {a r:List UInt8},c ∉ a→Lib.indexByte (a++c::r) c=a.length
 | [],r,_=>by simp [Lib.indexByte]
 | b::a,r,h=>by
  simp only [List.mem_cons,not_or] at h
  have ih:=qHR (r:=r) h.2
  simp only [List.cons_append,Lib.indexByte]
  rw [if_neg (by intro e; exact h.1 (eq_of_beq e).symm),ih,List.length_cons,if_neg (by intro e; have:=eq_of_beq e; omega)]
  omega
theorem qQV {c:UInt8} {s:List UInt8} (h:c∈s):∃ a r,s=a++c::r∧c ∉ a:=by
 induction s with
 | nil=>cases h
 | cons b s ih =>
  by_cases e:b=c
  ·subst e; exact ⟨[],s,rfl,by simp⟩
  obtain ⟨a,r,rfl,hn⟩:=ih (by rcases List.mem_cons.1 h with h | h; exact absurd h.symm e; exact h)
  exact ⟨b::a,r,rfl,by simp only [List.mem_cons,not_or]; exact ⟨fun h=>e h.symm,hn⟩⟩
theorem qUF {c:UInt8} {a r:List UInt8} (h:c ∉ a):(a++c::r).count c=r.count c+1:=by
 rw [List.count_append,List.count_cons_self,List.count_eq_zero.2 h]; omega
def kE (u:Nat):List UInt8:=if h:u=0 then [] else kE (u / 10)++[UInt8.ofNat (48+u % 10)]
termination_by u
decreasing_by omega
theorem wZ:kE 0=[]:=by rw [kE]; simp
theorem xF {u:Nat} (h:0<u):kE u=kE (u / 10)++[UInt8.ofNat (48+u % 10)]:=by rw [kE]; rw [dif_neg (by omega)]
theorem qBJ:∀ k u:Nat,u<10 ^ k→(kE u).length≤k
 | 0,u,h=>by
  have:u=0:=by simpa using h
  subst this; rw [wZ]; simp
 | k+1,u,h=>by
  rcases Nat.eq_zero_or_pos u with h0 | h0
  ·subst h0; rw [wZ]; simp
  rw [xF h0,List.length_append,List.length_singleton]
  have:=qBJ k (u / 10) (by rw [Nat.pow_succ] at h; omega)
  omega
def jI (n:Int):Dc:=(jF (decide (n<0)) (kE n.natAbs) 0).1
def qGD (l:List UInt8) (k:Nat):List UInt8:=(List.range l.length).map fun i=>if i<k∨l.length-k≤i then l.getD (l.length-1-i) 0 else l.getD i 0
theorem jY (l:List UInt8) (k:Nat):(qGD l k).length=l.length:=by simp [qGD]
theorem jZ (l:List UInt8) (k:Nat) {i:Nat} (h:i<l.length):(qGD l k)[i]?=some (if i<k∨l.length-k≤i then l.getD (l.length-1-i) 0 else l.getD i 0):=by
 simp [qGD,h]
theorem uE (L:List UInt8) (i:Nat) (b:UInt8):(qE L).set i (.int .u8 b.toNat)=qE (L.set i b):=by unfold qE; rw [List.map_set]
theorem qQK (l:List UInt8):qGD l 0=l:=by
 apply List.ext_getElem?
 intro i
 by_cases h:i<l.length
 ·rw [jZ l 0 h,if_neg (by omega),List.getD_eq_getElem?_getD,List.getElem?_eq_getElem h]; rfl
 rw [List.getElem?_eq_none (by rw [jY]; omega),List.getElem?_eq_none (by omega)]
theorem qSM (l:List UInt8) {k:Nat} (h:l.length≤2 * k+1):qGD l k=l.reverse:=by
 apply List.ext_getElem?
 intro i
 by_cases hi:i<l.length
 ·rw [jZ l k hi,List.getElem?_reverse hi]
  have h1:l[l.length-1-i]?=some (l[l.length-1-i]'(by omega)):=List.getElem?_eq_getElem _
  rw [h1]
  congr 1
  split
  ·rw [List.getD_eq_getElem?_getD,h1]; rfl
  have h2:l[i]?=some (l[l.length-1-i]'(by omega)):=by rw [← h1]; congr 1; omega
  rw [List.getD_eq_getElem?_getD,h2]; rfl
 rw [List.getElem?_eq_none (by rw [jY]; omega),List.getElem?_eq_none (by rw [List.length_reverse]; omega)]
theorem qQL (l:List UInt8) {k:Nat} (h:2 * k+1<l.length):((qGD l k).set k (l.getD (l.length-1-k) 0)).set (l.length-1-k) (l.getD k 0)=qGD l (k+1):=by
 apply List.ext_getElem?
 intro i
 by_cases hi:i<l.length
 ·rw [jZ l (k+1) hi,List.getElem?_set,List.getElem?_set]
  simp only [List.length_set,jY]
  by_cases h1:l.length-1-k=i
  ·subst h1
   rw [if_pos rfl,if_pos (by omega),if_pos (.inr (by omega)),show l.length-1-(l.length-1-k)=k by omega]
  rw [if_neg h1]
  by_cases h2:k=i
  ·subst h2
   rw [if_pos rfl,if_pos (by omega),if_pos (.inl (by omega))]
  rw [if_neg h2,jZ l k hi]
  congr 1
  by_cases h3:i<k∨l.length-k≤i
  ·rw [if_pos h3,if_pos (by omega)]
  rw [if_neg h3,if_neg (by omega)]
 rw [List.getElem?_eq_none (by simp [jY]; omega),List.getElem?_eq_none (by rw [jY]; omega)]
theorem qTY (u:Nat):(kE u).all zB=true:=by
 induction u using Nat.strongRecOn with
 | _ u ih =>
  rcases Nat.eq_zero_or_pos u with h | h
  ·subst h; rw [wZ]; rfl
  rw [xF h,List.all_append,ih (u / 10) (by omega)]
  have:zB (UInt8.ofNat (48+u % 10))=true:=by
   rw [wC,UInt8.toNat_ofNat']; omega
  rw [List.all_cons,this]; rfl
theorem qIL (s:List UInt8) (h:qT s≠[]):zR (qT s) 0≠48:=by
 unfold qT at h ⊢
 have:=List.head?_dropWhile_not (fun b:UInt8=>b == 48) s
 cases hs:s.dropWhile (fun b=>b == 48) with
 | nil=>exact absurd hs h
 | cons b r =>
  rw [hs] at this
  simp only [List.head?_cons] at this
  have hb:¬ b=48:=by simpa using this
  unfold zR
  simp only [List.getD_cons_zero]
  intro e
  exact hb (UInt8.toNat_inj.1 (by show b.toNat=48; omega))
theorem qTK {n:Int} (h0 : -9223372036854775808≤n) (h1:n≤9223372036854775807):yT (jI n)=true:=by
 have hl:=qBJ 20 n.natAbs (by omega)
 have hd:=qTY n.natAbs
 have hsl:(qT (kE n.natAbs)).length≤20:=Nat.le_trans (List.dropWhile_sublist _).length_le hl
 have hsd:(qT (kE n.natAbs)).all zB=true:=by
  rw [List.all_eq_true] at hd ⊢
  exact fun b hb=>hd b ((List.dropWhile_sublist _).subset hb)
 have hh:=qIL (kE n.natAbs)
 have e:jI n=if qT (kE n.natAbs)=[] then ⟨false,[48],0⟩ else ⟨decide (n<0),qT (kE n.natAbs),0⟩:=by
  have ht:kI (qT (kE n.natAbs)) 0=(qT (kE n.natAbs),0):=rfl
  unfold jI jF
  rw [ht]
  by_cases h:qT (kE n.natAbs)=[]
  ·rw [if_pos h,if_pos h]
  rw [if_neg h,if_neg h,if_neg (by simp only; omega)]; rfl
 rw [e]
 generalize qT (kE n.natAbs)=s at *
 split
 ·decide
 rename_i hne
 have hpos:0<s.length:=List.length_pos_iff.2 hne
 have h48:¬ s=[48]:=by
  intro he; exact hh hne (by rw [he]; rfl)
 unfold yT
 simp only
 rw [if_neg h48,hsd]
 have:=hh hne
 simp [this]; omega
def qSU (m:Int):Val := .mk 1 m dc0 [] [] [] 0
def wG (s:List UInt8) (m:Int):Val:=if 4096<s.length then zD 3 m else .mk 5 m dc0 s [] [] 0
def qDH (l:List Val) (m:Int):Val:=if 200<l.length then zD 3 m else .mk 6 m dc0 [] [] l 0
def qGH (n:Int) (m:Int):Val:=qKV (jI n,0) m
def qLB:Nat→Nat→List UInt8→List UInt8
 | 0,n,s=>s
 | f+1,n,s=>if 9<n then qLB f (n / 10) (UInt8.ofNat (48+n % 10)::s) else UInt8.ofNat (48+n)::s
theorem qKX:∀ (f n:Nat) (s:List UInt8),0<n→n<10 ^ f→qLB f n s=kE n++s
 | 0,n,s,h0,h=>by simp at h; omega
 | f+1,n,s,h0,h1=>by
  simp only [qLB]
  rw [xF h0,List.append_assoc]
  have hf:n / 10<10 ^ f:=by rw [Nat.pow_succ] at h1; omega
  by_cases h9:9<n
  ·rw [if_pos h9,qKX f (n / 10) _ (by omega) hf]; rfl
  rw [if_neg h9,show n / 10=0 by omega,wZ,show n % 10=n by omega]; rfl
theorem qHX (u:Nat) (h:0<u):∃ b r,kE u=b::r∧b≠48:=by
 induction u using Nat.strongRecOn with
 | _ u ih =>
  rcases Nat.eq_zero_or_pos (u / 10) with h0 | h0
  ·refine ⟨UInt8.ofNat (48+u % 10),[],by rw [xF h,h0,wZ]; rfl,fun e => ?_⟩
   have:=congrArg UInt8.toNat e
   rw [UInt8.toNat_ofNat'] at this
   simp at this
   omega
  obtain ⟨b,r,e,hb⟩:=ih (u / 10) (by omega) h0
  exact ⟨b,r++[UInt8.ofNat (48+u % 10)],by rw [xF h,e]; rfl,hb⟩
theorem qMX (u:Nat):qT (kE u)=kE u:=by
 rcases Nat.eq_zero_or_pos u with h | h
 ·subst h; rw [wZ]; rfl
 obtain ⟨b,r,e,hb⟩:=qHX u h
 rw [e]
 unfold qT
 rw [List.dropWhile_cons,if_neg (by simpa using hb)]
theorem qTJ {n:Nat} (h:n<1000000):(jI (n:Int)).digits=qLB 20 n []:=by
 have hl:=qBJ 6 n (by omega)
 unfold jI jF
 simp only [Int.natAbs_natCast,qMX,kI]
 rcases Nat.eq_zero_or_pos n with h0 | h0
 ·subst h0; rw [wZ]; rfl
 obtain ⟨b,r,e,hb⟩:=qHX n h0
 rw [if_neg (by rw [e]; simp),if_neg (by omega),qKX 20 n [] h0 (by omega),List.append_nil]
end Go.Proofs.YtgcbapchinideaaGreatDoor
namespace Go.Proofs.YtgcbapchinideaaGreatDoor.Sy
open Go
section
variable {P:Program} {T:Tab} {G:qJ} {Q:Exit→St→Prop} {st st':St}
theorem Rel.freezeAll {c:Ctx} {μ:Mu} {tmps:Array Value} {w:World}:∀ (ids:List Nat) {M:qQ} {st:St},Rel c M μ st tmps w→∃ M',Rel c M' μ (freezeAll st ids) tmps w
 | [],M,_,r=>⟨M,r⟩
 | i::l,M,st,r=>by
  obtain ⟨M1,r1⟩:=r.freeze i
  exact Rel.freezeAll l r1
end
section
variable {P:Program} {T:Tab} {G:qJ}
theorem AX.ren {f:FuncId} {xs:List V} {H:List (Nat × Box)} {r:V} {ps:List Nat} {H':List (Nat × Box)} (i j:Nat) (h:AX P G f xs H r ps H') (hf:(⟨[r],ps,H',0⟩:St).fresh j=true):AX P G f xs H (r.ren i j) (ps.filter (· != i)) (qGE i j H'):=by
 refine ⟨h.1,fun M μ w vs hg rel=>(h.2 M μ w vs hg rel).mono ?_⟩
 rintro e w' ⟨v,M',μ',rfl,r'⟩
 have:=r'.ren (i:=i) hf
 exact ⟨v,M',_,rfl,by simpa only [St.ren,V.renL] using this⟩
end
section
variable {P:Program} {T:Tab} {G:qJ} {Q:Exit→St→Prop} {l:List Oper} {m:Nat} {tss:List (List Nat)} {sms:List Sm}
inductive DRun (P:Program) (G:qJ) (st0:St):List Oper→List (List Nat)→St→List Sm→St→Prop
 | nil {tss:List (List Nat)} {st:St}:(st.H.map (·.1)).Nodup→DRun P G st0 [] tss st [] st
 | one {o : Oper} {rest : List Oper} {ts : List Nat} {tss : List (List Nat)} {st st2 : St} {s : Sm} {zs : List Sm} : o.guard = none → (st.H.map (·.1)).Nodup → Facts st0 s → (∀ p ∈ s.H, p ∈ st.H) →
   (∀ c M μ st' tmps w R K,yU G c→Rel c M μ st' tmps w→wF st'.tmps (zX st.tmps ts)→(∀ id bx,(id,bx)∈s.H→(id,bx)∈st'.H)→(∀ n∈s.new,({ st' with H:=qV (s.H.map (·.1)) st'.H }:St).fresh n=true) →
    (∀ u w' M' μ' H2,Rel c M' μ' { st' with H:=H2 } tmps w'→RV M' μ' u s.x→(∀ p,p∈H2↔p∈s.H'∨(p∈st'.H∧p.1 ∉ s.H.map (·.1)))→K (Act.put ⟨tmps,[]⟩ o.dst u) w')→o.wp P ⟨tmps,[]⟩ w K R) →
   DRun P G st0 rest tss (st.after o.dst s) zs st2→DRun P G st0 (o::rest) (ts::tss) st (s::zs) st2
theorem DRun.len {st0:St} {rest:List Oper} {ts:List (List Nat)} {st st2:St} {zs:List Sm} (h:DRun P G st0 rest ts st zs st2):zs.length=rest.length:=by
 induction h with
 | nil=>rfl
 | one _ _ _ _ _ _ ih=>simp [ih]
theorem DRun.told (hchk : qZ l m tss = true) (hconf : kK l m (sms.map Sm.sum) = true) {st0 : St} {rest : List Oper} {ts : List (List Nat)} {st st2 : St} {zs : List Sm} (h : DRun P G st0 rest ts st zs st2) : ∀ k : Nat,
  rest=(l.take m).drop k→ts=tss.drop k→zs=sms.drop k→k≤m→sms.length=m→st.pins=st0.pins→st.base=st0.base→DoneD l m sms st0 (fun j=>decide (j<k)) st.tmps st.H →
  (∀ i,k≤i→i<m→Told P G l m sms st0 i)∧st2.pins=st0.pins∧st2.base=st0.base∧DoneD l m sms st0 (fun j=>decide (j<m)) st2.tmps st2.H∧(st2.H.map (·.1)).Nodup:=by
 induction h with
 | @nil ts st hnd =>
  intro k hr _ hz hk hxl hp hb D
  have hkm:k=m:=by
   have h3:(List.drop k (List.take m l)).length=0:=by rw [← hr]; rfl
   have:=xH hchk
   simp at h3
   omega
  subst hkm
  exact ⟨fun i h1 h2=>by omega,hp,hb,D,hnd⟩
 | @one o rest t1 tss1 st st2 s zs hgd hnd F hsub hgo _ ih =>
  intro k hr hts hz hk hxl hp hb D
  have hkm:k<m:=by
   have h3:(List.drop k (List.take m l)).length=rest.length+1:=by rw [← hr]; rfl
   simp at h3
   omega
  obtain ⟨o',ho',htk,hsep⟩:=kA hchk hkm
  have hoo:o=o':=by
   have h3:(List.drop k (List.take m l))[0]?=some o:=by rw [← hr]; rfl
   rw [List.getElem?_drop,List.getElem?_take,Nat.add_zero,if_pos hkm,ho'] at h3
   cases h3; rfl
  subst hoo
  have hrest:rest=(l.take m).drop (k+1):=by
   have:=congrArg (List.drop 1) hr
   simpa [List.drop_drop,Nat.add_comm] using this
  have ht1:t1=o.looksAt l.toArray:=by
   have h3:(List.drop k tss)[0]?=some t1:=by rw [← hts]; rfl
   rw [List.getElem?_drop,Nat.add_zero,htk] at h3
   cases h3; rfl
  have hts1:tss1=tss.drop (k+1):=by
   have:=congrArg (List.drop 1) hts
   simpa [List.drop_drop,Nat.add_comm] using this
  have hdk:zU l k=o.dst:=by simp [zU,ho']
  have hxk:sms[k]?=some s:=by
   have h3:(List.drop k sms)[0]?=some s:=by rw [← hz]; rfl
   rw [List.getElem?_drop,Nat.add_zero] at h3; exact h3
  have hz':zs=sms.drop (k+1):=by
   have:=congrArg (List.drop 1) hz
   simpa [List.drop_drop,Nat.add_comm] using this
  have D':DoneD l m sms st0 (fun j=>decide (j<k+1)) (st.after o.dst s).tmps (st.after o.dst s).H:=by
   have:=D.go hchk hconf (DC.below hchk k) (L':=fun j=>decide (j<k+1)) hkm hdk hxk (by simp) F (fun j=>by
    by_cases h1:j<k
    ·simp [h1,show j<k+1 by omega]
    by_cases h2:j=k
    ·simp [h2]
    simp [h1,h2,show ¬ j<k+1 by omega]) hsub hnd (H2:=s.H'++qV (s.H.map (·.1)) st.H) (fun p=>by rw [List.mem_append,wI])
   have e1:(st.after o.dst s).tmps=qGF st.tmps o.dst s.x:=by cases hq:o.dst <;> rfl
   rw [e1]; exact this
  have e2:(st.after o.dst s).pins=st.pins:=by cases hq:o.dst <;> rfl
  have e3:(st.after o.dst s).base=st.base:=by cases hq:o.dst <;> rfl
  obtain ⟨h1,h2,h3⟩:=ih (k+1) hrest hts1 hz' hkm hxl (e2.trans hp) (e3.trans hb) D'
  refine ⟨fun i hi1 hi2 => ?_,h2,h3⟩
  rcases Nat.eq_or_lt_of_le hi1 with e | e
  ·subst e
   subst ht1
   exact ⟨o,s,st.tmps,st.H,ho',hxk,D,F,hsub,qDK ho' hgd hgo⟩
  exact h1 i e hi2
theorem AW.runDraw1 (hmix : P.follows .mixedOrders = true) (m : Nat) (tss : List (List Nat)) {id : Nat} {st st1 : St} {sms : List Sm} (hchk : qZ l m tss = true)
  (h1:DRun P G st (l.take m) tss st sms st1) (hconf:kK l m (sms.map Sm.sum)=true) (hlate:qR P G l.toArray Q (l.drop m) st1) :
  AW P G (.region id l.toArray true) Q st:=by
 intro c M μ tmps w hg r
 refine wp_region_any hmix ?_
 have hml:=xH hchk
 have hxl:sms.length=m:=by
  rw [h1.len]; simp; omega
 obtain ⟨hgo,hp2,_,D2,hnd2⟩:=h1.told hchk hconf 0 (by simp) (by simp) (by simp) (Nat.zero_le _) hxl rfl rfl (DoneD.put0 st)
 have hsize:l.toArray.size=l.length:=by simp
 refine qFK hchk hconf st (fun i hi=>hgo i (Nat.zero_le _) hi) st1 hp2 D2 hnd2 hlate hg _ _ _ M μ st.tmps st.H tmps _ rfl ?_ (by simp) (fun j _ hj=>by simp [Array.getD]) (fun j o _ h=>by simp [Array.getD] at h) ?_ (r.same ⟨rfl,rfl,rfl,Nat.le_refl _,fun _ _=>rfl⟩)
 ·rw [hsize]
  exact Nat.le_trans (List.length_filter_le _ _) (by simp)
 have:(fun j=>(Array.replicate l.toArray.size false).getD j false)=fun j=>decide (j<0):=by
  funext j; simp [Array.getD]
 rw [this]; exact DoneD.put0 st
def yB (P:Program) (G:qJ) (st0:St) (l:List Oper) (tss:List (List Nat)) (st:St) (acc:vD) (K:vD→St→Prop):Prop:=∃ sms st1,DRun P G st0 l tss st sms st1∧K (acc++sms.map Sm.sum) st1
variable {K:vD→St→Prop} {st st' st0:St} {rest:List Oper} {ts:List Nat} {orc orc':List PD} {acc:vD} {o:Oper} {sm:qWP} {v:Know→Prop}
theorem yB.nil (hn:ndB st.H=true) (k:K acc st):yB P G st0 [] tss st acc K:=⟨_,_,.nil (wA hn),by simpa using k⟩
theorem yB.one (hT : TOK P T) (h : ∀ C, qDM C T G st0 ts o st orc = some (v C, st', sm, orc')) (hv : v (kn P G)) (hgd : o.guard = none) (hn : ndB st.H = true) (k : yB P G st0 rest tss st' (acc ++ [sm]) K) :
  yB P G st0 (o::rest) (ts::tss) st acc K:=by
 have h1:=h (kn P G)
 unfold qDM at h1
 split at h1
 ·rename_i v1 s orc1 h2
  simp only [Option.some.injEq,Prod.mk.injEq] at h1
  obtain ⟨h3,rfl,rfl,rfl⟩:=h1
  obtain ⟨sms,st1,e,hk⟩:=k
  have S:=xT hT (wA hn) h2 (h3 ▸ hv)
  exact ⟨s::sms,st1,.one hgd (wA hn) ⟨S.q,S.good,S.ps,S.new⟩ (fun p hp=>uJ st _ p (S.H p hp)) S.goes e,by simpa using hk⟩
 cases h1
theorem r1 (hT : TOK P T) (k : yB P G st0 rest tss st' (acc ++ [sm]) K) (h : ∀ C, qDM C T G st0 ts o st orc = some (v C, st', sm, orc') := by intro C; conv => lhs; simp) (hv : v (kn P G) := by first | with_reducible exact True.intro | omega | simp | (simp +contextual; omega)) (hgd : o.guard = none := by rfl) (hn : ndB st.H = true := by kernel_rfl) :
  yB P G st0 (o::rest) (ts::tss) st acc K:=yB.one hT h hv hgd hn k
theorem yB.call {x : Operand} {args : Array Operand} {tys : Array TypeId} {f : FuncId} {xs : List V} {H : List (Nat × Box)} {r : V} {ps : List Nat} {H' : List (Nat × Box)} (new : List Nat) (hc : AX P G f xs H r ps H') (ho : o.op = .call { callee := .value x, args := args, argTypes := tys }) (hgd : o.guard = none)
  (hcx:CX G ⟨zX st.tmps ts,H.map (·.1),H,st.base⟩ x args.toList f xs H r ps H') (hrest:(St.rest ⟨zX st.tmps ts,H.map (·.1),H,st.base⟩ H ps).H=[]) (hpins:∀ i∈ps,i∈(St.rest ⟨zX st.tmps ts,H.map (·.1),H,st.base⟩ H ps).pins)
  (hsub:∀ p∈H,p∈st.H) (hnew:∀ n∈new,st0.fresh n=true) (hky:∀ i,qH i H'=true→i∈H.map (·.1)∨i∈new) (hgood:∀ i∈V.ids r++kD H',i∈ps∨i∈new) (hn:ndB st.H=true) (hst:st.after o.dst ⟨r,H,H',ps,new,false⟩=st')
  (k:yB P G st0 rest tss st' (acc++[(Sm.mk r H H' ps new false).sum]) K):yB P G st0 (o::rest) (ts::tss) st acc K:=by
 subst hst
 obtain ⟨sms,st1,e,hk⟩:=k
 have hsn:(H.map (·.1)).Nodup:=hcx.2.2.2.2.1
 have y:=yC ho hc hcx
 refine ⟨⟨r,H,H',ps,new,false⟩::sms,st1,.one hgd (wA hn) ⟨fun h=>absurd h (by simp),hgood,hky,hnew⟩ hsub (fun c M μ st' tmps w R K hG rel hle hbox hnw k => ?_) e,by simpa using hk⟩
 exact vY (s:=⟨r,H,H',ps,new,false⟩) (small:=⟨zX st.tmps ts,H.map (·.1),H,st.base⟩) (s':=({ St.rest (⟨zX st.tmps ts,H.map (·.1),H,st.base⟩:St) H ps with H:=H'++(St.rest (⟨zX st.tmps ts,H.map (·.1),H,st.base⟩:St) H ps).H }:St)) rfl hsn (by show H'=H'++_; rw [hrest,List.append_nil]) (fun i hi=>hpins i hi) hky hgood y c M μ st' tmps w R K hG rel hle hbox hnw k
theorem AW.drawR (hmix : P.follows .mixedOrders = true) (m : Nat) (tss : List (List Nat)) (orc2 : List PD) {id : Nat} {l : List Oper} (hchk : qZ l m tss = true)
  (h:yB P G st (l.take m) tss st [] fun qIJ st1=>kK l m qIJ=true∧qF P G l.toArray Q (l.drop m) st1 orc2):AW P G (.region id l.toArray true) Q st:=by
 obtain ⟨sms,st1,e,hc,hl⟩:=h
 exact AW.runDraw1 hmix m tss hchk e (by simpa using hc) hl
theorem AW.seqDrawR (hmix : P.follows .mixedOrders = true) (m : Nat) (tss : List (List Nat)) (orc2 : List PD) {id : Nat} {l : List Oper} {b : Code} (hchk : qZ l m tss = true)
  (h:yB P G st (l.take m) tss st [] fun qIJ st1=>kK l m qIJ=true∧qF P G l.toArray (andThen (AW P G b Q) Q) (l.drop m) st1 orc2):AW P G (.seq (.region id l.toArray true) b) Q st :=
 AW.seq (AW.drawR hmix m tss orc2 hchk h)
end
set_option linter.unusedSimpArgs false
set_option linter.unusedVariables false
section
variable {P:Program} {T:Tab} {G:qJ} {l:List Oper} {tss:List (List Nat)} {K:vD→St→Prop} {st st' st0:St} {rest:List Oper} {ts:List Nat} {acc:vD} {o:Oper}
end
end Go.Proofs.YtgcbapchinideaaGreatDoor.Sy
namespace Go.Proofs.YtgcbapchinideaaGreatDoor
open Sy Go
set_option maxRecDepth 100000
set_option maxHeartbeats 4000000
set_option linter.unusedSimpArgs false
set_option linter.unusedVariables false
variable {G:qJ}
theorem qSH (code m:Int):AFn Tryz.prog G 69 [.int .i64 code,.int .u64 m] ((zD code m).enc):=by
 refine AFn.introU tok Tryz.func69 (by kernel_rfl) rfl rfl ?_
 simp only [Tryz.f69,qK,List.map_cons,List.map_nil]
 have e:zD code m = .mk 8 m dc0 [] [] [] code:=rfl
 rw [e]
 refine rgn [] [[]] ?_
 refine op1 tok ?_
 refine qA (rgn [] [[],[],[4,7],[4]] ?_)
 iterate 4 refine op1 tok ?_
 refine qA ?_
 exact AW.ret (qO (k:=by simp [dc0]))
def jQ (v:Val):Bool × Bool:=if v.kind=8 then (false,false) else if v.kind=1∨v.kind=2 then (false,true) else (true,true)
theorem qQB (v:Val):AFn Tryz.prog G 33 [v.enc] (.tup [.bool (jQ v).1,.bool (jQ v).2]):=by
 refine AFn.introU tok Tryz.func33 (by kernel_rfl) rfl rfl ?_
 simp only [Tryz.f33,qK,List.map_cons,List.map_nil]
 refine rgn [] [[],[],[1]] ?_
 iterate 3 refine op1 tok ?_
 refine qA (AW.seq (rgn [] [[],[5]] ?_))
 iterate 2 refine op1 tok ?_
 refine qA (AW.block (rgn [] [[],[5,6]] ?_))
 iterate 2 refine op1 tok ?_
 refine qA (cnd ?_ ?_)
 ·intro h6
  try simp at h6
  refine rgn [] [[],[]] ?_
  iterate 2 refine op1 tok ?_
  refine qA ?_
  exact AW.ret (qO (k:=by (first | (exfalso; omega) | (simp [jQ, *]; done))))
 intro h6
 try simp at h6
 refine AW.seq (rgn [] [[],[5,8]] ?_)
 iterate 2 refine op1 tok ?_
 refine qA (cnd ?_ ?_)
 ·intro h8
  try simp at h8
  refine AW.skip (cnd ?_ ?_)
  ·intro h8
   try simp at h8
   refine rgn [] [[],[]] ?_
   iterate 2 refine op1 tok ?_
   refine qA ?_
   exact AW.ret (qO (k:=by (first | (exfalso; omega) | (simp [jQ, *]; done))))
  intro h8
  try simp at h8
  refine AW.skip (rgn [] [[],[]] ?_)
  iterate 2 refine op1 tok ?_
  refine qA ?_
  exact AW.ret (qO (k:=by (first | (exfalso; omega) | (simp [jQ, *]; done))))
 intro h8
 try simp at h8
 refine rgz [] [[],[8]] ?_
 iterate 2 refine op1 tok ?_
 refine qA (cnd ?_ ?_)
 ·intro h8
  try simp at h8
  refine rgn [] [[],[]] ?_
  iterate 2 refine op1 tok ?_
  refine qA ?_
  exact AW.ret (qO (k:=by (first | (exfalso; omega) | (simp [jQ, *]; done))))
 intro h8
 try simp at h8
 refine AW.skip (rgn [] [[],[]] ?_)
 iterate 2 refine op1 tok ?_
 refine qA ?_
 exact AW.ret (qO (k:=by (first | (exfalso; omega) | (simp [jQ, *]; done))))
structure Item where
 kind:Int
 many:Int
 mask:Int
 num:List UInt8
 text:List UInt8
 keys:List (List UInt8)
@[simp] def Item.enc (x:Item):PD := .agg [.int .i64 x.kind,.int .i64 x.many,.int .u64 x.mask,.str x.num,.str x.text,.sl 1 (x.keys.map PD.str)]
theorem qMY {s:List UInt8} (h:s.all zB=true):(qT s).all zB=true:=by
 rw [List.all_eq_true] at h ⊢
 exact fun b hb=>h b ((List.dropWhile_sublist _).subset hb)
theorem qKE {s:List UInt8} (h:qT s≠[]):zR (qT s) 0≠48:=by
 induction s with
 | nil=>exact (h rfl).elim
 | cons b s ih =>
  by_cases hb:b=48
  ·have e:qT (b::s)=qT s:=by simp [qT,hb]
   rw [e] at h ⊢; exact ih h
  have e:qT (b::s)=b::s:=by simp [qT,hb]
  rw [e]
  intro h2
  simp [zR] at h2
  exact hb (UInt8.toNat_inj.1 (by show b.toNat=48; omega))
theorem qEG:∀ (k:Nat) (d:List UInt8),(∃ r,d=(kI d k).1++r)∧((kI d k).2=0∨(kI d k).1.getLast?≠some 48)
 | 0,d=>⟨⟨[],by simp [kI]⟩,.inl rfl⟩
 | k+1,d=>by
  simp only [kI]
  split
  ·obtain ⟨⟨r,hr⟩,h2⟩:=qEG k d.dropLast
   refine ⟨⟨r++d.drop (d.length-1), ?_⟩,h2⟩
   have e:d.dropLast++d.drop (d.length-1)=d:=by rw [List.dropLast_eq_take,List.take_append_drop]
   rw [← List.append_assoc,← hr,e]
  rename_i h; exact ⟨⟨[],by simp⟩,.inr h⟩
theorem qRX {neg:Bool} {digits:List UInt8} {scale:Nat} (hd:digits.all zB=true) (h:(jF neg digits scale).2=0):yT (jF neg digits scale).1=true:=by
 unfold jF at h ⊢
 simp only at h ⊢
 obtain ⟨⟨r,hr⟩,hl⟩:=qEG scale (qT digits)
 generalize kI (qT digits) scale=x at *
 split
 ·decide +kernel
 rename_i hne
 rw [if_neg hne] at h
 split
 ·rename_i hb; rw [if_pos hb] at h; simp at h
 rename_i hb
 have hpos:0<x.1.length:=List.length_pos_iff.2 hne
 have hall:x.1.all zB=true:=by
  have:=qMY hd
  rw [hr,List.all_append,Bool.and_eq_true] at this; exact this.1
 have hh:zR x.1 0≠48:=by
  have h1:=qKE (s:=digits) (by rw [hr]; simp [hne])
  rw [hr] at h1
  obtain ⟨c,d,hx⟩:∃ c d,x.1=c::d:=by
   cases hx:x.1 with
   | nil=>exact (hne hx).elim
   | cons c d=>exact ⟨c,d,rfl⟩
  rw [hx] at h1 ⊢
  simpa [zR] using h1
 rw [qRE (by simp only []; omega) hall]
 simp only
 rw [if_neg (by intro e; rw [e] at hh; exact hh rfl)]
 have hlast:x.2=0∨zR x.1 (x.1.length-1)≠48:=hl.imp id fun h h2=>h ((qMG hpos).1 h2)
 simp [hh]
 exact hlast
theorem zW (code m:Int):AFn Tryz.prog G 34 [.agg [.int .u64 m],.int .i64 code] ((zD code m).enc):=by
 refine AFn.introU tok Tryz.func34 (by kernel_rfl) rfl rfl ?_
 simp only [Tryz.f34,qK,List.map_cons,List.map_nil]
 have hf:=qSH (G:=G) code m
 simp only [Val.enc_def] at hf
 refine rgn [] [[],[1,2,4]] ?_
 iterate 2 refine op1 tok ?_
 refine qA (rgn [.nilp,(zD code m).enc] [[],[],[],[4,8],[4]] ?_)
 iterate 5 refine oq1 tok hf ?_
 exact qA (AW.ret qO)
theorem qSX (m:Int):AFn Tryz.prog G 129 [.agg [.int .u64 m]] ((qSU m).enc):=by
 refine AFn.introU tok Tryz.func129 (by kernel_rfl) rfl rfl ?_
 simp only [Tryz.f129,qK,List.map_cons,List.map_nil]
 have e:qSU m = .mk 1 m dc0 [] [] [] 0:=rfl
 rw [e]
 refine rgn [] [[],[1,2]] ?_
 iterate 2 refine op1 tok ?_
 refine qA (rgn [] [[],[],[],[2]] ?_)
 iterate 4 refine op1 tok ?_
 refine qA ?_
 exact AW.ret (qO (k:=by simp [dc0]))
theorem qCH (x:Bool) (m:Int):AFn Tryz.prog G 35 [.agg [.int .u64 m],.bool x] ((kU x m).enc):=by
 refine AFn.introU tok Tryz.func35 (by kernel_rfl) rfl rfl ?_
 simp only [Tryz.f35,qK,List.map_cons,List.map_nil]
 have e:kU x m = .mk (if x=true then 3 else 2) m dc0 [] [] [] 0:=rfl
 rw [e]
 refine rgn [] [[],[1,2,4]] ?_
 iterate 2 refine op1 tok ?_
 refine qA (AW.seq (rgn [] [[2,4,5]] ?_))
 refine op1 tok ?_
 refine qA (cnd ?_ ?_)
 ·intro h5
  try simp at h5
  rw [if_pos h5]
  refine rgn [] [[],[],[],[4]] ?_
  iterate 4 refine op1 tok ?_
  refine qA ?_
  exact AW.ret (qO (k:=by simp [dc0]))
 intro h5
 try simp at h5
 rw [if_neg (by rw [h5]; simp)]
 refine AW.skip (rgn [] [[],[],[],[4]] ?_)
 iterate 4 refine op1 tok ?_
 refine qA ?_
 exact AW.ret (qO (k:=by simp [dc0]))
theorem vP (s:List UInt8) (m:Int):AFn Tryz.prog G 36 [.agg [.int .u64 m],.str s] ((wG s m).enc):=by
 refine AFn.introU tok Tryz.func36 (by kernel_rfl) rfl rfl ?_
 simp only [Tryz.f36,qK,List.map_cons,List.map_nil]
 have hf:=zW (G:=G) 3 m
 have e:wG s m=if 4096<s.length then zD 3 m else .mk 5 m dc0 s [] [] 0:=rfl
 rw [e]
 simp only [Val.enc_def] at hf
 refine rgn [] [[],[1,2,4]] ?_
 iterate 2 refine op1 tok ?_
 refine qA (AW.seq (rgn [] [[],[],[1,2,4,7]] ?_))
 iterate 3 refine op1 tok ?_
 refine qA (cnd ?_ ?_)
 ·intro h7
  try simp at h7
  rw [if_pos (by omega)]
  refine rgn [.nilp,(zD 3 m).enc] [[],[],[4]] ?_
  iterate 3 refine oq1 tok hf ?_
  exact qA (AW.ret qO)
 intro h7
 try simp at h7
 rw [if_neg (by omega)]
 refine AW.skip (rgn [] [[],[],[],[4,13],[4]] ?_)
 iterate 5 refine op1 tok ?_
 refine qA ?_
 exact AW.ret (qO (k:=by simp [dc0]))
theorem xM (r:Dc × Int) (m:Int):AFn Tryz.prog G 41 [.agg [.int .u64 m],r.1.enc,.int .i64 r.2] ((qKV r m).enc):=by
 refine AFn.introU tok Tryz.func41 (by kernel_rfl) rfl rfl ?_
 simp only [Tryz.f41,qK,List.map_cons,List.map_nil]
 have hf:=zW (G:=G) r.2 m
 have e:qKV r m=if r.2=0 then .mk 4 m r.1 [] [] [] 0 else zD r.2 m:=rfl
 rw [e]
 simp only [Val.enc_def] at hf
 refine rgn [] [[],[],[2,3,4,6]] ?_
 iterate 3 refine op1 tok ?_
 refine qA (AW.seq (rgn [] [[],[2,3,4,6,8]] ?_))
 iterate 2 refine op1 tok ?_
 refine qA (cnd ?_ ?_)
 ·intro h8
  try simp at h8
  rw [if_neg (by simpa using h8)]
  refine rgn [.nilp,(zD r.2 m).enc] [[],[],[6,11],[6]] ?_
  iterate 4 refine oq1 tok hf ?_
  exact qA (AW.ret qO)
 intro h8
 try simp at h8
 rw [if_pos (by simpa using h8)]
 refine AW.skip (rgn [] [[],[],[],[6,15],[6]] ?_)
 iterate 5 refine op1 tok ?_
 refine qA ?_
 exact AW.ret (qO (k:=by simp [dc0]))
theorem qSY (l:List Val) (m:Int) (hl:∀ v∈l,Few v) (hn:l.length≤1000000):AFn Tryz.prog G 40 [.agg [.int .u64 m],.sl 9 (l.map Val.enc)] ((qDH l m).enc):=by
 refine AFn.introU tok Tryz.func40 (by kernel_rfl) rfl rfl ?_
 simp only [Tryz.f40,qK,List.map_cons,List.map_nil]
 have hf:=zW (G:=G) 3 m
 have hc:=qRI (G:=G) (.mk 6 m dc0 [] [] l 0) (.mk (by simp) (by simpa using hn) (by simpa using hl))
 have e:qDH l m=if 200<l.length then zD 3 m else .mk 6 m dc0 [] [] l 0:=rfl
 rw [e]
 simp only [Val.enc_def] at hf hc
 refine rgn [] [[],[1,2,4]] ?_
 iterate 2 refine op1 tok ?_
 refine qA (AW.seq (rgn [] [[],[],[1,2,4,7]] ?_))
 iterate 3 refine op1 tok ?_
 refine qA (cnd ?_ ?_)
 ·intro h7
  try simp at h7
  rw [if_pos (by omega)]
  refine rgn [.nilp,(zD 3 m).enc] [[],[],[4]] ?_
  iterate 3 refine oq1 tok hf ?_
  exact qA (AW.ret qO)
 intro h7
 try simp at h7
 rw [if_neg (by omega)]
 refine AW.skip (rgn [.nilp,(Val.mk 6 m dc0 [] [] l 0).enc] [[],[],[],[4,13],[],[4]] ?_)
 iterate 6 refine op1 tok ?_ (hv:=by first | with_reducible exact True.intro | ((simp [dc0] at hc ⊢; exact hc); done) | omega | simp | (simp +contextual; omega))
 exact qA (AW.ret qO)
end Go.Proofs.YtgcbapchinideaaGreatDoor
namespace Go.Proofs.YtgcbapchinideaaGreatDoor.Sy
open Go
set_option linter.unusedSimpArgs false
set_option linter.unusedVariables false
section
variable {P:Program} {T:Tab} {G:qJ} {st:St}
end
section
variable {P:Program} {T:Tab} {G:qJ} {st:St}
end
section
variable {P:Program} {T:Tab} {G:qJ} {Q:Exit→St→Prop} {st:St}
theorem RowOf.drop {M:qQ} {sz:Nat} {es:List PD} {news:List Value} (h:RowOf M sz es news) (n:Nat):RowOf M sz (es.drop n) (news.drop (n * sz)) where
 len:=by rw [List.length_drop,List.length_drop,h.len,Nat.sub_mul]
 one:=fun u hu=>h.one u (List.mem_of_mem_drop hu)
 elem:=fun i e he=>h.elem (n+i) e (by rwa [List.getElem?_drop] at he)
 get:=fun i e j d u he hd hu=>by
  rw [List.getElem?_drop] at he hu
  exact h.get (n+i) e j d u he hd (by rw [← hu]; congr 1; rw [Nat.add_mul]; omega)
end
section
variable {P:Program} {T:Tab} {G:qJ} {l:List Oper} {tss:List (List Nat)} {K:vD→St→Prop} {st st' st0:St} {rest:List Oper} {ts:List Nat} {acc:vD} {o:Oper}
theorem yB.y (Hs H' : List (Nat × Box)) (x : V) (q : Bool) (hgd : o.guard = none) (y : qU P G o ⟨zX st.tmps ts, Hs.map (·.1), Hs, st.base⟩ x ⟨zX st.tmps ts, Hs.map (·.1), H', st.base⟩) (hq : q = true → H' = Hs) (hsub : ∀ p ∈ Hs, p ∈ st.H)
  (hids:∀ i∈V.ids x++kD H',i∈Hs.map (·.1)) (hn:ndB st.H=true) (hns:ndB Hs=true) (hst:st.after o.dst ⟨x,Hs,H',Hs.map (·.1),[],q⟩=st') (k:yB P G st0 rest tss st' (acc++[(Sm.mk x Hs H' (Hs.map (·.1)) [] q).sum]) K):yB P G st0 (o::rest) (ts::tss) st acc K:=by
 subst hst
 obtain ⟨sms,st1,e,hk⟩:=k
 have hgood:∀ i∈V.ids x++kD H',i∈Hs.map (·.1)∨i∈([]:List Nat):=fun i hi => .inl (hids i hi)
 have hky:∀ i,qH i H'=true→i∈Hs.map (·.1)∨i∈([]:List Nat):=fun i hi => .inl (hids i (List.mem_append.2 (.inr (xC hi))))
 refine ⟨⟨x,Hs,H',Hs.map (·.1),[],q⟩::sms,st1,.one hgd (wA hn) ⟨hq,hgood,hky,by simp⟩ hsub (fun c M μ st' tmps w R K hG rel hle hbox hnw k => ?_) e,by simpa using hk⟩
 exact vY (s:=⟨x,Hs,H',Hs.map (·.1),[],q⟩) (small:=⟨zX st.tmps ts,Hs.map (·.1),Hs,st.base⟩) (s':=⟨zX st.tmps ts,Hs.map (·.1),H',st.base⟩) rfl (wA hns) rfl (fun i hi=>hi) hky hgood y c M μ st' tmps w R K hG rel hle hbox hnw k
end
section
variable {P:Program} {T:Tab} {G:qJ} {Q:Exit→St→Prop} {st:St}
end
section
variable {P:Program} {T:Tab} {G:qJ} {l:List Oper} {tss:List (List Nat)} {K:vD→St→Prop} {st st' st0:St} {rest:List Oper} {ts:List Nat} {acc:vD} {o:Oper}
end
section
variable {P:Program} {T:Tab} {G:qJ} {o:Oper} {st st1 st':St} {x:V}
theorem AX.ofFn {f:FuncId} {al:List PD} {r:PD} {xs:List V} (h:AFn P G f al r) (hfit:V.fitsL [] xs al):AX P G f xs [] (.p r) [] []:=by
 refine ⟨h.1,fun M μ w vs hg rel => ?_⟩
 have hl:=V.fitsL_len hfit
 have hs:vs.size=al.length:=by have:=rel.slots.1; simp only at this; omega
 refine (h.2 M w vs hg rel.mem hs fun i u d hu hd => ?_).mono ?_
 ·have hi:i<xs.length:=by have:=(List.getElem?_eq_some_iff.1 hd).1; omega
  exact yS (rel.slots.2 i u _ hu (List.getElem?_eq_getElem hi)) (V.fitsL_get hfit (List.getElem?_eq_getElem hi) hd)
 rintro e w' ⟨v,M',rfl,hv,hmem,hM,hold,hbel⟩
 have r2:=rel.grows (Grows.of_below hbel) hM hmem hold
 refine ⟨v,M',μ,rfl,{ r2 with slots:=⟨by simp,fun i u y hu hy => ?_⟩ }⟩
 match i with
 | 0=>simp at hu hy; subst hu; subst hy; exact .p hv
 | i+1=>simp at hy
theorem AFn.of_AX {f:FuncId} {args:List PD} {k e sz:Nat} {es:List PD} (h:AX P G f (args.map .p) [] (.ms k) [] [(k,.row e sz es)]):AFn P G f args (.sl sz es):=by
 refine ⟨h.1,fun M w vs hg hmem hsz hrd=>(h.2 M (fun _=>default) w vs hg (Rel.plain _ hmem hsz hrd)).mono ?_⟩
 rintro e' w' ⟨v,M',μ',rfl,r1⟩
 obtain ⟨M2,r'⟩:=r1.freeze k
 have hno:∀ b, ¬ zO (fun _=>(default:Loc)) [] b:=fun b ⟨i,hi,_⟩=>by simp [qH] at hi
 have hv:=r'.slots.2 0 v (.p (.sl sz es)) (by simp) (by simp)
 cases hv with
 | p hv=>exact ⟨v,M2,rfl,hv,r'.mem,r'.ext,fun b o hb=>r'.old b o fun hm=>hm.elim (fun h=>by simp at h; omega) (hno b),⟨r'.below.os,r'.below.tape,r'.below.output,r'.below.size,fun j hj=>r'.below.block j fun hm=>hm.elim (fun h=>by simp at h; omega) (hno j)⟩⟩
theorem qU.freeze (id:Nat) (h:st.freeze id=st1) (y:qU P G o st1 x st'):qU P G o st x st':=fun c M μ tmps w hg rel=>by
 subst h
 obtain ⟨M1,r1⟩:=rel.freeze id
 exact y c M1 μ tmps w hg r1
theorem qU.plain {id e sz:Nat} {es:List PD} (y:qU P G o st (.ms id) { st with H:=(id,.row e sz es)::st.H }):qU P G o st (.p (.sl sz es)) st:=fun c M μ tmps w hg rel=>by
 have h:=y c M μ tmps w hg rel
 revert h
 generalize (execOp (Act.eval ⟨tmps,[]⟩) o).run P w=r0
 have key:∀ u w',(∃ M' μ',Rel c M' μ' { st with H:=(id,.row e sz es)::st.H } tmps w'∧RV M' μ' u (.ms id))→∃ M' μ',Rel c M' μ' st tmps w'∧RV M' μ' u (.p (.sl sz es)):=by
  rintro u w' ⟨M1,μ1,r,hu⟩
  have hm:(id,Box.row e sz es)∈({ st with H:=(id,.row e sz es)::st.H }:St).H:=List.mem_cons_self
  have hk:qH id ({ st with H:=(id,.row e sz es)::st.H }:St).H=true:=qD.2 ⟨_,hm⟩
  have hid:∀ i,qH i st.H=true→i≠id:=fun i hi he=>by
   subst he
   obtain ⟨b,hb⟩:=qD.1 hi
   have:=r.nodup
   simp only [List.map_cons,List.nodup_cons] at this
   exact this.1 (List.mem_map.2 ⟨_,hb,rfl⟩)
  have hup:∀ i,qH i st.H=true→qH i ({ st with H:=(id,.row e sz es)::st.H }:St).H=true:=fun i hi=>by
   obtain ⟨b,hb⟩:=qD.1 hi
   exact qD.2 ⟨b,List.mem_cons_of_mem _ hb⟩
  let M2:qQ:=fun b o=>if (μ1 id).blk=some b then w'.cell? ⟨b,o,none⟩ else M1 b o
  have e1:∀ b o,(μ1 id).blk=some b→M2 b o=w'.cell? ⟨b,o,none⟩:=fun b o h=>if_pos h
  have e2:∀ b o,(μ1 id).blk≠some b→M2 b o=M1 b o:=fun b o h=>if_neg h
  have hM:∀ b o v,M1 b o=some v→M2 b o=some v:=by
   intro b o v hv
   by_cases h:(μ1 id).blk=some b
   ·rw [e1 b o h]; exact r.mem b o v hv
   rw [e2 b o h]; exact hv
  have hd:Rd M2 (μ1 id).val (.sl sz es):=uL (r.box id _ hm) hM fun b h o v hv=>by rw [e1 b o h]; exact hv
  refine ⟨M2,μ1,⟨?_,fun b o v hv=>hM _ _ _ (r.ext b o v hv),fun b o hb => ?_,⟨r.slots.1,fun i u x hu hx=>(r.slots.2 i u x hu hx).mono hM fun _ _=>rfl⟩,r.pins,fun i bx hi=>(r.box i bx (List.mem_cons_of_mem _ hi)).mono hM rfl (fun _ _=>rfl) (fun _ _=>rfl), ?_,fun i j b hi hj=>r.inj i j b (hup i hi) (hup j hj),fun i b hi hib => ?_,r.size,r.below⟩, ?_⟩
  ·intro b o v hv
   by_cases h:(μ1 id).blk=some b
   ·rw [e1 b o h] at hv; exact hv
   rw [e2 b o h] at hv; exact r.mem b o v hv
  ·rw [e2 b o fun h=>hb (r.own id b hk h).1]; exact r.old b o hb
  ·have:=r.nodup
   simp only [List.map_cons,List.nodup_cons] at this
   exact this.2
  ·have h3:=r.own i b (hup i hi) hib
   exact ⟨h3.1,h3.2.1,fun o=>by rw [e2 b o fun h=>hid i hi (r.inj i id b (hup i hi) hk hib h)]; exact h3.2.2 o⟩
  cases hu with
  | ms h1 h2=>exact .p (h1 ▸ hd)
 intro h
 cases r0 with
 | halt x w'=>exact h.elim
 | ok n w' =>
  cases n <;> simp only [qOS] at h ⊢
  case value v=>exact key _ _ h
  case skip=>exact key _ _ h
  case enter f args =>
   refine h.mono ?_
   rintro e w'' ⟨v,rfl,hn⟩
   exact ⟨v,rfl,key _ _ hn⟩
end
section
variable {P:Program} {T:Tab} {G:qJ} {l:List Oper} {tss:List (List Nat)} {K:vD→St→Prop} {st st' st0:St} {rest:List Oper} {ts:List Nat} {acc:vD} {o:Oper}
end
section
variable {P:Program} {T:Tab} {G:qJ} {Q:Exit→St→Prop}
def qXD (s s':St):Prop:=∀ c M μ tmps w,Rel c M μ s tmps w→Rel c M μ s' tmps w
theorem qXD.of {s s':St} (h:St.Le s s'):qXD s s':=fun _ _ _ _ _ r=>r.weaken h
variable {st:St}
end
set_option maxHeartbeats 4000000
section
variable {P:Program} {T:Tab} {G:qJ} {Q:Exit→St→Prop}
theorem qVE (hT:TOK P T) {st:St} {o:Oper} {orc orc':List PD} {v:Prop} {x:V} (h:qET T G st o.op orc=some (v,x,orc')) (hv:v):qU P G o st x st:=by
 intro c M μ tmps w hg r
 obtain ⟨u,e,hu⟩:=qDD hT hg r h hv
 rw [e]
 exact ⟨M,μ,r,hu⟩
def dd (b:Bool) (v:V):V:=if b=true then v else .dead
@[simp] theorem zBI (v:V):dd true v=v:=rfl
@[simp] theorem zBC (v:V):dd false v = .dead:=rfl
end
section
variable {P:Program} {T:Tab} {G:qJ} {st:St}
end
section
variable {P:Program} {G:qJ} {st st' st0:St} {rest:List Oper} {ts:List Nat} {tss:List (List Nat)} {acc:vD} {o:Oper} {K:vD→St→Prop}
theorem yB.q (ids : List Nat) (x : V) (hgd : o.guard = none) (y : qU P G o ⟨zX st.tmps ts, ids, [], st.base⟩ x ⟨zX st.tmps ts, ids, [], st.base⟩) (hids : ∀ i ∈ V.ids x, i ∈ ids) (hn : ndB st.H = true)
  (hst:st.after o.dst ⟨x,[],[],ids,[],true⟩=st') (k:yB P G st0 rest tss st' (acc++[(Sm.mk x [] [] ids [] true).sum]) K):yB P G st0 (o::rest) (ts::tss) st acc K:=by
 subst hst
 obtain ⟨sms,st1,e,hk⟩:=k
 have hgood:∀ i∈V.ids x++kD ([]:List (Nat × Box)),i∈ids∨i∈([]:List Nat):=fun i hi => .inl (hids i (by simpa [kD] using hi))
 refine ⟨⟨x,[],[],ids,[],true⟩::sms,st1,.one hgd (wA hn) ⟨fun _=>rfl,hgood,fun i hi=>by simp [qH] at hi,by simp⟩ (by simp) (fun c M μ st' tmps w R K hG rel hle hbox hnw k => ?_) e,by simpa using hk⟩
 exact vY (s:=⟨x,[],[],ids,[],true⟩) (small:=⟨zX st.tmps ts,ids,[],st.base⟩) (s':=⟨zX st.tmps ts,ids,[],st.base⟩) rfl (by simp) rfl (fun i hi=>hi) (fun i hi=>by simp [qH] at hi) hgood y c M μ st' tmps w R K hG rel hle hbox hnw k
end
section
variable {P:Program} {G:qJ} {Q:Exit→St→Prop} {st:St}
end
end Go.Proofs.YtgcbapchinideaaGreatDoor.Sy
namespace Go.Proofs.YtgcbapchinideaaGreatDoor
open Sy Go
set_option maxRecDepth 100000
set_option maxHeartbeats 4000000
set_option linter.unusedSimpArgs false
set_option linter.unusedVariables false
variable {G:qJ}
theorem qTS (s:List UInt8) (m:Int):Few (wG s m):=by
 unfold wG zD
 split <;> exact .mk (by simp) (by simp) (by simp)
theorem qVJ (s:List UInt8):AX Tryz.prog G 36 [.agg [.p (.int .u64 0)],.p (.str s)] [] (.p (wG s 0).enc) [] [] :=
 AX.ofFn (vP s 0) (by simp [V.fitsL,V.fits])
theorem qWD (ws:List (List UInt8)) (m:Int) (hn:ws.length≤1000000):AX Tryz.prog G 66 [.p (.agg [.int .u64 m]),.p (.sl 1 (ws.map PD.str)),.func (.func 36) [.agg [.p (.int .u64 0)]] []] [] (.agg (qDH (ws.map fun s=>wG s 0) m).cells) [] []:=by
 refine AX.introU tok 900 Tryz.func66 (by kernel_rfl) rfl rfl ?_
 simp only [Tryz.f66,qK,List.map_cons,List.map_nil]
 have hl:=qSY (G:=G) (ws.map fun s=>wG s 0) m (by simp [qTS]) (by simpa using hn)
 generalize hws:(ws.map fun s=>wG s 0)=vs at *
 have hvl:vs.length=ws.length:=by rw [← hws]; simp
 have hvg:∀ (k:Nat) s,ws[k]?=some s→vs[k]?=some (wG s 0):=fun k s h=>by rw [← hws,List.getElem?_map,h]; rfl
 simp only [Val.enc_def] at hl
 refine rgn [] [[],[1,2,3,6]] ?_
 iterate 2 refine op1 tok ?_
 refine qA (rgn [] [[]] ?_)
 refine op1 tok ?_
 refine qA (AW.seq (rgn [] [[],[],[2,3,6,7,10,11,12]] ?_))
 iterate 3 refine op1 tok ?_
 refine qA (AW.block ?_)
 refine AW.beginE 7 50 31 9 (by simp) (by simp) (by conv=>lhs; simp) ?_
 refine AW.loop (α:=Nat) (fun k=>k≤ws.length) (fun k=>⟨zA 26 [(2,.func (.func 36) [.agg [.p (.int .u64 0)]] []),(3,.ptr 903 0),(6,.ptr 906 0),(7,.ms 50),(10,.p (.sl 1 (ws.map PD.str))),(11,.p (.int .i64 ws.length)),(12,.p (.int .i64 k))],[],[(903,.vars 61 [.p (.int .u64 m)]),(906,.vars 31 [.p (.int .i64 0),.p (.int .u64 0),.p (.bool false),.p (.str []),.p (.int .i64 0),.p (.str []),.nilsl,.nilsl,.p (.int .i64 0)]),(50,.row 31 9 ((vs.map Val.enc).take k))],900⟩) (fun k=>ws.length-k) (0) (by omega) ⟨qG (by simp),rfl,by simp,by simp⟩ ?_
 rintro k hk
 refine rgn [] [[]] ?_
 refine op1 tok ?_
 refine qA (AW.seq (cnd ?_ ?_))
 ·intro h13
  try simp at h13
  obtain ⟨s,hs⟩:∃ s,ws[k]?=some s:=⟨ws[k]'(by omega),by simp [show k<ws.length by omega]⟩
  have hv:=hvg k s hs
  have hgp:(vs.map Val.enc)[k]?=some (wG s 0).enc:=by rw [List.getElem?_map,hv]; rfl
  have htk:(vs.map Val.enc).take k++[(wG s 0).enc]=(vs.map Val.enc).take (k+1):=by rw [List.take_add_one,hgp]; rfl
  have hw:=qVJ (G:=G) s
  simp only [Val.enc_def] at htk hw
  refine AW.skip (AW.seq (AW.block (rgn [.str s] [[],[],[2,3,6,7,9,10,11,12]] ?_)))
  iterate 3 refine op1 tok ?_ (hv:=by first | with_reducible exact True.intro | ((simp [hs]); done) | omega | simp | (simp +contextual; omega))
  refine qA (rgz [(wG s 0).enc] [[],[],[]] ?_)
  iterate 3 refine op1 tok ?_
  refine zG ?_
  refine qF.stepK [2,3,6,10,11,12,16,19] (yC rfl hw (by simp)) (by conv=>lhs; simp) rfl ?_
  refine qF.run [[],[],[2,3,6,7,10,11,12]] ?_
  iterate 3 refine op1 tok ?_
  refine qA (rgz [] [[],[2,3,6,7,10,11,12]] ?_)
  iterate 2 refine op1 tok ?_
  refine qA ?_
  exact ⟨k+1,by omega,by omega,qG (by simp [htk]),rfl,by simp [htk],by simp [htk]⟩
 intro h13
 try simp at h13
 obtain rfl:k=ws.length:=by omega
 have hall:(vs.map Val.enc).take ws.length=vs.map Val.enc:=List.take_of_length_le (by simp [hvl])
 simp only [hall]
 refine AW.exit ?_
 simp
 refine rgn [.nilp,(qDH vs m).enc] [[]] ?_
 refine op1 tok ?_ (hv:=by first | with_reducible exact True.intro | (first | exact hl | (simp at hl ⊢; exact hl); done) | omega | simp | (simp +contextual; omega))
 refine zG ?_
 refine qF.freeze 50 (by conv=>lhs; simp) ?_
 refine qF.run [[],[6,25],[6]] ?_
 iterate 3 refine op1 tok ?_ (hv:=by first | with_reducible exact True.intro | (first | exact hl | (simp at hl ⊢; exact hl); done) | omega | simp | (simp +contextual; omega))
 refine qA ?_
 exact AW.ret wD
def qCK (s p:List UInt8):Bool:=decide (p.length≤s.length) && decide (s.take p.length=p)
@[simp] theorem qUZ (s p:List UInt8):AFn Tryz.prog G 103 [.str s,.str p] (.bool (qCK s p)):=by
 refine AFn.intro tok Tryz.func103 (by kernel_rfl) rfl ?_
 simp only [Tryz.f103,St.start]
 refine AW.seqRun tok [] (by intro C; conv=>lhs; simp) trivial ?_
 refine AW.seqRun tok [] (by intro C; conv=>lhs; simp) (by simp +contextual) ?_
 exact AW.ret ⟨.inr rfl,_,_,by (conv=>lhs; simp),trivial,by simp [qCK]⟩
@[simp] theorem qJQ (s p:List UInt8):AFn Tryz.prog G 72 [.str s,.str p] (.bool (qCK s p)):=by
 refine AFn.intro tok Tryz.func72 (by kernel_rfl) rfl ?_
 simp only [Tryz.f72,St.start]
 refine AW.seqRun tok [] (by intro C; conv=>lhs; simp) trivial ?_
 refine AW.seqRun tok [.tup [.str s,.str p],.bool (qCK s p)] (by intro C; conv=>lhs; simp) (by simp) ?_
 exact AW.ret ⟨.inr rfl,_,_,by (conv=>lhs; simp),trivial,by simp⟩
theorem zBB:qPY Tryz.prog 226 Extern.BytealgIndexByte.indexByte:=fun args w=>run_callFunc_extern Tryz.func226 (by kernel_rfl) (by kernel_rfl) (by kernel_rfl) (by kernel_rfl) args w
@[simp] theorem qGA (s:List UInt8) (n:Int):AFn Tryz.prog G 198 [.str s,.int .u8 n] (.int .i64 (Lib.indexByte s n.toNat.toUInt8)):=by
 refine AFn.intro tok Tryz.func198 (by kernel_rfl) rfl ?_
 simp only [Tryz.f198,St.start]
 refine AW.seqRun tok [] (by intro C; conv=>lhs; simp) trivial ?_
 refine AW.seqRunX tok 2 [] [] rfl rfl (by intro C; conv=>lhs; simp) trivial (qJT (s:=s) (n:=n) (p:=True) (q:=True) (r:=True) zBB rfl (by simp) trivial (by simp) trivial (by simp) trivial) (by intro C; conv=>lhs; simp) trivial ?_
 exact AW.ret ⟨.inr rfl,_,_,by (conv=>lhs; simp),trivial,by simp⟩
@[simp] theorem qWS (s:List UInt8) (n:Int):AFn Tryz.prog G 155 [.str s,.int .u8 n] (.int .i64 (Lib.indexByte s n.toNat.toUInt8)):=by
 refine AFn.intro tok Tryz.func155 (by kernel_rfl) rfl ?_
 simp only [Tryz.f155,St.start]
 refine AW.seqRun tok [] (by intro C; conv=>lhs; simp) trivial ?_
 refine AW.seqRun tok [.tup [.str s,.int .u8 n],.int .i64 (Lib.indexByte s n.toNat.toUInt8)] (by intro C; conv=>lhs; simp) (by simp) ?_
 exact AW.ret ⟨.inr rfl,_,_,by (conv=>lhs; simp),trivial,by simp⟩
theorem qTO {s:List UInt8} {k:Nat} (h:k<s.length):s[k]?=some (s.getD k 0):=by simp [List.getD_eq_getElem?_getD,h]
theorem qDQ (s:List UInt8) (c:UInt8):AFn Tryz.prog G 173 [.str s,.int .u8 c.toNat] (.str (s.dropWhile (fun b=>b == c))):=by
 refine AFn.introU tok Tryz.func173 (by kernel_rfl) rfl rfl ?_
 simp only [Tryz.f173,qK,List.map_cons,List.map_nil]
 refine rgn [] [[0,1]] ?_
 refine op1 tok ?_
 refine qA (AW.seq (AW.block ?_))
 refine AW.loop (α:=List UInt8) (fun r=>r.dropWhile (fun b=>b == c)=s.dropWhile (fun b=>b == c)) (fun r=>⟨zA 17 [(0,.p (.str r)),(1,.p (.int .u8 c.toNat))],[],[],0⟩) (fun r=>r.length) (s) rfl ⟨qG (by simp),rfl,by simp,by simp⟩ ?_
 rintro r hr
 have hix:0<r.length→r[0]?=some (r.getD 0 0):=fun h=>qTO h
 refine AW.seq (rgn [.int .u8 (r.getD 0 0).toNat] [[],[],[],[],[],[0,1,8,10],[],[],[0,1,13]] ?_)
 iterate 4 refine op1 tok ?_ (hv:=by first | with_reducible exact True.intro | (first | exact fun h=>⟨h,_,hix (by omega),rfl⟩ | simp; done) | omega | simp | (simp +contextual; omega))
 iterate 4 refine op2 tok ?_ (hv:=by first | with_reducible exact True.intro | (first | exact fun h=>⟨h,_,hix (by omega),rfl⟩ | simp; done) | omega | simp | (simp +contextual; omega))
 refine op1 tok ?_ (hv:=by first | with_reducible exact True.intro | (first | exact fun h=>⟨h,_,hix (by omega),rfl⟩ | simp; done) | omega | simp | (simp +contextual; omega))
 refine qA (cnd ?_ ?_)
 ·intro h13
  try simp at h13
  obtain ⟨b,r,rfl⟩:∃ b r',r=b::r':=by
   cases r with
   | nil=>simp at h13
   | cons b r=>exact ⟨b,r,rfl⟩
  have hb:b=c:=UInt8.toNat_inj.1 (by have:=h13.2; simp at this; omega)
  subst hb
  have hr2:List.dropWhile (fun b'=>b' == b) r=List.dropWhile (fun b'=>b' == b) s:=by rw [← hr]; simp
  refine AW.skip (AW.block (rgz [] [[],[],[0,1]] ?_))
  iterate 3 refine op1 tok ?_
  refine qA ?_
  exact ⟨r,hr2,by simp,qG (by simp),rfl,by simp,by simp⟩
 intro h13
 try simp at h13
 have hr3:s.dropWhile (fun b=>b == c)=r:=by
  rw [← hr]
  cases r with
  | nil=>rfl
  | cons b r =>
   have hb:b≠c:=by rintro rfl; simp at h13
   simp [hb]
 rw [hr3]
 refine AW.exit ?_
 simp
 refine rgn [] [[],[4]] ?_
 iterate 2 refine op1 tok ?_
 exact qA (AW.ret qO)
theorem qKC (s:List UInt8) (c:UInt8):(decide (1≤(s.length:Int)) && decide (List.drop (s.length-1) s=[c]))=decide (s.getLast?=some c):=by
 by_cases h:s=[]
 ·subst h; simp
 obtain ⟨a,b,rfl⟩:∃ a b,s=a++[b]:=⟨s.dropLast,s.getLast h,(List.dropLast_concat_getLast h).symm⟩
 rw [Bool.eq_iff_iff]
 simp
 intro _; omega
theorem qGB (s:List UInt8) (c:UInt8):AFn Tryz.prog G 104 [.str s,.str [c]] (.bool (decide (s.getLast?=some c))):=by
 refine AFn.introU tok Tryz.func104 (by kernel_rfl) rfl rfl ?_
 simp only [Tryz.f104,qK,List.map_cons,List.map_nil]
 refine AW.strFactU (i:=0) rfl (by decide) ?_
 intro hlen
 have hsuf:(decide (1≤(s.length:Int)) && decide (List.drop (s.length-1) s=[c]))=decide (s.getLast?=some c):=qKC s c
 refine rgn [] [[0,1]] ?_
 refine op1 tok ?_
 refine qA (rgn [] [[],[],[],[],[0,1,9],[],[],[],[],[],[1,10,11,13,15],[],[1,10,17],[],[],[20],[4]] ?_)
 iterate 6 refine op1 tok ?_
 iterate 9 refine op2 tok ?_
 iterate 2 refine op1 tok ?_
 refine qA ?_
 exact AW.ret (qO (k:=by simp [hsuf]))
theorem qJP (s:List UInt8) (c:UInt8):AFn Tryz.prog G 73 [.str s,.str [c]] (.bool (decide (s.getLast?=some c))):=by
 refine AFn.introU tok Tryz.func73 (by kernel_rfl) rfl rfl ?_
 simp only [Tryz.f73,qK,List.map_cons,List.map_nil]
 refine rgn [] [[0,1]] ?_
 refine op1 tok ?_
 refine qA (rgn [.nilp,.bool (decide (s.getLast?=some c))] [[],[],[7],[4]] ?_)
 iterate 4 refine op1 tok ?_ (hv:=by first | with_reducible exact True.intro | (exact qGB s c; done) | omega | simp | (simp +contextual; omega))
 exact qA (AW.ret qO)
theorem qJN (s:List UInt8) (c:UInt8) (hc:c.toNat<128):AFn Tryz.prog G 136 [.str s,.str [c]] (.str (s.dropWhile (fun b=>b == c))):=by
 refine AFn.introU tok Tryz.func136 (by kernel_rfl) rfl rfl ?_
 simp only [Tryz.f136,qK,List.map_cons,List.map_nil]
 refine rgn [] [[0,1]] ?_
 refine op1 tok ?_
 refine qA (AW.seq (rgn [] [[],[],[],[],[],[0,1,12]] ?_))
 iterate 3 refine op1 tok ?_
 iterate 2 refine op2 tok ?_
 refine op1 tok ?_
 refine qA (cnd ?_ ?_)
 ·intro h12
  try simp at h12
  subst h12
  refine rgn [] [[],[4]] ?_
  iterate 2 refine op1 tok ?_
  exact qA (AW.ret qO)
 intro h12
 try simp at h12
 refine AW.skip (AW.seq (rgn [.int .u8 c.toNat] [[],[],[],[],[],[0,1,17,19],[],[0,1,21]] ?_))
 iterate 4 refine op1 tok ?_ (hv:=by first | with_reducible exact True.intro | (simp; done) | omega | simp | (simp +contextual; omega))
 iterate 3 refine op2 tok ?_ (hv:=by first | with_reducible exact True.intro | (simp; done) | omega | simp | (simp +contextual; omega))
 refine op1 tok ?_ (hv:=by first | with_reducible exact True.intro | (simp; done) | omega | simp | (simp +contextual; omega))
 refine qA (cnd ?_ ?_)
 ·intro h21
  try simp at h21
  refine rgn [.int .u8 c.toNat,.nilp,.str (s.dropWhile (fun b=>b == c))] [[],[],[],[25],[4]] ?_
  iterate 5 refine op1 tok ?_ (hv:=by first | with_reducible exact True.intro | (first | exact qDQ s c | simp; done) | omega | simp | (simp +contextual; omega))
  exact qA (AW.ret qO)
 intro h21
 try simp at h21
 omega
theorem qWE (s:List UInt8):(qT s).length≤s.length:=(List.dropWhile_sublist _).length_le
theorem qHY {d:Dc} (h:yT d=true):1≤d.digits.length∧d.digits.length≤60∧0≤d.scale∧d.scale≤60:=by
 unfold yT at h; simp only [Bool.and_eq_true,decide_eq_true_eq] at h; omega
theorem qPI (neg:Bool) (digits:List UInt8) (scale:Nat) (hd:digits.length≤10000000000) (hs:scale≤10000000000):AFn Tryz.prog G 95 [.bool neg,.str digits,.int .i64 scale] (.tup [(jF neg digits scale).1.enc,.int .i64 (jF neg digits scale).2]):=by
 refine AFn.introU tok Tryz.func95 (by kernel_rfl) rfl rfl ?_
 simp only [Tryz.f95,qK,List.map_cons,List.map_nil]
 have hstr:(qT digits).length≤digits.length:=qWE digits
 refine rgn [] [[],[0,1,2,6]] ?_
 iterate 2 refine op1 tok ?_
 refine qA (rgn [.nilp,.str (qT digits)] [[],[],[0,1,2,6]] ?_)
 iterate 3 refine op1 tok ?_ (hv:=by first | with_reducible exact True.intro | (exact qJN digits 48 (by decide); done) | omega | simp | (simp +contextual; omega))
 refine qA (AW.seq (AW.block ?_))
 refine AW.loop (α:=List UInt8 × Nat) (fun a=>kI (qT digits) scale=kI a.1 a.2∧a.2≤scale∧a.1.length≤digits.length) (fun a=>⟨zA 40 [(0,.p (.bool neg)),(1,.p (.str a.1)),(2,.p (.int .i64 a.2)),(6,.ptr 6 0)],[],[(6,.vars 26 [.p (.bool false),.p (.str []),.p (.int .i64 0)])],0⟩) (fun a=>a.2) ((qT digits,scale)) ⟨rfl,Nat.le_refl _,hstr⟩ ⟨qG (by simp),rfl,by simp,by simp⟩ ?_
 rintro ⟨d,k⟩ ⟨ht,hk,hdl⟩
 simp only at ht hk hdl
 have hsf:=qJP (G:=G) d 48
 refine AW.seq (rgn [.nilp,.bool (decide (d.getLast?=some 48))] [[],[],[],[],[],[0,1,2,6,15]] ?_)
 iterate 3 refine op1 tok ?_ (hv:=by first | with_reducible exact True.intro | (first | exact fun h=>⟨h,hsf⟩ | simp; done) | omega | simp | (simp +contextual; omega))
 iterate 2 refine op2 tok ?_ (hv:=by first | with_reducible exact True.intro | (first | exact fun h=>⟨h,hsf⟩ | simp; done) | omega | simp | (simp +contextual; omega))
 refine op1 tok ?_ (hv:=by first | with_reducible exact True.intro | (first | exact fun h=>⟨h,hsf⟩ | simp; done) | omega | simp | (simp +contextual; omega))
 refine qA (cnd ?_ ?_)
 ·intro h15
  try simp at h15
  obtain ⟨k,rfl⟩:∃ k',k=k'+1:=⟨k-1,by omega⟩
  have hl:d.getLast?=some 48:=by simpa using h15.2
  have hpos:0<d.length:=by cases d with
   | nil=>simp at hl
   | cons=>simp
  have ht':kI (qT digits) scale=kI d.dropLast k:=by rw [ht]; simp only [kI]; rw [if_pos hl]
  refine AW.skip (AW.block (rgz [] [[],[],[],[],[0,2,6,20],[],[],[],[0,1,2,6]] ?_))
  iterate 9 refine op1 tok ?_ (hv:=by first | with_reducible exact True.intro | (omega; done) | omega | simp | (simp +contextual; omega))
  refine qA ?_
  exact ⟨(d.dropLast,k),⟨ht',by simp only []; omega,by simp; omega⟩,by simp,qG (by simp [qBY]),rfl,by simp [qBY],by simp [qBY]⟩
 intro h15
 try simp at h15
 have htl:kI (qT digits) scale=(d,k):=by
  rw [ht]
  cases k with
  | zero=>rfl
  | succ k =>
   simp only [kI]
   rw [if_neg]
   intro hl
   have:=h15 (by omega)
   simp [hl] at this
 have hN:jF neg digits scale=if d=[] then (⟨false,[48],0⟩,0) else if 60<d.length∨60<k then (⟨false,[],0⟩,3) else (⟨neg,d,k⟩,0):=by unfold jF; simp only [htl]
 rw [hN]
 refine AW.exit ?_
 simp
 refine AW.seq (AW.block (rgn [] [[],[],[0,1,2,6,23]] ?_))
 iterate 3 refine op1 tok ?_
 refine qA (cnd ?_ ?_)
 ·intro h23
  try simp at h23
  subst h23
  refine rgn [] [[],[],[6,7]] ?_
  iterate 3 refine op1 tok ?_
  exact qA (AW.ret qO)
 intro h23
 try simp at h23
 rw [if_neg h23]
 refine rgn [] [[],[],[],[],[],[0,1,2,6,31,33],[],[0,1,2,6,27]] ?_
 iterate 4 refine op1 tok ?_
 iterate 2 refine op2 tok ?_
 iterate 2 refine op1 tok ?_
 refine qA (cnd ?_ ?_)
 ·intro h27
  try simp at h27
  rw [if_pos (by omega)]
  refine rgn [] [[],[],[6,7]] ?_
  iterate 3 refine op1 tok ?_
  exact qA (AW.ret qO)
 intro h27
 try simp at h27
 rw [if_neg (by omega)]
 refine AW.skip (rgn [] [[],[],[],[6,39],[],[6,7]] ?_)
 iterate 6 refine op1 tok ?_
 exact qA (AW.ret qO)
theorem zAU (n:Nat):Lib.repeatL [48] n=xJ n:=by
 unfold xJ
 induction n with
 | zero=>rfl
 | succ n ih=>simp only [Lib.repeatL,List.replicate_succ,ih]; rfl
theorem qMR (d:Dc) (hd:yT d=true):AFn Tryz.prog G 114 [d.enc] (.str (vE d)):=by
 refine AFn.introU tok Tryz.func114 (by kernel_rfl) rfl rfl ?_
 simp only [Tryz.f114,qK,List.map_cons,List.map_nil]
 have hb:=qHY hd
 have hrp:=qIC (G:=G) [48] (d.scale.toNat+1-d.digits.length) (by simp; omega)
 rw [zAU] at hrp
 have hmx:(if (d.digits.length:Int)<d.scale+1 then d.scale+1-d.digits.length else 0)=((d.scale.toNat+1-d.digits.length:Nat):Int):=by split <;> omega
 have hzl:(xJ (d.scale.toNat+1-d.digits.length)).length=d.scale.toNat+1-d.digits.length:=by simp [xJ]
 have hpl:(vI d).length=d.scale.toNat+1-d.digits.length+d.digits.length:=by simp [vI,xJ]
 have hP:vE d=(if d.neg=true then [45] else [])++(if d.scale=0 then vI d else (vI d).take ((vI d).length-d.scale.toNat)++46::(vI d).drop ((vI d).length-d.scale.toNat)):=rfl
 have hpad:xJ (d.scale.toNat+1-d.digits.length)++d.digits=vI d:=rfl
 rw [hP]
 refine rgn [] [[],[1]] ?_
 iterate 2 refine op1 tok ?_
 refine qA ?_
 refine AW.seqRunDrawK tok mixed [1,3] 12 [[1],[6],[7],[1],[9],[10],[8,11],[12],[13],[1],[15],[14,16]] [.nilp,.str (xJ (d.scale.toNat+1-d.digits.length))] [] (by kernel_rfl) (by intro C; conv=>lhs; simp) (by rw [hmx]; refine ⟨by omega,by omega,hrp,by omega⟩) (by simp [Sm.sum,Sm.foot,Sm.tch,Sm.refs]; kernel_rfl) (by intro C; conv=>lhs; simp) (by first | with_reducible exact True.intro | omega | simp | (simp +contextual; omega)) ?_
 refine rgn [] [[]] ?_
 refine op1 tok ?_
 refine qA ?_
 refine AW.join (α:=Unit) (fun _=>True) (fun a=>⟨zA 41 [(1,.ptr 1 0),(3,.p (.str (vI d))),(4,.p (.str (if d.neg=true then [45] else [])))],[],[(1,.vars 26 [.p (.bool d.neg),.p (.str d.digits),.p (.int .i64 d.scale)])],0⟩) ?_ ?_
 ·
  refine rgn [] [[],[1,3,4,19]] ?_
  iterate 2 refine op1 tok ?_
  refine qA (cnd ?_ ?_)
  ·intro h19
   try simp at h19
   refine rgz [] [[]] ?_
   refine op1 tok ?_
   refine qA ?_
   exact ⟨(),trivial,qG (by simp [hpad,h19]),rfl,by simp [hpad,h19],by simp [hpad,h19]⟩
  intro h19
  try simp at h19
  refine AW.skip ?_
  exact ⟨(),trivial,qG (by simp [hpad,h19]),rfl,by simp [hpad,h19],by simp [hpad,h19]⟩
 ·
  rintro a hI
  have hsg:(if d.neg=true then [45] else []:List UInt8).length≤1:=by split <;> simp
  generalize (if d.neg=true then [45] else []:List UInt8)=sg at *
  have hk:((vI d).length-d.scale).toNat=(vI d).length-d.scale.toNat:=by omega
  generalize vI d=pd at *
  refine AW.seq (rgn [] [[],[],[1,3,4,22]] ?_)
  iterate 3 refine op1 tok ?_
  refine qA (cnd ?_ ?_)
  ·intro h22
   try simp at h22
   refine rgn [] [[],[],[25],[2]] ?_
   iterate 4 refine op1 tok ?_ (hv:=by first | with_reducible exact True.intro | (omega; done) | omega | simp | (simp +contextual; omega))
   refine qA ?_
   exact AW.ret (qO (k:=by simp [h22]))
  intro h22
  try simp at h22
  refine AW.skip (rgn [] [[],[],[],[],[3,4,30],[3,4,5]] ?_)
  iterate 6 refine op1 tok ?_
  refine qA ?_
  refine AW.seqRunDrawK tok mixed [2] 10 [[4],[3],[5],[32,33],[31,34],[35],[3],[5],[37,38],[36,39]] [] [] (by kernel_rfl) (by intro C; conv=>lhs; simp) (by omega) (by simp [Sm.sum,Sm.foot,Sm.tch,Sm.refs]; kernel_rfl) (by intro C; conv=>lhs; simp) (by first | with_reducible exact True.intro | omega | simp | (simp +contextual; omega)) ?_
  exact AW.ret (qO (k:=by simp [h22,hk]))
end Go.Proofs.YtgcbapchinideaaGreatDoor
