import Derived.Test.YtgcbapchinideaaGreatDoorK1
import Derived.Test.YtgcbapchinideaaGreatDoorM3
import Derived.Maps.RangeRun
import Derived.Lib.MapLaws
import Derived.Lib.ValidLaws
import Derived.RangeFuncBox
import Derived.RangeFuncLeaves
import Derived.Shelf.Abstract
import Derived.WalkKit
import Derived.OwnWalkIn
import Derived.TacticsInMore
import Derived.LoopNIn
import Derived.LoopIn
import Derived.Maps.AppendAt
import Derived.Shelf.Sort.Plain
import Derived.Test.YtgcbapchinideaaGreatDoorProg
import Derived.Shelf.Slices.In.SortNone
import Derived.Sort.OwnSorted
import Derived.Shelf.Unicode.ValidAny
import Derived.Lib.AppendZerosOnto
import Derived.Scope
import Derived.Control
namespace Go.Proofs.YtgcbapchinideaaGreatDoor
open Sy Go
set_option maxRecDepth 100000
set_option linter.unusedSimpArgs false
set_option linter.unusedVariables false
structure WholeP (d:Dc) (W R:List UInt8):Prop where
 form:zT d=(if d.neg=true then [45] else [])++(W++if R=[] then [] else 46::R)
 wd:W.all qG=true
 rd:R.all qG=true
 wne:W≠[]
 lead:W.length=1∨zA W 0≠48
 norm:zQ d.neg (W++R) R.length=(d,0)
 rl:R.length=d.scale.toNat
 wl:W.length≤60∧(R≠[]→W.length≤59)
theorem qFJ {d:Dc} (h:qQ d=true):∃ W R,WholeP d W R:=by
 obtain ⟨W,R,hp,hW,hR,h0,h1,hn⟩:=qGE h
 obtain ⟨⟨_,h2,_,h4⟩,_,h6⟩:=zJ h
 have hb:=yA h
 have hpa:(zN d).all qG=true:=by unfold zN; rw [List.all_append,qJP,h4]; rfl
 have hpl:(zN d).length=if d.scale.toNat+1≤d.digits.length then d.digits.length else d.scale.toNat+1:=by
  unfold zN; simp [qV]; split <;> omega
 have e:W++(if R=[] then [] else 46::R)=(if d.scale=0 then zN d else (zN d).take ((zN d).length-d.scale.toNat)++46::(zN d).drop ((zN d).length-d.scale.toNat)):=by
  unfold zT at hp
  exact (List.append_cancel_left hp).symm
 have hFh:∀ b,(if R=[] then [] else (46:UInt8)::R).head?=some b→qG b=false:=by
  split
  ·simp
  intro b hb; simp at hb; subst hb; decide
 obtain ⟨t1,t2⟩:=qLZ hW hFh
 rw [e] at t1 t2
 by_cases hs:d.scale=0
 ·rw [if_pos hs] at t1 t2
  obtain ⟨a1,a2⟩:=qXB hpa
  rw [a2] at t2
  rw [a1] at t1
  have hR0:R=[]:=by
   by_cases hR:R=[]
   ·exact hR
   rw [if_neg hR] at t2; cases t2
  refine ⟨W,R,hp,hW,hR,h0,h1,hn,by rw [hR0,hs]; rfl, ?_,fun h=>absurd hR0 h⟩
  rw [← t1,hpl]; split <;> omega
 rw [if_neg hs] at t1 t2
 have hd46:∀ b,((46:UInt8)::(zN d).drop ((zN d).length-d.scale.toNat)).head?=some b→qG b=false:=by
  intro b hb; simp at hb; subst hb; decide
 obtain ⟨b1,b2⟩:=qLZ (W:=(zN d).take ((zN d).length-d.scale.toNat)) (qAE hpa _) hd46
 rw [b1] at t1
 rw [b2] at t2
 have hRn:R≠[]:=by
  intro hR; rw [if_pos hR] at t2; cases t2
 rw [if_neg hRn] at t2
 have hR2:R=(zN d).drop ((zN d).length-d.scale.toNat):=(List.cons.inj t2).2.symm
 have hlen:W.length≤59:=by
  rw [← t1,List.length_take,hpl]; split <;> omega
 refine ⟨W,R,hp,hW,hR,h0,h1,hn, ?_,by omega,fun _=>hlen⟩
 rw [hR2,List.length_drop,hpl]; split <;> omega
theorem qSO (neg:Bool) {v:Nat} (h:v<10 ^ 60):(zP neg v 0).2=0:=by
 have hl:(qP (Lib.decDigits v)).length≤60:=(zAT v 60).2 h
 unfold zP zQ
 generalize qP (Lib.decDigits v)=t at *
 by_cases h0:t=[]
 ·subst h0; rfl
 simp [zK,h0,show ¬ 60<t.length by omega]
def wK (d:Dc):Nat:=qR d.digits / 10 ^ d.scale.toNat
def zC (d:Dc) (far:Bool):Dc × Int:=zP d.neg (wK d+if far=true then 1 else 0) 0
theorem qCT {d:Dc} {W R:List UInt8} (h:WholeP d W R):qR d.digits=qR W * 10 ^ R.length+qR R∧qR R<10 ^ R.length∧wK d=qR W:=by
 have hn:=h.norm
 rw [jR d.neg (by rw [List.all_append,h.wd,h.rd]; rfl),yF] at hn
 obtain ⟨n1,n2,n3,n4,n5⟩:=qMU hn
 rw [h.rl] at n3 ⊢
 rw [Nat.sub_self,Nat.pow_zero,Nat.mul_one] at n3
 have hr:=wH h.rd
 rw [h.rl] at hr
 refine ⟨n3,hr, ?_⟩
 unfold wK
 rw [n3,Nat.mul_comm,Nat.mul_add_div (Nat.pow_pos (by decide)),Nat.div_eq_of_lt hr,Nat.add_zero]
theorem jM {d : Dc} (h : qQ d = true) {far : Bool} (hf : far = true → 0 < d.scale) :
  ∃ x,zC d far=(x,0)∧qQ x=true∧x.scale=0∧∀ M:Int,0≤M→zV x M=(if d.neg=true then -1 else 1) * (((wK d+if far=true then 1 else 0:Nat):Int) * 10 ^ M.toNat):=by
 obtain ⟨W,R,hp⟩:=qFJ h
 obtain ⟨v1,v2,v3⟩:=qCT hp
 have hlt:(wK d+if far=true then 1 else 0)<10 ^ 60:=by
  have h1:=wH hp.wd
  rw [v3]
  by_cases hfar:far=true
  ·rw [if_pos hfar]
   have hs:=hf hfar
   have hR:R≠[]:=by intro e; have:=hp.rl; rw [e] at this; simp at this; omega
   have h2:qR W<10 ^ 59:=Nat.lt_of_lt_of_le h1 (Nat.pow_le_pow_right (by decide) (hp.wl.2 hR))
   have:(10:Nat) ^ 59 * 2≤10 ^ 60:=by decide
   omega
  rw [if_neg hfar]
  exact Nat.lt_of_lt_of_le h1 (Nat.pow_le_pow_right (by decide) hp.wl.1)
 have hc:=qSO d.neg hlt
 have hx:zC d far=((zC d far).1,0):=Prod.ext rfl hc
 generalize hN:(wK d+if far=true then 1 else 0)=N at *
 have hx2:zP d.neg N 0=((zC d far).1,0):=by rw [← hx]; unfold zC; rw [hN]
 obtain ⟨n1,n2,n3,n4,n5⟩:=qMU hx2
 have hb:=yA n1
 have hs0:(zC d far).1.scale=0:=by omega
 refine ⟨_,hx,n1,hs0,fun M hM => ?_⟩
 rw [show 0-(zC d far).1.scale.toNat=0 by omega,Nat.pow_zero,Nat.mul_one] at n3
 unfold zV
 rw [n3,hs0,Int.sub_zero]
 by_cases hz:N=0
 ·rw [hz] at n5 ⊢
  rw [n5 rfl]
  simp
 rw [n4 hz]
 rw [Int.natCast_mul,Int.natCast_pow]
 split
 ·rw [Int.neg_one_mul]; rfl
 rw [Int.one_mul]; rfl
def qIF (neg:Bool):Dc:=⟨neg,[49],0⟩
theorem qLY (neg:Bool):qQ (qIF neg)=true:=by cases neg <;> decide +kernel
theorem qRQ {d:Dc} (h:qQ d=true):yK (zC d false).1 (qIF d.neg)=zC d true:=by
 obtain ⟨x,h1,h2,h3,h4⟩:=jM h (far:=false) (fun h=>by cases h)
 rw [h1,qQI h2 (qLY _)]
 have hm:qX x (qIF d.neg)=0:=by unfold qX; rw [h3]; rfl
 rw [hm,h4 0 (by omega)]
 have hu:zV (qIF d.neg) 0=if d.neg=true then -1 else 1:=by cases d.neg <;> rfl
 rw [hu]
 unfold zC qMS
 simp only [Int.toNat_zero,Int.pow_zero,Int.mul_one,if_false,Bool.false_eq_true,Nat.add_zero,if_true]
 cases d.neg with
 | true =>
  simp only [if_true]
  rw [show decide ((-1:Int) * (wK d:Int) + -1<0)=true by simp; omega,show ((-1:Int) * (wK d:Int) + -1).natAbs=wK d+1 by omega]
 | false =>
  simp only [if_false,Bool.false_eq_true]
  rw [show decide ((1:Int) * (wK d:Int)+1<0)=false by simp; omega,show ((1:Int) * (wK d:Int)+1).natAbs=wK d+1 by omega]
theorem qLS {d:Dc} {W R:List UInt8} (h:WholeP d W R):xU ((if d.neg=true then [45] else [])++W)=zC d false:=by
 have:=qED d.neg W [] h.wd rfl h.wne h.lead
 simp only [if_true,List.append_nil,List.length_nil] at this
 rw [this]
 rw [jR _ h.wd]
 unfold zC
 rw [(qCT h).2.2]; simp
theorem qOM {d:Dc} {W:List UInt8} (h:WholeP d W []):zC d false=(d,0):=by
 have hn:=h.norm
 rw [List.append_nil,List.length_nil,jR _ h.wd] at hn
 unfold zC
 rw [(qCT h).2.2]; simpa using hn
theorem qLT {d:Dc} {W R:List UInt8} (h:WholeP d W R):Lib.indexByte (zT d) 46=if R=[] then -1 else (((if d.neg=true then [45] else [])++W:List UInt8).length:Int):=by
 have hno:(46:UInt8) ∉ ((if d.neg=true then [45] else [])++W:List UInt8):=by
  intro hm
  rcases List.mem_append.1 hm with hm | hm
  ·split at hm
   ·simp at hm
   simp at hm
  have:=List.all_eq_true.1 h.wd _ hm
  revert this; decide
 rw [h.form]
 by_cases hR:R=[]
 ·rw [if_pos hR,if_pos hR,List.append_nil]; exact qJG hno
 rw [if_neg hR,if_neg hR,← List.append_assoc]; exact qDH hno
theorem qFV {z:Int} (h:z≤0):sgn z≤0:=by
 unfold sgn; split
 ·omega
 rw [if_pos (by omega)]; omega
theorem qQW {d : Dc} (h : qQ d = true) : (wK d : Int) * 10 ^ 60 ≤ ((qR d.digits * 10 ^ ((60 : Int) - d.scale).toNat : Nat) : Int) ∧
  ((qR d.digits * 10 ^ ((60:Int)-d.scale).toNat:Nat):Int)≤((wK d+1:Nat):Int) * 10 ^ 60∧(d.scale=0→((qR d.digits * 10 ^ ((60:Int)-d.scale).toNat:Nat):Int)=(wK d:Int) * 10 ^ 60):=by
 have hb:=yA h
 have hp:(10:Nat) ^ 60=10 ^ d.scale.toNat * 10 ^ ((60:Int)-d.scale).toNat:=by rw [← Nat.pow_add]; congr 1; omega
 have hk:0<10 ^ d.scale.toNat:=Nat.pow_pos (by decide)
 have e1:=Nat.div_mul_le_self (qR d.digits) (10 ^ d.scale.toNat)
 have e2:qR d.digits≤(wK d+1) * 10 ^ d.scale.toNat:=by
  have:=Nat.lt_succ_iff.1 (Nat.lt_succ_of_lt (Nat.lt_mul_of_div_lt (Nat.lt_succ_self (qR d.digits / 10 ^ d.scale.toNat)) hk))
  unfold wK; exact this
 have c60:((10:Int) ^ 60)=((10 ^ 60:Nat):Int):=by rw [Int.natCast_pow]; rfl
 refine ⟨?_, ?_,fun hs => ?_⟩
 ·rw [c60,hp,← Int.natCast_mul]
  refine Int.ofNat_le.2 ?_
  rw [← Nat.mul_assoc]
  exact Nat.mul_le_mul_right _ e1
 ·rw [c60,hp,← Int.natCast_mul]
  refine Int.ofNat_le.2 ?_
  rw [← Nat.mul_assoc]
  exact Nat.mul_le_mul_right _ e2
 unfold wK
 rw [hs,c60]; simp
theorem qVX {d x:Dc} (h:qQ d=true) (hx:zC d (d.neg && decide (0<d.scale))=(x,0)):qQ x=true∧x.scale=0∧qCP x d≤0:=by
 obtain ⟨y,h1,h2,h3,h4⟩:=jM h (far:=d.neg && decide (0<d.scale)) (fun h=>by simp at h; exact h.2)
 obtain rfl:x=y:=congrArg Prod.fst (hx.symm.trans h1)
 refine ⟨h2,h3, ?_⟩
 rw [qAP h2 h,qYI h2,qYI h,h4 60 (by omega)]
 obtain ⟨l1,l2,l3⟩:=qQW h
 have hb:=yA h
 suffices hh:(if d.neg=true then -1 else 1) * (((wK d+if (d.neg && decide (0<d.scale))=true then 1 else 0:Nat):Int) * 10 ^ (60:Int).toNat)≤zV d 60 by
  exact qFV (Int.sub_nonpos_of_le hh)
 show _ * (_ * 10 ^ 60)≤_
 unfold zV
 generalize qR d.digits * 10 ^ ((60:Int)-d.scale).toNat=V at *
 cases d.neg with
 | false=>simp only [Bool.false_and,Bool.false_eq_true,if_false,Nat.add_zero,Int.one_mul]; exact l1
 | true =>
  by_cases hs:0<d.scale
  ·simp only [Bool.true_and,hs,decide_true,if_true]; omega
  simp only [Bool.true_and,hs,decide_false,if_true,Bool.false_eq_true,if_false,Nat.add_zero]
  have:=l3 (by omega); omega
theorem qYZ {d x:Dc} (h:qQ d=true) (hx:zC d (!d.neg && decide (0<d.scale))=(x,0)):qQ x=true∧x.scale=0∧qCP d x≤0:=by
 obtain ⟨y,h1,h2,h3,h4⟩:=jM h (far := !d.neg && decide (0<d.scale)) (fun h=>by simp at h; exact h.2)
 obtain rfl:x=y:=congrArg Prod.fst (hx.symm.trans h1)
 refine ⟨h2,h3, ?_⟩
 rw [qAP h h2,qYI h2,qYI h,h4 60 (by omega)]
 obtain ⟨l1,l2,l3⟩:=qQW h
 have hb:=yA h
 suffices hh:zV d 60≤(if d.neg=true then -1 else 1) * (((wK d+if (!d.neg && decide (0<d.scale))=true then 1 else 0:Nat):Int) * 10 ^ (60:Int).toNat) by
  exact qFV (Int.sub_nonpos_of_le hh)
 show _≤_ * (_ * 10 ^ 60)
 unfold zV
 generalize qR d.digits * 10 ^ ((60:Int)-d.scale).toNat=V at *
 cases d.neg with
 | true=>simp only [Bool.not_true,Bool.false_and,Bool.false_eq_true,if_false,if_true,Nat.add_zero]; omega
 | false =>
  by_cases hs:0<d.scale
  ·simp only [Bool.not_false,Bool.true_and,hs,decide_true,if_true,Bool.false_eq_true,if_false,Int.one_mul]; exact l2
  simp only [Bool.not_false,Bool.true_and,hs,decide_false,if_true,Bool.false_eq_true,if_false,Nat.add_zero]
  have:=l3 (by omega); omega
theorem qTT {a:Dc} (ha:qQ a=true):yK (vD 0) a=(a,0):=by
 have e0:vD 0=⟨false,[48],0⟩:=by unfold vD; rw [show (0:Int).natAbs=0 from rfl,jL]; rfl
 rw [e0]
 have hm0:qQ ⟨false,[48],0⟩=true:=by decide +kernel
 obtain ⟨m1,m2,m3⟩:=zAU ⟨false,[48],0⟩ a
 rw [qQI hm0 ha]
 have hz:∀ M,zV ⟨false,[48],0⟩ M=0:=fun M=>by unfold zV; simp [qR]
 rw [hz,Int.zero_add]
 exact qSN ha m2
end Go.Proofs.YtgcbapchinideaaGreatDoor
namespace Go.Proofs.YtgcbapchinideaaGreatDoor.Sy
open Go
set_option linter.unusedSimpArgs false
section
variable {P:Program} {T:Tab} {G:qM} {Q:Exit→St→Prop} {st st':St}
def vR (ks:List (List UInt8)) (vs:List V) (s:List UInt8) (v:V):List V:=if s∈ks then vs.set (ks.idxOf s) v else vs++[v]
theorem qUA (hT : TOK P T) {o : Oper} {t el : TypeId} {x y : Operand} (ho : o.op = .slice t x none (some y) none) (ht : zU T t = some (.sl el)) {p q : Prop} {id : Nat} {kd : IntKind} {z : Int} (n : Nat)
  (h1:st.arg G x=(p,.ms id)) (hp:p) (h2:st.arg G y=(q,.p (.int kd z))) (hq:q) {e sz:Nat} {es:List PD} {ti:TI} (hti:T el=some ti) (hb:zR id st.H=some (.row e sz es)) (hn:n≤es.length) (hz:z=(n:Int)) :
  zD P G o st (.ms id) { st.kill id with H:=(id,.row e sz (es.take n))::(st.kill id).H }:=by
 subst hz
 intro c M μ tmps w hg r
 have hd:=hT.sl ht
 obtain ⟨i,de,hi',_,_,hsz,_⟩:=hT.get hti
 have hso:(sizeOf el).run P w = .ok ti.size w:=by simp [sizeOf,typeInfo,hi',hsz]
 have e1:=qB hg r h1 hp
 have e2:=(qB hg r h2 hq).p_inv
 generalize hu1:Act.eval ⟨tmps,[]⟩ x=u1 at e1
 generalize hu2:Act.eval ⟨tmps,[]⟩ y=u2 at e2
 cases e1 with
 | ms hval hone =>
 cases e2 with
 | int _ _ =>
 have hm:=zG hb
 have hk:qJ id st.H=true:=qE.2 ⟨_,hm⟩
 have rk:=r.kill id
 have hbx:=r.box id _ hm
 cases hbx with
 | rowN h0 hv =>
  rw [hv] at hval
  subst hval
  obtain rfl:n=0:=by simpa using hn
  have hbd:=yV (P:=P) (isSlice:=true) (len:=0) (cap:=0) (lo:=none) (hi:=some (.int kd 0)) (l:=0) (h:=0) (.inl ⟨rfl,rfl⟩) (.inr ⟨kd,rfl⟩) (by omega) (by omega) (by omega) w
  have er:(execOp (Act.eval ⟨tmps,[]⟩) o).run P w = .ok (.value (.slice none 0 0)) w:=by
   simp at hbd
   simp [execOp,ho,hu1,hu2,Instr.sliceAt,Instr.slice,run_underlying hd,hbd,hso]
  rw [er]
  exact ⟨M,upd μ id ⟨none,.slice none 0 0⟩,rk.adopt (l:=⟨none,.slice none 0 0⟩) (jV st id) (fun b hb=>by cases hb) (.rowN (by rw [qT]) (by rw [qT])),.ms (by rw [qT]) rfl⟩
 | @row _ _ _ b cap arr h0 hv hh has hlc hcm hone' hz hcc =>
  rw [hv] at hval
  subst hval
  have hbd:=yV (P:=P) (isSlice:=true) (len:=es.length) (cap:=cap) (lo:=none) (hi:=some (.int kd n)) (l:=0) (h:=n) (.inl ⟨rfl,rfl⟩) (.inr ⟨kd,rfl⟩) (by omega) (by omega) (by omega) w
  have er:(execOp (Act.eval ⟨tmps,[]⟩) o).run P w = .ok (.value (.slice (some ⟨b,0,none⟩) n cap)) w:=by
   simp at hbd
   have ha:(if cap=0 then (some (⟨b,0,none⟩:Addr)) else (some (⟨b,0,none⟩:Addr)).map (·.add (0 * ti.size)))=some ⟨b,0,none⟩:=by
    split
    ·rfl
    simp [Addr.add]
   simp [execOp,ho,hu1,hu2,Instr.sliceAt,Instr.slice,run_underlying hd,hbd,hso]
   try simpa using ha
  rw [er]
  have hown:=r.own id b hk h0
  refine ⟨M,upd μ id ⟨some b,.slice (some ⟨b,0,none⟩) n cap⟩,rk.adopt (l:=⟨some b,.slice (some ⟨b,0,none⟩) n cap⟩) (jV st id) (fun b' hb' => ?_) (.row (cap:=cap) (by rw [qT]) (by rw [qT]; simp [Nat.min_eq_left hn]) hh has (by simp; omega) hcm hone' (fun i e' he=>hz i e' ?_) fun i e' j d u he hd hu=>hcc i e' j d u ?_ hd hu),.ms (by rw [qT]) rfl⟩
  ·cases hb'; exact ⟨hown.1,hown.2.1,hown.2.2,qGP r hk h0⟩
  ·rw [List.getElem?_take] at he; split at he
   ·exact he
   cases he
  rw [List.getElem?_take] at he; split at he
  ·exact he
  cases he
theorem qHM {o : Oper} {st : St} {x a b : Operand} {tys : Array TypeId} {f : FuncId} (he : qRN P f Extern.BytealgCount.count)
  (ho:o.op = .call { callee := .value x,args := #[a,b],argTypes:=tys }) {p q r:Prop} {s:List UInt8} {n:Int} (hf:st.arg G x=(p,.p (.fn f))) (hp:p)
  (ha:st.arg G a=(q,.p (.str s))) (hq:q) (hb:st.arg G b=(r,.p (.int .u8 n))) (hr:r):zD P G o st (.p (.int .i64 (s.count n.toNat.toUInt8:Nat))) st:=by
 intro c M μ tmps w hg rel
 have h1:=(qB hg rel hf hp).p_inv
 have h2:=(qB hg rel ha hq).p_inv
 have h3:=(qB hg rel hb hr).p_inv
 generalize hu1:Act.eval ⟨tmps,[]⟩ x=u1 at h1
 generalize hu2:Act.eval ⟨tmps,[]⟩ a=u2 at h2
 generalize hu3:Act.eval ⟨tmps,[]⟩ b=u3 at h3
 cases h1
 cases h3
 cases h2 with
 | @str bb _ hs hm =>
 have e:(execOp (Act.eval ⟨tmps,[]⟩) o).run P w = .ok (.value (.int .i64 (s.count n.toNat.toUInt8:Nat))) w:=by
  have e1:=he #[.string bb,.int .u8 n] w
  rw [Lib.run_countString] at e1
  subst hs
  simp only [execOp,ho,resolve,Deferred.ofValue,hu1,invoke]
  simpa [hu2,hu3,Lib.countByte] using e1
 rw [e]
 have hc:s.count n.toNat.toUInt8≤s.length:=List.count_le_length
 simp [maxLen] at hm
 exact ⟨M,μ,rel,.p (Rd.intOf (by simp [yM]) (by simp only [yN]; omega))⟩
end
end Go.Proofs.YtgcbapchinideaaGreatDoor.Sy
namespace Go.Proofs.YtgcbapchinideaaGreatDoor
open Sy Go
set_option maxRecDepth 100000
set_option maxHeartbeats 4000000
set_option linter.unusedSimpArgs false
set_option linter.unusedVariables false
variable {G:qM}
theorem qTI (ks:List (List UInt8)) (hn:ks.length≤1000000):AX Tryz.prog G 140 [.p (.sl 1 (ks.map PD.str))] [] (.ms 905) [] [(905,.row 9 1 (ks.map PD.str))]:=by
 refine AX.introU tok 900 Tryz.func140 (by kernel_rfl) rfl rfl ?_
 simp only [Tryz.f140,qO,List.map_cons,List.map_nil]
 refine rgn [] [[0]] ?_
 refine op1 tok ?_
 refine qA (AW.seq (rgn [] [[]] ?_))
 refine op1 tok ?_
 refine zS ?_
 refine qH.nilEq tok [0,4] rfl rfl (by conv=>lhs; simp) trivial rfl ?_
 intro bn1 hbn1
 refine qH.same (by conv=>lhs; simp) ?_
 refine qH.nil ?_
 refine cnd ?_ ?_
 ·intro h4
  try simp at h4
  have hks:ks=[]:=by
   by_cases h:ks=[]
   ·exact h
   rw [hbn1 (by simpa using h)] at h4; cases h4
  subst hks
  refine rgn [] [[]] ?_
  refine op1 tok ?_
  refine qA ?_
  refine AW.beginE 2 905 9 1 (by simp) (by simp) (by conv=>lhs; simp) ?_
  exact AW.ret yH
 intro h4
 try simp at h4
 refine AW.skip (rgn [] [[],[],[],[2]] ?_)
 iterate 4 refine op1 tok ?_
 refine qA ?_
 exact AW.ret yH
theorem qTJ (ks:List (List UInt8)) (hn:ks.length≤1000000):AR Tryz.prog G 140 [.sl 1 (ks.map PD.str)] 9 1 (ks.map PD.str):=AR.of_AX (k:=905) (by simpa using qTI ks hn)
theorem qTH (vs:List Val) (hn:vs.length≤1000000):AX Tryz.prog G 38 [.p (.sl 9 (vs.map Val.enc))] [] (.ms 905) [] [(905,.row 31 9 (vs.map Val.enc))]:=by
 refine AX.introU tok 900 Tryz.func38 (by kernel_rfl) rfl rfl ?_
 simp only [Tryz.f38,qO,List.map_cons,List.map_nil]
 refine rgn [] [[0]] ?_
 refine op1 tok ?_
 refine qA (AW.seq (rgn [] [[]] ?_))
 refine op1 tok ?_
 refine zS ?_
 refine qH.nilEq tok [0,4] rfl rfl (by conv=>lhs; simp) trivial rfl ?_
 intro bn1 hbn1
 refine qH.same (by conv=>lhs; simp) ?_
 refine qH.nil ?_
 refine cnd ?_ ?_
 ·intro h4
  try simp at h4
  have hks:vs=[]:=by
   by_cases h:vs=[]
   ·exact h
   rw [hbn1 (by simpa using h)] at h4; cases h4
  subst hks
  refine rgn [] [[]] ?_
  refine op1 tok ?_
  refine qA ?_
  refine AW.beginE 2 905 31 9 (by simp) (by simp) (by conv=>lhs; simp) ?_
  exact AW.ret yH
 intro h4
 try simp at h4
 refine AW.skip (rgn [] [[],[],[],[2]] ?_)
 iterate 4 refine op1 tok ?_
 refine qA ?_
 exact AW.ret yH
theorem qDP (vs:List Val) (hn:vs.length≤1000000):AR Tryz.prog G 38 [.sl 9 (vs.map Val.enc)] 31 9 (vs.map Val.enc):=AR.of_AX (k:=905) (by simpa using qTH vs hn)
mutual
def vR (ch:Val→Val):Val→Val
 | .mk k m n t ks vs c=>ch (.mk k m n t ks (qNC ch vs) c)
def qNC (ch:Val→Val):List Val→List Val
 | []=>[]
 | v::vs=>vR ch v::qNC ch vs
end
theorem qIW (ch:Val→Val):∀ l,qNC ch l=l.map (vR ch)
 | []=>by simp [qNC]
 | v::vs=>by simp [qNC,qIW ch vs]
theorem qRA (ch:Val→Val) (v:Val):vR ch v=ch (.mk v.kind v.mask v.num v.text v.keys (v.kids.map (vR ch)) v.code):=by
 cases v; simp only [vR,qIW,Val.kind_mk,Val.mask_mk,Val.num_mk,Val.text_mk,Val.keys_mk,Val.kids_mk,Val.code_mk]
theorem qSX {v:Val} (h:xF v=true):v.keys.length≤200∧v.kids.length≤200:=by
 by_cases h7:v.kind=7
 ·have:=qYN h h7; omega
 rw [qAM] at h
 simp only [Bool.and_eq_true,qAQ,qBD,qGI,decide_eq_true_eq] at h
 obtain ⟨⟨h1,⟨⟨_,h2⟩,_⟩⟩,_⟩:=h
 rw [if_neg h7] at h2
 simp at h2
 rw [h2]; simp; omega
def InM (a:Int):Prop:=0≤a∧a<18446744073709551616
def wM (a:Int):Nat:=(a % 18446744073709551616).toNat
theorem qKN (a:Int):wM a<2 ^ 64:=by unfold wM; omega
theorem qQX {a:Int} (h:InM a):((wM a:Nat):Int)=a:=by unfold wM; unfold InM at h; omega
theorem qIR {n:Nat} (h:n<2 ^ 64):wM n=n:=by unfold wM; omega
def orM (a b:Int):Int:=((wM a ||| wM b:Nat):Int)
def zDY (a b:Int):Int:=((wM a &&& wM b:Nat):Int)
def zDN (a b:Int):Int:=((wM a &&& (18446744073709551615-wM b):Nat):Int)
theorem qUW (a b:Int):wM a ||| wM b<2 ^ 64:=Nat.or_lt_two_pow (qKN a) (qKN b)
theorem qFB (a b:Int):wM (orM a b)=wM a ||| wM b:=qIR (qUW a b)
theorem qUB {n:Nat} (h:n<2 ^ 64):IntKind.u64.wrap (n:Int)=n:=by simp [IntKind.wrap,IntKind.bits,IntKind.signed]; omega
theorem qYL (a b:Int):IntKind.u64.wrap (((a % 2 ^ IntKind.u64.bits).toNat ||| (b % 2 ^ IntKind.u64.bits).toNat:Nat):Int)=orM a b:=qUB (qUW a b)
theorem or_assoc (a b c:Int):orM (orM a b) c=orM a (orM b c):=by
 show ((wM (orM a b) ||| wM c:Nat):Int)=((wM a ||| wM (orM b c):Nat):Int)
 rw [qFB,qFB,Nat.or_assoc]
theorem or_self {a:Int} (h:InM a):orM a a=a:=by unfold orM; rw [Nat.or_self,qQX h]
def LeM (a b:Int):Prop:=orM a b=b
theorem LeM.or_left (a b:Int):LeM a (orM a b):=by
 unfold LeM; rw [← or_assoc]
 unfold orM; rw [qIR (qUW a a),Nat.or_self]
theorem LeM.trans {a b c:Int} (h1:LeM a b) (h2:LeM b c):LeM a c:=by
 unfold LeM at *; rw [← h2,← or_assoc,h1]
theorem LeM.or {a b c:Int} (h1:LeM a c) (h2:LeM b c):LeM (orM a b) c:=by
 unfold LeM at *; rw [or_assoc,h2,h1]
theorem LeM.refl {a:Int} (h:InM a):LeM a a:=or_self h
theorem LeM.and {a b:Int} (h:LeM a b) (ha:InM a):zDY b a=a:=by
 unfold LeM at h
 have h1:wM a ||| wM b=wM b:=by rw [← qFB,h]
 unfold zDY
 have:wM b &&& wM a=wM a:=by
  rw [← h1]
  apply Nat.eq_of_testBit_eq; intro i
  simp only [Nat.testBit_and,Nat.testBit_or]
  cases (wM a).testBit i <;> cases (wM b).testBit i <;> rfl
 rw [this,qQX ha]
theorem LeM.sub {a b:Int} (h:LeM a b):zDN a b=0:=by
 unfold LeM at h
 have h1:wM a ||| wM b=wM b:=by rw [← qFB,h]
 have hb:=qKN b
 unfold zDN
 have:wM a &&& (18446744073709551615-wM b)=0:=by
  apply Nat.eq_of_testBit_eq; intro i
  rw [show 18446744073709551615-wM b=2 ^ 64-(wM b+1) by omega]
  simp only [Nat.testBit_and,Nat.testBit_two_pow_sub_succ hb,Nat.zero_testBit]
  have h3:(wM a ||| wM b).testBit i=(wM b).testBit i:=by rw [h1]
  rw [Nat.testBit_or] at h3
  revert h3
  cases (wM a).testBit i <;> cases (wM b).testBit i <;> simp
 rw [this]; rfl
theorem qYP (v:Val):vR id v=v:=by
 induction v using Val.induct with
 | h v ih =>
  rw [qRA]
  have:v.kids.map (vR id)=v.kids:=by
   conv=>rhs; rw [← List.map_id v.kids]
   exact List.map_congr_left fun k hk=>ih k hk
  rw [this]; cases v; rfl
mutual
def wQ:Val→Int
 | .mk _ m _ _ _ vs _=>jY m vs
def jY (m:Int):List Val→Int
 | []=>m
 | v::vs=>jY (orM m (wQ v)) vs
end
theorem uW (v:Val):wQ v=jY v.mask v.kids:=by cases v; simp only [wQ,Val.mask_mk,Val.kids_mk]
theorem qKZ (l:List Val) (x:Val):∀ m,jY m (l++[x])=orM (jY m l) (wQ x):=by
 induction l with
 | nil=>intro m; simp only [List.nil_append,jY]
 | cons y l ih=>intro m; simp only [List.cons_append,jY,ih]
theorem qBN {m:Int} {l:List Val} {k:Nat} {x:Val} (h:l[k]?=some x):jY m (l.take (k+1))=orM (jY m (l.take k)) (wQ x):=by
 rw [List.take_add_one,h]; exact qKZ _ _ _
@[simp] theorem zBJ (m:Int):jY m []=m:=by simp only [jY]
mutual
def InV:Val→Prop
 | .mk _ m _ _ _ vs _=>InM m∧qXL vs
def qXL:List Val→Prop
 | []=>True
 | v::vs=>InV v∧qXL vs
end
theorem qOH:∀ l,qXL l↔∀ v∈l,InV v
 | []=>by simp [qXL]
 | v::vs=>by simp [qXL,qOH vs]
theorem qZM (v:Val):InV v↔InM v.mask∧∀ k∈v.kids,InV k:=by cases v; simp only [InV,qOH,Val.mask_mk,Val.kids_mk]
theorem qXK {v:Val} (h:InV v):InM v.mask:=((qZM v).1 h).1
theorem qUL (v:Val):Val.sz v=1+Val.szL v.kids:=by cases v; simp only [Val.sz,Val.kids_mk]
@[simp] theorem zEC:Val.szL []=0:=by simp only [Val.szL]
@[simp] theorem zEB (x:Val):Val.szL [x]=Val.sz x:=by simp only [Val.szL,Nat.add_zero]
theorem zAD (v:Val):1≤Val.sz v:=by rw [qUL]; omega
theorem qQO:∀ l:List Val,l.length≤Val.szL l
 | []=>by simp
 | v::l=>by simp only [Val.szL,List.length_cons]; have:=qQO l; have:=zAD v; omega
theorem qPE {v:Val} {n:Nat} (h:Val.sz v≤n):v.kids.length≤n:=by rw [qUL] at h; have:=qQO v.kids; omega
def kP (ch:Val→Val) (v:Val) (k:Nat):List PD:=(v.kids.take k).map (fun u=>(vR ch u).enc)++(v.kids.drop k).map Val.enc
theorem qPG (ch:Val→Val) (v:Val) (k:Nat):(kP ch v k).length=v.kids.length:=by
 simp only [kP,List.length_append,List.length_map,List.length_take,List.length_drop]; omega
@[simp] theorem qZW (ch:Val→Val) (v:Val):kP ch v 0=v.kids.map Val.enc:=by simp only [kP,List.take_zero,List.map_nil,List.nil_append,List.drop_zero]
theorem qPH {ch:Val→Val} {v x:Val} {k:Nat} (hx:v.kids[k]?=some x):(kP ch v k)[k]?=some x.enc:=by
 have hk:=(List.getElem?_eq_some_iff.1 hx).1
 have h0:((v.kids.take k).map (fun u=>(vR ch u).enc)).length=k:=by simp only [List.length_map,List.length_take]; omega
 rw [kP,List.getElem?_append_right (by omega),h0,Nat.sub_self,List.getElem?_map,List.getElem?_drop,Nat.add_zero,hx]; rfl
theorem qPF {ch:Val→Val} {v x:Val} {k:Nat} (hx:v.kids[k]?=some x):(kP ch v k).set k (vR ch x).enc=kP ch v (k+1):=by
 have hk:=(List.getElem?_eq_some_iff.1 hx).1
 have hxk:=(List.getElem?_eq_some_iff.1 hx).2
 have h0:((v.kids.take k).map (fun u=>(vR ch u).enc)).length=k:=by simp only [List.length_map,List.length_take]; omega
 rw [kP,List.set_append_right _ _ (by omega),h0,Nat.sub_self,List.drop_eq_getElem_cons hk,kP,List.take_succ_eq_append_getElem hk,hxk]
 simp only [List.map_cons,List.set_cons_zero,List.map_append,List.map_nil,List.append_assoc,List.cons_append,List.nil_append]
theorem qNB (g:FuncId) (ch:Val→Val) (v:Val) (hg:∀ u:Val,AX Tryz.prog G g [.ptr 2 0] [(2,.vars 31 u.cells)] (.tuple []) [2] [(2,.vars 31 (ch u).cells)]) (hsm:v.keys.length≤1000000∧v.kids.length≤1000000) (ih:∀ k∈v.kids,AFn Tryz.prog G 100 [k.enc,.fn g] (vR ch k).enc):AFn Tryz.prog G 100 [v.enc,.fn g] ((vR ch v).enc):=by
 refine AFn.introU tok Tryz.func100 (by kernel_rfl) rfl rfl ?_
 simp only [Tryz.f100,qO,List.map_cons,List.map_nil]
 have hck:=qTJ (G:=G) v.keys (by omega)
 have hcv:=qDP (G:=G) v.kids (by omega)
 refine rgn [] [[],[1,2,4]] ?_
 iterate 2 refine op1 tok ?_
 refine qA ?_
 refine AW.seqRunDrawK tok mixed [1,2,4] 8 [[2],[7],[8],[2],[10],[11],[2],[13,9]] [.nilf,.sl 1 (v.keys.map PD.str),.clo 9 [],.nilf,.sl 9 (v.kids.map Val.enc),.clo 31 []] [] (by kernel_rfl) (by intro C; conv=>lhs; simp) (by first | exact hck | exact hcv | ((repeat' (first | with_reducible apply And.intro | intro _)) <;> first | exact (hck) | exact (hcv) | assumption | omega | contradiction | simp_all)) (by simp [Sm.sum,Sm.foot,Sm.tch,Sm.refs]; kernel_rfl) (by intro C; conv=>lhs; simp) (by first | with_reducible exact True.intro | omega | simp | (simp +contextual; omega)) ?_
 refine AW.seq (rgn [] [[],[],[],[1,2,4,16,17,18]] ?_)
 iterate 4 refine op1 tok ?_
 refine qA (AW.block ?_)
 refine AW.loop (α:=Nat) (fun k=>k≤v.kids.length) (fun k=>⟨zF 34 [(1,.p (.fn g)),(2,.ptr 2 0),(4,.ptr 4 0),(16,.ms 12),(17,.p (.int .i64 v.kids.length)),(18,.p (.int .i64 k))],[],[(2,.vars 31 [.p (.int .i64 v.kind),.p (.int .u64 v.mask),.p (.bool v.num.neg),.p (.str v.num.digits),.p (.int .i64 v.num.scale),.p (.str v.text),.ms 9,.ms 12,.p (.int .i64 v.code)]),(4,.vars 31 [.p (.int .i64 0),.p (.int .u64 0),.p (.bool false),.p (.str []),.p (.int .i64 0),.p (.str []),.nilsl,.nilsl,.p (.int .i64 0)]),(9,.row 9 1 (v.keys.map PD.str)),(12,.row 31 9 (kP ch v k))],0⟩) (fun k=>v.kids.length-k) (0) (by simp) ⟨qF (by simp),rfl,by simp,by simp⟩ ?_
 rintro k hk
 refine rgn [] [[]] ?_
 refine op1 tok ?_
 refine qA (AW.seq (cnd ?_ ?_))
 ·intro h19
  try simp at h19
  obtain ⟨x,hx⟩:∃ x,v.kids[k]?=some x:=⟨v.kids[k],by simp [h19]⟩
  have hx':=qPH (ch:=ch) hx
  have hkl:=qPG ch v k
  have hix:=ih x (List.mem_of_getElem? hx)
  have hset:=qPF (ch:=ch) hx
  simp only [Val.enc_def] at hx' hix hset
  refine AW.skip (AW.seq (AW.block (rgn [x.enc] [[],[],[],[],[],[1,2,4,5,6,16,17,18]] ?_)))
  iterate 6 refine oq1 tok hx' ?_
  refine qA ?_
  refine AW.runDrawK tok mixed [1,2,4,16,17,18] 6 [[2],[23],[5],[6],[1],[26,27]] [.nilp,(vR ch x).enc] [x.enc,(vR ch x).enc] (by kernel_rfl) (by intro C; conv=>lhs; simp) (by first | exact hix | ((repeat' (first | with_reducible apply And.intro | intro _)) <;> first | exact (hix) | exact (hx') | assumption | omega | contradiction | simp_all)) (by simp [Sm.sum,Sm.foot,Sm.tch,Sm.refs]; kernel_rfl) (by intro C; conv=>lhs; simp) (by exact ⟨by omega,hx'⟩) ?_
  refine rgz [] [[],[1,2,4,16,17,18]] ?_
  iterate 2 refine op1 tok ?_
  refine qA ?_
  exact ⟨k+1,(by omega),(by omega),qF (by simp [hset]),rfl,by simp [hset],by simp [hset]⟩
 intro h19
 try simp at h19
 obtain rfl:k=v.kids.length:=by omega
 have hfull:kP ch v v.kids.length=(v.kids.map (vR ch)).map Val.enc:=by simp only [kP,List.take_length,List.drop_length,List.map_nil,List.append_nil,List.map_map]; rfl
 rw [hfull]
 refine AW.exit ?_
 simp
 refine rgn [] [[]] ?_
 refine op1 tok ?_
 refine zS ?_
 refine qH.freeze 9 (by conv=>lhs; simp) ?_
 refine qH.freeze 12 (by conv=>lhs; simp) ?_
 refine qH.stepK [2,4] (yQ rfl (hg (.mk v.kind v.mask v.num v.text v.keys (v.kids.map (vR ch)) v.code)) (by simp)) (by conv=>lhs; simp) rfl ?_
 refine qH.nil ?_
 refine rgn [] [[],[4]] ?_
 iterate 2 refine op1 tok ?_
 refine qA ?_
 exact AW.ret (qK (k:=by simp [qRA ch v]))
inductive Few:Val→Prop
 | mk {v:Val} (h1:v.keys.length≤1000000) (h2:v.kids.length≤1000000) (h3:∀ k∈v.kids,Few k):Few v
theorem qPD (g:FuncId) (ch:Val→Val) (hg:∀ u:Val,AX Tryz.prog G g [.ptr 2 0] [(2,.vars 31 u.cells)] (.tuple []) [2] [(2,.vars 31 (ch u).cells)]) (v:Val) (hv:Few v):AFn Tryz.prog G 100 [v.enc,.fn g] (vR ch v).enc:=by
 induction hv with
 | mk h1 h2 h3 ih=>exact qNB g ch _ hg ⟨h1,h2⟩ ih
theorem qTL (u:Val):AX Tryz.prog G 101 [.ptr 2 0] [(2,.vars 31 u.cells)] (.tuple []) [2] [(2,.vars 31 (id u).cells)]:=by
 refine AX.introU tok 900 Tryz.func101 (by kernel_rfl) rfl rfl ?_
 simp only [Tryz.f101,qO,List.map_cons,List.map_nil]
 refine AW.skip ?_
 exact qZY
theorem qTK (v:Val) (hv:Few v):AFn Tryz.prog G 70 [v.enc] (v.enc):=by
 refine AFn.introU tok Tryz.func70 (by kernel_rfl) rfl rfl ?_
 simp only [Tryz.f70,qO,List.map_cons,List.map_nil]
 have hm:=qPD (G:=G) 101 id qTL v hv
 rw [qYP] at hm
 simp only [Val.enc_def] at hm
 refine rgn [] [[],[1,2]] ?_
 iterate 2 refine op1 tok ?_
 refine qA (rgn [.nilp,v.enc] [[],[],[2]] ?_)
 iterate 3 refine oq1 tok hm ?_
 exact qA (AW.ret qK)
theorem qTE (v:Val) (ih:∀ k∈v.kids,AFn Tryz.prog G 30 [k.enc] (.int .u64 (wQ k))):AFn Tryz.prog G 30 [v.enc] (.int .u64 (wQ v)):=by
 refine AFn.introU tok Tryz.func30 (by kernel_rfl) rfl rfl ?_
 simp only [Tryz.f30,qO,List.map_cons,List.map_nil]
 refine rgn [] [[],[1]] ?_
 iterate 2 refine op1 tok ?_
 refine qA (rgn [] [[],[],[1,3]] ?_)
 iterate 3 refine op1 tok ?_
 refine qA (AW.seq (rgn [] [[],[],[],[3,9,10,11]] ?_))
 iterate 4 refine op1 tok ?_
 refine qA (AW.block ?_)
 refine AW.intFactU (i:=10) rfl (by decide) ?_; intro hlen; simp at hlen
 refine AW.loop (α:=Nat) (fun k=>k≤v.kids.length) (fun k=>⟨zF 21 [(3,.p (.int .u64 (jY v.mask (v.kids.take k)))),(9,.p (.sl 9 (v.kids.map Val.enc))),(10,.p (.int .i64 v.kids.length)),(11,.p (.int .i64 k))],[],[],0⟩) (fun k=>v.kids.length-k) (0) (by omega) ⟨qF (by simp),rfl,by simp,by simp⟩ ?_
 rintro k hk
 refine rgn [] [[]] ?_
 refine op1 tok ?_
 refine qA (AW.seq (cnd ?_ ?_))
 ·intro h12
  try simp at h12
  obtain ⟨x,hx⟩:∃ x,v.kids[k]?=some x:=⟨v.kids[k],by simp [h12]⟩
  have hix:=ih x (List.mem_of_getElem? hx)
  simp only [Val.enc_def] at hix
  refine AW.skip (AW.seq (AW.block (rgn [x.enc] [[],[],[],[3,5,9,10,11]] ?_)))
  iterate 4 refine op1 tok ?_ (hv:=by first | with_reducible exact True.intro | (simp [hx]; done) | omega | simp | (simp +contextual; omega))
  refine qA (rgz [.nilp,.int .u64 (wQ x)] [[],[],[],[9,10,11,18],[3,9,10,11]] ?_)
  iterate 5 refine oq1 tok hix ?_ (h:=by intro C; conv=>lhs; simp [qYL])
  refine qA (rgz [] [[],[3,9,10,11]] ?_)
  iterate 2 refine op1 tok ?_
  refine qA ?_
  exact ⟨k+1,by omega,by omega,qF (by simp [qBN hx]),rfl,by simp [qBN hx],by simp [qBN hx]⟩
 intro h12
 try simp at h12
 rw [List.take_of_length_le h12]
 refine AW.exit ?_
 simp
 refine rgn [] [[],[2]] ?_
 iterate 2 refine op1 tok ?_
 refine qA ?_
 exact AW.ret (qK (k:=by simp [uW v]))
theorem qYX (v:Val):AFn Tryz.prog G 30 [v.enc] (.int .u64 (wQ v)):=Val.induct (fun v ih=>qTE v ih) v
open Go
open Go.Lib
def qEU (n:Nat):UInt8:=if n<10 then UInt8.ofNat (48+n) else UInt8.ofNat (87+n)
def qb (b:UInt8):List UInt8 :=
 if b=34∨b=92 then [92,b] else if b=10 then [92,110] else if b=13 then [92,114] else if b=9 then [92,116]
 else if b<32∨b=127 then [92,117,48,48,qEU (b.toNat / 16),qEU (b.toNat % 16)] else [b]
def jQ (s:List UInt8):List UInt8:=s.flatMap qb
def wR (s:List UInt8):List UInt8:=34::(jQ s++[34])
theorem qPW {b:UInt8} {t:List UInt8} (h:b.toNat<128):decodeL (b::t)=(b.toNat,1):=by
 unfold decodeL
 rw [decode_at]
 have e:(⟨(b::t).toArray⟩:ByteArray).get! 0=b:=rfl
 rw [e]
 unfold decodeN
 rw [if_pos h]
theorem qUY {b:UInt8} (h:b.toNat<128):encodeRune (b.toNat:Int)=[b]:=by
 simp only [encodeRune,encodeRuneZ_one (r:=(b.toNat:Int)) (by omega) (by omega),List.map_cons,List.map_nil]
 congr 1
 simp
theorem qEO (l:List UInt8):decodeL l=decodeN l.length (l.getD 0 0).toNat (l.getD 1 0).toNat (l.getD 2 0).toNat (l.getD 3 0).toNat:=by
 unfold decodeL
 rw [decode_at]
 have e:∀ k,(⟨l.toArray⟩:ByteArray).get! k=l.getD k 0:=by
  intro k
  show l.toArray[k]! = _
  simp [List.getD_eq_getElem?_getD]
  rfl
 simp only [e]
 rfl
theorem qTO (l:List UInt8) (hne:l≠[]) (hv:¬ ((decodeL l).1=65533∧(decodeL l).2=1)) (hb:128≤(l.getD 0 0).toNat):(∀ b∈l.take (decodeL l).2,128≤b.toNat)∧128≤(decodeL l).1:=by
 have hr:=qEO l
 have hle:=decodeL_le l hne
 have hlen:0<l.length:=by cases l with
  | nil=>exact absurd rfl hne
  | cons a l=>simp
 unfold decodeN at hr
 rw [if_neg (by omega)] at hr
 split at hr
 ·rename_i c
  split at hr
  ·rw [hr] at hv hle ⊢
   simp only at hle ⊢
   rw [takeB l (by omega)]
   refine ⟨fun b hb' => ?_,by omega⟩
   simp at hb'
   rcases hb' with h | h <;> (subst h; simp at hb c; omega)
  rw [hr] at hv; exact absurd ⟨rfl,rfl⟩ hv
 split at hr
 ·rename_i c
  split at hr
  ·rw [hr] at hv hle ⊢
   simp only at hle ⊢
   rw [takeC l (by omega)]
   refine ⟨fun b hb' => ?_,by omega⟩
   simp at hb'
   rcases hb' with h | h | h <;> (subst h; simp at hb c; omega)
  rw [hr] at hv; exact absurd ⟨rfl,rfl⟩ hv
 split at hr
 ·rename_i c
  split at hr
  ·rw [hr] at hv hle ⊢
   simp only at hle ⊢
   rw [takeD l (by omega)]
   refine ⟨fun b hb' => ?_,by omega⟩
   simp at hb'
   rcases hb' with h | h | h | h <;> (subst h; simp at hb c; omega)
  rw [hr] at hv; exact absurd ⟨rfl,rfl⟩ hv
 rw [hr] at hv; exact absurd ⟨rfl,rfl⟩ hv
theorem qSE {l:List UInt8} (h:∀ b∈l,128≤b.toNat):jQ l=l:=by
 induction l with
 | nil=>rfl
 | cons b l ih =>
  have hb:=h b (by simp)
  have h1:qb b=[b]:=by
   unfold qb
   have ne:∀ c:UInt8,c.toNat<128→b≠c:=fun c hc e=>by subst e; omega
   rw [if_neg (by rintro (e | e) <;> exact ne _ (by decide) e),if_neg (ne _ (by decide)),if_neg (ne _ (by decide)),if_neg (ne _ (by decide)),if_neg]
   rintro (e | e)
   ·rw [UInt8.lt_iff_toNat_lt] at e
    simp at e; omega
   exact ne _ (by decide) e
  show qb b++jQ l=_
  rw [h1,ih fun b hb=>h b (List.mem_cons_of_mem _ hb)]
  rfl
theorem qKI (a b:List UInt8):jQ (a++b)=jQ a++jQ b:=by simp [jQ]
structure RS where
 left:List UInt8
 nodes:Nat
 bad:Bool
 deep:Bool
 big:Bool
 deriving DecidableEq
def zFM (b:UInt8):Bool:=b == 32 || b == 9 || b == 13 || b == 10
def qUI (s:List UInt8):List UInt8:=s.dropWhile zFM
def tk (w:List UInt8) (st:RS):Bool × RS :=
 if w.isPrefixOf (qUI st.left) then (true,{ st with left:=(qUI st.left).drop w.length }) else (false,{ st with left:=qUI st.left })
def qLW:List UInt8:=[110,117,108,108]
def qLV:List UInt8:=[116,114,117,101]
def qFK:List UInt8:=[102,97,108,115,101]
@[simp] theorem zEJ (w:List UInt8) (st:RS):(tk w st).2.bad=st.bad:=by unfold tk; split <;> rfl
@[simp] theorem zBP (w:List UInt8) (st:RS):(tk w st).2.nodes=st.nodes:=by unfold tk; split <;> rfl
@[simp] theorem zEA (w:List UInt8) (st:RS):(tk w st).2.deep=st.deep:=by unfold tk; split <;> rfl
@[simp] theorem zEI (w:List UInt8) (st:RS):(tk w st).2.big=st.big:=by unfold tk; split <;> rfl
open Go Go.RowKit Go.Shelf Go.Maps Go.Sort
attribute [local go_sem] Oper.semAt_some
def zBD (n₀:Nat) (W:World) (sv:Value) (zs:List (List UInt8)):Prop :=
 (zs=[]∧∃ a c,sv = .slice a 0 c)∨∃ b off cap,sv = .slice (some ⟨b,off,none⟩) zs.length cap∧b<n₀∧∀ j,j<zs.length→W.cell? ⟨b,off+j,none⟩=some (encStr (zs[j]?.getD []))
theorem zBD.below {n₀:Nat} {A B:World} (h:Below n₀ A B) {sv:Value} {zs:List (List UInt8)}:zBD n₀ A sv zs→zBD n₀ B sv zs
 | .inl e => .inl e
 | .inr ⟨b,off,cap,e,hb,hc⟩ => .inr ⟨b,off,cap,e,hb,fun j hj=>(h.cell (p:=⟨b,off+j,none⟩) hb).trans (hc j hj)⟩
end Go.Proofs.YtgcbapchinideaaGreatDoor
namespace Go.Proofs.YtgcbapchinideaaGreatDoor
open Sy Go Go.RowKit Go.Shelf Go.Maps Go.Sort
attribute [local go_sem] Oper.semAt_some
set_option linter.unusedSimpArgs false
set_option linter.unusedVariables false
variable {G:qM}
end Go.Proofs.YtgcbapchinideaaGreatDoor
namespace Go.Proofs.YtgcbapchinideaaGreatDoor
open Sy Go
set_option maxRecDepth 100000
set_option maxHeartbeats 4000000
set_option linter.unusedSimpArgs false
set_option linter.unusedVariables false
variable {G:qM}
theorem qTB (l:List Val) (g:FuncId) (p:Val→Bool) (hg:∀ v∈l,AFn Tryz.prog G g [v.enc] (.bool (p v))):AFn Tryz.prog G 156 [.sl 9 (l.map Val.enc),.fn g] (.int .i64 (match l.findIdx? p with | some i=>(i:Int) | none => -1)):=by
 refine AFn.introU tok Tryz.func156 (by kernel_rfl) rfl rfl ?_
 simp only [Tryz.f156,qO,List.map_cons,List.map_nil]
 refine rgn [] [[0,1]] ?_
 refine op1 tok ?_
 refine qA (AW.seq (rgn [] [[],[],[0,1,7,8]] ?_))
 iterate 3 refine op1 tok ?_
 refine qA (AW.block ?_)
 refine AW.intFactU (i:=7) rfl (by decide) ?_; intro hlen; simp at hlen
 refine AW.loop (α:=Nat) (fun k=>k≤l.length∧(l.take k).all (fun v => !p v)=true) (fun k=>⟨zF 19 [(0,.p (.sl 9 (l.map Val.enc))),(1,.p (.fn g)),(7,.p (.int .i64 l.length)),(8,.p (.int .i64 k))],[],[],0⟩) (fun k=>l.length-k) (0) ⟨by omega,rfl⟩ ⟨qF (by simp),rfl,by simp,by simp⟩ ?_
 rintro k ⟨hk,hall⟩
 refine rgn [] [[]] ?_
 refine op1 tok ?_
 refine qA (AW.seq (cnd ?_ ?_))
 ·intro h9
  try simp at h9
  obtain ⟨v,hv⟩:∃ v,l[k]?=some v:=⟨l[k],by simp [h9]⟩
  have hgv:=hg v (List.mem_of_getElem? hv)
  refine AW.skip (AW.seq (AW.block (rgn [] [[],[0,1,5,7,8]] ?_)))
  iterate 2 refine op1 tok ?_
  refine qA (rgn [v.enc,.tup [v.enc],.bool (p v)] [[],[],[],[],[],[0,1,5,7,8,16]] ?_)
  iterate 6 refine op1 tok ?_ (hv:=by first | with_reducible exact True.intro | (first | (simp [hv]; done) | (simp at hgv ⊢; exact hgv); done) | omega | simp | (simp +contextual; omega))
  refine qA (cnd ?_ ?_)
  ·intro h16
   try simp at h16
   have hf:l.findIdx? p=some k:=by
    rw [List.findIdx?_eq_some_iff_getElem]
    have h9':=h9
    refine ⟨h9, ?_,fun j hj => ?_⟩
    ·rw [List.getElem?_eq_getElem h9] at hv; cases hv; exact h16
    have:=List.all_eq_true.1 hall (l[j]'(by omega)) (List.mem_iff_getElem.2 ⟨j,by simp; omega,by simp⟩)
    simpa using this
   refine rgn [] [[],[4]] ?_
   iterate 2 refine op1 tok ?_
   refine qA ?_
   exact AW.ret (qK (k:=by simp [hf]))
  intro h16
  try simp at h16
  refine AW.skip (rgz [] [[],[0,1,7,8]] ?_)
  iterate 2 refine op1 tok ?_
  refine qA ?_
  exact ⟨k+1,⟨by omega,by rw [List.take_add_one,hv,List.all_append,hall]; simpa using h16⟩,by omega,qF (by simp),rfl,by simp,by simp⟩
 intro h9
 try simp at h9
 rw [List.take_of_length_le h9] at hall
 have hf:l.findIdx? p=none:=by
  rw [List.findIdx?_eq_none_iff]; intro x hx; simpa using List.all_eq_true.1 hall x hx
 refine AW.exit ?_
 simp
 refine rgn [] [[]] ?_
 refine op1 tok ?_
 refine qA ?_
 exact AW.ret (qK (k:=by simp [hf]))
theorem qLA (l:List Val) (g:FuncId) (p:Val→Bool) (hg:∀ v∈l,AFn Tryz.prog G g [v.enc] (.bool (p v))):AFn Tryz.prog G 113 [.sl 9 (l.map Val.enc),.fn g] (.bool (l.any p)):=by
 refine AFn.introU tok Tryz.func113 (by kernel_rfl) rfl rfl ?_
 simp only [Tryz.f113,qO,List.map_cons,List.map_nil]
 have hi:=qTB l g p hg
 have ha:l.any p=decide (0≤(match l.findIdx? p with | some i=>(i:Int) | none => -1)):=by
  cases h:l.findIdx? p with
  | none=>simp; intro x hx; simpa using List.findIdx?_eq_none_iff.1 h x hx
  | some i =>
   obtain ⟨h1,h2,_⟩:=List.findIdx?_eq_some_iff_getElem.1 h
   simp; exact ⟨_,List.getElem_mem h1,h2⟩
 rw [ha]
 generalize (match l.findIdx? p with | some i=>(i:Int) | none => -1)=n at *
 refine rgn [] [[0,1]] ?_
 refine op1 tok ?_
 refine qA (rgn [.nilp,.int .i64 n] [[],[],[7],[],[4]] ?_)
 iterate 5 refine oq1 tok hi ?_
 exact qA (AW.ret qK)
structure Ord {α:Type} (p:α→α→Int) (S:α→Prop):Prop where
 anti:∀ x y,S x→S y→p x y = - p y x
 tr:∀ x y z,S x→S y→S z→p x y≤0→p y z≤0→p x z≤0
theorem Ord.refl {α:Type} {p:α→α→Int} {S:α→Prop} (h:Ord p S) {x:α} (hx:S x):p x x=0:=by have:=h.anti x x hx hx; omega
theorem Ord.lt_le {α:Type} {p:α→α→Int} {S:α→Prop} (h:Ord p S) {x y z:α} (hx:S x) (hy:S y) (hz:S z) (h1:p x y<0) (h2:p y z≤0):p x z<0:=by
 have h3:=h.tr x y z hx hy hz (by omega) h2
 by_cases h4:p x z=0
 ·have a1:=h.anti x z hx hz
  have a2:=h.anti x y hx hy
  have:=h.tr y z x hy hz hx h2 (by omega)
  omega
 omega
theorem Ord.le_lt {α:Type} {p:α→α→Int} {S:α→Prop} (h:Ord p S) {x y z:α} (hx:S x) (hy:S y) (hz:S z) (h1:p x y≤0) (h2:p y z<0):p x z<0:=by
 have h3:=h.tr x y z hx hy hz h1 (by omega)
 by_cases h4:p x z=0
 ·have a1:=h.anti x z hx hz
  have a2:=h.anti y z hy hz
  have:=h.tr z x y hz hx hy (by omega) h1
  omega
 omega
theorem Ord.eq_eq {α:Type} {p:α→α→Int} {S:α→Prop} (h:Ord p S) {x y z:α} (hx:S x) (hy:S y) (hz:S z) (h1:p x y=0) (h2:p y z=0):p x z=0:=by
 have a1:=h.anti x y hx hy
 have a2:=h.anti y z hy hz
 have a3:=h.anti x z hx hz
 have:=h.tr x y z hx hy hz (by omega) (by omega)
 have:=h.tr z y x hz hy hx (by omega) (by omega)
 omega
theorem Ord.then {α:Type} {p q:α→α→Int} {S:α→Prop} (hp:Ord p S) (hq:Ord q S):Ord (fun x y=>if p x y≠0 then p x y else q x y) S:=by
 refine ⟨fun x y hx hy => ?_,fun x y z hx hy hz h1 h2 => ?_⟩
 ·have a1:=hp.anti x y hx hy
  have a2:=hq.anti x y hx hy
  by_cases h:p x y=0
  ·rw [if_neg (by omega),if_neg (by omega)]; exact a2
  rw [if_pos h,if_pos (by omega)]; exact a1
 by_cases e1:p x y=0
 ·rw [if_neg (by omega)] at h1
  by_cases e2:p y z=0
  ·rw [if_neg (by omega)] at h2
   rw [if_neg (by have:=hp.eq_eq hx hy hz e1 e2; omega)]
   exact hq.tr x y z hx hy hz h1 h2
  rw [if_pos e2] at h2
  have:=hp.le_lt hx hy hz (by omega) (show p y z<0 by omega)
  rw [if_pos (by omega)]; omega
 rw [if_pos e1] at h1
 by_cases e2:p y z=0
 ·have:=hp.lt_le hx hy hz (show p x y<0 by omega) (by omega)
  rw [if_pos (by omega)]; omega
 rw [if_pos e2] at h2
 have:=hp.lt_le hx hy hz (show p x y<0 by omega) h2
 rw [if_pos (by omega)]; omega
theorem Ord.map {α β:Type} {p:β→β→Int} {S:β→Prop} (h:Ord p S) (f:α→β) {S':α→Prop} (hS:∀ x,S' x→S (f x)):Ord (fun x y=>p (f x) (f y)) S' :=
 ⟨fun x y hx hy=>h.anti _ _ (hS x hx) (hS y hy),fun x y z hx hy hz=>h.tr _ _ _ (hS x hx) (hS y hy) (hS z hz)⟩
def zO (code m:Int):Val := .mk 8 m dc0 [] [] [] code
def vM (r:Dc × Int) (m:Int):Val:=if r.2=0 then .mk 4 m r.1 [] [] [] 0 else zO r.2 m
def qJX (b:Bool) (m:Int):Val := .mk (if b=true then 3 else 2) m dc0 [] [] [] 0
def qVA (m:Int):Val := .mk 1 m dc0 [] [] [] 0
def wP (s:List UInt8) (m:Int):Val:=if 4096<s.length then zO 3 m else .mk 5 m dc0 s [] [] 0
def qJA (l:List Val) (m:Int):Val:=if 200<l.length then zO 3 m else .mk 6 m dc0 [] [] l 0
def zAV (n:Int) (m:Int):Val:=vM (vD n,0) m
end Go.Proofs.YtgcbapchinideaaGreatDoor
namespace Go.Proofs.YtgcbapchinideaaGreatDoor.Sy
open Go
section
variable {P:Program} {T:Tab} {G:qM} {Q:Exit→St→Prop} {st st':St}
theorem Rel.freezeAll {c:Ctx} {μ:Mu} {tmps:Array Value} {w:World}:∀ (ids:List Nat) {M:qY} {st:St},Rel c M μ st tmps w→∃ M',Rel c M' μ (freezeAll st ids) tmps w
 | [],M,_,r=>⟨M,r⟩
 | i::l,M,st,r=>by
  obtain ⟨M1,r1⟩:=r.freeze i
  exact Rel.freezeAll l r1
end
section
variable {P:Program} {T:Tab} {G:qM}
theorem AX.ren {f:FuncId} {xs:List V} {H:List (Nat × Box)} {r:V} {ps:List Nat} {H':List (Nat × Box)} (i j:Nat) (h:AX P G f xs H r ps H') (hf:(⟨[r],ps,H',0⟩:St).fresh j=true):AX P G f xs H (r.ren i j) (ps.filter (· != i)) (qHS i j H'):=by
 refine ⟨h.1,fun M μ w vs hg rel=>(h.2 M μ w vs hg rel).mono ?_⟩
 rintro e w' ⟨v,M',μ',rfl,r'⟩
 have:=r'.ren (i:=i) hf
 exact ⟨v,M',_,rfl,by simpa only [St.ren,V.renL] using this⟩
end
section
variable {P:Program} {T:Tab} {G:qM} {Q:Exit→St→Prop} {l:List Oper} {m:Nat} {tss:List (List Nat)} {sms:List Sm}
inductive DRun (P:Program) (G:qM) (st0:St):List Oper→List (List Nat)→St→List Sm→St→Prop
 | nil {tss:List (List Nat)} {st:St}:(st.H.map (·.1)).Nodup→DRun P G st0 [] tss st [] st
 | one {o : Oper} {rest : List Oper} {ts : List Nat} {tss : List (List Nat)} {st st2 : St} {s : Sm} {zs : List Sm} : o.guard = none → (st.H.map (·.1)).Nodup → Facts st0 s → (∀ p ∈ s.H, p ∈ st.H) →
   (∀ c M μ st' tmps w R K,kD G c→Rel c M μ st' tmps w→wV st'.tmps (wI st.tmps ts)→(∀ id bx,(id,bx)∈s.H→(id,bx)∈st'.H)→(∀ n∈s.new,({ st' with H:=zE (s.H.map (·.1)) st'.H }:St).fresh n=true) →
    (∀ u w' M' μ' H2,Rel c M' μ' { st' with H:=H2 } tmps w'→RV M' μ' u s.x→(∀ p,p∈H2↔p∈s.H'∨(p∈st'.H∧p.1 ∉ s.H.map (·.1)))→K (Act.put ⟨tmps,[]⟩ o.dst u) w')→o.wp P ⟨tmps,[]⟩ w K R) →
   DRun P G st0 rest tss (st.after o.dst s) zs st2→DRun P G st0 (o::rest) (ts::tss) st (s::zs) st2
theorem DRun.len {st0:St} {rest:List Oper} {ts:List (List Nat)} {st st2:St} {zs:List Sm} (h:DRun P G st0 rest ts st zs st2):zs.length=rest.length:=by
 induction h with
 | nil=>rfl
 | one _ _ _ _ _ _ ih=>simp [ih]
theorem DRun.told (hchk : zL l m tss = true) (hconf : kW l m (sms.map Sm.sum) = true) {st0 : St} {rest : List Oper} {ts : List (List Nat)} {st st2 : St} {zs : List Sm} (h : DRun P G st0 rest ts st zs st2) : ∀ k : Nat,
  rest=(l.take m).drop k→ts=tss.drop k→zs=sms.drop k→k≤m→sms.length=m→st.pins=st0.pins→st.base=st0.base→DoneD l m sms st0 (fun j=>decide (j<k)) st.tmps st.H →
  (∀ i,k≤i→i<m→Told P G l m sms st0 i)∧st2.pins=st0.pins∧st2.base=st0.base∧DoneD l m sms st0 (fun j=>decide (j<m)) st2.tmps st2.H∧(st2.H.map (·.1)).Nodup:=by
 induction h with
 | @nil ts st hnd =>
  intro k hr _ hz hk hxl hp hb D
  have hkm:k=m:=by
   have h3:(List.drop k (List.take m l)).length=0:=by rw [← hr]; rfl
   have:=vJ hchk
   simp at h3
   omega
  subst hkm
  exact ⟨fun i h1 h2=>by omega,hp,hb,D,hnd⟩
 | @one o rest t1 tss1 st st2 s zs hgd hnd F hsub hgo _ ih =>
  intro k hr hts hz hk hxl hp hb D
  have hkm:k<m:=by
   have h3:(List.drop k (List.take m l)).length=rest.length+1:=by rw [← hr]; rfl
   simp at h3
   omega
  obtain ⟨o',ho',htk,hsep⟩:=kJ hchk hkm
  have hoo:o=o':=by
   have h3:(List.drop k (List.take m l))[0]?=some o:=by rw [← hr]; rfl
   rw [List.getElem?_drop,List.getElem?_take,Nat.add_zero,if_pos hkm,ho'] at h3
   cases h3; rfl
  subst hoo
  have hrest:rest=(l.take m).drop (k+1):=by
   have:=congrArg (List.drop 1) hr
   simpa [List.drop_drop,Nat.add_comm] using this
  have ht1:t1=o.looksAt l.toArray:=by
   have h3:(List.drop k tss)[0]?=some t1:=by rw [← hts]; rfl
   rw [List.getElem?_drop,Nat.add_zero,htk] at h3
   cases h3; rfl
  have hts1:tss1=tss.drop (k+1):=by
   have:=congrArg (List.drop 1) hts
   simpa [List.drop_drop,Nat.add_comm] using this
  have hdk:wG l k=o.dst:=by simp [wG,ho']
  have hxk:sms[k]?=some s:=by
   have h3:(List.drop k sms)[0]?=some s:=by rw [← hz]; rfl
   rw [List.getElem?_drop,Nat.add_zero] at h3; exact h3
  have hz':zs=sms.drop (k+1):=by
   have:=congrArg (List.drop 1) hz
   simpa [List.drop_drop,Nat.add_comm] using this
  have D':DoneD l m sms st0 (fun j=>decide (j<k+1)) (st.after o.dst s).tmps (st.after o.dst s).H:=by
   have:=D.go hchk hconf (DC.below hchk k) (L':=fun j=>decide (j<k+1)) hkm hdk hxk (by simp) F (fun j=>by
    by_cases h1:j<k
    ·simp [h1,show j<k+1 by omega]
    by_cases h2:j=k
    ·simp [h2]
    simp [h1,h2,show ¬ j<k+1 by omega]) hsub hnd (H2:=s.H'++zE (s.H.map (·.1)) st.H) (fun p=>by rw [List.mem_append,wU])
   have e1:(st.after o.dst s).tmps=qHT st.tmps o.dst s.x:=by cases hq:o.dst <;> rfl
   rw [e1]; exact this
  have e2:(st.after o.dst s).pins=st.pins:=by cases hq:o.dst <;> rfl
  have e3:(st.after o.dst s).base=st.base:=by cases hq:o.dst <;> rfl
  obtain ⟨h1,h2,h3⟩:=ih (k+1) hrest hts1 hz' hkm hxl (e2.trans hp) (e3.trans hb) D'
  refine ⟨fun i hi1 hi2 => ?_,h2,h3⟩
  rcases Nat.eq_or_lt_of_le hi1 with e | e
  ·subst e
   subst ht1
   exact ⟨o,s,st.tmps,st.H,ho',hxk,D,F,hsub,qEL ho' hgd hgo⟩
  exact h1 i e hi2
theorem AW.runDraw1 (hmix : P.follows .mixedOrders = true) (m : Nat) (tss : List (List Nat)) {id : Nat} {st st1 : St} {sms : List Sm} (hchk : zL l m tss = true)
  (h1:DRun P G st (l.take m) tss st sms st1) (hconf:kW l m (sms.map Sm.sum)=true) (hlate:qZ P G l.toArray Q (l.drop m) st1) :
  AW P G (.region id l.toArray true) Q st:=by
 intro c M μ tmps w hg r
 refine wp_region_any hmix ?_
 have hml:=vJ hchk
 have hxl:sms.length=m:=by
  rw [h1.len]; simp; omega
 obtain ⟨hgo,hp2,_,D2,hnd2⟩:=h1.told hchk hconf 0 (by simp) (by simp) (by simp) (Nat.zero_le _) hxl rfl rfl (DoneD.put0 st)
 have hsize:l.toArray.size=l.length:=by simp
 refine qGY hchk hconf st (fun i hi=>hgo i (Nat.zero_le _) hi) st1 hp2 D2 hnd2 hlate hg _ _ _ M μ st.tmps st.H tmps _ rfl ?_ (by simp) (fun j _ hj=>by simp [Array.getD]) (fun j o _ h=>by simp [Array.getD] at h) ?_ (r.same ⟨rfl,rfl,rfl,Nat.le_refl _,fun _ _=>rfl⟩)
 ·rw [hsize]
  exact Nat.le_trans (List.length_filter_le _ _) (by simp)
 have:(fun j=>(Array.replicate l.toArray.size false).getD j false)=fun j=>decide (j<0):=by
  funext j; simp [Array.getD]
 rw [this]; exact DoneD.put0 st
def yP (P:Program) (G:qM) (st0:St) (l:List Oper) (tss:List (List Nat)) (st:St) (acc:uC) (K:uC→St→Prop):Prop:=∃ sms st1,DRun P G st0 l tss st sms st1∧K (acc++sms.map Sm.sum) st1
variable {K:uC→St→Prop} {st st' st0:St} {rest:List Oper} {ts:List Nat} {orc orc':List PD} {acc:uC} {o:Oper} {sm:qZJ} {v:Know→Prop}
theorem yP.nil (hn:ndB st.H=true) (k:K acc st):yP P G st0 [] tss st acc K:=⟨_,_,.nil (wL hn),by simpa using k⟩
theorem yP.one (hT : TOK P T) (h : ∀ C, qEN C T G st0 ts o st orc = some (v C, st', sm, orc')) (hv : v (kn P G)) (hgd : o.guard = none) (hn : ndB st.H = true) (k : yP P G st0 rest tss st' (acc ++ [sm]) K) :
  yP P G st0 (o::rest) (ts::tss) st acc K:=by
 have h1:=h (kn P G)
 unfold qEN at h1
 split at h1
 ·rename_i v1 s orc1 h2
  simp only [Option.some.injEq,Prod.mk.injEq] at h1
  obtain ⟨h3,rfl,rfl,rfl⟩:=h1
  obtain ⟨sms,st1,e,hk⟩:=k
  have S:=vV hT (wL hn) h2 (h3 ▸ hv)
  exact ⟨s::sms,st1,.one hgd (wL hn) ⟨S.q,S.good,S.ps,S.new⟩ (fun p hp=>qAH st _ p (S.H p hp)) S.goes e,by simpa using hk⟩
 cases h1
theorem r1 (hT : TOK P T) (k : yP P G st0 rest tss st' (acc ++ [sm]) K) (h : ∀ C, qEN C T G st0 ts o st orc = some (v C, st', sm, orc') := by intro C; conv => lhs; simp) (hv : v (kn P G) := by first | with_reducible exact True.intro | omega | simp | (simp +contextual; omega)) (hgd : o.guard = none := by rfl) (hn : ndB st.H = true := by kernel_rfl) :
  yP P G st0 (o::rest) (ts::tss) st acc K:=yP.one hT h hv hgd hn k
theorem yP.call {x : Operand} {args : Array Operand} {tys : Array TypeId} {f : FuncId} {xs : List V} {H : List (Nat × Box)} {r : V} {ps : List Nat} {H' : List (Nat × Box)} (new : List Nat) (hc : AX P G f xs H r ps H') (ho : o.op = .call { callee := .value x, args := args, argTypes := tys }) (hgd : o.guard = none)
  (hcx:CX G ⟨wI st.tmps ts,H.map (·.1),H,st.base⟩ x args.toList f xs H r ps H') (hrest:(St.rest ⟨wI st.tmps ts,H.map (·.1),H,st.base⟩ H ps).H=[]) (hpins:∀ i∈ps,i∈(St.rest ⟨wI st.tmps ts,H.map (·.1),H,st.base⟩ H ps).pins)
  (hsub:∀ p∈H,p∈st.H) (hnew:∀ n∈new,st0.fresh n=true) (hky:∀ i,qJ i H'=true→i∈H.map (·.1)∨i∈new) (hgood:∀ i∈V.ids r++kM H',i∈ps∨i∈new) (hn:ndB st.H=true) (hst:st.after o.dst ⟨r,H,H',ps,new,false⟩=st')
  (k:yP P G st0 rest tss st' (acc++[(Sm.mk r H H' ps new false).sum]) K):yP P G st0 (o::rest) (ts::tss) st acc K:=by
 subst hst
 obtain ⟨sms,st1,e,hk⟩:=k
 have hsn:(H.map (·.1)).Nodup:=hcx.2.2.2.2.1
 have y:=yQ ho hc hcx
 refine ⟨⟨r,H,H',ps,new,false⟩::sms,st1,.one hgd (wL hn) ⟨fun h=>absurd h (by simp),hgood,hky,hnew⟩ hsub (fun c M μ st' tmps w R K hG rel hle hbox hnw k => ?_) e,by simpa using hk⟩
 exact uU (s:=⟨r,H,H',ps,new,false⟩) (small:=⟨wI st.tmps ts,H.map (·.1),H,st.base⟩) (s':=({ St.rest (⟨wI st.tmps ts,H.map (·.1),H,st.base⟩:St) H ps with H:=H'++(St.rest (⟨wI st.tmps ts,H.map (·.1),H,st.base⟩:St) H ps).H }:St)) rfl hsn (by show H'=H'++_; rw [hrest,List.append_nil]) (fun i hi=>hpins i hi) hky hgood y c M μ st' tmps w R K hG rel hle hbox hnw k
theorem AW.drawR (hmix : P.follows .mixedOrders = true) (m : Nat) (tss : List (List Nat)) (orc2 : List PD) {id : Nat} {l : List Oper} (hchk : zL l m tss = true)
  (h:yP P G st (l.take m) tss st [] fun qJZ st1=>kW l m qJZ=true∧qH P G l.toArray Q (l.drop m) st1 orc2):AW P G (.region id l.toArray true) Q st:=by
 obtain ⟨sms,st1,e,hc,hl⟩:=h
 exact AW.runDraw1 hmix m tss hchk e (by simpa using hc) hl
theorem AW.seqDrawR (hmix : P.follows .mixedOrders = true) (m : Nat) (tss : List (List Nat)) (orc2 : List PD) {id : Nat} {l : List Oper} {b : Code} (hchk : zL l m tss = true)
  (h:yP P G st (l.take m) tss st [] fun qJZ st1=>kW l m qJZ=true∧qH P G l.toArray (andThen (AW P G b Q) Q) (l.drop m) st1 orc2):AW P G (.seq (.region id l.toArray true) b) Q st :=
 AW.seq (AW.drawR hmix m tss orc2 hchk h)
end
set_option linter.unusedSimpArgs false
set_option linter.unusedVariables false
section
variable {P:Program} {T:Tab} {G:qM} {l:List Oper} {tss:List (List Nat)} {K:uC→St→Prop} {st st' st0:St} {rest:List Oper} {ts:List Nat} {acc:uC} {o:Oper}
end
end Go.Proofs.YtgcbapchinideaaGreatDoor.Sy
namespace Go.Proofs.YtgcbapchinideaaGreatDoor
open Sy Go
set_option maxRecDepth 100000
set_option maxHeartbeats 4000000
set_option linter.unusedSimpArgs false
set_option linter.unusedVariables false
variable {G:qM}
theorem qUF (code m:Int):AFn Tryz.prog G 69 [.int .i64 code,.int .u64 m] ((zO code m).enc):=by
 refine AFn.introU tok Tryz.func69 (by kernel_rfl) rfl rfl ?_
 simp only [Tryz.f69,qO,List.map_cons,List.map_nil]
 have e:zO code m = .mk 8 m dc0 [] [] [] code:=rfl
 rw [e]
 refine rgn [] [[]] ?_
 refine op1 tok ?_
 refine qA (rgn [] [[],[],[4,7],[4]] ?_)
 iterate 4 refine op1 tok ?_
 refine qA ?_
 exact AW.ret (qK (k:=by simp [dc0]))
def xN (v:Val):Bool × Bool:=if v.kind=8 then (false,false) else if v.kind=1∨v.kind=2 then (false,true) else (true,true)
theorem qRR (v:Val):AFn Tryz.prog G 33 [v.enc] (.tup [.bool (xN v).1,.bool (xN v).2]):=by
 refine AFn.introU tok Tryz.func33 (by kernel_rfl) rfl rfl ?_
 simp only [Tryz.f33,qO,List.map_cons,List.map_nil]
 refine rgn [] [[],[],[1]] ?_
 iterate 3 refine op1 tok ?_
 refine qA (AW.seq (rgn [] [[],[5]] ?_))
 iterate 2 refine op1 tok ?_
 refine qA (AW.block (rgn [] [[],[5,6]] ?_))
 iterate 2 refine op1 tok ?_
 refine qA (cnd ?_ ?_)
 ·intro h6
  try simp at h6
  refine rgn [] [[],[]] ?_
  iterate 2 refine op1 tok ?_
  refine qA ?_
  exact AW.ret (qK (k:=by (first | (exfalso; omega) | (simp [xN, *]; done))))
 intro h6
 try simp at h6
 refine AW.seq (rgn [] [[],[5,8]] ?_)
 iterate 2 refine op1 tok ?_
 refine qA (cnd ?_ ?_)
 ·intro h8
  try simp at h8
  refine AW.skip (cnd ?_ ?_)
  ·intro h8
   try simp at h8
   refine rgn [] [[],[]] ?_
   iterate 2 refine op1 tok ?_
   refine qA ?_
   exact AW.ret (qK (k:=by (first | (exfalso; omega) | (simp [xN, *]; done))))
  intro h8
  try simp at h8
  refine AW.skip (rgn [] [[],[]] ?_)
  iterate 2 refine op1 tok ?_
  refine qA ?_
  exact AW.ret (qK (k:=by (first | (exfalso; omega) | (simp [xN, *]; done))))
 intro h8
 try simp at h8
 refine rgz [] [[],[8]] ?_
 iterate 2 refine op1 tok ?_
 refine qA (cnd ?_ ?_)
 ·intro h8
  try simp at h8
  refine rgn [] [[],[]] ?_
  iterate 2 refine op1 tok ?_
  refine qA ?_
  exact AW.ret (qK (k:=by (first | (exfalso; omega) | (simp [xN, *]; done))))
 intro h8
 try simp at h8
 refine AW.skip (rgn [] [[],[]] ?_)
 iterate 2 refine op1 tok ?_
 refine qA ?_
 exact AW.ret (qK (k:=by (first | (exfalso; omega) | (simp [xN, *]; done))))
theorem wX (code m:Int):AFn Tryz.prog G 34 [.agg [.int .u64 m],.int .i64 code] ((zO code m).enc):=by
 refine AFn.introU tok Tryz.func34 (by kernel_rfl) rfl rfl ?_
 simp only [Tryz.f34,qO,List.map_cons,List.map_nil]
 have hf:=qUF (G:=G) code m
 simp only [Val.enc_def] at hf
 refine rgn [] [[],[1,2,4]] ?_
 iterate 2 refine op1 tok ?_
 refine qA (rgn [.nilp,(zO code m).enc] [[],[],[],[4,8],[4]] ?_)
 iterate 5 refine oq1 tok hf ?_
 exact qA (AW.ret qK)
theorem qVD (m:Int):AFn Tryz.prog G 129 [.agg [.int .u64 m]] ((qVA m).enc):=by
 refine AFn.introU tok Tryz.func129 (by kernel_rfl) rfl rfl ?_
 simp only [Tryz.f129,qO,List.map_cons,List.map_nil]
 have e:qVA m = .mk 1 m dc0 [] [] [] 0:=rfl
 rw [e]
 refine rgn [] [[],[1,2]] ?_
 iterate 2 refine op1 tok ?_
 refine qA (rgn [] [[],[],[],[2]] ?_)
 iterate 4 refine op1 tok ?_
 refine qA ?_
 exact AW.ret (qK (k:=by simp [dc0]))
theorem qST (x:Bool) (m:Int):AFn Tryz.prog G 35 [.agg [.int .u64 m],.bool x] ((qJX x m).enc):=by
 refine AFn.introU tok Tryz.func35 (by kernel_rfl) rfl rfl ?_
 simp only [Tryz.f35,qO,List.map_cons,List.map_nil]
 have e:qJX x m = .mk (if x=true then 3 else 2) m dc0 [] [] [] 0:=rfl
 rw [e]
 refine rgn [] [[],[1,2,4]] ?_
 iterate 2 refine op1 tok ?_
 refine qA (AW.seq (rgn [] [[2,4,5]] ?_))
 refine op1 tok ?_
 refine qA (cnd ?_ ?_)
 ·intro h5
  try simp at h5
  rw [if_pos h5]
  refine rgn [] [[],[],[],[4]] ?_
  iterate 4 refine op1 tok ?_
  refine qA ?_
  exact AW.ret (qK (k:=by simp [dc0]))
 intro h5
 try simp at h5
 rw [if_neg (by rw [h5]; simp)]
 refine AW.skip (rgn [] [[],[],[],[4]] ?_)
 iterate 4 refine op1 tok ?_
 refine qA ?_
 exact AW.ret (qK (k:=by simp [dc0]))
theorem uL (s:List UInt8) (m:Int):AFn Tryz.prog G 36 [.agg [.int .u64 m],.str s] ((wP s m).enc):=by
 refine AFn.introU tok Tryz.func36 (by kernel_rfl) rfl rfl ?_
 simp only [Tryz.f36,qO,List.map_cons,List.map_nil]
 have hf:=wX (G:=G) 3 m
 have e:wP s m=if 4096<s.length then zO 3 m else .mk 5 m dc0 s [] [] 0:=rfl
 rw [e]
 simp only [Val.enc_def] at hf
 refine rgn [] [[],[1,2,4]] ?_
 iterate 2 refine op1 tok ?_
 refine qA (AW.seq (rgn [] [[],[],[1,2,4,7]] ?_))
 iterate 3 refine op1 tok ?_
 refine qA (cnd ?_ ?_)
 ·intro h7
  try simp at h7
  rw [if_pos (by omega)]
  refine rgn [.nilp,(zO 3 m).enc] [[],[],[4]] ?_
  iterate 3 refine oq1 tok hf ?_
  exact qA (AW.ret qK)
 intro h7
 try simp at h7
 rw [if_neg (by omega)]
 refine AW.skip (rgn [] [[],[],[],[4,13],[4]] ?_)
 iterate 5 refine op1 tok ?_
 refine qA ?_
 exact AW.ret (qK (k:=by simp [dc0]))
theorem vP (r:Dc × Int) (m:Int):AFn Tryz.prog G 41 [.agg [.int .u64 m],r.1.enc,.int .i64 r.2] ((vM r m).enc):=by
 refine AFn.introU tok Tryz.func41 (by kernel_rfl) rfl rfl ?_
 simp only [Tryz.f41,qO,List.map_cons,List.map_nil]
 have hf:=wX (G:=G) r.2 m
 have e:vM r m=if r.2=0 then .mk 4 m r.1 [] [] [] 0 else zO r.2 m:=rfl
 rw [e]
 simp only [Val.enc_def] at hf
 refine rgn [] [[],[],[2,3,4,6]] ?_
 iterate 3 refine op1 tok ?_
 refine qA (AW.seq (rgn [] [[],[2,3,4,6,8]] ?_))
 iterate 2 refine op1 tok ?_
 refine qA (cnd ?_ ?_)
 ·intro h8
  try simp at h8
  rw [if_neg (by simpa using h8)]
  refine rgn [.nilp,(zO r.2 m).enc] [[],[],[6,11],[6]] ?_
  iterate 4 refine oq1 tok hf ?_
  exact qA (AW.ret qK)
 intro h8
 try simp at h8
 rw [if_pos (by simpa using h8)]
 refine AW.skip (rgn [] [[],[],[],[6,15],[6]] ?_)
 iterate 5 refine op1 tok ?_
 refine qA ?_
 exact AW.ret (qK (k:=by simp [dc0]))
theorem qVE (l:List Val) (m:Int) (hl:∀ v∈l,Few v) (hn:l.length≤1000000):AFn Tryz.prog G 40 [.agg [.int .u64 m],.sl 9 (l.map Val.enc)] ((qJA l m).enc):=by
 refine AFn.introU tok Tryz.func40 (by kernel_rfl) rfl rfl ?_
 simp only [Tryz.f40,qO,List.map_cons,List.map_nil]
 have hf:=wX (G:=G) 3 m
 have hc:=qTK (G:=G) (.mk 6 m dc0 [] [] l 0) (.mk (by simp) (by simpa using hn) (by simpa using hl))
 have e:qJA l m=if 200<l.length then zO 3 m else .mk 6 m dc0 [] [] l 0:=rfl
 rw [e]
 simp only [Val.enc_def] at hf hc
 refine rgn [] [[],[1,2,4]] ?_
 iterate 2 refine op1 tok ?_
 refine qA (AW.seq (rgn [] [[],[],[1,2,4,7]] ?_))
 iterate 3 refine op1 tok ?_
 refine qA (cnd ?_ ?_)
 ·intro h7
  try simp at h7
  rw [if_pos (by omega)]
  refine rgn [.nilp,(zO 3 m).enc] [[],[],[4]] ?_
  iterate 3 refine oq1 tok hf ?_
  exact qA (AW.ret qK)
 intro h7
 try simp at h7
 rw [if_neg (by omega)]
 refine AW.skip (rgn [.nilp,(Val.mk 6 m dc0 [] [] l 0).enc] [[],[],[],[4,13],[],[4]] ?_)
 iterate 6 refine op1 tok ?_ (hv:=by first | with_reducible exact True.intro | ((simp [dc0] at hc ⊢; exact hc); done) | omega | simp | (simp +contextual; omega))
 exact qA (AW.ret qK)
end Go.Proofs.YtgcbapchinideaaGreatDoor
namespace Go.Proofs.YtgcbapchinideaaGreatDoor.Sy
open Go
set_option linter.unusedSimpArgs false
set_option linter.unusedVariables false
section
variable {P:Program} {T:Tab} {G:qM} {st:St}
end
section
variable {P:Program} {T:Tab} {G:qM} {st:St}
end
section
variable {P:Program} {T:Tab} {G:qM} {Q:Exit→St→Prop} {st:St}
theorem RowOf.drop {M:qY} {sz:Nat} {es:List PD} {news:List Value} (h:RowOf M sz es news) (n:Nat):RowOf M sz (es.drop n) (news.drop (n * sz)) where
 len:=by rw [List.length_drop,List.length_drop,h.len,Nat.sub_mul]
 one:=fun u hu=>h.one u (List.mem_of_mem_drop hu)
 elem:=fun i e he=>h.elem (n+i) e (by rwa [List.getElem?_drop] at he)
 get:=fun i e j d u he hd hu=>by
  rw [List.getElem?_drop] at he hu
  exact h.get (n+i) e j d u he hd (by rw [← hu]; congr 1; rw [Nat.add_mul]; omega)
end
section
variable {P:Program} {T:Tab} {G:qM} {l:List Oper} {tss:List (List Nat)} {K:uC→St→Prop} {st st' st0:St} {rest:List Oper} {ts:List Nat} {acc:uC} {o:Oper}
theorem yP.y (Hs H' : List (Nat × Box)) (x : V) (q : Bool) (hgd : o.guard = none) (y : zD P G o ⟨wI st.tmps ts, Hs.map (·.1), Hs, st.base⟩ x ⟨wI st.tmps ts, Hs.map (·.1), H', st.base⟩) (hq : q = true → H' = Hs) (hsub : ∀ p ∈ Hs, p ∈ st.H)
  (hids:∀ i∈V.ids x++kM H',i∈Hs.map (·.1)) (hn:ndB st.H=true) (hns:ndB Hs=true) (hst:st.after o.dst ⟨x,Hs,H',Hs.map (·.1),[],q⟩=st') (k:yP P G st0 rest tss st' (acc++[(Sm.mk x Hs H' (Hs.map (·.1)) [] q).sum]) K):yP P G st0 (o::rest) (ts::tss) st acc K:=by
 subst hst
 obtain ⟨sms,st1,e,hk⟩:=k
 have hgood:∀ i∈V.ids x++kM H',i∈Hs.map (·.1)∨i∈([]:List Nat):=fun i hi => .inl (hids i hi)
 have hky:∀ i,qJ i H'=true→i∈Hs.map (·.1)∨i∈([]:List Nat):=fun i hi => .inl (hids i (List.mem_append.2 (.inr (vE hi))))
 refine ⟨⟨x,Hs,H',Hs.map (·.1),[],q⟩::sms,st1,.one hgd (wL hn) ⟨hq,hgood,hky,by simp⟩ hsub (fun c M μ st' tmps w R K hG rel hle hbox hnw k => ?_) e,by simpa using hk⟩
 exact uU (s:=⟨x,Hs,H',Hs.map (·.1),[],q⟩) (small:=⟨wI st.tmps ts,Hs.map (·.1),Hs,st.base⟩) (s':=⟨wI st.tmps ts,Hs.map (·.1),H',st.base⟩) rfl (wL hns) rfl (fun i hi=>hi) hky hgood y c M μ st' tmps w R K hG rel hle hbox hnw k
end
section
variable {P:Program} {T:Tab} {G:qM} {Q:Exit→St→Prop} {st:St}
end
section
variable {P:Program} {T:Tab} {G:qM} {l:List Oper} {tss:List (List Nat)} {K:uC→St→Prop} {st st' st0:St} {rest:List Oper} {ts:List Nat} {acc:uC} {o:Oper}
end
section
variable {P:Program} {T:Tab} {G:qM} {o:Oper} {st st1 st':St} {x:V}
theorem AX.ofFn {f:FuncId} {al:List PD} {r:PD} {xs:List V} (h:AFn P G f al r) (hfit:V.fitsL [] xs al):AX P G f xs [] (.p r) [] []:=by
 refine ⟨h.1,fun M μ w vs hg rel => ?_⟩
 have hl:=V.fitsL_len hfit
 have hs:vs.size=al.length:=by have:=rel.slots.1; simp only at this; omega
 refine (h.2 M w vs hg rel.mem hs fun i u d hu hd => ?_).mono ?_
 ·have hi:i<xs.length:=by have:=(List.getElem?_eq_some_iff.1 hd).1; omega
  exact kC (rel.slots.2 i u _ hu (List.getElem?_eq_getElem hi)) (V.fitsL_get hfit (List.getElem?_eq_getElem hi) hd)
 rintro e w' ⟨v,M',rfl,hv,hmem,hM,hold,hbel⟩
 have r2:=rel.grows (Grows.of_below hbel) hM hmem hold
 refine ⟨v,M',μ,rfl,{ r2 with slots:=⟨by simp,fun i u y hu hy => ?_⟩ }⟩
 match i with
 | 0=>simp at hu hy; subst hu; subst hy; exact .p hv
 | i+1=>simp at hy
theorem AFn.of_AX {f:FuncId} {args:List PD} {k e sz:Nat} {es:List PD} (h:AX P G f (args.map .p) [] (.ms k) [] [(k,.row e sz es)]):AFn P G f args (.sl sz es):=by
 refine ⟨h.1,fun M w vs hg hmem hsz hrd=>(h.2 M (fun _=>default) w vs hg (Rel.plain _ hmem hsz hrd)).mono ?_⟩
 rintro e' w' ⟨v,M',μ',rfl,r1⟩
 obtain ⟨M2,r'⟩:=r1.freeze k
 have hno:∀ b, ¬ wC (fun _=>(default:Loc)) [] b:=fun b ⟨i,hi,_⟩=>by simp [qJ] at hi
 have hv:=r'.slots.2 0 v (.p (.sl sz es)) (by simp) (by simp)
 cases hv with
 | p hv=>exact ⟨v,M2,rfl,hv,r'.mem,r'.ext,fun b o hb=>r'.old b o fun hm=>hm.elim (fun h=>by simp at h; omega) (hno b),⟨r'.below.os,r'.below.tape,r'.below.output,r'.below.size,fun j hj=>r'.below.block j fun hm=>hm.elim (fun h=>by simp at h; omega) (hno j)⟩⟩
theorem zD.freeze (id:Nat) (h:st.freeze id=st1) (y:zD P G o st1 x st'):zD P G o st x st':=fun c M μ tmps w hg rel=>by
 subst h
 obtain ⟨M1,r1⟩:=rel.freeze id
 exact y c M1 μ tmps w hg r1
theorem zD.plain {id e sz:Nat} {es:List PD} (y:zD P G o st (.ms id) { st with H:=(id,.row e sz es)::st.H }):zD P G o st (.p (.sl sz es)) st:=fun c M μ tmps w hg rel=>by
 have h:=y c M μ tmps w hg rel
 revert h
 generalize (execOp (Act.eval ⟨tmps,[]⟩) o).run P w=r0
 have key:∀ u w',(∃ M' μ',Rel c M' μ' { st with H:=(id,.row e sz es)::st.H } tmps w'∧RV M' μ' u (.ms id))→∃ M' μ',Rel c M' μ' st tmps w'∧RV M' μ' u (.p (.sl sz es)):=by
  rintro u w' ⟨M1,μ1,r,hu⟩
  have hm:(id,Box.row e sz es)∈({ st with H:=(id,.row e sz es)::st.H }:St).H:=List.mem_cons_self
  have hk:qJ id ({ st with H:=(id,.row e sz es)::st.H }:St).H=true:=qE.2 ⟨_,hm⟩
  have hid:∀ i,qJ i st.H=true→i≠id:=fun i hi he=>by
   subst he
   obtain ⟨b,hb⟩:=qE.1 hi
   have:=r.nodup
   simp only [List.map_cons,List.nodup_cons] at this
   exact this.1 (List.mem_map.2 ⟨_,hb,rfl⟩)
  have hup:∀ i,qJ i st.H=true→qJ i ({ st with H:=(id,.row e sz es)::st.H }:St).H=true:=fun i hi=>by
   obtain ⟨b,hb⟩:=qE.1 hi
   exact qE.2 ⟨b,List.mem_cons_of_mem _ hb⟩
  let M2:qY:=fun b o=>if (μ1 id).blk=some b then w'.cell? ⟨b,o,none⟩ else M1 b o
  have e1:∀ b o,(μ1 id).blk=some b→M2 b o=w'.cell? ⟨b,o,none⟩:=fun b o h=>if_pos h
  have e2:∀ b o,(μ1 id).blk≠some b→M2 b o=M1 b o:=fun b o h=>if_neg h
  have hM:∀ b o v,M1 b o=some v→M2 b o=some v:=by
   intro b o v hv
   by_cases h:(μ1 id).blk=some b
   ·rw [e1 b o h]; exact r.mem b o v hv
   rw [e2 b o h]; exact hv
  have hd:Rd M2 (μ1 id).val (.sl sz es):=qAJ (r.box id _ hm) hM fun b h o v hv=>by rw [e1 b o h]; exact hv
  refine ⟨M2,μ1,⟨?_,fun b o v hv=>hM _ _ _ (r.ext b o v hv),fun b o hb => ?_,⟨r.slots.1,fun i u x hu hx=>(r.slots.2 i u x hu hx).mono hM fun _ _=>rfl⟩,r.pins,fun i bx hi=>(r.box i bx (List.mem_cons_of_mem _ hi)).mono hM rfl (fun _ _=>rfl) (fun _ _=>rfl), ?_,fun i j b hi hj=>r.inj i j b (hup i hi) (hup j hj),fun i b hi hib => ?_,r.size,r.below⟩, ?_⟩
  ·intro b o v hv
   by_cases h:(μ1 id).blk=some b
   ·rw [e1 b o h] at hv; exact hv
   rw [e2 b o h] at hv; exact r.mem b o v hv
  ·rw [e2 b o fun h=>hb (r.own id b hk h).1]; exact r.old b o hb
  ·have:=r.nodup
   simp only [List.map_cons,List.nodup_cons] at this
   exact this.2
  ·have h3:=r.own i b (hup i hi) hib
   exact ⟨h3.1,h3.2.1,fun o=>by rw [e2 b o fun h=>hid i hi (r.inj i id b (hup i hi) hk hib h)]; exact h3.2.2 o⟩
  cases hu with
  | ms h1 h2=>exact .p (h1 ▸ hd)
 intro h
 cases r0 with
 | halt x w'=>exact h.elim
 | ok n w' =>
  cases n <;> simp only [qQJ] at h ⊢
  case value v=>exact key _ _ h
  case skip=>exact key _ _ h
  case enter f args =>
   refine h.mono ?_
   rintro e w'' ⟨v,rfl,hn⟩
   exact ⟨v,rfl,key _ _ hn⟩
end
section
variable {P:Program} {T:Tab} {G:qM} {l:List Oper} {tss:List (List Nat)} {K:uC→St→Prop} {st st' st0:St} {rest:List Oper} {ts:List Nat} {acc:uC} {o:Oper}
end
section
variable {P:Program} {T:Tab} {G:qM} {Q:Exit→St→Prop}
def zAA (s s':St):Prop:=∀ c M μ tmps w,Rel c M μ s tmps w→Rel c M μ s' tmps w
theorem zAA.of {s s':St} (h:St.Le s s'):zAA s s':=fun _ _ _ _ _ r=>r.weaken h
variable {st:St}
end
set_option maxHeartbeats 4000000
section
variable {P:Program} {T:Tab} {G:qM} {Q:Exit→St→Prop}
theorem qXU (hT:TOK P T) {st:St} {o:Oper} {orc orc':List PD} {v:Prop} {x:V} (h:qGD T G st o.op orc=some (v,x,orc')) (hv:v):zD P G o st x st:=by
 intro c M μ tmps w hg r
 obtain ⟨u,e,hu⟩:=qEB hT hg r h hv
 rw [e]
 exact ⟨M,μ,r,hu⟩
def dd (b:Bool) (v:V):V:=if b=true then v else .dead
@[simp] theorem zEE (v:V):dd true v=v:=rfl
@[simp] theorem zDX (v:V):dd false v = .dead:=rfl
end
section
variable {P:Program} {T:Tab} {G:qM} {st:St}
end
section
variable {P:Program} {G:qM} {st st' st0:St} {rest:List Oper} {ts:List Nat} {tss:List (List Nat)} {acc:uC} {o:Oper} {K:uC→St→Prop}
theorem yP.q (ids : List Nat) (x : V) (hgd : o.guard = none) (y : zD P G o ⟨wI st.tmps ts, ids, [], st.base⟩ x ⟨wI st.tmps ts, ids, [], st.base⟩) (hids : ∀ i ∈ V.ids x, i ∈ ids) (hn : ndB st.H = true)
  (hst:st.after o.dst ⟨x,[],[],ids,[],true⟩=st') (k:yP P G st0 rest tss st' (acc++[(Sm.mk x [] [] ids [] true).sum]) K):yP P G st0 (o::rest) (ts::tss) st acc K:=by
 subst hst
 obtain ⟨sms,st1,e,hk⟩:=k
 have hgood:∀ i∈V.ids x++kM ([]:List (Nat × Box)),i∈ids∨i∈([]:List Nat):=fun i hi => .inl (hids i (by simpa [kM] using hi))
 refine ⟨⟨x,[],[],ids,[],true⟩::sms,st1,.one hgd (wL hn) ⟨fun _=>rfl,hgood,fun i hi=>by simp [qJ] at hi,by simp⟩ (by simp) (fun c M μ st' tmps w R K hG rel hle hbox hnw k => ?_) e,by simpa using hk⟩
 exact uU (s:=⟨x,[],[],ids,[],true⟩) (small:=⟨wI st.tmps ts,ids,[],st.base⟩) (s':=⟨wI st.tmps ts,ids,[],st.base⟩) rfl (by simp) rfl (fun i hi=>hi) (fun i hi=>by simp [qJ] at hi) hgood y c M μ st' tmps w R K hG rel hle hbox hnw k
end
section
variable {P:Program} {G:qM} {Q:Exit→St→Prop} {st:St}
end
end Go.Proofs.YtgcbapchinideaaGreatDoor.Sy
