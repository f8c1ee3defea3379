import Derived.Test.YtgcbapchinideaaGreatDoorK2
import Derived.Test.YtgcbapchinideaaGreatDoorM3
import Derived.Test.YtgcbapchinideaaGreatDoorM4
import Derived.Lib.MapLaws
import Derived.Lib.ValidLaws
import Derived.RangeFuncBox
import Derived.RangeFuncLeaves
import Derived.Shelf.Abstract
import Derived.WalkKit
import Derived.OwnWalkIn
import Derived.TacticsInMore
import Derived.LoopNIn
import Derived.LoopIn
import Derived.Maps.AppendAt
import Derived.Shelf.Sort.Plain
import Derived.Test.YtgcbapchinideaaGreatDoorProg
import Derived.Shelf.Unicode.DecodeAny
import Derived.Shelf.Small.Strs
import Derived.Shelf.Strings.Repeat
import Derived.Shelf.Strings.Builder1
import Derived.Shelf.Strings.OnBuilder
import Derived.Shelf.Slices.In.SortNone
import Derived.Sort.OwnSorted
import Derived.Lib.Repeat
import Derived.Shelf.Unicode.ValidAny
namespace Go.Proofs.YtgcbapchinideaaGreatDoor
open Sy Go
set_option maxRecDepth 100000
set_option maxHeartbeats 4000000
set_option linter.all false
variable {G:qR}
def vU (ch:Val->Val) (v:Val) (k:Nat):List PD:=(v.kids.take k).map (fun u=>(qEB ch u).enc)++(v.kids.drop k).map Val.enc
theorem zEP (ch:Val->Val) (v:Val) (k:Nat):(vU ch v k).length=v.kids.length:=by
 simp only[vU,List.length_append,List.length_map,List.length_take,List.length_drop];omega
@[simp] theorem zVS (ch:Val->Val) (v:Val):vU ch v 0=v.kids.map Val.enc:=by simp only[vU,List.take_zero,List.map_nil,List.nil_append,List.drop_zero]
theorem zEQ {ch:Val->Val} {v x:Val} {k:Nat} (hx:v.kids[k]?=some x):(vU ch v k)[k]?=some x.enc:=by
 have hk:=(List.getElem?_eq_some_iff.1 hx).1
 have h0:((v.kids.take k).map (fun u=>(qEB ch u).enc)).length=k:=by simp only[List.length_map,List.length_take];omega
 rw[vU,List.getElem?_append_right (by omega),h0,Nat.sub_self,List.getElem?_map,List.getElem?_drop,Nat.add_zero,hx];rfl
theorem zEO {ch:Val->Val} {v x:Val} {k:Nat} (hx:v.kids[k]?=some x):(vU ch v k).set k (qEB ch x).enc=vU ch v (k+1):=by
 have hk:=(List.getElem?_eq_some_iff.1 hx).1
 have hxk:=(List.getElem?_eq_some_iff.1 hx).2
 have h0:((v.kids.take k).map (fun u=>(qEB ch u).enc)).length=k:=by simp only[List.length_map,List.length_take];omega
 rw[vU,List.set_append_right _ _ (by omega),h0,Nat.sub_self,List.drop_eq_getElem_cons hk,vU,List.take_succ_eq_append_getElem hk,hxk]
 simp only[List.map_cons,List.set_cons_zero,List.map_append,List.map_nil,List.append_assoc,List.cons_append,List.nil_append]
theorem zAY (g:FuncId) (ch:Val->Val) (v:Val) (hg:∀ u:Val,AX Tryz.prog G g [.ptr 2 0] [(2,.vars 31 u.cells)] (.tuple []) [2] [(2,.vars 31 (ch u).cells)]) (hsm:v.keys.length<=1000000/\v.kids.length<=1000000) (ih:∀ k∈v.kids,AFn Tryz.prog G 100 [k.enc,.fn g] (qEB ch k).enc):AFn Tryz.prog G 100 [v.enc,.fn g] ((qEB ch v).enc):=by
 refine AFn.introU tok Tryz.func100 (by kernel_rfl) rfl rfl ?_
 simp only[Tryz.f100,qG,List.map_cons,List.map_nil]
 have hck:=zLO (G:=G) v.keys (by omega)
 have hcv:=jW (G:=G) v.kids (by omega)
 refine rgn [] [[],[1,2,4]] ?_
 iterate 2 refine op3 ?_
 refine qA ?_
 refine AW.seqRunDrawK tok mixed [1,2,4] 8 [[2],[7],[8],[2],[10],[11],[2],[13,9]] [.nilf,.sl 1 (v.keys.map PD.str),.clo 9 [],.nilf,.sl 9 (v.kids.map Val.enc),.clo 31 []] [] (by kernel_rfl) (by intro C;conv=>lhs;simp) (by first|exact hck|exact hcv|((repeat' (first|with_reducible apply And.intro|intro _)) <;> first|exact(hck)|exact(hcv)|assumption|omega|contradiction|simp_all)) (by simp[Sm.sum,Sm.foot,Sm.tch,Sm.refs];kernel_rfl) (by intro C;conv=>lhs;simp) (by first|exact True.intro|omega|simp) ?_
 refine AW.seq (rgn [] [[],[],[],[1,2,4,16,17,18]] ?_)
 iterate 4 refine op3 ?_
 refine qA (AW.block ?_)
 refine AW.loop (α:=Nat) (fun k=>k<=v.kids.length) (fun k=>⟨zA 34 [(1,.p (.fn g)),(2,.ptr 2 0),(4,.ptr 4 0),(16,.ms 12),(17,.p (.int .i64 v.kids.length)),(18,.p (.int .i64 k))],[],[(2,.vars 31 [.p (.int .i64 v.kind),.p (.int .u64 v.mask),.p (.bool v.num.neg),.p (.str v.num.digits),.p (.int .i64 v.num.scale),.p (.str v.text),.ms 9,.ms 12,.p (.int .i64 v.code)]),(4,.vars 31 [.p (.int .i64 0),.p (.int .u64 0),.p (.bool false),.p (.str []),.p (.int .i64 0),.p (.str []),.nilsl,.nilsl,.p (.int .i64 0)]),(9,.row 9 1 (v.keys.map PD.str)),(12,.row 31 9 (vU ch v k))],0⟩) (fun k=>v.kids.length-k) (0) (by simp) ⟨qE (by simp),rfl,by simp,by simp⟩ ?_
 rintro k hk
 refine rgn [] [[]] ?_
 refine op3 ?_
 refine qA (AW.seq (cnd ?_ ?_))
 ·intro h19
  try simp at h19
  obtain⟨x,hx⟩:∃ x,v.kids[k]?=some x:=⟨v.kids[k],by simp[h19]⟩
  have hx':=zEQ (ch:=ch) hx
  have hkl:=zEP ch v k
  have hix:=ih x (List.mem_of_getElem? hx)
  have hset:=zEO (ch:=ch) hx
  simp only[Val.enc_def]at hx' hix hset
  refine AW.skip (AW.seq (AW.block (rgn [x.enc] [[],[],[],[],[],[1,2,4,5,6,16,17,18]] ?_)))
  iterate 6 refine oq1 tok hx' ?_
  refine qA ?_
  refine AW.runDrawK tok mixed [1,2,4,16,17,18] 6 [[2],[23],[5],[6],[1],[26,27]] [.nilp,(qEB ch x).enc] [x.enc,(qEB ch x).enc] (by kernel_rfl) (by intro C;conv=>lhs;simp) (by first|exact hix|((repeat' (first|with_reducible apply And.intro|intro _)) <;> first|exact(hix)|exact(hx')|assumption|omega|contradiction|simp_all)) (by simp[Sm.sum,Sm.foot,Sm.tch,Sm.refs];kernel_rfl) (by intro C;conv=>lhs;simp) (by exact⟨by omega,hx'⟩) ?_
  refine rgz [] [[],[1,2,4,16,17,18]] ?_
  iterate 2 refine op3 ?_
  refine qA ?_
  exact⟨k+1,(by omega),(by omega),qE (by simp[hset]),rfl,by simp[hset],by simp[hset]⟩
 intro h19
 try simp at h19
 obtain rfl:k=v.kids.length:=by omega
 have hfull:vU ch v v.kids.length=(v.kids.map (qEB ch)).map Val.enc:=by simp only[vU,List.take_length,List.drop_length,List.map_nil,List.append_nil,List.map_map];rfl
 rw[hfull]
 refine AW.exit ?_
 simp
 refine rgn [] [[]] ?_
 refine op3 ?_
 refine qJ ?_
 refine qB.freeze 9 (by conv=>lhs;simp) ?_
 refine qB.freeze 12 (by conv=>lhs;simp) ?_
 refine qB.stepK [2,4] (zF rfl (hg (.mk v.kind v.mask v.num v.text v.keys (v.kids.map (qEB ch)) v.code)) (by simp)) (by conv=>lhs;simp) rfl ?_
 refine qB.nil ?_
 refine rgn [] [[],[4]] ?_
 iterate 2 refine op3 ?_
 refine qA ?_
 exact AW.ret (qI (k:=by simp[zHL ch v]))
inductive Few:Val->Prop
 | mk {v:Val} (h1:v.keys.length<=1000000) (h2:v.kids.length<=1000000) (h3:∀ k∈v.kids,Few k):Few v
theorem zHX (v:Val) (h:zX v=true):Few v :=
 Val.induct (p:=fun v=>zX v=true->Few v) (fun v ih hv=>by
  have hsm:=qLR hv
  exact .mk (by omega) (by omega) fun k hk=>ih k hk (jJ hv hk)) v h
theorem zEM (g:FuncId) (ch:Val->Val) (hg:∀ u:Val,AX Tryz.prog G g [.ptr 2 0] [(2,.vars 31 u.cells)] (.tuple []) [2] [(2,.vars 31 (ch u).cells)]) (v:Val) (hv:Few v):AFn Tryz.prog G 100 [v.enc,.fn g] (qEB ch v).enc:=by
 induction hv with
 | mk h1 h2 h3 ih=>exact zAY g ch _ hg ⟨h1,h2⟩ ih
theorem zLP (u:Val):AX Tryz.prog G 101 [.ptr 2 0] [(2,.vars 31 u.cells)] (.tuple []) [2] [(2,.vars 31 (id u).cells)]:=by
 refine AX.introU tok 900 Tryz.func101 (by kernel_rfl) rfl rfl ?_
 simp only[Tryz.f101,qG,List.map_cons,List.map_nil]
 refine AW.skip ?_
 exact qBY
theorem qVB (v:Val) (hv:Few v):AFn Tryz.prog G 70 [v.enc] (v.enc):=by
 refine AFn.introU tok Tryz.func70 (by kernel_rfl) rfl rfl ?_
 simp only[Tryz.f70,qG,List.map_cons,List.map_nil]
 have hm:=zEM (G:=G) 101 id zLP v hv
 rw[zTQ]at hm
 simp only[Val.enc_def]at hm
 refine rgn [] [[],[1,2]] ?_
 iterate 2 refine op3 ?_
 refine qA (rgn [.nilp,v.enc] [[],[],[2]] ?_)
 iterate 3 refine oq1 tok hm ?_
 exact qA (AW.ret qI)
theorem zQD (v:Val) (hv:zX v=true):AFn Tryz.prog G 70 [v.enc] v.enc:=qVB v (zHX v hv)
theorem zLI (v:Val) (ih:∀ k∈v.kids,AFn Tryz.prog G 30 [k.enc] (.int .u64 (zJ k))):AFn Tryz.prog G 30 [v.enc] (.int .u64 (zJ v)):=by
 refine AFn.introU tok Tryz.func30 (by kernel_rfl) rfl rfl ?_
 simp only[Tryz.f30,qG,List.map_cons,List.map_nil]
 refine rgn [] [[],[1]] ?_
 iterate 2 refine op3 ?_
 refine qA (rgn [] [[],[],[1,3]] ?_)
 iterate 3 refine op3 ?_
 refine qA (AW.seq (rgn [] [[],[],[],[3,9,10,11]] ?_))
 iterate 4 refine op3 ?_
 refine qA (AW.block ?_)
 refine AW.intFactU (i:=10) rfl (by decide) ?_;intro hlen;simp at hlen
 refine AW.loop (α:=Nat) (fun k=>k<=v.kids.length) (fun k=>⟨zA 21 [(3,.p (.int .u64 (uF v.mask (v.kids.take k)))),(9,.p (.sl 9 (v.kids.map Val.enc))),(10,.p (.int .i64 v.kids.length)),(11,.p (.int .i64 k))],[],[],0⟩) (fun k=>v.kids.length-k) (0) (by omega) ⟨qE (by simp),rfl,by simp,by simp⟩ ?_
 rintro k hk
 refine rgn [] [[]] ?_
 refine op3 ?_
 refine qA (AW.seq (cnd ?_ ?_))
 ·intro h12
  try simp at h12
  obtain⟨x,hx⟩:∃ x,v.kids[k]?=some x:=⟨v.kids[k],by simp[h12]⟩
  have hix:=ih x (List.mem_of_getElem? hx)
  simp only[Val.enc_def]at hix
  refine AW.skip (AW.seq (AW.block (rgn [x.enc] [[],[],[],[3,5,9,10,11]] ?_)))
  iterate 4 refine op3 ?_ (hv:=by first|exact True.intro|(simp[hx];done)|omega|simp)
  refine qA (rgz [.nilp,.int .u64 (zJ x)] [[],[],[],[9,10,11,18],[3,9,10,11]] ?_)
  iterate 5 refine oq1 tok hix ?_ (h:=by intro C;conv=>lhs;simp[zHB])
  refine qA (rgz [] [[],[3,9,10,11]] ?_)
  iterate 2 refine op3 ?_
  refine qA ?_
  exact⟨k+1,by omega,by omega,qE (by simp[qIW hx]),rfl,by simp[qIW hx],by simp[qIW hx]⟩
 intro h12
 try simp at h12
 rw[List.take_of_length_le h12]
 refine AW.exit ?_
 simp
 refine rgn [] [[],[2]] ?_
 iterate 2 refine op3 ?_
 refine qA ?_
 exact AW.ret (qI (k:=by simp[qRF v]))
theorem zUF (v:Val):AFn Tryz.prog G 30 [v.enc] (.int .u64 (zJ v)):=Val.induct (fun v ih=>zLI v ih) v
theorem zSE (v:Val) (m:Int) (hv:zX v=true):AFn Tryz.prog G 132 [v.enc,.int .u64 m] ((qEV v m).enc):=by
 refine AFn.introU tok Tryz.func132 (by kernel_rfl) rfl rfl ?_
 simp only[Tryz.f132,qG,List.map_cons,List.map_nil]
 have hm:=zQD (G:=G) v hv
 simp only[Val.enc_def]at hm
 refine rgn [] [[],[1,2,4]] ?_
 iterate 2 refine op3 ?_
 refine qA (rgn [.nilp,v.enc] [[],[],[1,2,4]] ?_)
 iterate 3 refine oq1 tok hm ?_
 refine qA (rgn [] [[],[],[],[2,4,10],[],[2,4]] ?_)
 iterate 6 refine op3 ?_ (h:=by intro C;conv=>lhs;simp[zHB])
 refine qA (rgn [] [[],[4]] ?_)
 iterate 2 refine op3 ?_
 exact qA (AW.ret qI)
open Go
open Go.Lib
def qNX (n:Nat):UInt8:=if n<10 then UInt8.ofNat (48+n) else UInt8.ofNat (87+n)
def qb (b:UInt8):List UInt8 :=
 if b=34\/b=92 then[92,b] else if b=10 then[92,110] else if b=13 then[92,114] else if b=9 then[92,116]
 else if b<32\/b=127 then[92,117,48,48,qNX (b.toNat / 16),qNX (b.toNat % 16)] else[b]
def qAZ (s:List UInt8):List UInt8:=s.flatMap qb
def kT (s:List UInt8):List UInt8:=34::(qAZ s++[34])
def wDV (c:UInt8):Option Nat:=if 48<=c/\c<=57 then some (c.toNat-48) else if 97<=c/\c<=102 then some (c.toNat-87) else if 65<=c/\c<=70 then some (c.toNat-55) else none
def wBX:List UInt8->Nat->Option Nat
 | [],x=>some x
 | c::l,x=>match wDV c with
  | none=>none
  | some k=>wBX l (16 * x+k)
def zVL (s:List UInt8):Option Nat:=if s.length<6\/s.take 2≠[92,117] then none else wBX ((s.drop 2).take 4) 0
def wDX (c:UInt8):Option Nat:=if c=34 then some 34 else if c=92 then some 92 else if c=47 then some 47 else if c=98 then some 8 else if c=102 then some 12 else if c=110 then some 10 else if c=114 then some 13 else if c=116 then some 9 else none
def wDW (u w:Option Nat):Nat × Nat × Bool :=
 if u.isSome=false\/u.getD 0 / 1024≠54 then(u.getD 0,6,u.isSome && decide (u.getD 0 / 1024≠55)) else(65536+u.getD 0 % 1024 * 1024+w.getD 0 % 1024,12,w.isSome && decide (w.getD 0 / 1024=55))
def zXY (s:List UInt8):Nat × Nat × Bool:=match s with
 | _::c::_=>match wDX c with
  | some v=>(v,2,true)
  | none=>wDW (zVL s) (zVL (s.drop 6))
 | _=>(0,0,false)
def wBZ (s:List UInt8):Option (Nat × Nat):=if(zXY s).2.2=true then some ((zXY s).1,(zXY s).2.1) else none
def qYU:Nat->List UInt8->Nat->List UInt8->List UInt8 × Nat × Int
 | 0,_,_,_=>([],0,6)
 | f+1,s,at',out=>if s=[] then([],0,6)
  else if(decodeL s).1=34 then(if 4096<out.length then([],0,3) else(out,at'+1,0))
  else if(decodeL s).1<32\/((decodeL s).1=65533/\(decodeL s).2=1) then([],0,6)
  else if(decodeL s).1=92 then(match wBZ s with
   | none=>([],0,6)
   | some (c,n)=>qYU f (s.drop n) (at'+n) (out++encodeRune c))
  else qYU f (s.drop (decodeL s).2) (at'+(decodeL s).2) (out++encodeRune (decodeL s).1)
def qOT (s:List UInt8):List UInt8 × Nat × Int:=if s.head?=some 34 then qYU s.length (s.drop 1) 1 [] else([],0,6)
theorem zFP {b:UInt8} {t:List UInt8} (h:b.toNat<128):decodeL (b::t)=(b.toNat,1):=by
 unfold decodeL
 rw[decode_at]
 have e:(⟨(b::t).toArray⟩:ByteArray).get! 0=b:=rfl
 rw[e]
 unfold decodeN
 rw[if_pos h]
theorem zNZ {b:UInt8} (h:b.toNat<128):encodeRune (b.toNat:Int)=[b]:=by
 simp only[encodeRune,encodeRuneZ_one (r:=(b.toNat:Int)) (by omega) (by omega),List.map_cons,List.map_nil]
 congr 1
 simp
theorem qNN (l:List UInt8):decodeL l=decodeN l.length (l.getD 0 0).toNat (l.getD 1 0).toNat (l.getD 2 0).toNat (l.getD 3 0).toNat:=by
 unfold decodeL
 rw[decode_at]
 have e:∀ k,(⟨l.toArray⟩:ByteArray).get! k=l.getD k 0:=by
  intro k
  show l.toArray[k]! = _
  simp[List.getD_eq_getElem?_getD]
  rfl
 simp only[e]
 rfl
theorem zLV (l:List UInt8) (hne:l≠[]) (hv:¬ ((decodeL l).1=65533/\(decodeL l).2=1)) (hb:128<=(l.getD 0 0).toNat):(∀ b∈l.take (decodeL l).2,128<=b.toNat)/\128<=(decodeL l).1:=by
 have hr:=qNN l
 have hle:=decodeL_le l hne
 have hlen:0<l.length:=by cases l with
  | nil=>exact absurd rfl hne
  | cons a l=>simp
 unfold decodeN at hr
 rw[if_neg (by omega)]at hr
 split at hr
 ·rename_i c
  split at hr
  ·rw[hr]at hv hle ⊢
   simp only at hle ⊢
   rw[takeB l (by omega)]
   refine⟨fun b hb' => ?_,by omega⟩
   simp at hb'
   rcases hb' with h|h <;> (subst h;simp at hb c;omega)
  rw[hr]at hv;exact absurd ⟨rfl,rfl⟩ hv
 split at hr
 ·rename_i c
  split at hr
  ·rw[hr]at hv hle ⊢
   simp only at hle ⊢
   rw[takeC l (by omega)]
   refine⟨fun b hb' => ?_,by omega⟩
   simp at hb'
   rcases hb' with h|h|h <;> (subst h;simp at hb c;omega)
  rw[hr]at hv;exact absurd ⟨rfl,rfl⟩ hv
 split at hr
 ·rename_i c
  split at hr
  ·rw[hr]at hv hle ⊢
   simp only at hle ⊢
   rw[takeD l (by omega)]
   refine⟨fun b hb' => ?_,by omega⟩
   simp at hb'
   rcases hb' with h|h|h|h <;> (subst h;simp at hb c;omega)
  rw[hr]at hv;exact absurd ⟨rfl,rfl⟩ hv
 rw[hr]at hv;exact absurd ⟨rfl,rfl⟩ hv
theorem zJZ {l:List UInt8} (h:∀ b∈l,128<=b.toNat):qAZ l=l:=by
 induction l with
 | nil=>rfl
 | cons b l ih =>
  have hb:=h b (by simp)
  have h1:qb b=[b]:=by
   unfold qb
   have ne:∀ c:UInt8,c.toNat<128->b≠c:=fun c hc e=>by subst e;omega
   rw[if_neg (by rintro(e|e) <;> exact ne _ (by decide) e),if_neg (ne _ (by decide)),if_neg (ne _ (by decide)),if_neg (ne _ (by decide)),if_neg]
   rintro(e|e)
   ·rw[UInt8.lt_iff_toNat_lt]at e
    simp at e;omega
   exact ne _ (by decide) e
  show qb b++qAZ l=_
  rw[h1,ih fun b hb=>h b (List.mem_cons_of_mem _ hb)]
  rfl
theorem qWI (a b:List UInt8):qAZ (a++b)=qAZ a++qAZ b:=by simp[qAZ]
def vI (s:List UInt8):Bool:=decide (0<s.length) && decide (qV s 0=45)
def qJR (s:List UInt8) (k:Nat) (digits:List UInt8):Option (Nat × List UInt8 × Nat) :=
 if k<s.length/\qV s k=46 then(if wO s (k+1)=0 then none else some (k+1+wO s (k+1),digits++(s.take (k+1+wO s (k+1))).drop (k+1),wO s (k+1))) else some (k,digits,0)
def upM (s:List UInt8) (k:Nat):Nat->Int
 | 0=>0
 | i+1=>10 * upM s k i+(qV s (k+i)-48)
def kJ (s:List UInt8) (k:Nat):Nat:=if k<s.length/\(qV s k=45\/qV s k=43) then k+1 else k
def qMX (s:List UInt8) (k:Nat):Option (Nat × Int) :=
 if k<s.length/\(qV s k=101\/qV s k=69) then
  (if wO s (kJ s (k+1))<1\/2<wO s (kJ s (k+1)) then none
   else some (kJ s (k+1)+wO s (kJ s (k+1)),if k+1<s.length/\qV s (k+1)=45 then-upM s (kJ s (k+1)) (wO s (kJ s (k+1))) else upM s (kJ s (k+1)) (wO s (kJ s (k+1)))))
 else some (k,0)
def xP:Dc × Int:=(⟨false,[],0⟩,4)
def uZ (neg:Bool) (digits:List UInt8) (sc:Int):Dc × Int:=if sc<0 then wU neg (digits++zZ (-sc).toNat) 0 else wU neg digits sc.toNat
def qFL (s:List UInt8) (neg:Bool) (digits:List UInt8) (scale:Nat):Option (Nat × Int)->Dc × Int
 | none=>xP
 | some (k,up)=>if k=s.length then uZ neg digits (scale-up) else xP
def qZA (s:List UInt8) (neg:Bool):Option (Nat × List UInt8 × Nat)->Dc × Int
 | none=>xP
 | some (k,digits,scale)=>qFL s neg digits scale (qMX s k)
def a0M (s:List UInt8):Nat:=if vI s=true then 1 else 0
def vY (s:List UInt8):Dc × Int :=
 if wO s (a0M s)=0\/(1<wO s (a0M s)/\qV s (a0M s)=48) then xP
 else qZA s (vI s) (qJR s (a0M s+wO s (a0M s)) ((s.take (a0M s+wO s (a0M s))).drop (a0M s)))
theorem qWE (s:List UInt8) (k:Nat) (h:k<=s.length):k+wO s k<=s.length:=by
 unfold wO
 have:=(List.takeWhile_sublist (l:=s.drop k) fun b:UInt8=>xV b.toNat).length_le
 simp at this;omega
theorem qZV {s:List UInt8} {k:Nat} (h:0<wO s k):k<s.length:=((qWC (Nat.zero_le _)).1 h).1
theorem qDS {s:List UInt8} {k i:Nat} (h:i<wO s k):k+i<s.length/\48<=qV s (k+i)/\qV s (k+i)<=57:=by
 have:=(qWC (Nat.le_of_lt h)).1 h
 simpa[xV]using this
theorem zJB {s:List UInt8} {k:Nat}:∀ {i:Nat},i<=2->i<=wO s k->0<=upM s k i/\upM s k i<=99/\(i<=1->upM s k i<=9)
 | 0,_,_=>by simp[upM]
 | 1,_,h=>by have:=qDS (s:=s) (k:=k) (i:=0) (by omega);simp[upM]at this ⊢; omega
 | 2,_,h=>by
  have h1:=qDS (s:=s) (k:=k) (i:=0) (by omega)
  have h2:=qDS (s:=s) (k:=k) (i:=1) (by omega)
  simp[upM]at h1 h2 ⊢; omega
theorem zRD (s:List UInt8):a0M s<=1:=by unfold a0M;split <;> omega
theorem zRL (s:List UInt8) (hs:s.length<=100000):AFn Tryz.prog G 26 [.str s] (.tup [(vY s).1.enc,.int .i64 (vY s).2]):=by
 refine AFn.introU tok Tryz.func26 (by kernel_rfl) rfl rfl ?_
 simp only[Tryz.f26,qG,List.map_cons,List.map_nil]
 have hrun:=fun k hk=>zWV (G:=G) s k (by omega) hk
 have hix:∀ k:Nat,k<s.length->s[k]?=some (s.getD k 0):=fun k h=>xW h
 refine rgn [] [[],[0,2]] ?_
 iterate 2 refine op3 ?_
 refine qA (rgn [] [[]] ?_)
 refine op3 ?_
 refine qA (rgn [.int .u8 (qV s 0)] [[],[],[],[],[],[0,2,4,15,17],[],[],[0,2,4,5]] ?_)
 iterate 4 refine op3 ?_ (hv:=by first|exact True.intro|exact fun h=>⟨h,by omega,_,hix 0 (by omega),rfl⟩|exact fun h=>⟨h,_,hix 0 (by omega),rfl⟩|simp;done|omega|simp)
 iterate 3 refine op4 ?_ (hv:=by first|exact True.intro|exact fun h=>⟨h,by omega,_,hix 0 (by omega),rfl⟩|exact fun h=>⟨h,_,hix 0 (by omega),rfl⟩|simp;done|omega|simp)
 iterate 2 refine op3 ?_ (hv:=by first|exact True.intro|exact fun h=>⟨h,by omega,_,hix 0 (by omega),rfl⟩|exact fun h=>⟨h,_,hix 0 (by omega),rfl⟩|simp;done|omega|simp)
 refine qA ?_
 refine AW.join (α:=Unit) (fun _=>True) (fun a=>⟨zA 175 [(0,.p (.str s)),(2,.ptr 2 0),(4,.p (.int .i64 (a0M s))),(5,.p (.bool (vI s)))],[],[(2,.vars 26 [.p (.bool false),.p (.str []),.p (.int .i64 0)])],0⟩) ?_ ?_
 ·
  refine rgn [] [[]] ?_
  refine op3 ?_
  refine qA (cnd ?_ ?_)
  ·intro h20
   try simp at h20
   refine rgz [] [[]] ?_
   refine op3 ?_
   refine qA ?_
   exact⟨(),trivial,qE (by simp[a0M,vI,h20]),rfl,by simp[a0M,vI,h20],by simp[a0M,vI,h20]⟩
  intro h20
  try simp at h20
  have hneg:vI s=false:=by
   rw[<-Bool.not_eq_true];intro h;simp only[vI,Bool.and_eq_true,decide_eq_true_eq]at h;exact h20 h.1 h.2
  have hneg0:=hneg
  have ha00:a0M s=0:=by simp[a0M,hneg]
  simp only[vI]at hneg0
  refine AW.skip ?_
  exact⟨(),trivial,qE (by simp[ha00,hneg0,hneg]),rfl,by simp[ha00,hneg0,hneg],by simp[ha00,hneg0,hneg]⟩
 ·
  rintro a hI
  have ha0:=zRD s
  have hn0:=qWD s (a0M s)
  have hp0:=qZV (s:=s) (k:=a0M s)
  have hin0:=qWE s (a0M s)
  refine rgn [.nilp,.int .i64 (wO s (a0M s))] [[],[],[],[0,2,4,5,6]] ?_
  iterate 4 refine op3 ?_ (hv:=by first|exact True.intro|(simp[hrun (a0M s) (by have:=zRD s;omega)];done)|omega|simp)
  refine qA (AW.seq (rgn [.int .u8 (qV s (a0M s))] [[],[],[],[],[],[0,2,4,5,6,26,29],[],[],[],[],[0,2,4,5,6,26,34],[0,2,4,5,6,35]] ?_))
  iterate 3 refine op3 ?_ (hv:=by first|exact True.intro|exact fun h1 h2=>⟨⟨h1,h2⟩,_,hix (a0M s) (hp0 (by omega)),rfl⟩|exact fun h1=>⟨h1,fun h2=>⟨h1,h2⟩⟩|simp;done|omega|simp)
  iterate 8 refine op4 ?_ (hv:=by first|exact True.intro|exact fun h1 h2=>⟨⟨h1,h2⟩,_,hix (a0M s) (hp0 (by omega)),rfl⟩|exact fun h1=>⟨h1,fun h2=>⟨h1,h2⟩⟩|simp;done|omega|simp)
  refine op3 ?_ (hv:=by first|exact True.intro|exact fun h1 h2=>⟨⟨h1,h2⟩,_,hix (a0M s) (hp0 (by omega)),rfl⟩|exact fun h1=>⟨h1,fun h2=>⟨h1,h2⟩⟩|simp;done|omega|simp)
  refine qA (cnd ?_ ?_)
  ·intro h35
   try simp at h35
   have hP:vY s=xP:=by unfold vY;rw[if_pos (by omega)]
   refine rgn [] [[],[],[2,3]] ?_
   iterate 3 refine op3 ?_
   refine qA ?_
   exact AW.ret (qI (k:=by simp[hP,xP]))
  intro h35
  try simp at h35
  have hP:vY s=qZA s (vI s) (qJR s (a0M s+wO s (a0M s)) ((s.take (a0M s+wO s (a0M s))).drop (a0M s))):=by unfold vY;rw[if_neg (by omega)]
  rw[hP]
  have hin:=hin0 (by have:=hp0 (by omega);omega)
  generalize hdg:(s.take (a0M s+wO s (a0M s))).drop (a0M s)=dg0
  have hdgl:dg0.length<=s.length:=by rw[<-hdg];simp;omega
  obtain⟨k1,hk1⟩:∃ k1,k1=a0M s+wO s (a0M s):=⟨_,rfl⟩
  rw[<-hk1]at hin hdg ⊢
  refine AW.skip (rgn [] [[],[],[],[],[],[0,2,4,5,6,42],[0,2,4,5,6,7]] ?_)
  iterate 7 refine op3 ?_ (hv:=by first|exact True.intro|(omega;done)|omega|simp)
  refine qA (rgn [] [[],[],[0,2,5,7,45],[0,2,4,5,7]] ?_)
  iterate 4 refine op3 ?_
  refine qA ?_
  rw[show((a0M s:Int)+(wO s (a0M s):Nat))=(k1:Nat) by omega]
  refine rgn [] [[]] ?_
  refine op3 ?_
  refine qA ?_
  refine AW.join (α:=Nat × List UInt8 × Nat) (fun a=>qJR s k1 dg0=some a/\a.1<=s.length/\a.2.1.length<=200000/\a.2.2<=s.length) (fun a=>⟨zA 175 [(0,.p (.str s)),(2,.ptr 2 0),(4,.p (.int .i64 a.1)),(5,.p (.bool (vI s))),(7,.p (.str a.2.1)),(8,.p (.int .i64 a.2.2))],[],[(2,.vars 26 [.p (.bool false),.p (.str []),.p (.int .i64 0)])],0⟩) ?_ ?_
  ·
   have hr1:=qWE s (k1+1)
   refine rgn [.int .u8 (qV s k1)] [[],[],[],[],[0,2,4,5,7,8,50],[],[],[],[],[0,2,4,5,7,8,55]] ?_
   iterate 5 refine op3 ?_ (hv:=by first|exact True.intro|exact fun h=>⟨h,_,hix k1 (by omega),rfl⟩|simp;done|omega|simp)
   iterate 4 refine op4 ?_ (hv:=by first|exact True.intro|exact fun h=>⟨h,_,hix k1 (by omega),rfl⟩|simp;done|omega|simp)
   refine op3 ?_ (hv:=by first|exact True.intro|exact fun h=>⟨h,_,hix k1 (by omega),rfl⟩|simp;done|omega|simp)
   refine qA (cnd ?_ ?_)
   ·intro h55
    try simp at h55
    refine rgn [.nilp,.int .i64 (wO s (k1+1))] [[],[],[],[],[0,2,4,5,7,8]] ?_
    iterate 5 refine op3 ?_ (hv:=by first|exact True.intro|omega|exact hrun (k1+1) (by omega);done|omega|simp)
    refine qA (AW.seq (rgn [] [[],[0,2,4,5,7,8,61]] ?_))
    iterate 2 refine op3 ?_
    refine qA (cnd ?_ ?_)
    ·intro h61
     try simp at h61
     have hP2:qJR s k1 dg0=none:=by simp[qJR,h55.1,h55.2,h61]
     refine rgn [] [[],[],[2,3]] ?_
     iterate 3 refine op3 ?_
     refine qA ?_
     exact AW.ret (qI (k:=by simp[hP2,qZA,xP]))
    intro h61
    try simp at h61
    refine AW.skip (rgn [] [[],[],[],[],[],[],[],[0,2,4,5,8,63,64,66,70],[],[0,2,4,5,8,72],[0,2,4,5,7,8]] ?_)
    iterate 11 refine op3 ?_
    refine qA (rgz [] [[],[],[],[0,2,5,7,8,76],[0,2,4,5,7,8]] ?_)
    iterate 5 refine op3 ?_
    refine qA ?_
    exact⟨(k1+1+wO s (k1+1),dg0++(s.take (k1+1+wO s (k1+1))).drop (k1+1),wO s (k1+1)),⟨by simp[qJR,h55.1,h55.2,h61],hr1 (by omega),by simp;omega,by have:=hr1 (by omega);show wO s (k1+1)<=s.length;omega⟩,qE (by simp[hdg,show((k1:Int)+1+(wO s (k1+1):Nat)).toNat=k1+1+wO s (k1+1) from by omega]),rfl,by simp[hdg,show((k1:Int)+1+(wO s (k1+1):Nat)).toNat=k1+1+wO s (k1+1) from by omega],by simp[hdg,show((k1:Int)+1+(wO s (k1+1):Nat)).toNat=k1+1+wO s (k1+1) from by omega]⟩
   intro h55
   try simp at h55
   refine AW.skip ?_
   exact⟨(k1,dg0,0),⟨by simp only[qJR];rw[if_neg (by intro h;exact h55 h.1 h.2)],hin,by show dg0.length<=200000;omega,by simp⟩,qE (by simp[hdg]),rfl,by simp[hdg],by simp[hdg]⟩
  ·
   rintro⟨k,digits,scale⟩ ⟨hp2,hk,hdl,hsc⟩
   simp only at hk hdl hsc
   have hT:qZA s (vI s) (qJR s k1 dg0)=qFL s (vI s) digits scale (qMX s k):=by rw[hp2];rfl
   rw[hT]
   have hix1:(k:Int)+1<s.length->s[((k:Int)+1).toNat]?=some (s.getD (k+1) 0):=fun h=>by rw[show((k:Int)+1).toNat=k+1 by omega];exact hix (k+1) (by omega)
   refine rgn [] [[]] ?_
   refine op3 ?_
   refine qA ?_
   refine AW.join (α:=Nat × Int) (fun b=>qMX s k=some b/\b.1<=300000 /\ -99<=b.2/\b.2<=99) (fun b=>⟨zA 175 [(0,.p (.str s)),(2,.ptr 2 0),(4,.p (.int .i64 b.1)),(5,.p (.bool (vI s))),(7,.p (.str digits)),(8,.p (.int .i64 scale)),(9,.p (.int .i64 b.2))],[],[(2,.vars 26 [.p (.bool false),.p (.str []),.p (.int .i64 0)])],0⟩) ?_ ?_
   ·
    refine rgn [.int .u8 (qV s k),.int .u8 (qV s k)] [[],[],[],[],[0,2,4,5,7,8,9,81],[],[],[],[],[0,2,4,5,7,8,9,81,86],[],[],[],[],[0,2,4,5,7,8,9,81,91],[0,2,4,5,7,8,9,92]] ?_
    iterate 5 refine op3 ?_ (hv:=by first|exact True.intro|(((repeat' (first|with_reducible apply And.intro|intro _)) <;> first|omega|assumption|contradiction|exact⟨_,hix _ (by omega),rfl⟩|simp_all);done)|omega|simp)
    iterate 10 refine op4 ?_ (hv:=by first|exact True.intro|(((repeat' (first|with_reducible apply And.intro|intro _)) <;> first|omega|assumption|contradiction|exact⟨_,hix _ (by omega),rfl⟩|simp_all);done)|omega|simp)
    refine op3 ?_ (hv:=by first|exact True.intro|(((repeat' (first|with_reducible apply And.intro|intro _)) <;> first|omega|assumption|contradiction|exact⟨_,hix _ (by omega),rfl⟩|simp_all);done)|omega|simp)
    refine qA (cnd ?_ ?_)
    ·intro h92
     try simp at h92
     refine rgn [] [[],[],[0,2,4,5,7,8,9]] ?_
     iterate 3 refine op3 ?_
     refine qA (rgn [.int .u8 (qV s (k+1))] [[],[],[],[],[0,2,4,5,7,8,9,99],[],[],[],[],[0,2,4,5,7,8,9,104],[0,2,4,5,7,8,9,10]] ?_)
     iterate 5 refine op3 ?_ (hv:=by first|exact True.intro|(((repeat' (first|with_reducible apply And.intro|intro _)) <;> first|omega|assumption|contradiction|exact⟨_,hix _ (by omega),rfl⟩|simp_all);done)|omega|simp)
     iterate 4 refine op4 ?_ (hv:=by first|exact True.intro|(((repeat' (first|with_reducible apply And.intro|intro _)) <;> first|omega|assumption|contradiction|exact⟨_,hix _ (by omega),rfl⟩|simp_all);done)|omega|simp)
     iterate 2 refine op3 ?_ (hv:=by first|exact True.intro|(((repeat' (first|with_reducible apply And.intro|intro _)) <;> first|omega|assumption|contradiction|exact⟨_,hix _ (by omega),rfl⟩|simp_all);done)|omega|simp)
     refine qA ?_
     refine AW.join (α:=Unit) (fun _=>True) (fun a=>⟨zA 175 [(0,.p (.str s)),(2,.ptr 2 0),(4,.p (.int .i64 (kJ s (k+1)))),(5,.p (.bool (vI s))),(7,.p (.str digits)),(8,.p (.int .i64 scale)),(9,.p (.int .i64 0)),(10,.p (.bool (decide (k+1<s.length) && decide (qV s (k+1)=45))))],[],[(2,.vars 26 [.p (.bool false),.p (.str []),.p (.int .i64 0)])],0⟩) ?_ ?_
     ·
      refine rgn [.int .u8 (qV s (k+1)),.int .u8 (qV s (k+1))] [[],[],[],[],[0,2,4,5,7,8,9,10,109],[],[],[],[],[0,2,4,5,7,8,9,10,109,114],[],[],[],[],[0,2,4,5,7,8,9,10,109,119],[0,2,4,5,7,8,9,10,120]] ?_
      iterate 5 refine op3 ?_ (hv:=by first|exact True.intro|(((repeat' (first|with_reducible apply And.intro|intro _)) <;> first|omega|assumption|contradiction|exact⟨_,hix _ (by omega),rfl⟩|simp_all);done)|omega|simp)
      iterate 10 refine op4 ?_ (hv:=by first|exact True.intro|(((repeat' (first|with_reducible apply And.intro|intro _)) <;> first|omega|assumption|contradiction|exact⟨_,hix _ (by omega),rfl⟩|simp_all);done)|omega|simp)
      refine op3 ?_ (hv:=by first|exact True.intro|(((repeat' (first|with_reducible apply And.intro|intro _)) <;> first|omega|assumption|contradiction|exact⟨_,hix _ (by omega),rfl⟩|simp_all);done)|omega|simp)
      refine qA (cnd ?_ ?_)
      ·intro h120
       try simp at h120
       refine rgz [] [[],[],[0,2,4,5,7,8,9,10]] ?_
       iterate 3 refine op3 ?_
       refine qA ?_
       exact⟨(),trivial,qE (by simp[show kJ s (k+1)=k+1+1 from by(unfold kJ;rw[if_pos ⟨by omega,h120.2⟩]),show((k:Int)+1<(s.length:Int))=(k+1<s.length) from propext (by omega)]),rfl,by simp[show kJ s (k+1)=k+1+1 from by(unfold kJ;rw[if_pos ⟨by omega,h120.2⟩]),show((k:Int)+1<(s.length:Int))=(k+1<s.length) from propext (by omega)],by simp[show kJ s (k+1)=k+1+1 from by(unfold kJ;rw[if_pos ⟨by omega,h120.2⟩]),show((k:Int)+1<(s.length:Int))=(k+1<s.length) from propext (by omega)]⟩
      intro h120
      try simp at h120
      refine AW.skip ?_
      exact⟨(),trivial,qE (by simp[show kJ s (k+1)=k+1 from by(unfold kJ;rw[if_neg (by intro h;have:=h120 (by omega);omega)]),show((k:Int)+1<(s.length:Int))=(k+1<s.length) from propext (by omega)]),rfl,by simp[show kJ s (k+1)=k+1 from by(unfold kJ;rw[if_neg (by intro h;have:=h120 (by omega);omega)]),show((k:Int)+1<(s.length:Int))=(k+1<s.length) from propext (by omega)],by simp[show kJ s (k+1)=k+1 from by(unfold kJ;rw[if_neg (by intro h;have:=h120 (by omega);omega)]),show((k:Int)+1<(s.length:Int))=(k+1<s.length) from propext (by omega)]⟩
     ·
      rintro a hI
      have hsg:kJ s (k+1)<=s.length+1:=by unfold kJ;split <;> omega
      have hin3:=qWE s (kJ s (k+1))
      have hp3:=qZV (s:=s) (k:=kJ s (k+1))
      have hn3:=qWD s (kJ s (k+1))
      obtain⟨k3,hk3⟩:∃ k3,k3=kJ s (k+1):=⟨_,rfl⟩
      rw[<-hk3]at hsg hin3 hp3 hn3 ⊢
      refine rgn [.nilp,.int .i64 (wO s k3)] [[],[],[],[0,2,4,5,6,7,8,9,10]] ?_
      iterate 4 refine op3 ?_ (hv:=by first|exact True.intro|(exact hrun k3 (by omega);done)|omega|simp)
      refine qA (AW.seq (rgn [] [[],[],[],[],[],[0,2,4,5,6,7,8,9,10,131]] ?_))
      iterate 3 refine op3 ?_
      iterate 2 refine op4 ?_
      refine op3 ?_
      refine qA (cnd ?_ ?_)
      ·intro h131
       try simp at h131
       have hP3:qMX s k=none:=by simp only[qMX];rw[if_pos h92,<-hk3,if_pos (by omega)]
       refine rgn [] [[],[],[2,3]] ?_
       iterate 3 refine op3 ?_
       refine qA ?_
       exact AW.ret (qI (k:=by simp[hP3,qFL,xP]))
      intro h131
      try simp at h131
      have hP3:qMX s k=some (k3+wO s k3,if k+1<s.length/\qV s (k+1)=45 then-upM s k3 (wO s k3) else upM s k3 (wO s k3)):=by simp only[qMX];rw[if_pos h92,<-hk3,if_neg (by omega)]
      have hk3l:k3<s.length:=hp3 (by omega)
      have hdig:=fun i=>qDS (s:=s) (k:=k3) (i:=i)
      refine AW.skip (AW.seq (rgn [] [[]] ?_))
      refine op3 ?_
      refine qA (AW.block ?_)
      refine AW.loop (α:=Nat) (fun i=>i<=wO s k3) (fun i=>⟨zA 175 [(0,.p (.str s)),(2,.ptr 2 0),(4,.p (.int .i64 k3)),(5,.p (.bool (vI s))),(6,.p (.int .i64 (wO s k3))),(7,.p (.str digits)),(8,.p (.int .i64 scale)),(9,.p (.int .i64 (upM s k3 i))),(10,.p (.bool (decide (k+1<s.length) && decide (qV s (k+1)=45)))),(11,.p (.int .i64 i))],[],[(2,.vars 26 [.p (.bool false),.p (.str []),.p (.int .i64 0)])],0⟩) (fun i=>wO s k3-i) (0) (by omega) ⟨qE (by simp[upM]),rfl,by simp,by simp⟩ ?_
      rintro i hi
      have hup:=zJB (s:=s) (k:=k3) (i:=i) (by omega) hi
      refine AW.seq (rgn [] [[],[],[0,2,4,5,6,7,8,9,10,11,135]] ?_)
      iterate 3 refine op3 ?_
      refine qA (cnd ?_ ?_)
      ·intro h135
       try simp at h135
       have hdi:=hdig i h135
       have hw:IntKind.u8.wrap (qV s (k3+i)-48)=qV s (k3+i)-48:=by simp[IntKind.wrap,IntKind.bits,IntKind.signed];omega
       refine AW.skip (AW.seq (AW.block (rgz [.int .u8 (qV s (k3+i))] [[],[],[],[],[],[0,2,4,5,6,7,8,10,11,139,140,143],[],[],[0,2,4,5,6,7,8,10,11,139,146],[],[0,2,4,5,6,7,8,9,10,11]] ?_)))
       iterate 11 refine op3 ?_ (hv:=by first|exact True.intro|(((repeat' (first|with_reducible apply And.intro|intro _)) <;> first|omega|assumption|contradiction|exact⟨_,hix _ (by omega),rfl⟩|(rw[hw];omega)|simp_all);done)|omega|simp)
       refine qA (rgz [] [[],[],[0,2,4,5,6,7,8,9,10,11]] ?_)
       iterate 3 refine op3 ?_
       refine qA ?_
       exact⟨i+1,by omega,by omega,qE (by simp[upM,hw]),rfl,by simp[upM,hw],by simp[upM,hw]⟩
      intro h135
      try simp at h135
      have hi2:i=wO s k3:=by omega
      subst hi2
      have hup2:=hin3 (by omega)
      have hw2:IntKind.i64.wrap (- upM s k3 (wO s k3)) = - upM s k3 (wO s k3):=by simp[IntKind.wrap,IntKind.bits,IntKind.signed];omega
      refine AW.exit ?_
      simp
      refine rgn [] [[],[],[0,2,5,7,8,9,10,150],[0,2,4,5,7,8,9,10]] ?_
      iterate 4 refine op3 ?_
      refine qA (rgn [] [[0,2,4,5,7,8,9,151]] ?_)
      refine op3 ?_
      refine qA (cnd ?_ ?_)
      ·intro h151
       try simp at h151
       rw[if_pos h151]at hP3
       refine rgz [] [[],[],[0,2,4,5,7,8,9]] ?_
       iterate 3 refine op3 ?_
       refine qA ?_
       exact⟨k3+wO s k3, - upM s k3 (wO s k3),⟨hP3,by omega,by omega,by omega⟩,qE (by simp[hw2]),rfl,by simp[hw2],by simp[hw2]⟩
      intro h151
      try simp at h151
      rw[if_neg (by intro h;exact h151 h.1 h.2)]at hP3
      refine AW.skip ?_
      exact⟨k3+wO s k3,upM s k3 (wO s k3),⟨hP3,by omega,by omega,by omega⟩,qE (by simp),rfl,by simp,by simp⟩
    intro h92
    try simp at h92
    refine AW.skip ?_
    exact⟨(k,0),⟨by simp only[qMX];rw[if_neg (by intro h;have:=h92 h.1;omega)],by show k<=300000;omega,by simp,by simp⟩,qE (by simp),rfl,by simp,by simp⟩
   ·
    rintro⟨k2,up⟩ ⟨hp3,hk2,hu1,hu2⟩
    simp only at hk2 hu1 hu2
    rw[hp3]
    refine AW.seq (rgn [] [[],[],[],[2,5,7,8,9,157]] ?_)
    iterate 4 refine op3 ?_
    refine qA (cnd ?_ ?_)
    ·intro h157
     try simp at h157
     have hR:qFL s (vI s) digits scale (some (k2,up))=xP:=by simp only[qFL];rw[if_neg (by omega)]
     refine rgn [] [[],[],[2,3]] ?_
     iterate 3 refine op3 ?_
     refine qA ?_
     exact AW.ret (qI (k:=by simp[hR,xP]))
    intro h157
    try simp at h157
    have hR:qFL s (vI s) digits scale (some (k2,up))=uZ (vI s) digits (scale-up):=by simp only[qFL];rw[if_pos (by omega)]
    rw[hR]
    clear hR hp3
    have hw3:IntKind.i64.wrap (-((scale:Int)-up)) = -((scale:Int)-up):=by simp[IntKind.wrap,IntKind.bits,IntKind.signed];omega
    have hz:=zMJ (G:=G) (-((scale:Int)-up)) (by omega)
    have hzl:(zZ (-((scale:Int)-up)).toNat).length<=300000:=by simp[zZ];omega
    refine AW.skip (rgn [] [[],[],[2,5,7,161],[2,5,7,8]] ?_)
    iterate 4 refine op3 ?_
    refine qA (AW.seq (rgn [] [[],[2,5,7,8,163]] ?_))
    iterate 2 refine op3 ?_
    refine qA (cnd ?_ ?_)
    ·intro h163
     try simp at h163
     have hL:uZ (vI s) digits ((scale:Int)-up)=wU (vI s) (digits++zZ (-((scale:Int)-up)).toNat) 0:=by simp only[uZ];rw[if_pos (by omega)]
     have hN:=zIO (G:=G) (vI s) (digits++zZ (-((scale:Int)-up)).toNat) 0 (by simp;omega) (by omega)
     refine rgn [.nilp,.str (zZ (-((scale:Int)-up)).toNat)] [[],[],[],[2,5,164,167],[],[2,5,7]] ?_
     iterate 6 refine op3 ?_ (hv:=by first|exact True.intro|(rw[hw3];exact hz)|omega;done|omega|simp)
     refine qA (rgz [] [[]] ?_)
     refine op3 ?_
     refine qA (rgn [.nilp,.tup [(wU (vI s) (digits++zZ (-((scale:Int)-up)).toNat) 0).1.enc,.int .i64 (wU (vI s) (digits++zZ (-((scale:Int)-up)).toNat) 0).2]] [[],[],[],[2,172],[],[],[],[2,3]] ?_)
     iterate 8 refine oq1 tok hN ?_
     refine qA ?_
     exact AW.ret (qI (k:=by simp[hL]))
    intro h163
    try simp at h163
    obtain⟨sc,hsc2⟩:∃ sc:Nat,(sc:Int)=(scale:Int)-up:=⟨((scale:Int)-up).toNat,by omega⟩
    have hL:uZ (vI s) digits ((scale:Int)-up)=wU (vI s) digits sc:=by simp only[uZ];rw[if_neg (by omega),<-hsc2];rfl
    have hN:=zIO (G:=G) (vI s) digits sc (by omega) (by omega)
    rw[hsc2]at hN
    refine AW.skip (rgn [.nilp,.tup [(wU (vI s) digits sc).1.enc,.int .i64 (wU (vI s) digits sc).2]] [[],[],[],[2,172],[],[],[],[2,3]] ?_)
    iterate 8 refine oq1 tok hN ?_
    refine qA ?_
    exact AW.ret (qI (k:=by simp[hL]))
def wV (d:Dc):List UInt8:=zZ (d.scale.toNat+1-d.digits.length)++d.digits
def xD (d:Dc):List UInt8:=(if d.neg=true then[45] else[])++(if d.scale=0 then wV d else(wV d).take ((wV d).length-d.scale.toNat)++46::(wV d).drop ((wV d).length-d.scale.toNat))
theorem qZF (n:Nat) (s:List UInt8):qX (zZ n++s)=qX s:=by
 induction n with
 | zero=>rfl
 | succ n ih=>simp only[zZ,List.replicate_succ,List.cons_append,qX,List.dropWhile_cons]at ih ⊢; simp[ih]
theorem zKL {d:Dc} (h:zO d=true) (n:Nat):wU d.neg (zZ n++d.digits) d.scale.toNat=(d,0):=by
 unfold zO at h
 simp only[Bool.and_eq_true,decide_eq_true_eq]at h
 obtain⟨⟨h1,h2⟩,h3⟩:=h
 unfold wU
 rw[qZF]
 by_cases hz:d.digits=[48]
 ·rw[if_pos hz]at h3
  simp at h3
  have:qX d.digits=[]:=by rw[hz];rfl
  rw[this,h3.1]
  simp only[Int.toNat_zero,wH,if_true]
  obtain⟨ng,dg,sc⟩:=d
  simp only at hz h3 ⊢
  rw[hz,h3.1,h3.2]
 rw[if_neg hz]at h3
 simp at h3
 obtain⟨ng,dg,sc⟩:=d
 simp only at hz h1 h2 h3 ⊢
 have e1:qX dg=dg:=by
  cases dg with
  | nil=>rfl
  | cons b t =>
   have hb:b≠48:=by rintro rfl;exact h3.1 rfl
   simp[qX,List.dropWhile_cons,hb]
 have e2:wH dg sc.toNat=(dg,sc.toNat):=by
  cases hs:sc.toNat with
  | zero=>rfl
  | succ k =>
   simp only[wH]
   rw[if_neg]
   intro hl
   have:=(qBZ (d:=dg) (by omega)).2 hl
   rcases h3.2 with h|h
   ·omega
   exact h this
 rw[e1,e2]
 simp only
 rw[if_neg (by intro e;rw[e]at h2;simp at h2),if_neg (by omega)]
 rw[show((sc.toNat:Nat):Int)=sc by omega]
theorem qVI (n:Nat):(zZ n).all qO=true:=by
 rw[List.all_eq_true];intro b hb;have:=(List.mem_replicate.1 hb).2;subst this;decide
theorem zMA {p:UInt8->Bool} {l:List UInt8} (h:l.all p=true) (n:Nat):(l.take n).all p=true:=by
 rw[List.all_eq_true]at h ⊢; exact fun b hb=>h b (List.mem_of_mem_take hb)
theorem zMB {p:UInt8->Bool} {l:List UInt8} (h:l.all p=true) (n:Nat):(l.drop n).all p=true:=by
 rw[List.all_eq_true]at h ⊢; exact fun b hb=>h b (List.mem_of_mem_drop hb)
theorem zEC {d:Dc} (h:zO d=true):∃ W R:List UInt8,xD d=(if d.neg=true then[45] else[])++(W++if R=[] then[] else 46::R)/\W.all qO=true/\R.all qO=true/\W≠[]/\(W.length=1\/qV W 0≠48)/\wU d.neg (W++R) R.length=(d,0):=by
 have hd:=h
 unfold zO at hd
 simp only[Bool.and_eq_true,decide_eq_true_eq]at hd
 obtain⟨⟨h1,h2⟩,h3⟩:=hd
 have hpa:(wV d).all qO=true:=by unfold wV;rw[List.all_append,qVI,h1];rfl
 have hpl:(wV d).length=if d.scale.toNat+1<=d.digits.length then d.digits.length else d.scale.toNat+1:=by
  unfold wV;simp[zZ];split <;> omega
 have hn:=zKL h (d.scale.toNat+1-d.digits.length)
 have hp0:qV (wV d) 0=48->wV d=[48]\/(d.digits.length<=d.scale.toNat):=by
  intro hb
  by_cases hz:d.digits.length<=d.scale.toNat
  ·exact .inr hz
  refine .inl ?_
  have e:wV d=d.digits:=by unfold wV;rw[show d.scale.toNat+1-d.digits.length=0 by omega];rfl
  rw[e]at hb ⊢
  by_cases hz:d.digits=[48]
  ·exact hz
  rw[if_neg hz]at h3;simp at h3;exact absurd hb h3.1
 unfold xD
 by_cases hs:d.scale=0
 ·rw[if_pos hs]
  refine⟨wV d,[],by simp,hpa,rfl,by intro e;rw[e]at hpl;simp at hpl;split at hpl <;> omega, ?_, ?_⟩
  ·by_cases hb:qV (wV d) 0=48
   ·rcases hp0 hb with e|e
    ·rw[e];exact .inl rfl
    omega
   exact .inr hb
  rw[List.append_nil,List.length_nil,show(0:Nat)=d.scale.toNat by omega]
  exact hn
 rw[if_neg hs]
 have hle:d.scale.toNat+1<=(wV d).length:=by rw[hpl];split <;> omega
 have hRl:((wV d).drop ((wV d).length-d.scale.toNat)).length=d.scale.toNat:=by rw[List.length_drop];omega
 have hWl:((wV d).take ((wV d).length-d.scale.toNat)).length=(wV d).length-d.scale.toNat:=by rw[List.length_take];omega
 have hRne:(wV d).drop ((wV d).length-d.scale.toNat)≠[]:=by intro e;rw[e]at hRl;simp at hRl;omega
 have hWne:(wV d).take ((wV d).length-d.scale.toNat)≠[]:=by intro e;rw[e]at hWl;simp at hWl;omega
 have hb0:qV ((wV d).take ((wV d).length-d.scale.toNat)) 0=qV (wV d) 0:=by
  unfold qV
  rw[List.getD_eq_getElem?_getD,List.getElem?_take,if_pos (by omega),<-List.getD_eq_getElem?_getD]
 refine⟨(wV d).take ((wV d).length-d.scale.toNat),(wV d).drop ((wV d).length-d.scale.toNat),by rw[if_neg hRne],zMA hpa _,zMB hpa _,hWne, ?_, ?_⟩
 ·rw[hb0]
  by_cases hb:qV (wV d) 0=48
  ·rcases hp0 hb with e|e
   ·rw[e]at hle;simp at hle;omega
   left;rw[hWl,hpl,if_neg (by omega)];omega
  exact .inr hb
 rw[hRl,List.take_append_drop]
 exact hn
def jX (t:List UInt8):List UInt8:=if t.head?=some 45\/t.head?=some 43 then t.drop 1 else t
def qKF (s:List UInt8):Option Int:=match s with
 | []=>some 0
 | b::t=>if b≠101/\b≠69 then none
  else if(jX t).dropWhile qO≠[]\/((jX t).takeWhile qO).length<1\/2<((jX t).takeWhile qO).length then none
  else some (if t.head?=some 45 then-(qHJ ((jX t).takeWhile qO):Int) else qHJ ((jX t).takeWhile qO))
def zAM (s:List UInt8):Bool:=decide (s.head?=some 45)
def qBK (s:List UInt8):List UInt8:=if s.head?=some 45 then s.drop 1 else s
def qKE (r:List UInt8):Option (List UInt8 × List UInt8) :=
 if r.head?=some 46 then(if(r.drop 1).takeWhile qO=[] then none else some ((r.drop 1).takeWhile qO,(r.drop 1).dropWhile qO)) else some ([],r)
def zFH (neg:Bool) (W P:List UInt8):Option Int->Dc × Int
 | none=>xP
 | some up=>if W=[]\/(1<W.length/\W.head?=some 48) then xP else uZ neg (W++P) (P.length-up)
def xE (s:List UInt8):Dc × Int:=match qKE ((qBK s).dropWhile qO)with
 | none=>xP
 | some (P,r)=>zFH (zAM s) ((qBK s).takeWhile qO) P (qKF r)
theorem qYW {W F:List UInt8} (hW:W.all qO=true) (hF:∀ b,F.head?=some b->qO b=false):(W++F).takeWhile qO=W/\(W++F).dropWhile qO=F:=by
 induction W with
 | nil =>
  cases F with
  | nil=>exact⟨rfl,rfl⟩
  | cons b F=>have:=hF b rfl;simp[List.takeWhile_cons,List.dropWhile_cons,this]
 | cons b W ih =>
  simp only[List.all_cons,Bool.and_eq_true]at hW
  obtain⟨h1,h2⟩:=ih hW.2
  simp[List.takeWhile_cons,List.dropWhile_cons,hW.1,h1,h2]
theorem zAB (ng:Bool) (W R:List UInt8) (hW:W.all qO=true) (hR:R.all qO=true) (h0:W≠[]) (h1:W.length=1\/qV W 0≠48) :
  xE ((if ng=true then[45] else[])++(W++if R=[] then[] else 46::R))=wU ng (W++R) R.length:=by
 generalize hF:(if R=[] then[] else 46::R)=F
 generalize hs:((if ng=true then[45] else[])++(W++F))=s
 obtain⟨w0,W',rfl⟩:∃ w0 W',W=w0::W':=by cases W with
  | nil=>exact absurd rfl h0
  | cons a W=>exact⟨a,W,rfl⟩
 have hw0:qO w0=true:=by simp only[List.all_cons,Bool.and_eq_true]at hW;exact hW.1
 have hw1:w0≠45:=by rintro rfl;revert hw0;decide
 have hb:qBK s=(w0::W')++F/\zAM s=ng:=by
  rw[<-hs]
  cases ng with
  | true=>simp[qBK,zAM]
  | false=>simp[qBK,zAM,hw1]
 have hFh:∀ b,F.head?=some b->qO b=false:=by
  rw[<-hF];split
  ·simp
  intro b hb;simp at hb;subst hb;decide
 obtain⟨t1,t2⟩:=qYW hW hFh
 have hfr:qKE F=some (R,[]):=by
  rw[<-hF]
  split
  ·rename_i hR0;subst hR0;rfl
  rename_i hR0
  obtain⟨t3,t4⟩:=qYW (W:=R) (F:=[]) hR (by simp)
  rw[List.append_nil]at t3 t4
  unfold qKE
  simp only[List.head?_cons,if_true,List.drop_succ_cons,List.drop_zero,t3,t4]
  rw[if_neg hR0]
 unfold xE
 rw[hb.1,hb.2,t1,t2,hfr]
 simp only[qKF,zFH]
 rw[if_neg (by
  rintro(h|⟨h,h'⟩)
  ·cases h
  rcases h1 with h1|h1
  ·omega
  simp at h';subst h';exact h1 rfl)]
 unfold uZ
 rw[if_neg (by omega)]
 simp
structure RS where
 left:List UInt8
 nodes:Nat
 bad:Bool
 deep:Bool
 big:Bool
 deriving DecidableEq
def vM (st:RS) (k:Nat):RS:={ st with left:=st.left.drop k }
def wDU (b:UInt8):Bool:=b == 32 || b == 9 || b == 13 || b == 10
def qAU (s:List UInt8):List UInt8:=s.dropWhile wDU
def zKI (b:UInt8):Bool:=qO b || b == 45 || b == 43 || b == 46 || b == 101 || b == 69
def tk (w:List UInt8) (st:RS):Bool × RS :=
 if w.isPrefixOf (qAU st.left) then(true,{ st with left:=(qAU st.left).drop w.length }) else(false,{ st with left:=qAU st.left })
def zNF:List UInt8->Nat
 | []=>0
 | b::t=>if b=34 then 1 else if b=92 then(match t with
  | []=>1
  | _::u=>2+zNF u) else 1+zNF t
def zVM (s:List UInt8):Nat:=if s=[] then 0 else 1+zNF (s.drop 1)
def qWH (l:List UInt8) (st:RS) (u:List UInt8 × Nat × Int):RS × List UInt8 :=
 if u.2.2=0 then({ st with left:=l.drop u.2.1 },u.1) else if u.2.2=3 then({ st with left:=l.drop (zVM l),big:=true },u.1) else({ st with left:=l.drop u.2.1,bad:=true },u.1)
def kS (st:RS):RS × List UInt8:=qWH (qAU st.left) st (qOT (qAU st.left))
def qOF (st:RS):RS × Val :=
 ({ st with left:=st.left.dropWhile zKI,big:=st.big || decide ((xE (st.left.takeWhile zKI)).2=3),bad:=st.bad || decide ((xE (st.left.takeWhile zKI)).2=4) },.mk 4 0 (xE (st.left.takeWhile zKI)).1 [] [] [] 0)
def zJR (c:UInt8) (many:Nat) (st:RS):Bool × RS :=
 let st1:RS:={ st with big:=st.big || decide (200<many) }
 if st1.bad=true then(true,st1) else
 let a:=tk [c] st1
 if a.1=true then(true,a.2) else let b:=tk [44] a.2
  (false,{ b.2 with bad := !b.1 })
def wBS (ks:List (List UInt8)) (vs:List Val) (key:List UInt8) (v:Val):List (List UInt8) × List Val:=if key∈ks then(ks,vs.set (ks.idxOf key) v) else(ks++[key],vs++[v])
def qGE (st:RS):RS:=if st.bad=true then st else { (tk [58] st).2 with bad := !(tk [58] st).1 }
def qOO:List UInt8:=[110,117,108,108]
def qON:List UInt8:=[116,114,117,101]
def qIB:List UInt8:=[102,97,108,115,101]
def vW (st:RS) (d:Nat):RS:=⟨qAU st.left,st.nodes+1,st.bad,st.deep || decide (12<d),st.big || decide (400<st.nodes+1)⟩
def zCO (st:RS):RS × Val :=
 if qOO.isPrefixOf st.left then(vM st 4,.mk 1 0 dc0 [] [] [] 0)
 else if qON.isPrefixOf st.left then(vM st 4,.mk 3 0 dc0 [] [] [] 0)
 else if qIB.isPrefixOf st.left then(vM st 5,.mk 2 0 dc0 [] [] [] 0)
 else if([34]:List UInt8).isPrefixOf st.left then((kS st).1,.mk 5 0 dc0 (kS st).2 [] [] 0)
 else if st.left≠[]/\(qV st.left 0=45\/xV (qV st.left 0)=true) then qOF st
 else({ st with bad:=true },jG)
mutual
def qKZ:Nat->RS->Nat->RS × Val
 | 0,st,_=>({ st with bad:=true },jG)
 | n+1,st,d =>
  if([91]:List UInt8).isPrefixOf (vW st d).left then
   (let a:=tk [93] (vM (vW st d) 1)
    let r:=if a.1=true then(a.2,[]) else zOL n a.2 (d+1) 1 []
    (r.1,.mk 6 0 dc0 [] [] r.2 0))
  else if([123]:List UInt8).isPrefixOf (vW st d).left then
   (let a:=tk [125] (vM (vW st d) 1)
    let r:=if a.1=true then(a.2,[],[]) else zOA n a.2 (d+1) 1 [] []
    (r.1,.mk 7 0 dc0 [] r.2.1 r.2.2 0))
  else zCO (vW st d)
def zOL:Nat->RS->Nat->Nat->List Val->RS × List Val
 | 0,st,_,_,vs=>({ st with bad:=true },vs)
 | n+1,st,d,many,vs =>
  if st.bad=true then(st,vs) else
  let a:=qKZ n st d
  let b:=zJR 93 many a.1
  if b.1=true then(b.2,vs++[a.2]) else zOL n b.2 d (many+1) (vs++[a.2])
def zOA:Nat->RS->Nat->Nat->List (List UInt8)->List Val->RS × List (List UInt8) × List Val
 | 0,st,_,_,ks,vs=>({ st with bad:=true },ks,vs)
 | n+1,st,d,many,ks,vs =>
  if st.bad=true then(st,ks,vs) else
  let q:=kS st
  let c:=qGE q.1
  let a:=if c.bad=true then(c,ks,vs) else let v:=qKZ n c d
   (v.1,wBS ks vs q.2 v.2)
  let b:=zJR 125 many a.1
  if b.1=true then(b.2,a.2) else zOA n b.2 d (many+1) a.2.1 a.2.2
end
theorem qJF (s:List UInt8):(qAU s).length<=s.length:=(List.dropWhile_sublist _).length_le
theorem qSY (w:List UInt8) (st:RS):(tk w st).2.left.length<=st.left.length/\((tk w st).1=true->(tk w st).2.left.length+w.length<=st.left.length):=by
 have h:=qJF st.left
 unfold tk
 split
 ·rename_i hp
  have:=(List.isPrefixOf_iff_prefix.1 hp).length_le
  simp only[List.length_drop]
  exact⟨by omega,fun _=>by omega⟩
 exact⟨h,fun h=>by cases h⟩
@[simp] theorem wCQ (w:List UInt8) (st:RS):(tk w st).2.bad=st.bad:=by unfold tk;split <;> rfl
@[simp] theorem zZM (w:List UInt8) (st:RS):(tk w st).2.nodes=st.nodes:=by unfold tk;split <;> rfl
@[simp] theorem wCI (w:List UInt8) (st:RS):(tk w st).2.deep=st.deep:=by unfold tk;split <;> rfl
@[simp] theorem wCP (w:List UInt8) (st:RS):(tk w st).2.big=st.big:=by unfold tk;split <;> rfl
theorem qTN (st:RS):(kS st).1.left.length<=st.left.length:=by
 have h:=qJF st.left
 unfold kS qWH
 split
 ·simp only[List.length_drop];omega
 split <;> (simp only[List.length_drop];omega)
theorem zNJ (c:UInt8) (many:Nat) (st:RS):(zJR c many st).2.left.length<=st.left.length:=by
 unfold zJR
 simp only
 split
 ·exact Nat.le_refl _
 split
 ·exact(qSY _ _).1
 exact Nat.le_trans (qSY _ _).1 (qSY _ _).1
theorem zPY (st:RS):(qGE st).left.length<=st.left.length:=by
 unfold qGE;split
 ·exact Nat.le_refl _
 exact(qSY _ _).1
theorem zPM (st:RS) (d:Nat):(vW st d).left.length<=st.left.length:=qJF _
theorem qXK (p:UInt8->Bool) (l:List UInt8):(l.dropWhile p).length<=l.length:=(List.dropWhile_sublist _).length_le
theorem qOU:∀ (f:Nat) (s:List UInt8) (k:Nat) (out:List UInt8),(qYU f s k out).2.2=0->k+1<=(qYU f s k out).2.1
 | 0,s,k,out,h=>by simp[qYU]at h
 | f+1,s,k,out,h=>by
  simp only[qYU]at h ⊢
  split at h
  ·simp at h
  rename_i h1
  rw[if_neg h1]
  split at h
  ·rename_i h2
   rw[if_pos h2]
   split at h
   ·simp at h
   rename_i h3;rw[if_neg h3];exact Nat.le_refl _
  rename_i h2
  rw[if_neg h2]
  split at h
  ·simp at h
  rename_i h3
  rw[if_neg h3]
  split at h
  ·rename_i h4
   rw[if_pos h4]
   cases he:wBZ s with
   | none=>rw[he]at h;simp at h
   | some cn =>
    obtain⟨c,n⟩:=cn
    rw[he]at h
    simp only at h ⊢
    have:=qOU f _ _ _ h
    omega
  rename_i h4
  rw[if_neg h4]
  have:=qOU f _ _ _ h
  omega
theorem zJY {st:RS} (h:([34]:List UInt8).isPrefixOf (qAU st.left)=true):(kS st).1.bad=false->(kS st).1.left.length<st.left.length:=by
 have h1:=qJF st.left
 obtain⟨t,ht⟩:=List.isPrefixOf_iff_prefix.1 h
 unfold kS qWH
 generalize qAU st.left=l at *
 subst ht
 have hu:qOT ([34]++t)=qYU (t.length+1) t 1 []:=by
  unfold qOT
  simp
 rw[hu]
 split
 ·rename_i h0
  intro _
  have:=qOU _ _ _ _ h0
  simp only[List.length_drop]
  simp at h1 ⊢; omega
 split
 ·intro _
  simp only[List.length_drop,zVM]
  simp at h1 ⊢; omega
 intro hb;simp at hb
theorem zKF:(xE []).2=4:=by decide +kernel
theorem zKJ {st:RS} (h:(qOF st).1.bad=false):(qOF st).1.left.length<st.left.length:=by
 unfold qOF at h ⊢
 simp only[Bool.or_eq_false_iff,decide_eq_false_iff_not]at h
 have hs:=List.takeWhile_append_dropWhile (p:=zKI) (l:=st.left)
 generalize hA:st.left.takeWhile zKI=A at *
 simp only
 have hl:=congrArg List.length hs
 rw[List.length_append]at hl
 have:A≠[]:=by rintro rfl;exact h.2 zKF
 have:=List.length_pos_iff.2 this
 omega
theorem zDN (s:List UInt8):qAU (qAU s)=qAU s:=by
 unfold qAU
 induction s with
 | nil=>rfl
 | cons b s ih =>
  rw[List.dropWhile_cons]
  split
  ·exact ih
  rename_i h;rw[List.dropWhile_cons,if_neg h]
theorem qBA {w l:List UInt8} (h:w.isPrefixOf l=true):w.length<=l.length:=(List.isPrefixOf_iff_prefix.1 h).length_le
theorem zUV (st:RS) (ht:qAU st.left=st.left):(zCO st).1.left.length<=st.left.length/\((zCO st).1.bad=false->(zCO st).1.left.length<st.left.length):=by
 unfold zCO
 split
 ·rename_i h;have:=qBA h;simp[qOO,vM]at this ⊢; omega
 split
 ·rename_i h;have:=qBA h;simp[qON,vM]at this ⊢; omega
 split
 ·rename_i h;have:=qBA h;simp[qIB,vM]at this ⊢; omega
 split
 ·rename_i h;exact⟨qTN st,zJY (by rw[ht];exact h)⟩
 split
 ·exact⟨qXK _ _,zKJ⟩
 exact⟨Nat.le_refl _,fun h=>by simp at h⟩
theorem lens:∀ n:Nat,(∀ st d,(qKZ n st d).1.left.length<=st.left.length/\((qKZ n st d).1.bad=false->(qKZ n st d).1.left.length<st.left.length)) /\
  (∀ st d many vs,(zOL n st d many vs).1.left.length<=st.left.length)/\(∀ st d many ks vs,(zOA n st d many ks vs).1.left.length<=st.left.length)
 | 0=>⟨fun st d=>⟨by simp[qKZ],fun h=>by simp[qKZ]at h⟩,fun st d many vs=>by simp[zOL],fun st d many ks vs=>by simp[zOA]⟩
 | n+1=>by
  obtain⟨ih1,ih2,ih3⟩:=lens n
  refine⟨fun st d => ?_,fun st d many vs => ?_,fun st d many ks vs => ?_⟩
  ·have he:=zPM st d
   have ht:qAU (vW st d).left=(vW st d).left:=zDN _
   simp only[qKZ]
   split
   ·rename_i h
    have h1:=qBA h
    have h2:=qSY [93] (vM (vW st d) 1)
    simp only[vM,List.length_drop,List.length_cons,List.length_nil]at h1 h2
    split
    ·simp only[vM];exact⟨by omega,fun _=>by omega⟩
    have h3:=ih2 (tk [93] (vM (vW st d) 1)).2 (d+1) 1 []
    simp only[vM]at h3 ⊢
    exact⟨by omega,fun _=>by omega⟩
   split
   ·rename_i h
    have h1:=qBA h
    have h2:=qSY [125] (vM (vW st d) 1)
    simp only[vM,List.length_drop,List.length_cons,List.length_nil]at h1 h2
    split
    ·simp only[vM];exact⟨by omega,fun _=>by omega⟩
    have h3:=ih3 (tk [125] (vM (vW st d) 1)).2 (d+1) 1 [] []
    simp only[vM]at h3 ⊢
    exact⟨by omega,fun _=>by omega⟩
   have h1:=zUV (vW st d) ht
   exact⟨by omega,fun hb=>by have:=h1.2 hb;omega⟩
  ·simp only[zOL]
   split
   ·exact Nat.le_refl _
   have h1:=(ih1 st d).1
   have h2:=zNJ 93 many (qKZ n st d).1
   split
   ·simp only;omega
   have:=ih2 (zJR 93 many (qKZ n st d).1).2 d (many+1) (vs++[(qKZ n st d).2]);omega
  simp only[zOA]
  split
  ·exact Nat.le_refl _
  have h1:=qTN st
  have h2:=zPY (kS st).1
  have h3:=(ih1 (qGE (kS st).1) d).1
  generalize hA:(if(qGE (kS st).1).bad=true then(qGE (kS st).1,ks,vs) else((qKZ n (qGE (kS st).1) d).1,wBS ks vs (kS st).2 (qKZ n (qGE (kS st).1) d).2))=A
  have h4:A.1.left.length<=st.left.length:=by
   rw[<-hA];split
   ·simp only;omega
   simp only;omega
  have h5:=zNJ 125 many A.1
  split
  ·simp only;omega
  have:=ih3 (zJR 125 many A.1).2 d (many+1) A.2.1 A.2.2;omega
open Go Go.RowKit Go.Shelf Go.Maps Go.Sort
attribute [local go_sem] Oper.semAt_some
def qLB {α:Type} (f:Nat->α) (k:Nat):List α:=(List.range k).map f
theorem qSU {α:Type} (f:Nat->α) (k:Nat):qLB f (k+1)=qLB f k++[f k]:=by simp[qLB,List.range_succ]
theorem qYS {α:Type} (f:Nat->α) (k:Nat):(qLB f k).length=k:=by simp[qLB]
theorem qST (zs:List (List UInt8)) {k:Nat} (hk:k<=zs.length):qLB (fun j=>zs[j]?.getD []) k=zs.take k:=by
 apply List.ext_getElem
 ·simp[qLB,hk]
 intro i h1 h2
 have:i<zs.length:=by simp[qLB]at h1;omega
 simp[qLB,this]
theorem zMR (zs:List (List UInt8)):qLB (fun j=>zs[j]?.getD []) zs.length=zs:=by rw[qST zs (Nat.le_refl _),List.take_length]
set_option maxRecDepth 100000 in
set_option maxHeartbeats 2000000 in
theorem zDJ (F:Fence) (n:Nat) (h7:F.fn 99) (hro:F.round=none) (hn:1<=n) (l Bs n₀ b off len cap:Nat) (zs:List (List UInt8)) (hreach:len * 16<=140737488351232) (hb:b<n₀) (J Jx:List (List UInt8)->World->Prop)
  (hY:∀ pre x W,J pre W->pre.length<len->YieldAt F (n-1) Tryz.prog l #[encStr x] W fun e W' =>
   (e = .returned (.bool true)/\J (pre++[x]) W'/\Below n₀ W W')\/(e = .returned (.bool false)/\Jx (pre++[x]) W'))
  (W:World) (hBs:W.cell? ⟨Bs,0,none⟩=some (.slice (some ⟨b,off,none⟩) len cap)) (hc:∀ j,j<len->W.cell? ⟨b,off+j,none⟩=some (encStr (zs[j]?.getD []))) (h0:J [] W) :
  CallsIn F n Tryz.prog 99 #[.func (.yield l) #[] #[],.pointer (some ⟨Bs,0,none⟩)] W fun e W'=>(∃ v,e = .returned v) /\
   ((∃ ys,ys=qLB (fun j=>zs[j]?.getD []) len/\J ys W')\/(∃ pre,(∃ k,k<=len/\pre=qLB (fun j=>zs[j]?.getD []) k)/\Jx pre W')):=by
 refine callsIn_of_wp Tryz.func99 rfl h7 ?_ hro
 simp only[Tryz.ntmps99,List.size_toArray,List.length_cons,List.length_nil,Nat.reduceAdd,Nat.reduceSub,Array.replicate_succ,Array.replicate_zero,List.push_toArray,List.append_toArray,List.nil_append,List.cons_append]
 gi_wp2
 gi_loopw [7] (fun i wr=>∃ k:Nat,k<=len/\i = .int .i64 k/\J (qLB (fun j=>zs[j]?.getD []) k) wr/\Below n₀ W wr)
  (fun i _=>len-(intOf i).toNat)
 case atStart=>exact⟨0,Nat.zero_le _,rfl,h0,Below.refl _ _⟩
 case round =>
  obtain⟨k,hk,rfl,hJs,hnx⟩:=hrel
  have hcx:k<len->wr.cell? ⟨b,off+k,none⟩=some (encStr (zs[k]?.getD [])):=fun h=>(hnx.cell (p:=⟨b,off+k,none⟩) hb).trans (hc k h)
  by_cases hlt:k<len
  ·obtain⟨fn,tmps,assign,body,hy,hR⟩:=hY _ (zs[k]?.getD []) wr hJs (by rw[qYS];exact hlt)
   have hcx':=hcx hlt
   gi_wp2
   refine hR.mono ?_
   rintro e W3 (⟨rfl,hJ3,hk3⟩|⟨rfl,hJx3⟩)
   ·gi_wp2
    go_roundw
    case rel=>exact⟨k+1,by omega,by simp,by rw[qSU];exact hJ3,hnx.trans hk3⟩
    case measure=>simp[intOf];omega
   gi_wp2
   refine bodyPost_ret (results_none rfl _ _ _) rfl ?_
   exact⟨⟨_,rfl⟩,.inr ⟨_,⟨k+1,by omega,(qSU _ _).symm⟩,hJx3⟩⟩
  obtain rfl:k=len:=by omega
  gi_wp2
  go_end0
  exact⟨⟨_,rfl⟩,.inl ⟨_,rfl,hJs⟩⟩
def zCV (n₀:Nat) (W:World) (sv:Value) (zs:List (List UInt8)):Prop :=
 (zs=[]/\∃ a c,sv = .slice a 0 c)\/∃ b off cap,sv = .slice (some ⟨b,off,none⟩) zs.length cap/\b<n₀/\∀ j,j<zs.length->W.cell? ⟨b,off+j,none⟩=some (encStr (zs[j]?.getD []))
theorem zCV.below {n₀:Nat} {A B:World} (h:Below n₀ A B) {sv:Value} {zs:List (List UInt8)}:zCV n₀ A sv zs->zCV n₀ B sv zs
 | .inl e => .inl e
 | .inr ⟨b,off,cap,e,hb,hc⟩ => .inr ⟨b,off,cap,e,hb,fun j hj=>(h.cell (p:=⟨b,off+j,none⟩) hb).trans (hc j hj)⟩
set_option maxRecDepth 100000 in
set_option maxHeartbeats 1000000 in
theorem qOP (F:Fence) (n:Nat) (h7:F.fn 99) (hro:F.round=none) (l Bs:Nat) (a:Option Addr) (c:Nat) (J:List (List UInt8)->World->Prop) (W:World) (hBs:W.cell? ⟨Bs,0,none⟩=some (.slice a 0 c)) (h0:J [] W) :
  CallsIn F n Tryz.prog 99 #[.func (.yield l) #[] #[],.pointer (some ⟨Bs,0,none⟩)] W fun e W'=>(∃ v,e = .returned v)/\J [] W':=by
 refine callsIn_of_wp Tryz.func99 rfl h7 ?_ hro
 simp only[Tryz.ntmps99,List.size_toArray,List.length_cons,List.length_nil,Nat.reduceAdd,Nat.reduceSub,Array.replicate_succ,Array.replicate_zero,List.push_toArray,List.append_toArray,List.nil_append,List.cons_append]
 gi_wp2
 gi_loopw [7] (fun i wr=>i = .int .i64 0/\J [] wr) (fun _ _=>0)
 case atStart=>exact⟨rfl,h0⟩
 case round =>
  obtain⟨rfl,hJs⟩:=hrel
  gi_wp2
  go_end0
  exact⟨⟨_,rfl⟩,hJs⟩
theorem qVN (F:Fence) (n:Nat) (h7:F.fn 99) (hro:F.round=none) (hn:1<=n) (Bs n₀:Nat) (sv:Value) (zs:List (List UInt8)) (hreach:zs.length * 16<=140737488351232) (w:World) (hBs:Bs<w.heap.size) (hn₀:n₀<=w.heap.size)
  (hc:w.cell? ⟨Bs,0,none⟩=some sv) (hI:zCV n₀ w sv zs) :
  SeqStopsK F n Tryz.prog 99 #[.pointer (some ⟨Bs,0,none⟩)] (fun x:List UInt8 => #[encStr x]) (Below n₀) (fun ys=>ys=zs) (fun pre=>pre <+: zs) zs.length w:=fun l J Jx W hW _ _ hY h0=>by
 have hc':=(hW.cell (p:=⟨Bs,0,none⟩) hBs).trans hc
 rcases hI.below (hW.mono hn₀)with⟨rfl,a,c,rfl⟩|⟨b,off,cap,rfl,hb,hcs⟩
 ·exact(qOP F n h7 hro l Bs a c J W hc' h0).mono fun e W' ⟨he,hj⟩=>⟨he,.inl ⟨_,rfl,hj⟩⟩
 refine(zDJ F n h7 hro hn l Bs n₀ b off zs.length cap zs hreach hb J Jx hY W hc' hcs h0).mono ?_
 rintro e W' ⟨he,⟨ys,rfl,hj⟩|⟨pre,⟨k,hk,rfl⟩,hj⟩⟩
 ·exact⟨he,.inl ⟨_,zMR zs,hj⟩⟩
 exact⟨he,.inr ⟨_,by rw[qST zs hk];exact List.take_prefix _ _,hj⟩⟩
theorem zSV:(Tryz.prog.info? 9).map (fun i=>(i.zero,i.size,i.bytes))=some (some (.string .empty),1,16):=by kernel_rfl
set_option maxRecDepth 100000 in
set_option maxHeartbeats 2000000 in
theorem qXU (F:Fence) (n:Nat) (h3:F.fn 137) (h5:F.fn 99) (hro:F.round=none) (hn:3<=n) (Bs:Nat) (sv:Value) (zs:List (List UInt8)) (hlen:zs.length<=maxLen) (hbytes:zs.length * 16<=140737488351232) (w:World)
  (hBs:Bs<w.heap.size) (hc0:w.cell? ⟨Bs,0,none⟩=some sv) (hI:zCV w.heap.size w sv zs) :
  CallsIn F n Tryz.prog 137 #[.slice none 0 0,.func (.func 99) #[] #[.pointer (some ⟨Bs,0,none⟩)]] w fun e W'=>∃ v,e = .returned v/\W'.ownsRow w.heap.size 9 1 v zs.length (zs.map encStr)/\Below w.heap.size w W':=by
 have h1:1<=n:=by omega
 obtain⟨i0,hi,hz0,hz1,hz2⟩:=info_parts zSV
 refine callsIn_of_wp_marks Tryz.func137 rfl h3 ?_ hro
 simp only[Tryz.ntmps137,List.size_toArray,List.length_cons,List.length_nil,Nat.reduceAdd,Nat.reduceSub,Array.replicate_succ,Array.replicate_zero,List.push_toArray,List.append_toArray,List.nil_append,List.cons_append]
 gi_wp2
 have bO:=Boxed.new w 27 (.slice none 0 0)
 have hB0:Below w.heap.size w (w.alloc (.cells #[.slice none 0 0] 27)):=(Below.refl _ w).alloc (Nat.le_refl _) _
 refine wpIn_rangeFunc_ownG hro h1 (gf:=99) (lb := #[.pointer (some ⟨Bs,0,none⟩)]) rfl h5 (enters_of Tryz.func99 (by kernel_rfl) rfl)
  (qVN F (n-1) h5 hro (by omega) Bs w.heap.size sv zs hbytes _ (by simp;omega) (by simp) ((hB0.cell (p:=⟨Bs,0,none⟩) hBs).trans hc0) (hI.below hB0)) belowK_t (belowK_b (by simp)) (Below.refl _ _) (fun _=>rfl)
  (fun pre W=>(∃ v,Boxed W w.heap.size 27 v/\W.ownsRow w.heap.size 9 1 v pre.length (pre.map encStr)/\True)/\Below w.heap.size w W)
  (fun _ _ _=>False)
  (OwnFrom.and (Own.from (holdsRow_own w.heap.size w.heap.size 27 9 1 (fun pre:List (List UInt8)=>pre.length) (fun pre=>pre.map encStr) (fun _ _=>True)) _) (ownFrom_below (Nat.le_refl _) (by simp)))
  (fun _ _ _ _ _ hs _ _=>hs)
  ⟨⟨_,bO,World.ownsRow_nil _ _ _ _,trivial⟩,hB0⟩
  (fun x=>{ tmps := #[.slice none 0 0,.func (.func 99) #[] #[.pointer (some ⟨Bs,0,none⟩)],.pointer (some ⟨w.heap.size,0,none⟩),undef,.slice none 0 0,encStr x,.func (.func 99) #[] #[.pointer (some ⟨Bs,0,none⟩)],encStr x,undef,undef,undef,undef,undef],defers:=[] }) ?assign ?body ?done ?stop
 case assign =>
  intro l x W K hK
  gi_wp2
  exact hK
 case body =>
  rintro l pre x W ⟨⟨v,hv,hrow,_⟩,hB⟩ hlt
  have hc:=hv.cell
  gi_wp2_with (gi_at_builtin;refine wpListIn_append_own _ rfl _ _ 27 rfl w.heap.size 9 i0 (.string .empty) 1 16 Tryz.underlying27 hi hz0 hz1 hz2 rfl (by decide) _ _ _ rfl (hrow.alloc _) ⟨W.heap.size,0,none⟩ 1 1 [encStr x] rfl rfl (cell_one_new _ _ _) (by simp[Value.oneCell']) (by omega) (by omega) (by have:=hB.size;simp;omega) ?_;intro v' w1 hown' hgrow _;obtain⟨g',cap',rfl⟩:=ownsRow_succ hown';obtain⟨hv1,hv2,hr2,hk2,hb2⟩:=hv.appended (by decide) hrow hB.size (Nat.le_refl _) hown' hgrow;have hc1:=hv1.cell;have hf1:=hv1.frozen)
  exact⟨hk2.from _,hb2,⟨_,hv2,by simpa using hr2,trivial⟩,hB.trans hb2⟩
 case done =>
  rintro D ys W hD rfl ⟨⟨v,hv,hrow,_⟩,hB⟩ hK
  have hc:=hv.cell
  gi_wp2
  refine⟨by simp,.inl ⟨_,_,rfl,run_takeDeferred hK, ?_⟩⟩
  exact⟨_,results_tmp rfl _ _ _,v,rfl,ownsRow_putObj hrow _ hK rfl,hB.trans (belowK_b (w:=w) (Nat.le_refl _) W D _ _ (by simp at hD;omega) hK rfl rfl)⟩
 case stop =>
  rintro D c pre W _ _ h _
  exact h.elim
set_option maxRecDepth 100000 in
set_option maxHeartbeats 2000000 in
theorem zFQ (F:Fence) (n:Nat) (h2:F.fn 97) (h3:F.fn 137) (h5:F.fn 99) (hro:F.round=none) (hn:4<=n) (Bs:Nat) (sv:Value) (zs:List (List UInt8)) (hlen:zs.length<=maxLen) (hbytes:zs.length * 16<=140737488351232) (w:World)
  (hBs:Bs<w.heap.size) (hc0:w.cell? ⟨Bs,0,none⟩=some sv) (hI:zCV w.heap.size w sv zs) :
  CallsIn F n Tryz.prog 97 #[.func (.func 99) #[] #[.pointer (some ⟨Bs,0,none⟩)]] w fun e W'=>∃ v,e = .returned v/\W'.ownsRow w.heap.size 9 1 v zs.length (zs.map encStr)/\Below w.heap.size w W':=by
 have h1:1<=n:=by omega
 refine callsIn_of_wp Tryz.func97 rfl h2 ?_ hro
 simp only[Tryz.ntmps97,List.size_toArray,List.length_cons,List.length_nil,Nat.reduceAdd,Nat.reduceSub,Array.replicate_succ,Array.replicate_zero,List.push_toArray,List.append_toArray,List.nil_append,List.cons_append]
 gi_wp2_with (gi_at_call 137;refine(qXU F (n-1) h3 h5 hro (by omega) Bs sv zs hlen hbytes _ hBs hc0 hI).mono ?_;rintro e W ⟨v,rfl,hrow,hb⟩)
 go_ret
 exact⟨v,rfl,hrow,hb⟩
end Go.Proofs.YtgcbapchinideaaGreatDoor
namespace Go.Proofs
open Go.Shelf
def Tryz.lays197_ren:Go.Shelf.Ren:=⟨fun|197=>195|260=>222|n=>n,fun|9=>9|21=>21|3=>3|4=>4|5=>5|105=>222|119=>254|0=>0|46=>148|139=>257|138=>256|n=>n,fun|3=>1|4=>2|n=>n⟩
theorem Tryz.lays197:Go.Proofs.Lays.n197 Tryz.prog Tryz.lays197_ren:={
 mixed:=by kernel_rfl
 f197:=Tryz.func195.trans (congrArg some (by kernel_rfl))
 f260:=Tryz.func222.trans (congrArg some (by kernel_rfl))
 t0:=Tryz.underlying0
 a0:=Tryz.isAgg0
 z0:=Tryz.sizeOf0
 v0:=Tryz.zeroValue0
 t3:=Tryz.underlying3
 a3:=Tryz.isAgg3
 z3:=Tryz.sizeOf3
 v3:=Tryz.zeroValue3
 t4:=Tryz.underlying4
 a4:=Tryz.isAgg4
 z4:=Tryz.sizeOf4
 v4:=Tryz.zeroValue4
 t5:=Tryz.underlying5
 a5:=Tryz.isAgg5
 z5:=Tryz.sizeOf5
 v5:=Tryz.zeroValue5
 t9:=Tryz.underlying9
 a9:=Tryz.isAgg9
 z9:=Tryz.sizeOf9
 v9:=Tryz.zeroValue9
 t21:=Tryz.underlying21
 a21:=Tryz.isAgg21
 z21:=Tryz.sizeOf21
 v21:=Tryz.zeroValue21
 t46:=Tryz.underlying148
 a46:=Tryz.isAgg148
 z46:=Tryz.sizeOf148
 v46:=Tryz.zeroValue148
 t105:=Tryz.underlying222
 a105:=Tryz.isAgg222
 z105:=Tryz.sizeOf222
 v105:=Tryz.zeroValue222
 t119:=Tryz.underlying254
 a119:=Tryz.isAgg254
 z119:=Tryz.sizeOf254
 t138:=Tryz.underlying256
 a138:=Tryz.isAgg256
 z138:=Tryz.sizeOf256
 v138:=Tryz.zeroValue256
 t139:=Tryz.underlying257
 a139:=Tryz.isAgg257
 z139:=Tryz.sizeOf257
 v139:=Tryz.zeroValue257
 g3:=by kernel_rfl
 g4:=by kernel_rfl }
def Tryz.lays106_ren:Go.Shelf.Ren:=⟨fun|106=>123|213=>165|265=>204|n=>n,fun|9=>9|3=>3|n=>n,fun|n=>n⟩
theorem Tryz.lays106:Go.Proofs.Lays.n106 Tryz.prog Tryz.lays106_ren:={
 mixed:=by kernel_rfl
 f106:=Tryz.func123.trans (congrArg some (by kernel_rfl))
 f213:=Tryz.func165.trans (congrArg some (by kernel_rfl))
 f265:=Tryz.func204.trans (congrArg some (by kernel_rfl))
 t3:=Tryz.underlying3
 a3:=Tryz.isAgg3
 z3:=Tryz.sizeOf3
 v3:=Tryz.zeroValue3
 t9:=Tryz.underlying9
 a9:=Tryz.isAgg9
 z9:=Tryz.sizeOf9
 v9:=Tryz.zeroValue9 }
def Tryz.lays105_ren:Go.Shelf.Ren:=⟨fun|105=>108|212=>147|99=>72|165=>148|166=>149|170=>150|169=>151|263=>191|264=>192|206=>103|240=>193|241=>194|276=>220|277=>221|n=>n,fun|9=>9|3=>3|4=>4|20=>20|0=>0|46=>148|109=>159|5=>5|72=>163|76=>166|51=>202|146=>217|53=>24|148=>219|70=>161|37=>81|75=>165|127=>221|164=>241|80=>169|n=>n,fun|n=>n⟩
theorem Tryz.lays105:Go.Proofs.Lays.n105 Tryz.prog Tryz.lays105_ren:={
 mixed:=by kernel_rfl
 f99:=Tryz.func72.trans (congrArg some (by kernel_rfl))
 f105:=Tryz.func108.trans (congrArg some (by kernel_rfl))
 f165:=Tryz.func148.trans (congrArg some (by kernel_rfl))
 f166:=Tryz.func149.trans (congrArg some (by kernel_rfl))
 f169:=Tryz.func151.trans (congrArg some (by kernel_rfl))
 f170:=Tryz.func150.trans (congrArg some (by kernel_rfl))
 f206:=Tryz.func103.trans (congrArg some (by kernel_rfl))
 f212:=Tryz.func147.trans (congrArg some (by kernel_rfl))
 f240:=Tryz.func193.trans (congrArg some (by kernel_rfl))
 f241:=Tryz.func194.trans (congrArg some (by kernel_rfl))
 f263:=Tryz.func191.trans (congrArg some (by kernel_rfl))
 f264:=Tryz.func192.trans (congrArg some (by kernel_rfl))
 f276:=Tryz.func220.trans (congrArg some (by kernel_rfl))
 f277:=Tryz.func221.trans (congrArg some (by kernel_rfl))
 t0:=Tryz.underlying0
 a0:=Tryz.isAgg0
 z0:=Tryz.sizeOf0
 v0:=Tryz.zeroValue0
 t3:=Tryz.underlying3
 a3:=Tryz.isAgg3
 z3:=Tryz.sizeOf3
 v3:=Tryz.zeroValue3
 t4:=Tryz.underlying4
 a4:=Tryz.isAgg4
 z4:=Tryz.sizeOf4
 v4:=Tryz.zeroValue4
 t5:=Tryz.underlying5
 a5:=Tryz.isAgg5
 z5:=Tryz.sizeOf5
 v5:=Tryz.zeroValue5
 t9:=Tryz.underlying9
 a9:=Tryz.isAgg9
 z9:=Tryz.sizeOf9
 v9:=Tryz.zeroValue9
 t20:=Tryz.underlying20
 a20:=Tryz.isAgg20
 z20:=Tryz.sizeOf20
 v20:=Tryz.zeroValue20
 t37:=Tryz.underlying81
 a37:=Tryz.isAgg81
 z37:=Tryz.sizeOf81
 v37:=Tryz.zeroValue81
 t46:=Tryz.underlying148
 a46:=Tryz.isAgg148
 z46:=Tryz.sizeOf148
 v46:=Tryz.zeroValue148
 t51:=Tryz.underlying202
 a51:=Tryz.isAgg202
 z51:=Tryz.sizeOf202
 v51:=Tryz.zeroValue202
 t53:=Tryz.underlying24
 a53:=Tryz.isAgg24
 z53:=Tryz.sizeOf24
 v53:=Tryz.zeroValue24
 t70:=Tryz.underlying161
 a70:=Tryz.isAgg161
 z70:=Tryz.sizeOf161
 v70:=Tryz.zeroValue161
 t72:=Tryz.underlying163
 a72:=Tryz.isAgg163
 z72:=Tryz.sizeOf163
 v72:=Tryz.zeroValue163
 t75:=Tryz.underlying165
 a75:=Tryz.isAgg165
 z75:=Tryz.sizeOf165
 v75:=Tryz.zeroValue165
 t76:=Tryz.underlying166
 a76:=Tryz.isAgg166
 z76:=Tryz.sizeOf166
 v76:=Tryz.zeroValue166
 t109:=Tryz.underlying159
 a109:=Tryz.isAgg159
 z109:=Tryz.sizeOf159
 v109:=Tryz.zeroValue159
 t127:=Tryz.underlying221
 a127:=Tryz.isAgg221
 z127:=Tryz.sizeOf221
 v127:=Tryz.zeroValue221
 t146:=Tryz.underlying217
 a146:=Tryz.isAgg217
 z146:=Tryz.sizeOf217
 v146:=Tryz.zeroValue217
 t148:=Tryz.underlying219
 a148:=Tryz.isAgg219
 z148:=Tryz.sizeOf219
 v148:=Tryz.zeroValue219
 t164:=Tryz.underlying241
 a164:=Tryz.isAgg241
 z164:=Tryz.sizeOf241
 v164:=Tryz.zeroValue241 }
def Tryz.lays190_ren:Go.Shelf.Ren:=⟨fun|190=>98|125=>139|258=>138|128=>186|129=>187|302=>177|303=>178|304=>179|305=>180|306=>181|307=>182|308=>183|309=>184|310=>185|333=>211|329=>212|330=>213|334=>214|335=>215|336=>205|344=>234|n=>n,fun|31=>27|9=>9|3=>3|46=>148|0=>0|51=>202|53=>24|4=>4|183=>196|182=>195|131=>121|5=>5|218=>232|222=>236|228=>250|229=>107|n=>n,fun|n=>n⟩
theorem Tryz.lays190:Go.Proofs.Lays.n190 Tryz.prog Tryz.lays190_ren:={
 mixed:=by kernel_rfl
 f125:=Tryz.func139.trans (congrArg some (by kernel_rfl))
 f128:=Tryz.func186.trans (congrArg some (by kernel_rfl))
 f129:=Tryz.func187.trans (congrArg some (by kernel_rfl))
 f190:=Tryz.func98.trans (congrArg some (by kernel_rfl))
 f258:=Tryz.func138.trans (congrArg some (by kernel_rfl))
 f302:=Tryz.func177.trans (congrArg some (by kernel_rfl))
 f303:=Tryz.func178.trans (congrArg some (by kernel_rfl))
 f304:=Tryz.func179.trans (congrArg some (by kernel_rfl))
 f305:=Tryz.func180.trans (congrArg some (by kernel_rfl))
 f306:=Tryz.func181.trans (congrArg some (by kernel_rfl))
 f307:=Tryz.func182.trans (congrArg some (by kernel_rfl))
 f308:=Tryz.func183.trans (congrArg some (by kernel_rfl))
 f309:=Tryz.func184.trans (congrArg some (by kernel_rfl))
 f310:=Tryz.func185.trans (congrArg some (by kernel_rfl))
 f329:=Tryz.func212.trans (congrArg some (by kernel_rfl))
 f330:=Tryz.func213.trans (congrArg some (by kernel_rfl))
 f333:=Tryz.func211.trans (congrArg some (by kernel_rfl))
 f334:=Tryz.func214.trans (congrArg some (by kernel_rfl))
 f335:=Tryz.func215.trans (congrArg some (by kernel_rfl))
 f336:=Tryz.func205.trans (congrArg some (by kernel_rfl))
 f344:=Tryz.func234.trans (congrArg some (by kernel_rfl))
 t0:=Tryz.underlying0
 a0:=Tryz.isAgg0
 z0:=Tryz.sizeOf0
 v0:=Tryz.zeroValue0
 t3:=Tryz.underlying3
 a3:=Tryz.isAgg3
 z3:=Tryz.sizeOf3
 v3:=Tryz.zeroValue3
 t4:=Tryz.underlying4
 a4:=Tryz.isAgg4
 z4:=Tryz.sizeOf4
 v4:=Tryz.zeroValue4
 t5:=Tryz.underlying5
 a5:=Tryz.isAgg5
 z5:=Tryz.sizeOf5
 v5:=Tryz.zeroValue5
 t9:=Tryz.underlying9
 a9:=Tryz.isAgg9
 z9:=Tryz.sizeOf9
 v9:=Tryz.zeroValue9
 t31:=Tryz.underlying27
 a31:=Tryz.isAgg27
 z31:=Tryz.sizeOf27
 v31:=Tryz.zeroValue27
 t46:=Tryz.underlying148
 a46:=Tryz.isAgg148
 z46:=Tryz.sizeOf148
 v46:=Tryz.zeroValue148
 t51:=Tryz.underlying202
 a51:=Tryz.isAgg202
 z51:=Tryz.sizeOf202
 v51:=Tryz.zeroValue202
 t53:=Tryz.underlying24
 a53:=Tryz.isAgg24
 z53:=Tryz.sizeOf24
 v53:=Tryz.zeroValue24
 t131:=Tryz.underlying121
 a131:=Tryz.isAgg121
 z131:=Tryz.sizeOf121
 v131:=Tryz.zeroValue121
 t182:=Tryz.underlying195
 a182:=Tryz.isAgg195
 z182:=Tryz.sizeOf195
 v182:=Tryz.zeroValue195
 t183:=Tryz.underlying196
 a183:=Tryz.isAgg196
 z183:=Tryz.sizeOf196
 v183:=Tryz.zeroValue196
 t218:=Tryz.underlying232
 a218:=Tryz.isAgg232
 z218:=Tryz.sizeOf232
 v218:=Tryz.zeroValue232
 t222:=Tryz.underlying236
 a222:=Tryz.isAgg236
 z222:=Tryz.sizeOf236
 v222:=Tryz.zeroValue236
 t228:=Tryz.underlying250
 a228:=Tryz.isAgg250
 z228:=Tryz.sizeOf250
 v228:=Tryz.zeroValue250
 t229:=Tryz.underlying107
 a229:=Tryz.isAgg107
 z229:=Tryz.sizeOf107
 v229:=Tryz.zeroValue107 }
def Tryz.lays169_ren:Go.Shelf.Ren:=⟨fun|169=>151|n=>n,fun|70=>161|9=>9|0=>0|72=>163|37=>81|127=>221|3=>3|5=>5|n=>n,fun|n=>n⟩
theorem Tryz.lays169:Go.Proofs.Lays.n169 Tryz.prog Tryz.lays169_ren:={
 mixed:=by kernel_rfl
 f169:=Tryz.func151.trans (congrArg some (by kernel_rfl))
 t0:=Tryz.underlying0
 a0:=Tryz.isAgg0
 z0:=Tryz.sizeOf0
 v0:=Tryz.zeroValue0
 t3:=Tryz.underlying3
 a3:=Tryz.isAgg3
 z3:=Tryz.sizeOf3
 v3:=Tryz.zeroValue3
 t9:=Tryz.underlying9
 a9:=Tryz.isAgg9
 z9:=Tryz.sizeOf9
 v9:=Tryz.zeroValue9
 t37:=Tryz.underlying81
 a37:=Tryz.isAgg81
 z37:=Tryz.sizeOf81
 v37:=Tryz.zeroValue81
 t70:=Tryz.underlying161
 a70:=Tryz.isAgg161
 z70:=Tryz.sizeOf161
 v70:=Tryz.zeroValue161
 t72:=Tryz.underlying163
 a72:=Tryz.isAgg163
 z72:=Tryz.sizeOf163
 v72:=Tryz.zeroValue163
 t127:=Tryz.underlying221
 a127:=Tryz.isAgg221
 z127:=Tryz.sizeOf221
 v127:=Tryz.zeroValue221 }
def Tryz.lays156_ren:Go.Shelf.Ren:=⟨fun|156=>135|165=>148|166=>149|169=>151|240=>193|241=>194|276=>220|277=>221|n=>n,fun|31=>27|9=>9|3=>3|4=>4|0=>0|20=>20|72=>163|76=>166|70=>161|37=>81|75=>165|127=>221|164=>241|5=>5|80=>169|n=>n,fun|n=>n⟩
theorem Tryz.lays156:Go.Proofs.Lays.n156 Tryz.prog Tryz.lays156_ren:={
 mixed:=by kernel_rfl
 f156:=Tryz.func135.trans (congrArg some (by kernel_rfl))
 f165:=Tryz.func148.trans (congrArg some (by kernel_rfl))
 f166:=Tryz.func149.trans (congrArg some (by kernel_rfl))
 f169:=Tryz.func151.trans (congrArg some (by kernel_rfl))
 f240:=Tryz.func193.trans (congrArg some (by kernel_rfl))
 f241:=Tryz.func194.trans (congrArg some (by kernel_rfl))
 f276:=Tryz.func220.trans (congrArg some (by kernel_rfl))
 f277:=Tryz.func221.trans (congrArg some (by kernel_rfl))
 t0:=Tryz.underlying0
 a0:=Tryz.isAgg0
 z0:=Tryz.sizeOf0
 v0:=Tryz.zeroValue0
 t3:=Tryz.underlying3
 a3:=Tryz.isAgg3
 z3:=Tryz.sizeOf3
 v3:=Tryz.zeroValue3
 t4:=Tryz.underlying4
 a4:=Tryz.isAgg4
 z4:=Tryz.sizeOf4
 v4:=Tryz.zeroValue4
 t9:=Tryz.underlying9
 a9:=Tryz.isAgg9
 z9:=Tryz.sizeOf9
 v9:=Tryz.zeroValue9
 t20:=Tryz.underlying20
 a20:=Tryz.isAgg20
 z20:=Tryz.sizeOf20
 v20:=Tryz.zeroValue20
 t31:=Tryz.underlying27
 a31:=Tryz.isAgg27
 z31:=Tryz.sizeOf27
 v31:=Tryz.zeroValue27
 t37:=Tryz.underlying81
 a37:=Tryz.isAgg81
 z37:=Tryz.sizeOf81
 v37:=Tryz.zeroValue81
 t70:=Tryz.underlying161
 a70:=Tryz.isAgg161
 z70:=Tryz.sizeOf161
 v70:=Tryz.zeroValue161
 t72:=Tryz.underlying163
 a72:=Tryz.isAgg163
 z72:=Tryz.sizeOf163
 v72:=Tryz.zeroValue163
 t75:=Tryz.underlying165
 a75:=Tryz.isAgg165
 z75:=Tryz.sizeOf165
 v75:=Tryz.zeroValue165
 t76:=Tryz.underlying166
 a76:=Tryz.isAgg166
 z76:=Tryz.sizeOf166
 v76:=Tryz.zeroValue166
 t127:=Tryz.underlying221
 a127:=Tryz.isAgg221
 z127:=Tryz.sizeOf221
 v127:=Tryz.zeroValue221
 t164:=Tryz.underlying241
 a164:=Tryz.isAgg241
 z164:=Tryz.sizeOf241
 v164:=Tryz.zeroValue241 }
end Go.Proofs
namespace Go.Proofs.YtgcbapchinideaaGreatDoor
open Sy Go
variable {G:qR}
theorem zCP {M:qW} {vs:Array Value} {s t:List UInt8} (hsz:vs.size=2) (h:∀ (i:Nat) u d,vs[i]?=some u->[PD.str s,PD.str t][i]?=some d->Rd M u d):∃ a b:ByteArray,vs = #[.string a,.string b]/\a.data.toList=s/\b.data.toList=t:=by
 obtain⟨l⟩:=vs
 match l,hsz with
 | [u,v],_ =>
  have h1:=h 0 u (.str s) rfl rfl
  have h2:=h 1 v (.str t) rfl rfl
  cases h1 with
  | @str a _ ha _ =>
  cases h2 with
  | @str b _ hb _=>exact⟨a,b,rfl,ha,hb⟩
theorem zFZ {M:qW} {vs:Array Value} {s:List UInt8} {n:Int} (hsz:vs.size=2) (h:∀ (i:Nat) u d,vs[i]?=some u->[PD.str s,PD.int .i64 n][i]?=some d->Rd M u d):∃ a:ByteArray,vs = #[.string a,.int .i64 n]/\a.data.toList=s/\n<=9223372036854775807:=by
 obtain⟨l⟩:=vs
 match l,hsz with
 | [u,v],_ =>
  have h1:=h 0 u (.str s) rfl rfl
  have h2:=h 1 v (.int .i64 n) rfl rfl
  cases h1 with
  | @str a _ ha _ =>
  cases h2 with
  | int h3 h4=>exact⟨a,rfl,ha,by rw[kV]at h4;exact h4⟩
theorem zGG (a b:List UInt8):AFn Tryz.prog G 123 [.str a,.str b] (.int .i64 (Lib.compareBytes a b)):=by
 refine AFn.of_calls (kA Tryz.func123 (by kernel_rfl) rfl) fun M w vs hg hmem hsz hrd => ?_
 obtain⟨x,y,rfl,rfl,rfl⟩:=zCP hsz hrd
 refine(Any.strings_Compare Tryz.lays106 x y w).mono ?_
 rintro e w' ⟨rfl,rfl⟩
 have hb : -1<=Lib.compareBytes x.data.toList y.data.toList/\Lib.compareBytes x.data.toList y.data.toList<=1:=by
  generalize x.data.toList=l;generalize y.data.toList=m
  induction l generalizing m with
  | nil=>cases m <;> simp[Lib.compareBytes]
  | cons a l ih =>
   cases m with
   | nil=>simp[Lib.compareBytes]
   | cons b m =>
    simp only[Lib.compareBytes]
    split
    ·omega
    split
    ·omega
    exact ih m
 exact⟨_,rfl,.int (by rw[jK];simp only[kD];omega) (by rw[kV];simp only[kE];omega),RowKit.Below.refl _ _⟩
theorem qSH:Builder.Extra Tryz.prog Tryz.lays105_ren where
 sizeBuilder:=by kernel_rfl
 liesBuilder:=by kernel_rfl
 t5:=Tryz.underlying5
 a5:=Tryz.isAgg5
 z5:=Tryz.sizeOf5
 v5:=Tryz.zeroValue5
 infoByte:=by kernel_rfl
 cellsByte:=by kernel_rfl
 sizeByte:=by kernel_rfl
 neB5:=by decide
theorem qML (s:List UInt8) (n:Nat) (h:s.length * n<=140737488355328):AFn Tryz.prog G 108 [.str s,.int .i64 n] (.str (Lib.repeatL s n)):=by
 refine AFn.of_calls (kA Tryz.func108 (by kernel_rfl) rfl) fun M w vs hg hmem hsz hrd => ?_
 obtain⟨x,rfl,rfl,hn⟩:=zFZ hsz hrd
 refine(Any.strings_Repeat Tryz.lays105 qSH x n w (by omega) (by rw[xF rfl];exact h)).mono ?_
 rintro e w' ⟨rfl,hb⟩
 refine⟨_,rfl,.str (by simp) ?_,hb⟩
 rw[Lib.repeatL_length,Nat.mul_comm];simp only[maxLen];omega
open Sy Go Go.RowKit Go.Shelf Go.Maps Go.Sort
attribute [local go_sem] Oper.semAt_some
set_option linter.all false
def zS (ks:List (List UInt8)):List (List UInt8):=ks.mergeSort fun x y=>decide (x<=y)
theorem qLH (ks:List (List UInt8)):(zS ks).length=ks.length:=List.length_mergeSort _
set_option maxRecDepth 100000 in
set_option maxHeartbeats 2000000 in
theorem qVY (Bs:Nat) (sv:Value) (zs:List (List UInt8)) (hlen:zs.length<=maxLen) (hbytes:zs.length * 16<=140737488351232) (w:World) (hBs:Bs<w.heap.size) (hc0:w.cell? ⟨Bs,0,none⟩=some sv) (hI:zCV w.heap.size w sv zs) :
  Calls Tryz.prog 67 #[.func (.func 99) #[] #[.pointer (some ⟨Bs,0,none⟩)]] w fun e W'=>∃ v,e = .returned v/\W'.ownsRow w.heap.size 9 1 v zs.length ((zS zs).map encStr)/\Below w.heap.size w W':=by
 refine(callsIn_wide (n:=6)).1 ?_
 have h1:1<=6:=by omega
 refine callsIn_of_wp Tryz.func67 rfl trivial ?_ rfl
 simp only[Tryz.ntmps67,List.size_toArray,List.length_cons,List.length_nil,Nat.reduceAdd,Nat.reduceSub,Array.replicate_succ,Array.replicate_zero,List.push_toArray,List.append_toArray,List.nil_append,List.cons_append]
 gi_wp2_with (refine⟨trivial, ?_⟩;gi_at_call 97;refine(zFQ Fence.wide 5 trivial trivial trivial rfl (by omega) Bs sv zs hlen hbytes _ hBs hc0 hI).mono ?_;rintro e W ⟨v,rfl,hrow,hb⟩)
 rcases hrow.2 with⟨rfl,hz⟩|⟨gb,cap,cur,rfl,hbase,hgb,r1,r2,r3,r4⟩
 ·have hss:zs=[]:=List.eq_nil_of_length_eq_zero hz
  subst hss
  gi_wp2_with (refine⟨trivial, ?_⟩;gi_at_call 98;refine(callsIn_wide.2 (Any.slices_Sort_string_none Tryz.lays190 none 0 W)).mono ?_;rintro e w' ⟨rfl,rfl⟩)
  go_ret
  exact⟨.slice none 0 0,rfl,by simpa[zS]using hrow,hb⟩
 have hH:Holds encStr W gb 0 zs.toArray:=holds_of_block hgb (by simpa using r4)
 have hgl:gb<W.heap.size:=(Array.getElem?_eq_some_iff.1 hgb).1
 have cS:=Any.slices_Sort_string Tryz.lays190 gb 0 cap zs W hH hgl (by omega)
 gi_wp2_with (refine⟨trivial, ?_⟩;gi_at_call 98;refine(callsIn_wide.2 cS).mono ?_;rintro e w' ⟨rfl,nn,os,rfl⟩)
 go_ret
 exact⟨_,rfl,ownsRow_sorted (by simp) hbase hgb r1 r2 r3,hb.grown (grownBy_sorted _) hb.size (fun j hj=>by cases hj;exact hbase)⟩
theorem zLF {ba:ByteArray} {s:List UInt8} (h:ba.data.toList=s):Value.string ba=encStr s:=by
 subst h;rfl
theorem zSU {M:qW} {w:World} {u:Value} {ks:List (List UInt8)} (hmem:∀ b o v,M b o=some v->w.cell? ⟨b,o,none⟩=some v) (h:Rd M u (.sl 1 (ks.map PD.str))):zCV w.heap.size w u ks/\ks.length<=maxLen/\∀ s∈ks,s.length<=maxLen:=by
 cases h with
 | @sl a n c _ _ b o hn hnc hcm ha h5 h6 h7 =>
 rw[List.length_map]at hn
 by_cases hk:ks=[]
 ·subst hk;simp at hn;subst hn;exact⟨.inl ⟨rfl,a,c,rfl⟩,by simp,by simp⟩
 have hpos:0<ks.length:=List.length_pos_iff.2 hk
 obtain rfl:=ha (by omega)
 subst hn
 have hcell:∀ j,j<ks.length->w.cell? ⟨b,o+j,none⟩=some (encStr (ks[j]?.getD []))/\(ks[j]?.getD []).length<=maxLen:=fun j hj=>by
  have hg:(ks.map PD.str)[j]?=some (.str ks[j]):=by simp[hj]
  obtain⟨u,hu,_⟩:=h6 j _ 0 hg (by omega)
  have h8:=h7 j _ 0 _ u hg rfl hu
  cases h8 with
  | @str ba _ hba hl =>
  have:=hmem _ _ _ hu
  simp only[Nat.mul_one,Nat.add_zero]at this
  refine⟨by rw[this,zLF hba];simp[hj],by simpa[hj]using hl⟩
 refine⟨.inr ⟨b,o,c,rfl,yM (hcell 0 hpos).1,fun j hj=>(hcell j hj).1⟩,by omega,fun s hs => ?_⟩
 obtain⟨j,hj,rfl⟩:=List.mem_iff_getElem.1 hs
 have:=(hcell j hj).2
 simpa[hj]using this
theorem qTF (i:Nat) (ks:List (List UInt8)) (hb:ks.length * 16<=140737488351232):AX Tryz.prog G 67 [.func (.func 99) [] [.ptr i 0]] [(i,.vars 27 [.p (.sl 1 (ks.map PD.str))])]
  (.p (.sl 1 ((zS ks).map PD.str))) [] []:=by
 refine⟨kA Tryz.func67 (by kernel_rfl) rfl,fun M μ w vs hg rel => ?_⟩
 have hsz:vs.size=1:=rel.slots.1
 obtain⟨l⟩:=vs
 match l,hsz with
 | [u],_ =>
 have hu:=rel.slots.2 0 u _ rfl rfl
 cases hu with
 | @func _ fa ca _ _ h1 h2 h3 h4 =>
 obtain rfl:fa = #[]:=Array.eq_empty_of_size_eq_zero h1
 obtain⟨c⟩:=ca
 match c,h2,h4 with
 | [q],_,h4 =>
 have hq:=h4 0 q _ rfl rfl
 cases hq with
 | @ptr _ _ b hblk =>
 have hbx:=rel.box i (.vars 27 [.p (.sl 1 (ks.map PD.str))]) (List.mem_singleton.2 rfl)
 cases hbx with
 | @vars _ _ b' arr g0 g1 g2 g3 g4 =>
 rw[hblk]at g0
 cases g0
 obtain⟨al⟩:=arr
 match al,g2,g1,g4 with
 | [sv],_,g1,g4 =>
 have hsv:=(g4 0 sv _ rfl rfl).p_inv
 obtain⟨hS,hlen,hsl⟩:=zSU rel.mem hsv
 have hbl:b<w.heap.size:=(Array.getElem?_eq_some_iff.1 g1).1
 refine(qVY b sv ks hlen hb w hbl (by simp[World.cell?,g1]) hS).mono ?_
 rintro e w' ⟨v,rfl,hrow,hbel⟩
 have hkeep:∀ b o v,M b o=some v->w'.cell? ⟨b,o,none⟩=some v:=fun b o v hv=>by
  have h:=rel.mem b o v hv
  exact(World.cell?_of_block (w:=w) (hbel.block b (yM h))).trans h
 have base:∀ M':qW,(∀ b o v,M b o=some v->M' b o=some v)->(∀ b o v,M' b o=some v->w'.cell? ⟨b,o,none⟩=some v)->(∀ b o,b<w.heap.size->M' b o=M b o)->Rd M' v (.sl 1 ((zS ks).map PD.str)) ->
   ∃ v_1 M' μ',Ending.returned v=Ending.returned v_1/\Rel ⟨w.heap.size,w,M,μ,wZ μ [(i,.vars 27 [.p (.sl 1 (ks.map PD.str))])]⟩ M' μ' ⟨[.p (.sl 1 ((zS ks).map PD.str))],[],[],0⟩ #[v_1] w':=by
  intro M' hM hmem hold hrd
  refine⟨v,M',μ,rfl,hmem,hM,fun b o hb=>hold b o (by have:¬ w.heap.size<=b:=fun e=>hb (.inl e);omega),⟨rfl,fun k u x hu hx => ?_⟩,fun i hi=>by simp at hi,fun i b hi=>by simp at hi,by simp,fun i j b hi=>by simp[qM]at hi,fun i b hi=>by simp[qM]at hi,hbel.size, ?_⟩
  ·cases k with
   | zero=>simp at hu hx;subst hu;subst hx;exact .p hrd
   | succ k=>simp at hu
  exact⟨hbel.os,hbel.tape,hbel.output,hbel.size,fun k hk=>hbel.block k (by have:¬ w.heap.size<=k:=fun e=>hk (.inl e);omega)⟩
 have hsk:=qLH ks
 rcases hrow.2 with⟨rfl,hz⟩|⟨gb,cap,cur,rfl,hbase,hgb,r1,r2,r3,r4⟩
 ·have hks:ks=[]:=List.eq_nil_of_length_eq_zero hz
  subst hks
  refine base M (fun _ _ _ h=>h) hkeep (fun _ _ _=>rfl) ?_
  exact .sl 0 0 (by simp[zS]) (Nat.le_refl _) (by simp[maxLen]) (fun h=>(h rfl).elim) (fun i e h=>by simp[zS]at h) (fun i e j h=>by simp[zS]at h) (fun i e j d u h=>by simp[zS]at h)
 have hcell:∀ j,w'.cell? ⟨gb,j,none⟩=cur[j]?:=fun j=>zP hgb
 let M2:qW:=fun b o=>if b=gb/\o<ks.length then cur[o]? else M b o
 have hlt:∀ b o v,M b o=some v->b<w.heap.size:=fun b o v hv=>yM (rel.mem b o v hv)
 have hcur:∀ j,j<ks.length->cur[j]?=some (encStr ((zS ks)[j]?.getD [])):=fun j hj=>by
  have h5:(cur.toList.take (ks.length * 1))[j]?=((zS ks).map encStr)[j]?:=by rw[r4]
  rw[List.getElem?_take_of_lt (by omega)]at h5
  rw[<-Array.getElem?_toList,h5];simp[show j<(zS ks).length by omega]
 have hM2:∀ o,o<ks.length->M2 gb o=cur[o]?:=fun o ho=>if_pos ⟨rfl,ho⟩
 refine base M2 (fun b o v hv => ?_) (fun b o v hv => ?_) (fun b o hb => ?_) ?_
 ·have:=hlt b o v hv
  show(if b=gb/\o<ks.length then cur[o]? else M b o)=some v
  rw[if_neg (by omega)];exact hv
 ·have hv':(if b=gb/\o<ks.length then cur[o]? else M b o)=some v:=hv
  split at hv'
  ·rename_i h;rw[h.1,hcell];exact hv'
  exact hkeep b o v hv'
 ·show(if b=gb/\o<ks.length then cur[o]? else M b o)=M b o
  rw[if_neg (by omega)]
 refine .sl gb 0 (by simp[hsk]) r1 r2 (fun _=>rfl) (fun j e he => ?_) (fun j e k he hk => ?_) (fun j e k d u he hd hu => ?_)
 ·simp at he;obtain⟨s,_,rfl⟩:=he;rfl
 ·have hj:j<ks.length:=by have:=(List.getElem?_eq_some_iff.1 he).1;simp[hsk]at this;exact this
  obtain rfl:k=0:=by omega
  refine⟨_,by simp only[Nat.mul_one,Nat.add_zero,Nat.zero_add];rw[hM2 j hj,hcur j hj],rfl⟩
 have hj:j<ks.length:=by have:=(List.getElem?_eq_some_iff.1 he).1;simp[hsk]at this;exact this
 have hjs:j<(zS ks).length:=by omega
 simp[hjs]at he
 subst he
 cases k with
 | succ k=>simp[PD.cells]at hd
 | zero =>
  simp[PD.cells]at hd
  subst hd
  simp at hu
  rw[hM2 j hj,hcur j hj]at hu
  simp[hjs]at hu
  subst hu
  refine .str (by simp[encStr]) ?_
  exact hsl _ ((List.mergeSort_perm ks _).mem_iff.1 (List.getElem_mem hjs))
end Go.Proofs.YtgcbapchinideaaGreatDoor
namespace Go.Proofs.YtgcbapchinideaaGreatDoor
open Sy Go
set_option maxRecDepth 100000
set_option maxHeartbeats 4000000
set_option linter.all false
variable {G:qR}
def kF (a b:Int):Int:=if a<b then -1 else if b<a then 1 else 0
def jE (a b:List UInt8):Int:=if Op.bytesLess a b=true then -1 else if a=b then 0 else 1
def wN {α:Type} (p:α->α->Int):List α->List α->Int
 | [],[]=>0
 | [],_::_ => -1
 | _::_,[]=>1
 | x::xs,y::ys=>if p x y≠0 then p x y else wN p xs ys
theorem zHH (a:Int):AFn Tryz.prog G 162 [.int .i64 a] (.bool false):=by
 refine AFn.introU tok Tryz.func162 (by kernel_rfl) rfl rfl ?_
 simp only[Tryz.f162,qG,List.map_cons,List.map_nil]
 refine rgn [] [[0]] ?_
 refine op3 ?_
 refine qA (rgn [] [[],[],[],[2]] ?_)
 iterate 4 refine op3 ?_
 exact qA (AW.ret qI)
theorem zHI (a:Int):AFn Tryz.prog G 166 [.int .i64 a] (.bool false):=by
 refine AFn.introU tok Tryz.func166 (by kernel_rfl) rfl rfl ?_
 simp only[Tryz.f166,qG,List.map_cons,List.map_nil]
 refine rgn [] [[0]] ?_
 refine op3 ?_
 refine qA (rgn [] [[],[],[],[2]] ?_)
 iterate 4 refine op3 ?_
 exact qA (AW.ret qI)
theorem zHG (a:List UInt8):AFn Tryz.prog G 205 [.str a] (.bool false):=by
 refine AFn.introU tok Tryz.func205 (by kernel_rfl) rfl rfl ?_
 simp only[Tryz.f205,qG,List.map_cons,List.map_nil]
 refine rgn [] [[0]] ?_
 refine op3 ?_
 refine qA (rgn [] [[],[],[],[2]] ?_)
 iterate 4 refine op3 ?_
 exact qA (AW.ret qI)
theorem zUJ (a b:Int):AFn Tryz.prog G 121 [.int .i64 a,.int .i64 b] (.int .i64 (kF a b)):=by
 refine AFn.introU tok Tryz.func121 (by kernel_rfl) rfl rfl ?_
 simp only[Tryz.f121,qG,List.map_cons,List.map_nil]
 refine rgn [] [[0,1]] ?_
 refine op3 ?_
 refine qA (rgn [.nilp,.bool false] [[],[],[0,1,5]] ?_)
 iterate 3 refine op3 ?_ (hv:=by first|exact True.intro|(exact zHH a;done)|omega|simp)
 refine qA (rgn [.nilp,.bool false] [[],[],[0,1,5,6]] ?_)
 iterate 3 refine op3 ?_ (hv:=by first|exact True.intro|(exact zHH b;done)|omega|simp)
 refine qA (AW.seq (rgn [] [[0,1,6,11]] ?_))
 refine op3 ?_
 refine qA (cnd ?_ ?_)
 ·intro h11
  try simp at h11
 intro h11
 try simp at h11
 refine AW.skip (AW.seq (rgn [] [[0,1,13]] ?_))
 refine op3 ?_
 refine qA (cnd ?_ ?_)
 ·intro h13
  try simp at h13
 intro h13
 try simp at h13
 refine AW.skip (AW.seq (rgn [] [[],[],[0,1,16]] ?_))
 iterate 3 refine op3 ?_
 refine qA (cnd ?_ ?_)
 ·intro h16
  try simp at h16
  refine rgn [] [[]] ?_
  refine op3 ?_
  refine qA ?_
  exact AW.ret (qI (k:=by simp[kF,h16]))
 intro h16
 try simp at h16
 refine AW.skip (AW.seq (rgn [] [[],[],[19]] ?_))
 iterate 3 refine op3 ?_
 refine qA (cnd ?_ ?_)
 ·intro h19
  try simp at h19
  refine rgn [] [[]] ?_
  refine op3 ?_
  refine qA ?_
  exact AW.ret (qI (k:=by simp[kF,h19];omega))
 intro h19
 try simp at h19
 refine AW.skip (rgn [] [[]] ?_)
 refine op3 ?_
 refine qA ?_
 exact AW.ret (qI (k:=by simp[kF];omega))
theorem zUK (a b:Int):AFn Tryz.prog G 125 [.int .i64 a,.int .i64 b] (.int .i64 (kF a b)):=by
 refine AFn.introU tok Tryz.func125 (by kernel_rfl) rfl rfl ?_
 simp only[Tryz.f125,qG,List.map_cons,List.map_nil]
 refine rgn [] [[0,1]] ?_
 refine op3 ?_
 refine qA (rgn [.nilp,.bool false] [[],[],[0,1,5]] ?_)
 iterate 3 refine op3 ?_ (hv:=by first|exact True.intro|(exact zHI a;done)|omega|simp)
 refine qA (rgn [.nilp,.bool false] [[],[],[0,1,5,6]] ?_)
 iterate 3 refine op3 ?_ (hv:=by first|exact True.intro|(exact zHI b;done)|omega|simp)
 refine qA (AW.seq (rgn [] [[0,1,6,11]] ?_))
 refine op3 ?_
 refine qA (cnd ?_ ?_)
 ·intro h11
  try simp at h11
 intro h11
 try simp at h11
 refine AW.skip (AW.seq (rgn [] [[0,1,13]] ?_))
 refine op3 ?_
 refine qA (cnd ?_ ?_)
 ·intro h13
  try simp at h13
 intro h13
 try simp at h13
 refine AW.skip (AW.seq (rgn [] [[],[],[0,1,16]] ?_))
 iterate 3 refine op3 ?_
 refine qA (cnd ?_ ?_)
 ·intro h16
  try simp at h16
  refine rgn [] [[]] ?_
  refine op3 ?_
  refine qA ?_
  exact AW.ret (qI (k:=by simp[kF,h16]))
 intro h16
 try simp at h16
 refine AW.skip (AW.seq (rgn [] [[],[],[19]] ?_))
 iterate 3 refine op3 ?_
 refine qA (cnd ?_ ?_)
 ·intro h19
  try simp at h19
  refine rgn [] [[]] ?_
  refine op3 ?_
  refine qA ?_
  exact AW.ret (qI (k:=by simp[kF,h19];omega))
 intro h19
 try simp at h19
 refine AW.skip (rgn [] [[]] ?_)
 refine op3 ?_
 refine qA ?_
 exact AW.ret (qI (k:=by simp[kF];omega))
theorem zUI (a b:List UInt8):AFn Tryz.prog G 167 [.str a,.str b] (.int .i64 (jE a b)):=by
 refine AFn.introU tok Tryz.func167 (by kernel_rfl) rfl rfl ?_
 simp only[Tryz.f167,qG,List.map_cons,List.map_nil]
 refine rgn [] [[0,1]] ?_
 refine op3 ?_
 refine qA (rgn [.nilp,.bool false] [[],[],[0,1,5]] ?_)
 iterate 3 refine op3 ?_ (hv:=by first|exact True.intro|(exact zHG a;done)|omega|simp)
 refine qA (rgn [.nilp,.bool false] [[],[],[0,1,5,6]] ?_)
 iterate 3 refine op3 ?_ (hv:=by first|exact True.intro|(exact zHG b;done)|omega|simp)
 refine qA (AW.seq (rgn [] [[0,1,6,11]] ?_))
 refine op3 ?_
 refine qA (cnd ?_ ?_)
 ·intro h11
  try simp at h11
 intro h11
 try simp at h11
 refine AW.skip (AW.seq (rgn [] [[0,1,13]] ?_))
 refine op3 ?_
 refine qA (cnd ?_ ?_)
 ·intro h13
  try simp at h13
 intro h13
 try simp at h13
 refine AW.skip (AW.seq (rgn [] [[],[],[0,1,16]] ?_))
 iterate 3 refine op3 ?_
 refine qA (cnd ?_ ?_)
 ·intro h16
  try simp at h16
  refine rgn [] [[]] ?_
  refine op3 ?_
  refine qA ?_
  exact AW.ret (qI (k:=by simp[jE,h16]))
 intro h16
 try simp at h16
 refine AW.skip (AW.seq (rgn [] [[],[],[19]] ?_))
 iterate 3 refine op3 ?_
 refine qA (cnd ?_ ?_)
 ·intro h19
  try simp at h19
  refine rgn [] [[]] ?_
  refine op3 ?_
  refine qA ?_
  exact AW.ret (qI (k:=by simp[jE,h19]))
 intro h19
 try simp at h19
 have hab:a=b:=h19 h16
 subst hab
 refine AW.skip (rgn [] [[]] ?_)
 refine op3 ?_
 refine qA ?_
 exact AW.ret (qI (k:=by simp[jE,h16]))
theorem zQB {α:Type} (p:α->α->Int) (l:List α):wN p l []=if l=[] then 0 else 1:=by cases l <;> simp[wN]
theorem qUZ {α:Type} {p:α->α->Int} {l m:List α} {k:Nat} {x y:α} (hx:l[k]?=some x) (hy:m[k]?=some y):wN p (l.drop k) (m.drop k)=if p x y≠0 then p x y else wN p (l.drop (k+1)) (m.drop (k+1)):=by
 obtain⟨h1,rfl⟩:=List.getElem?_eq_some_iff.1 hx
 obtain⟨h2,rfl⟩:=List.getElem?_eq_some_iff.1 hy
 rw[List.drop_eq_getElem_cons h1,List.drop_eq_getElem_cons h2];rfl
theorem qUY {α:Type} {p:α->α->Int} {l m:List α} {k:Nat} (h1:k<l.length) (h2:m.length<=k):wN p (l.drop k) (m.drop k)=1:=by
 rw[List.drop_eq_nil_of_le h2,zQB,if_neg (by intro h;have:=congrArg List.length h;simp at this;omega)]
theorem zCC {α:Type} {p:α->α->Int} {l m:List α} {k:Nat} (h1:l.length<=k) (hk:k<=l.length) (h2:k<=m.length):wN p (l.drop k) (m.drop k)=if l.length<m.length then -1 else 0:=by
 rw[List.drop_eq_nil_of_le h1]
 by_cases h:k<m.length
 ·rw[List.drop_eq_getElem_cons h,if_pos (by omega)];rfl
 rw[List.drop_eq_nil_of_le (by omega),if_neg (by omega)];rfl
theorem zQA (l m:List (List UInt8)):AFn Tryz.prog G 128 [.sl 1 (l.map PD.str),.sl 1 (m.map PD.str)] (.int .i64 (wN jE l m)):=by
 refine AFn.introU tok Tryz.func128 (by kernel_rfl) rfl rfl ?_
 simp only[Tryz.f128,qG,List.map_cons,List.map_nil]
 refine rgn [] [[0,1]] ?_
 refine op3 ?_
 refine qA (AW.seq (rgn [] [[],[],[]] ?_))
 iterate 3 refine op3 ?_
 refine qA (AW.block ?_)
 refine AW.intFactU (i:=10) rfl (by decide) ?_;intro hlen;simp at hlen
 refine AW.loop (α:=Nat) (fun k=>k<=l.length/\k<=m.length/\wN jE l m=wN jE (l.drop k) (m.drop k)) (fun k=>⟨zA 36 [(0,.p (.sl 1 (l.map PD.str))),(1,.p (.sl 1 (m.map PD.str))),(9,.p (.sl 1 (l.map PD.str))),(10,.p (.int .i64 l.length)),(11,.p (.int .i64 k))],[],[],0⟩) (fun k=>l.length-k) (0) ⟨by omega,by omega,rfl⟩ ⟨qE (by simp),rfl,by simp,by simp⟩ ?_
 rintro k ⟨hk,hkm,hall⟩
 refine rgn [] [[]] ?_
 refine op3 ?_
 refine qA (AW.seq (cnd ?_ ?_))
 ·intro h12
  try simp at h12
  obtain⟨x,hx⟩:∃ x,l[k]?=some x:=⟨l[k],by simp[h12]⟩
  refine AW.skip (AW.seq (AW.block (rgn [.str x] [[],[],[],[],[0,1,5,6,9,10,11]] ?_)))
  iterate 5 refine op3 ?_ (hv:=by first|exact True.intro|(simp[hx];done)|omega|simp)
  refine qA (AW.seq (rgn [] [[],[],[],[0,1,5,6,9,10,11,19]] ?_))
  iterate 4 refine op3 ?_
  refine qA (cnd ?_ ?_)
  ·intro h19
   try simp at h19
   have hR:wN jE l m=1:=by rw[hall];exact qUY (by omega) (by omega)
   refine rgn [] [[]] ?_
   refine op3 ?_
   refine qA ?_
   exact AW.ret (qI (k:=by simp[hR]))
  intro h19
  try simp at h19
  obtain⟨y,hy⟩:∃ y,m[k]?=some y:=⟨m[k]'(by omega),by simp[show k<m.length by omega]⟩
  have hst:=qUZ (p:=jE) hx hy
  refine AW.skip (rgn [.str y] [[],[],[],[0,1,6,9,10,11,23],[0,1,6,7,9,10,11]] ?_)
  iterate 5 refine op3 ?_ (hv:=by first|exact True.intro|(simp[hy];done)|omega|simp)
  refine qA (rgn [.nilp,.int .i64 (jE x y)] [[],[],[0,1,9,10,11,26],[0,1,8,9,10,11]] ?_)
  iterate 4 refine op3 ?_ (hv:=by first|exact True.intro|(exact zUI x y;done)|omega|simp)
  refine qA (rgn [] [[],[0,1,8,9,10,11,28]] ?_)
  iterate 2 refine op3 ?_
  refine qA (cnd ?_ ?_)
  ·intro h28
   try simp at h28
   have hR:wN jE l m=jE x y:=by rw[hall,hst,if_pos h28]
   refine rgn [] [[],[4]] ?_
   iterate 2 refine op3 ?_
   refine qA ?_
   exact AW.ret (qI (k:=by simp[hR]))
  intro h28
  try simp at h28
  have hnx:wN jE l m=wN jE (l.drop (k+1)) (m.drop (k+1)):=by rw[hall,hst,if_neg (by omega)]
  refine AW.skip (rgz [] [[],[0,1,9,10,11]] ?_)
  iterate 2 refine op3 ?_
  refine qA ?_
  exact⟨k+1,⟨by omega,by omega,hnx⟩,by omega,qE (by simp),rfl,by simp,by simp⟩
 intro h12
 try simp at h12
 have hE:=zCC (p:=jE) (l:=l) (m:=m) (k:=k) (by omega) hk hkm
 rw[<-hall]at hE
 refine AW.exit ?_
 simp
 refine AW.seq (rgn [] [[],[],[],[32,34],[35]] ?_)
 iterate 5 refine op3 ?_
 refine qA (cnd ?_ ?_)
 ·intro h35
  try simp at h35
  have hR:wN jE l m = -1:=by rw[hE,if_pos (by omega)]
  refine rgn [] [[]] ?_
  refine op3 ?_
  refine qA ?_
  exact AW.ret (qI (k:=by simp[hR]))
 intro h35
 try simp at h35
 have hR:wN jE l m=0:=by rw[hE,if_neg (by omega)]
 refine AW.skip (rgn [] [[]] ?_)
 refine op3 ?_
 refine qA ?_
 exact AW.ret (qI (k:=by simp[hR]))
theorem zCB (l m:List Val) (g:FuncId) (p:Val->Val->Int) (hg:∀ x∈l, ∀ y∈m,AFn Tryz.prog G g [x.enc,y.enc] (.int .i64 (p x y))):AFn Tryz.prog G 124 [.sl 9 (l.map Val.enc),.sl 9 (m.map Val.enc),.fn g] (.int .i64 (wN p l m)):=by
 refine AFn.introU tok Tryz.func124 (by kernel_rfl) rfl rfl ?_
 simp only[Tryz.f124,qG,List.map_cons,List.map_nil]
 refine rgn [] [[0,1,2]] ?_
 refine op3 ?_
 refine qA (AW.seq (rgn [] [[],[],[]] ?_))
 iterate 3 refine op3 ?_
 refine qA (AW.block ?_)
 refine AW.intFactU (i:=12) rfl (by decide) ?_;intro hlen;simp at hlen
 refine AW.loop (α:=Nat) (fun k=>k<=l.length/\k<=m.length/\wN p l m=wN p (l.drop k) (m.drop k)) (fun k=>⟨zA 39 [(0,.p (.sl 9 (l.map Val.enc))),(1,.p (.sl 9 (m.map Val.enc))),(2,.p (.fn g)),(11,.p (.sl 9 (l.map Val.enc))),(12,.p (.int .i64 l.length)),(13,.p (.int .i64 k))],[],[],0⟩) (fun k=>l.length-k) (0) ⟨by omega,by omega,rfl⟩ ⟨qE (by simp),rfl,by simp,by simp⟩ ?_
 rintro k ⟨hk,hkm,hall⟩
 refine rgn [] [[]] ?_
 refine op3 ?_
 refine qA (AW.seq (cnd ?_ ?_))
 ·intro h14
  try simp at h14
  obtain⟨x,hx⟩:∃ x,l[k]?=some x:=⟨l[k],by simp[h14]⟩
  refine AW.skip (AW.seq (AW.block (rgn [x.enc] [[],[],[],[],[],[0,1,2,7,8,11,12,13]] ?_)))
  iterate 6 refine op3 ?_ (hv:=by first|exact True.intro|(simp[hx];done)|omega|simp)
  refine qA (AW.seq (rgn [] [[],[],[],[0,1,2,7,8,11,12,13,21]] ?_))
  iterate 4 refine op3 ?_
  refine qA (cnd ?_ ?_)
  ·intro h21
   try simp at h21
   have hR:wN p l m=1:=by rw[hall];exact qUY (by omega) (by omega)
   refine rgn [] [[]] ?_
   refine op3 ?_
   refine qA ?_
   exact AW.ret (qI (k:=by simp[hR]))
  intro h21
  try simp at h21
  obtain⟨y,hy⟩:∃ y,m[k]?=some y:=⟨m[k]'(by omega),by simp[show k<m.length by omega]⟩
  have hst:=qUZ (p:=p) hx hy
  have hgv:=hg x (List.mem_of_getElem? hx) y (List.mem_of_getElem? hy)
  refine AW.skip (rgn [y.enc] [[],[],[],[0,1,2,8,11,12,13,25],[],[0,1,2,8,9,11,12,13]] ?_)
  iterate 6 refine op3 ?_ (hv:=by first|exact True.intro|(simp[hy];done)|omega|simp)
  refine qA (rgn [.tup [x.enc,y.enc],.int .i64 (p x y)] [[],[],[],[0,1,2,11,12,13,29],[0,1,2,10,11,12,13]] ?_)
  iterate 5 refine op3 ?_ (hv:=by first|exact True.intro|((simp at hgv ⊢; exact hgv);done)|omega|simp)
  refine qA (rgn [] [[],[0,1,2,10,11,12,13,31]] ?_)
  iterate 2 refine op3 ?_
  refine qA (cnd ?_ ?_)
  ·intro h31
   try simp at h31
   have hR:wN p l m=p x y:=by rw[hall,hst,if_pos h31]
   refine rgn [] [[],[6]] ?_
   iterate 2 refine op3 ?_
   refine qA ?_
   exact AW.ret (qI (k:=by simp[hR]))
  intro h31
  try simp at h31
  have hnx:wN p l m=wN p (l.drop (k+1)) (m.drop (k+1)):=by rw[hall,hst,if_neg (by omega)]
  refine AW.skip (rgz [] [[],[0,1,2,11,12,13]] ?_)
  iterate 2 refine op3 ?_
  refine qA ?_
  exact⟨k+1,⟨by omega,by omega,hnx⟩,by omega,qE (by simp),rfl,by simp,by simp⟩
 intro h14
 try simp at h14
 have hE:=zCC (p:=p) (l:=l) (m:=m) (k:=k) (by omega) hk hkm
 rw[<-hall]at hE
 refine AW.exit ?_
 simp
 refine AW.seq (rgn [] [[],[],[],[35,37],[38]] ?_)
 iterate 5 refine op3 ?_
 refine qA (cnd ?_ ?_)
 ·intro h38
  try simp at h38
  have hR:wN p l m = -1:=by rw[hE,if_pos (by omega)]
  refine rgn [] [[]] ?_
  refine op3 ?_
  refine qA ?_
  exact AW.ret (qI (k:=by simp[hR]))
 intro h38
 try simp at h38
 have hR:wN p l m=0:=by rw[hE,if_neg (by omega)]
 refine AW.skip (rgn [] [[]] ?_)
 refine op3 ?_
 refine qA ?_
 exact AW.ret (qI (k:=by simp[hR]))
def zLD (ks:List (List UInt8)) (s:List UInt8):Int:=if s∈ks then(ks.idxOf s:Int) else -1
theorem zTY (l:List (List UInt8)) (s:List UInt8):AFn Tryz.prog G 112 [.sl 1 (l.map PD.str),.str s] (.int .i64 (zLD l s)):=by
 refine AFn.introU tok Tryz.func112 (by kernel_rfl) rfl rfl ?_
 simp only[Tryz.f112,qG,List.map_cons,List.map_nil]
 refine rgn [] [[0,1]] ?_
 refine op3 ?_
 refine qA (AW.seq (rgn [] [[],[],[0,1,7,8]] ?_))
 iterate 3 refine op3 ?_
 refine qA (AW.block ?_)
 refine AW.intFactU (i:=7) rfl (by decide) ?_;intro hlen;simp at hlen
 refine AW.loop (α:=Nat) (fun k=>k<=l.length/\s ∉ l.take k) (fun k=>⟨zA 19 [(0,.p (.sl 1 (l.map PD.str))),(1,.p (.str s)),(7,.p (.int .i64 l.length)),(8,.p (.int .i64 k))],[],[],0⟩) (fun k=>l.length-k) (0) ⟨by omega,by simp⟩ ⟨qE (by simp),rfl,by simp,by simp⟩ ?_
 rintro k ⟨hk,hno⟩
 refine rgn [] [[]] ?_
 refine op3 ?_
 refine qA (AW.seq (cnd ?_ ?_))
 ·intro h9
  try simp at h9
  obtain⟨x,hx⟩:∃ x,l[k]?=some x:=⟨l[k],by simp[h9]⟩
  refine AW.skip (AW.seq (AW.block (rgn [] [[],[0,1,5,7,8]] ?_)))
  iterate 2 refine op3 ?_
  refine qA (rgn [.str x] [[],[],[],[],[],[0,1,5,7,8,16]] ?_)
  iterate 6 refine op3 ?_ (hv:=by first|exact True.intro|(simp[hx];done)|omega|simp)
  refine qA (cnd ?_ ?_)
  ·intro h16
   try simp at h16
   have hR:zLD l s=k:=by
    have hm:s∈l:=by rw[h16];exact List.mem_of_getElem? hx
    unfold zLD;rw[if_pos hm]
    have:l.idxOf s=k:=by
     obtain⟨h1,h2⟩:=List.getElem?_eq_some_iff.1 hx
     have h3:=List.take_append_drop k l
     rw[<-h3,List.idxOf_append,if_neg hno,List.drop_eq_getElem_cons h1,h2,h16,List.idxOf_cons_self]
     simp;omega
    rw[this]
   refine rgn [] [[],[4]] ?_
   iterate 2 refine op3 ?_
   refine qA ?_
   exact AW.ret (qI (k:=by simp[hR]))
  intro h16
  try simp at h16
  refine AW.skip (rgz [] [[],[0,1,7,8]] ?_)
  iterate 2 refine op3 ?_
  refine qA ?_
  exact⟨k+1,⟨by omega,by rw[List.take_add_one,hx];simp;exact⟨hno,h16⟩⟩,by omega,qE (by simp),rfl,by simp,by simp⟩
 intro h9
 try simp at h9
 have hR:zLD l s = -1:=by rw[List.take_of_length_le h9]at hno;unfold zLD;rw[if_neg hno]
 refine AW.exit ?_
 simp
 refine rgn [] [[]] ?_
 refine op3 ?_
 refine qA ?_
 exact AW.ret (qI (k:=by simp[hR]))
theorem zXN (a b:Int):AFn Tryz.prog G 127 [.sl 1 [.int .i64 a,.int .i64 b]] (.int .i64 (if a≠0 then a else b)):=by
 refine AFn.introU tok Tryz.func127 (by kernel_rfl) rfl rfl ?_
 simp only[Tryz.f127,qG,List.map_cons,List.map_nil]
 refine rgn [] [[0]] ?_
 refine op3 ?_
 refine qA (rgn [] [[]] ?_)
 refine op3 ?_
 refine qA (AW.seq (rgn [] [[],[],[3,6,7,8]] ?_))
 iterate 3 refine op3 ?_
 refine qA (AW.block ?_)
 refine AW.loop (α:=Nat) (fun k=>k<=2/\(1<=k->a=0)/\(2<=k->b=0)) (fun k=>⟨zA 18 [(3,.p (.int .i64 0)),(6,.p (.sl 1 [.int .i64 a,.int .i64 b])),(7,.p (.int .i64 2)),(8,.p (.int .i64 k))],[],[],0⟩) (fun k=>2-k) (0) ⟨by omega,by omega,by omega⟩ ⟨qE (by simp),rfl,by simp,by simp⟩ ?_
 rintro k ⟨hk,h1,h2⟩
 refine rgn [] [[]] ?_
 refine op3 ?_
 refine qA (AW.seq (cnd ?_ ?_))
 ·intro h9
  try simp at h9
  have hel:[a,b][k]?=some (if k=0 then a else b):=by
   match k,h9 with
   | 0,_=>rfl
   | 1,_=>rfl
  have helP:[PD.int .i64 a,PD.int .i64 b][k]?=some (.int .i64 (if k=0 then a else b)):=by
   match k,h9 with
   | 0,_=>rfl
   | 1,_=>rfl
  refine AW.skip (AW.seq (AW.block (rgn [.int .i64 (if k=0 then a else b)] [[],[],[3,5,6,7,8]] ?_)))
  iterate 3 refine op3 ?_ (hv:=by first|exact True.intro|exact helP|simp[helP];done|omega|simp)
  refine qA (rgn [] [[],[],[3,5,6,7,8,14]] ?_)
  iterate 3 refine op3 ?_
  refine qA (cnd ?_ ?_)
  ·intro h14
   try simp at h14
   have hR:(if a≠0 then a else b)=(if k=0 then a else b):=by
    by_cases hk0:k=0
    ·subst hk0;simp at h14 ⊢; intro e;exact absurd e h14
    rw[if_neg hk0,if_neg (by simp;exact h1 (by omega))]
   rw[hR]
   refine rgn [] [[],[2]] ?_
   iterate 2 refine op3 ?_
   exact qA (AW.ret qI)
  intro h14
  try simp at h14
  have e1:1<=k+1->a=0:=by
   intro _
   by_cases hk0:k=0
   ·simpa[hk0]using h14
   exact h1 (by omega)
  have e2:2<=k+1->b=0:=by
   intro h
   rw[if_neg (by omega)]at h14;exact h14
  refine AW.skip (rgz [] [[],[3,6,7,8]] ?_)
  iterate 2 refine op3 ?_
  refine qA ?_
  exact⟨k+1,⟨by omega,e1,e2⟩,by omega,qE (by simp),rfl,by simp,by simp⟩
 intro h9
 try simp at h9
 have ha:a=0:=h1 (by omega)
 have hb:b=0:=h2 (by omega)
 subst ha hb
 refine AW.exit ?_
 simp
 refine rgn [] [[],[2]] ?_
 iterate 2 refine op3 ?_
 exact qA (AW.ret qI)
def zW (s:List UInt8):Nat:=s.foldl (fun n b=>n * 10+(b.toNat-48)) 0
theorem kL (b:UInt8):qO b=true↔48<=b.toNat/\b.toNat<=57:=by simp[qO,xV];omega
theorem qOS (s:List UInt8):∀ n,s.foldl (fun n b=>n * 10+(b.toNat-48)) n=n * 10 ^ s.length+zW s:=by
 induction s with
 | nil=>intro n;simp[zW]
 | cons b s ih =>
  intro n
  have e:zW (b::s)=(b.toNat-48) * 10 ^ s.length+zW s:=by unfold zW;rw[List.foldl_cons,ih];simp[zW]
  rw[List.foldl_cons,ih,e,List.length_cons,Nat.pow_succ,Nat.add_mul,Nat.mul_assoc,Nat.mul_comm 10,Nat.add_assoc]
theorem jS (b:UInt8) (s:List UInt8):zW (b::s)=(b.toNat-48) * 10 ^ s.length+zW s:=by
 unfold zW;rw[List.foldl_cons,qOS];simp[zW]
theorem qBP (s t:List UInt8):zW (s++t)=zW s * 10 ^ t.length+zW t:=by
 unfold zW;rw[List.foldl_append,qOS];rfl
theorem qLA (s:List UInt8) (b:UInt8):zW (s++[b])=zW s * 10+(b.toNat-48):=by rw[qBP];simp[zW]
theorem xZ {s:List UInt8} (h:s.all qO=true):zW s<10 ^ s.length:=by
 induction s with
 | nil=>simp[zW]
 | cons b s ih =>
  simp only[List.all_cons,Bool.and_eq_true]at h
  have h1:=(kL b).1 h.1
  have h2:=ih h.2
  rw[jS,List.length_cons,Nat.pow_succ]
  have:b.toNat-48<=9:=by omega
  have:=Nat.mul_le_mul_right (10 ^ s.length) this
  omega
theorem zIT (n:Nat):Lib.repeatL [48] n=List.replicate n 48:=by
 induction n with
 | zero=>rfl
 | succ n ih=>simp[Lib.repeatL,ih,List.replicate_succ]
theorem zDK (n:Nat):zW (List.replicate n 48)=0:=by
 induction n with
 | zero=>rfl
 | succ n ih=>rw[List.replicate_succ,jS,ih];simp
theorem qJB (s:List UInt8) (n:Nat):zW (s++List.replicate n 48)=zW s * 10 ^ n:=by rw[qBP,zDK];simp
theorem qAF {s:List UInt8} (h:s.all qO=true) (n:Nat):(s++List.replicate n 48).all qO=true:=by
 rw[List.all_append,h]
 have:(List.replicate n (48:UInt8)).all qO=true:=List.all_eq_true.2 fun b hb=>by rw[(List.mem_replicate.1 hb).2];rfl
 rw[this];rfl
def qT:Nat:=1000000000
def qY:List Nat->Nat
 | []=>0
 | x::xs=>x+qT * qY xs
def okL (l:List Nat):Prop:=∀ x∈l,x<qT
def yI (l:List Nat):List Nat:=(l.reverse.dropWhile (· == 0)).reverse
def qEC (s:List UInt8) (e:Nat):Nat:=zW ((s.take e).drop (e-9))
def qFR (s:List UInt8):Nat->Nat->List Nat
 | 0,_=>[]
 | f+1,e=>if 0<e then qEC s e::qFR s f (e-9) else[]
theorem qND (s:List UInt8):∀ (f g e:Nat),e<=f->e<=g->qFR s f e=qFR s g e
 | 0,0,_,_,_=>rfl
 | 0,g+1,e,h,_=>by simp only[qFR];rw[if_neg (by omega)]
 | f+1,0,e,_,h=>by simp only[qFR];rw[if_neg (by omega)]
 | f+1,g+1,e,h1,h2=>by
  simp only[qFR]
  split
  ·rw[qND s f g _ (by omega) (by omega)]
  rfl
def qBC (s:List UInt8) (e:Nat):List Nat:=qFR s e e
theorem qHC {s:List UInt8} {e:Nat} (h:0<e):qBC s e=qEC s e::qBC s (e-9):=by
 unfold qBC
 rw[show e=(e-1)+1 by omega]
 simp only[qFR]
 rw[if_pos (by omega),qND s (e-1) (e-1+1-9) _ (by omega) (by omega)]
theorem xU (s:List UInt8):qBC s 0=[]:=rfl
theorem qGP {s:List UInt8} (h:s.all qO=true) (n:Nat):(s.take n).all qO=true:=by
 rw[List.all_eq_true]at h ⊢; exact fun b hb=>h b (List.mem_of_mem_take hb)
theorem zCR {s:List UInt8} (h:s.all qO=true) (n:Nat):(s.drop n).all qO=true:=by
 rw[List.all_eq_true]at h ⊢; exact fun b hb=>h b (List.mem_of_mem_drop hb)
theorem zKV {s:List UInt8} (h:s.all qO=true) (e:Nat):qEC s e<qT:=by
 have h1:=xZ (zCR (qGP h e) (e-9))
 have h2:((s.take e).drop (e-9)).length<=9:=by simp;omega
 have:=Nat.pow_le_pow_right (n:=10) (by omega) h2
 unfold qEC qT;omega
theorem zBC {s:List UInt8} (h:s.all qO=true):∀ (f e:Nat),e<=f->okL (qBC s e)
 | 0,e,he=>by rw[show e=0 by omega,xU];intro x hx;cases hx
 | f+1,e,he=>by
  by_cases hp:0<e
  ·rw[qHC hp]
   intro x hx
   rcases List.mem_cons.1 hx with rfl|hx
   ·exact zKV h e
   exact zBC h f (e-9) (by omega) x hx
  rw[show e=0 by omega,xU];intro x hx;cases hx
theorem qUF {s:List UInt8} (h:s.all qO=true):∀ (f e:Nat),e<=f->e<=s.length->qY (qBC s e)=zW (s.take e)
 | 0,e,he,_=>by rw[show e=0 by omega,xU];rfl
 | f+1,e,he,hs=>by
  by_cases hp:0<e
  ·rw[qHC hp]
   simp only[qY]
   rw[qUF h f (e-9) (by omega) (by omega)]
   have e1:s.take e=s.take (e-9)++(s.take e).drop (e-9):=by
    have h2:=List.take_append_drop (e-9) (s.take e)
    rw[List.take_take,Nat.min_eq_left (by omega)]at h2
    exact h2.symm
   have e2:zW (s.take e)=zW (s.take (e-9)) * 10 ^ ((s.take e).drop (e-9)).length+qEC s e:=by
    rw[e1,qBP,<-e1];rfl
   rw[e2]
   by_cases h9:9<=e
   ·have:((s.take e).drop (e-9)).length=9:=by simp;omega
    rw[this];unfold qT;omega
   rw[show e-9=0 by omega];simp[zW]
  rw[show e=0 by omega,xU];rfl
theorem qBQ (l:List Nat) (x:Nat):yI (l++[x])=if x=0 then yI l else l++[x]:=by
 unfold yI
 rw[List.reverse_append]
 simp only[List.reverse_cons,List.reverse_nil,List.nil_append,List.singleton_append,List.dropWhile_cons]
 by_cases h:x=0
 ·simp[h]
 simp[h]
theorem jQ (l:List Nat) (x:Nat):qY (l++[x])=qY l+qT ^ l.length * x:=by
 induction l with
 | nil=>simp[qY]
 | cons a l ih=>simp only[List.cons_append,qY,ih,List.length_cons,Nat.pow_succ,Nat.mul_add];rw[Nat.add_assoc,Nat.mul_comm (qT ^ l.length) qT,Nat.mul_assoc]
theorem qWA {p:List Nat->Prop} (h0:p []) (h1:∀ l x,p l->p (l++[x])) (l:List Nat):p l:=by
 have:∀ r:List Nat,p r.reverse:=by
  intro r
  induction r with
  | nil=>exact h0
  | cons a r ih=>rw[List.reverse_cons];exact h1 _ _ ih
 simpa using this l.reverse
theorem qIE (l:List Nat):qY (yI l)=qY l:=by
 refine qWA (p:=fun l=>qY (yI l)=qY l) rfl (fun l x ih => ?_) l
 rw[qBQ]
 split
 ·rename_i h;rw[ih,jQ,h];simp
 rfl
theorem qLD {l:List Nat} (h:okL l):okL (yI l):=by
 intro x hx
 unfold yI at hx
 rw[List.mem_reverse]at hx
 exact h x (List.mem_reverse.1 ((List.dropWhile_sublist _).subset hx))
def qNY (l:List Nat):Prop:=okL l/\l.getLast?≠some 0
theorem zDM {l:List Nat} (h:okL l):qNY (yI l):=by
 refine⟨qLD h, ?_⟩
 refine qWA (p:=fun l=>(yI l).getLast?≠some 0) (by simp[yI]) (fun l x ih => ?_) l
 rw[qBQ]
 split
 ·exact ih
 rename_i h;simp;exact h
theorem qFS {l:List Nat} (h:okL l):qY l<qT ^ l.length:=by
 induction l with
 | nil=>simp[qY]
 | cons a l ih =>
  have h1:=h a (by simp)
  have h2:=ih fun x hx=>h x (by simp[hx])
  simp only[qY,List.length_cons,Nat.pow_succ]
  have:qT * (qY l+1)<=qT * qT ^ l.length:=Nat.mul_le_mul_left _ h2
  rw[Nat.mul_comm (qT ^ l.length)]
  rw[Nat.mul_add]at this;omega
theorem zON {l:List Nat} (h:l≠[]) (hc:l.getLast?≠some 0):qT ^ (l.length-1)<=qY l:=by
 have hs:l=l.dropLast++[l.getLast h]:=(List.dropLast_concat_getLast h).symm
 have hx:l.getLast h≠0:=fun e=>hc (by rw[<-e];exact List.getLast?_eq_some_getLast h)
 have hv:qY l=qY l.dropLast+qT ^ l.dropLast.length * l.getLast h:=by
  conv=>lhs;rw[hs]
  exact jQ _ _
 rw[hv,List.length_dropLast]
 have:qT ^ (l.length-1) * 1<=qT ^ (l.length-1) * l.getLast h:=Nat.mul_le_mul_left _ (by omega)
 omega
theorem qQH {l m:List Nat} (hl:qNY l) (hm:qNY m) (h:l.length<m.length):qY l<qY m:=by
 have h1:=qFS hl.1
 have h2:=zON (l:=m) (by rintro rfl;simp at h) hm.2
 have h3:qT ^ l.length<=qT ^ (m.length-1):=Nat.pow_le_pow_right (by decide) (by omega)
 omega
def vA (l m:List Nat):Nat->Int
 | 0=>0
 | i+1=>if l.getD i 0=m.getD i 0 then vA l m i else if l.getD i 0<m.getD i 0 then -1 else 1
def xS (l m:List Nat):Int:=if l.length≠m.length then(l.length:Int)-m.length else vA l m l.length
theorem qIH {l:List Nat} {i:Nat} (h:i<l.length):l.take (i+1)=l.take i++[l.getD i 0]:=by
 rw[List.take_succ_eq_append_getElem h];simp[List.getD_eq_getElem?_getD,h]
theorem qMO {l m:List Nat} (hl:okL l) (hm:okL m) (hlen:l.length=m.length):∀ i,i<=l.length ->
  vA l m i=if qY (l.take i)<qY (m.take i) then -1 else if qY (l.take i)=qY (m.take i) then 0 else 1
 | 0,_=>by simp[vA,qY]
 | i+1,hi=>by
  have h1:=qFS (l:=l.take i) fun x hx=>hl x (List.mem_of_mem_take hx)
  have h2:=qFS (l:=m.take i) fun x hx=>hm x (List.mem_of_mem_take hx)
  have e1:(l.take i).length=i:=by simp;omega
  have e2:(m.take i).length=i:=by simp;omega
  rw[e1]at h1
  rw[e2]at h2
  rw[qIH (by omega),qIH (by omega),jQ,jQ,e1,e2]
  simp only[vA]
  by_cases h:l.getD i 0=m.getD i 0
  ·rw[if_pos h,qMO hl hm hlen i (by omega),h]
   have a1:(qY (l.take i)+qT ^ i * m.getD i 0<qY (m.take i)+qT ^ i * m.getD i 0)=(qY (l.take i)<qY (m.take i)):=propext (by omega)
   have a2:(qY (l.take i)+qT ^ i * m.getD i 0=qY (m.take i)+qT ^ i * m.getD i 0)=(qY (l.take i)=qY (m.take i)):=propext (by omega)
   simp only[a1,a2]
  rw[if_neg h]
  by_cases h3:l.getD i 0<m.getD i 0
  ·rw[if_pos h3]
   have:=Nat.mul_le_mul_left (qT ^ i) (show l.getD i 0+1<=m.getD i 0 by omega)
   rw[Nat.mul_add,Nat.mul_one]at this
   rw[if_pos (by omega)]
  rw[if_neg h3]
  have:=Nat.mul_le_mul_left (qT ^ i) (show m.getD i 0+1<=l.getD i 0 by omega)
  rw[Nat.mul_add,Nat.mul_one]at this
  rw[if_neg (by omega),if_neg (by omega)]
def sgn (n:Int):Int:=if n<0 then -1 else if n=0 then 0 else 1
theorem qMZ {l m:List Nat} (hl:qNY l) (hm:qNY m):sgn (xS l m)=sgn ((qY l:Int)-qY m):=by
 unfold xS
 by_cases h:l.length=m.length
 ·rw[if_neg (by omega),qMO hl.1 hm.1 h l.length (Nat.le_refl _),List.take_length,h,List.take_length]
  unfold sgn
  split
  ·rw[if_pos (by omega),if_pos (by omega)]
  split
  ·rw[if_neg (by omega),if_pos rfl,if_neg (by omega),if_pos (by omega)]
  rw[if_neg (by omega),if_neg (by omega),if_neg (by omega),if_neg (by omega)]
 rw[if_pos h]
 unfold sgn
 rcases Nat.lt_or_gt_of_ne h with h1|h1
 ·have:=qQH hl hm h1
  rw[if_pos (by omega),if_pos (by omega)]
 have:=qQH hm hl h1
 rw[if_neg (by omega),if_neg (by omega),if_neg (by omega),if_neg (by omega)]
theorem qWR (l m:List Nat) (h1:l.length<=1000000) (h2:m.length<=1000000) : -1000000<=xS l m/\xS l m<=1000000:=by
 unfold xS
 split
 ·omega
 have:∀ i, -1<=vA l m i/\vA l m i<=1:=by
  intro i
  induction i with
  | zero=>simp[vA]
  | succ i ih => simp only [vA]; split; · exact ih
                 ·split <;> omega
 have:=this l.length;omega
def xC (s:List UInt8):List Nat:=yI (qBC s s.length)
theorem qJX {s:List UInt8} (h:s.all qO=true):qNY (xC s):=zDM (zBC h _ _ (Nat.le_refl _))
theorem qJW {s:List UInt8} (h:s.all qO=true):qY (xC s)=zW s:=by
 unfold xC;rw[qIE,qUF h _ _ (Nat.le_refl _) (Nat.le_refl _),List.take_length]
theorem qUG (s:List UInt8):∀ (f e:Nat),e<=f->(qBC s e).length<=e
 | 0,e,he=>by rw[show e=0 by omega,xU];simp
 | f+1,e,he=>by
  by_cases hp:0<e
  ·rw[qHC hp];have:=qUG s f (e-9) (by omega);simp;omega
  rw[show e=0 by omega,xU];simp
theorem qQE (s:List UInt8):(xC s).length<=s.length:=by
 have h1:(xC s).length<=(qBC s s.length).length:=by
  unfold xC yI;rw[List.length_reverse];have:=(List.dropWhile_sublist (fun x:Nat=>x == 0) (l:=(qBC s s.length).reverse)).length_le;simpa using this
 have:=qUG s _ s.length (Nat.le_refl _);omega
@[simp] def wP (n:Nat):PD := .int .u64 n
theorem qVS (l:List Nat):AFn Tryz.prog G 208 [.sl 1 (l.map wP)] (.sl 1 ((yI l).map wP)):=by
 refine AFn.introU tok Tryz.func208 (by kernel_rfl) rfl rfl ?_
 simp only[Tryz.f208,qG,List.map_cons,List.map_nil]
 refine rgn [] [[0]] ?_
 refine op3 ?_
 refine qA (AW.seq (AW.block ?_))
 refine AW.loop (α:=List Nat) (fun r=>yI r=yI l) (fun r=>⟨zA 21 [(0,.p (.sl 1 (r.map wP)))],[],[],0⟩) (fun r=>r.length) (l) rfl ⟨qE (by simp),rfl,by simp,by simp⟩ ?_
 rintro r hr
 refine AW.slFactU (i:=0) rfl (by decide) ?_
 intro hlen
 simp at hlen
 have hlast:0<r.length->r[r.length-1]?=some (r.getD (r.length-1) 0):=fun h=>by simp[List.getD_eq_getElem?_getD,show r.length-1<r.length by omega]
 refine AW.seq (rgn [.int .u64 (r.getD (r.length-1) 0:Nat)] [[],[],[],[],[],[],[0,6,7,9],[],[],[0,6,12],[],[0,14]] ?_)
 iterate 4 refine op3 ?_ (hv:=by first|exact True.intro|((intro h;refine⟨h,by omega,_,hlast h, ?_⟩;simp);done)|omega|simp)
 iterate 7 refine op4 ?_ (hv:=by first|exact True.intro|((intro h;refine⟨h,by omega,_,hlast h, ?_⟩;simp);done)|omega|simp)
 refine op3 ?_ (hv:=by first|exact True.intro|((intro h;refine⟨h,by omega,_,hlast h, ?_⟩;simp);done)|omega|simp)
 refine qA (cnd ?_ ?_)
 ·intro h14
  try simp at h14
  obtain⟨s,x,rfl⟩:∃ s x,r=s++[x]:=⟨r.dropLast,r.getLast (by rintro rfl;simp at h14),(List.dropLast_concat_getLast _).symm⟩
  simp at h14
  subst h14
  have hr':yI s=yI l:=by rw[<-hr,qBQ];simp
  have hsl:(s.length:Int)<=9223372036854775807:=by simp at hlen;omega
  refine AW.skip (AW.block (rgz [] [[],[],[],[],[19],[0]] ?_))
  iterate 6 refine op3 ?_
  refine qA ?_
  exact⟨s,hr',by simp,qE (by simp),rfl,by simp,by simp⟩
 intro h14
 try simp at h14
 have hN:yI r=r:=by
  refine qWA (p:=fun r=>(0<r.length->¬ r.getD (r.length-1) 0=0)->yI r=r) (fun _=>rfl) (fun s x _ h => ?_) r (fun h=>by have:=h14 h;simpa using this)
  have:=h (by simp)
  rw[qBQ,if_neg (by simpa using this)]
 rw[<-hr,hN]
 refine AW.exit ?_
 simp
 refine rgn [] [[],[2]] ?_
 iterate 2 refine op3 ?_
 exact qA (AW.ret qI)
theorem kI {x:Int} (h0:0<=x) (h1:x<18446744073709551616):IntKind.u64.wrap x=x:=by simp[IntKind.wrap,IntKind.bits,IntKind.signed];omega
theorem zGI {x:Int} (h0:0<=x) (h1:x<256):IntKind.u8.wrap x=x:=by simp[IntKind.wrap,IntKind.bits,IntKind.signed];omega
theorem zOE (s:List UInt8) (hs:s.all qO=true) (hl:s.length<=1000000):AFn Tryz.prog G 203 [.str s] (.sl 1 ((xC s).map wP)):=by
 refine AFn.introU tok Tryz.func203 (by kernel_rfl) rfl rfl ?_
 simp only[Tryz.f203,qG,List.map_cons,List.map_nil]
 refine rgn [] [[0]] ?_
 refine op3 ?_
 refine qA (rgn [] [[]] ?_)
 refine op3 ?_
 refine qA (AW.seq (rgn [] [[],[],[0,3,4]] ?_))
 iterate 3 refine op3 ?_
 refine qA (AW.block ?_)
 refine AW.beginE 3 36 24 1 (by simp) (by simp) (by conv=>lhs;simp) ?_
 refine AW.loop (α:=Int × List Nat) (fun a=>a.1<=s.length /\ -9<a.1/\a.2.length<=s.length-a.1.toNat/\a.2++qBC s a.1.toNat=qBC s s.length) (fun a=>⟨zA 39 [(0,.p (.str s)),(3,.ms 36),(4,.p (.int .i64 a.1))],[],[(36,.row 24 1 (a.2.map wP))],0⟩) (fun a=>a.1.toNat) (((s.length:Int),[])) ⟨by simp,by simp only[];omega,by simp,by simp⟩ ⟨qE (by simp),rfl,by simp,by simp⟩ ?_
 rintro⟨e,acc⟩ ⟨h1,h2,hal,h3⟩
 simp only at h1 h2 h3 hal
 refine AW.seq (rgn [] [[],[0,3,4,11]] ?_)
 iterate 2 refine op3 ?_
 refine qA (cnd ?_ ?_)
 ·intro h11
  try simp at h11
  obtain⟨n,rfl⟩:∃ n:Nat,e=n:=⟨e.toNat,by omega⟩
  obtain⟨c,hc⟩:∃ c,c=(s.take n).drop (n-9):=⟨_,rfl⟩
  have hcd:c.all qO=true:=by rw[hc];exact zCR (qGP hs n) _
  have hcl:c.length<=9:=by rw[hc];simp;omega
  have hvc:zW c=qEC s n:=by rw[hc];rfl
  have hmx:(if 9<(n:Int) then(n:Int)-9 else 0).toNat=n-9:=by split <;> omega
  refine AW.skip (AW.seq (AW.block (rgn [] [[]] ?_)))
  refine op3 ?_
  refine qA (AW.seq (rgn [] [[],[],[],[],[],[0,3,4,5,19],[],[],[0,3,4,5,20,21,22]] ?_))
  iterate 9 refine op3 ?_
  refine qA (AW.block ?_)
  refine AW.loop (α:=Nat) (fun k=>k<=c.length) (fun k=>⟨zA 39 [(0,.p (.str s)),(3,.ms 36),(4,.p (.int .i64 n)),(5,.p (.int .u64 (zW (c.take k):Nat))),(20,.p (.sl 1 (qP c))),(21,.p (.int .i64 c.length)),(22,.p (.int .i64 k))],[],[(36,.row 24 1 (acc.map wP))],0⟩) (fun k=>c.length-k) (0) (by omega) ⟨qE (by simp[hmx,hc,zW]),rfl,by simp,by simp⟩ ?_
  rintro k hk
  have hck:=xZ (qGP hcd k)
  have hck2:(c.take k).length<=8->zW (c.take k)<100000000:=fun h=>Nat.lt_of_lt_of_le hck (Nat.pow_le_pow_right (n:=10) (by omega) h)
  have hix:∀ k:Nat,k<c.length->c[k]?=some (c.getD k 0):=fun k h=>xW h
  refine rgn [] [[]] ?_
  refine op3 ?_
  refine qA (AW.seq (cnd ?_ ?_))
  ·intro h23
   try simp at h23
   have hdk:=(kL _).1 (List.all_eq_true.1 hcd _ (List.mem_of_getElem? (hix k h23)))
   have hv8:zW (c.take k)<100000000:=hck2 (by simp;omega)
   have hsn:zW (c.take (k+1))=zW (c.take k) * 10+((c.getD k 0).toNat-48):=by rw[List.take_add_one,hix k h23];exact qLA _ _
   have hbk:qV c k=((c.getD k 0).toNat:Int):=rfl
   have hw1:IntKind.u8.wrap (qV c k-48)=qV c k-48:=zGI (by omega) (by omega)
   have hw2:IntKind.u64.wrap ((zW (c.take k):Int) * 10)=(zW (c.take k):Int) * 10:=kI (by omega) (by omega)
   have hw3:IntKind.u64.wrap ((zW (c.take k):Int) * 10+(qV c k-48))=(zW (c.take (k+1)):Int):=by rw[kI (by omega) (by omega),hsn];omega
   refine AW.skip (AW.seq (AW.block (rgn [.int .u8 (qV c k)] [[],[],[0,3,4,5,7,20,21,22]] ?_)))
   iterate 3 refine op3 ?_ (hv:=by first|exact True.intro|exact qBJ (hix k h23)|simp;done|omega|simp)
   refine qA (rgz [] [[],[],[],[0,3,4,20,21,22,27,29],[],[],[0,3,4,5,20,21,22]] ?_)
   iterate 7 refine op3 ?_
   refine qA (rgz [] [[],[0,3,4,5,20,21,22]] ?_)
   iterate 2 refine op3 ?_
   refine qA ?_
   exact⟨k+1,by omega,by omega,qE (by simp[hw1,hw2,hw3]),rfl,by simp[hw1,hw2,hw3],by simp[hw1,hw2,hw3]⟩
  intro h23
  try simp at h23
  have hkc:k=c.length:=by omega
  subst hkc
  simp only[List.take_length,hvc]
  have hlz:=qHC (s:=s) (e:=n) (by omega)
  have h3':acc++[qEC s n]++qBC s ((n:Int)-9).toNat=qBC s s.length:=by
   rw[<-h3,show((n:Int)).toNat=n by omega,hlz,show((n:Int)-9).toNat=n-9 by omega];simp
  refine AW.exit ?_
  simp
  refine rgz [.int .u64 (qEC s n:Nat)] [[],[],[],[0,4,36],[0,3,4]] ?_
  iterate 5 refine op3 ?_ (hv:=by first|exact True.intro|((simp;omega);done)|omega|simp)
  refine qA (rgz [] [[],[],[0,3,4]] ?_)
  iterate 3 refine op3 ?_
  refine qA ?_
  exact⟨(n:Int)-9,acc++[qEC s n],⟨by omega,by omega,by simp;omega,h3'⟩,by omega,qE (by simp),rfl,by simp,by simp⟩
 intro h11
 try simp at h11
 have hacc:acc=qBC s s.length:=by rw[<-h3,show e.toNat=0 by omega,xU];simp
 subst hacc
 refine AW.exit ?_
 simp
 refine rgn [.nilp,.sl 1 ((xC s).map wP)] [[],[],[2]] ?_
 iterate 3 refine op3 ?_ (hv:=by first|exact True.intro|(exact qVS _;done)|omega|simp)
 exact qA (AW.ret qI)
theorem qTS (l m:List Nat) (h1:l.length<=1000000) (h2:m.length<=1000000):AFn Tryz.prog G 164 [.sl 1 (l.map wP),.sl 1 (m.map wP)] (.int .i64 (xS l m)):=by
 refine AFn.introU tok Tryz.func164 (by kernel_rfl) rfl rfl ?_
 simp only[Tryz.f164,qG,List.map_cons,List.map_nil]
 have hixl:∀ k:Nat,k<l.length->l[k]?=some (l.getD k 0):=fun k h=>by simp[List.getD_eq_getElem?_getD,h]
 have hixm:∀ k:Nat,k<m.length->m[k]?=some (m.getD k 0):=fun k h=>by simp[List.getD_eq_getElem?_getD,h]
 refine rgn [] [[0,1]] ?_
 refine op3 ?_
 refine qA (AW.seq (rgn [] [[],[],[],[],[0,1,10]] ?_))
 iterate 5 refine op3 ?_
 refine qA (cnd ?_ ?_)
 ·intro h10
  try simp at h10
  have hN:xS l m=(l.length:Int)-m.length:=by simp only[xS];rw[if_pos (by omega)]
  refine rgn [] [[],[],[],[12,14],[],[4]] ?_
  iterate 6 refine op3 ?_
  refine qA ?_
  exact AW.ret (qI (k:=by simp[hN]))
 intro h10
 try simp at h10
 have hlen:l.length=m.length:=by omega
 have hN:xS l m=vA l m l.length:=by simp only[xS];rw[if_neg (by omega)]
 rw[hN]
 refine AW.skip (AW.seq (rgn [] [[],[],[],[0,1,5]] ?_))
 iterate 4 refine op3 ?_
 refine qA (AW.block ?_)
 refine AW.loop (α:=Nat) (fun k=>k<=l.length/\vA l m l.length=vA l m k) (fun k=>⟨zA 41 [(0,.p (.sl 1 (l.map wP))),(1,.p (.sl 1 (m.map wP))),(5,.p (.int .i64 (k-1)))],[],[],0⟩) (fun k=>k) (l.length) ⟨Nat.le_refl _,rfl⟩ ⟨qE (by simp),rfl,by simp,by simp⟩ ?_
 rintro k ⟨hk,ht⟩
 refine AW.seq (rgn [] [[],[0,1,5,20]] ?_)
 iterate 2 refine op3 ?_
 refine qA (cnd ?_ ?_)
 ·intro h20
  try simp at h20
  obtain⟨k,rfl⟩:∃ j,k=j+1:=⟨k-1,by omega⟩
  have hkl:k<l.length:=by omega
  have hkm:k<m.length:=by omega
  have hgl:=hixl k hkl
  have hgm:=hixm k hkm
  have hti:((k+1:Nat):Int)-1=k:=by omega
  simp only[hti]
  generalize hx:l.getD k 0=x at *
  generalize hy:m.getD k 0=y at *
  simp only[vA,hx,hy]at ht
  rw[ht]
  refine AW.skip (AW.seq (AW.block ?_))
  refine AW.seqRunDrawK tok mixed [0,1,5,31] 9 [[0],[5],[23,24],[25],[1],[5],[27,28],[29],[26,30]] [.int .u64 x,.int .u64 y] [] (by kernel_rfl) (by intro C;conv=>lhs;simp) (by simp[hgl,hgm]) (by simp[Sm.sum,Sm.foot,Sm.tch,Sm.refs];kernel_rfl) (by intro C;conv=>lhs;simp) (by first|exact True.intro|omega|simp) ?_
  refine cnd ?_ ?_
  ·intro h31
   try simp at h31
   rw[if_neg (by omega)]
   refine AW.seq ?_
   refine AW.seqRunDrawK tok mixed [40] 9 [[0],[5],[32,33],[34],[1],[5],[36,37],[38],[35,39]] [.int .u64 x,.int .u64 y] [] (by kernel_rfl) (by intro C;conv=>lhs;simp) (by simp[hgl,hgm]) (by simp[Sm.sum,Sm.foot,Sm.tch,Sm.refs];kernel_rfl) (by intro C;conv=>lhs;simp) (by first|exact True.intro|omega|simp) ?_
   refine cnd ?_ ?_
   ·intro h40
    try simp at h40
    rw[if_pos (by omega)]
    refine rgn [] [[]] ?_
    refine op3 ?_
    exact qA (AW.ret qI)
   intro h40
   try simp at h40
   rw[if_neg (by omega)]
   refine AW.skip (rgn [] [[]] ?_)
   refine op3 ?_
   exact qA (AW.ret qI)
  intro h31
  try simp at h31
  refine AW.skip (rgz [] [[],[],[0,1,5]] ?_)
  iterate 3 refine op3 ?_
  refine qA ?_
  exact⟨k,⟨by omega,by rw[if_pos (by omega)]⟩,by omega,qE (by simp),rfl,by simp,by simp⟩
 intro h20
 try simp at h20
 have hk0:k=0:=by omega
 subst hk0
 rw[ht]
 simp only[vA]
 refine AW.exit ?_
 simp
 refine rgn [] [[]] ?_
 refine op3 ?_
 exact qA (AW.ret qI)
def jC (d:Dc) (sc:Int):List UInt8:=d.digits++List.replicate (sc-d.scale).toNat 48
theorem zCT (d:Dc) (sc:Int) (h1:d.digits.length<=1000) (h2:0<=d.scale) (h3:d.scale<=sc) (h4:sc<=1000) (hd:d.digits.all qO=true):AFn Tryz.prog G 202 [d.enc,.ref [.int .i64 sc]] (.sl 1 ((xC (jC d sc)).map wP)):=by
 refine AFn.introU tok Tryz.func202 (by kernel_rfl) rfl rfl ?_
 simp only[Tryz.f202,qG,List.map_cons,List.map_nil]
 have hre:=qML (G:=G) [48] (sc-d.scale).toNat (by simp;omega)
 rw[zIT,show(((sc-d.scale).toNat:Nat):Int)=sc-d.scale by omega]at hre
 have hna:=zOE (G:=G) (jC d sc) (qAF hd _) (by simp[jC];omega)
 unfold jC at hna
 unfold jC
 refine rgn [] [[],[1,2]] ?_
 iterate 2 refine op3 ?_
 refine qA ?_
 refine AW.seqRunDrawK tok mixed [3] 9 [[2],[4],[1],[2],[7],[6,8],[9],[5,10],[11]] [.nilp,.str (List.replicate (sc-d.scale).toNat 48),.nilp,.sl 1 ((xC (d.digits++List.replicate (sc-d.scale).toNat 48)).map wP)] [] (by kernel_rfl) (by intro C;conv=>lhs;simp) (by((repeat' (first|with_reducible apply And.intro|intro _)) <;> first|exact(hre)|exact(hna)|assumption|omega|contradiction|simp_all)) (by simp[Sm.sum,Sm.foot,Sm.tch,Sm.refs];kernel_rfl) (by intro C;conv=>lhs;simp) (by first|exact True.intro|omega|simp) ?_
 exact AW.ret qI
def zY (a b:Dc):Int:=if a.scale<b.scale then b.scale else a.scale
def okD (d:Dc):Prop:=d.digits.length<=1000/\0<=d.scale/\d.scale<=1000/\d.digits.all qO=true
theorem qRR (a b:Dc) (ha:okD a) (hb:okD b):AFn Tryz.prog G 163 [a.enc,b.enc] (.tup [.sl 1 ((xC (jC a (zY a b))).map wP),.sl 1 ((xC (jC b (zY a b))).map wP),.int .i64 (zY a b)]):=by
 refine AFn.introU tok Tryz.func163 (by kernel_rfl) rfl rfl ?_
 simp only[Tryz.f163,qG,List.map_cons,List.map_nil]
 obtain⟨a1,a2,a3,a4⟩:=ha
 obtain⟨b1,b2,b3,b4⟩:=hb
 have hm1:a.scale<=zY a b:=by unfold zY;split <;> omega
 have hm2:b.scale<=zY a b:=by unfold zY;split <;> omega
 have hm3:zY a b<=1000:=by unfold zY;split <;> omega
 have e1:=zCT (G:=G) a (zY a b) a1 a2 hm1 hm3 a4
 have e2:=zCT (G:=G) b (zY a b) b1 b2 hm2 hm3 b4
 have hmx:(if a.scale<b.scale then b.scale else a.scale)=zY a b:=rfl
 refine rgn [] [[],[],[],[2,3],[2,3]] ?_
 iterate 5 refine op3 ?_
 refine qA (rgn [] [[],[],[],[],[2,3,13],[],[2,3,7]] ?_)
 iterate 7 refine op3 ?_
 refine qA (rgn [] [[],[2,3,7,8]] ?_)
 iterate 2 refine op3 ?_
 refine qA ?_
 refine AW.freezeV 7 (by conv=>lhs;simp[hmx]) ?_
 refine AW.seqRunDrawK tok mixed [4,5,6] 9 [[8],[2],[15,16],[8],[3],[18,19],[7],[17],[20]] [.nilp,.sl 1 ((xC (jC a (zY a b))).map wP),.nilp,.sl 1 ((xC (jC b (zY a b))).map wP)] [] (by kernel_rfl) (by intro C;conv=>lhs;simp) (by((repeat' (first|with_reducible apply And.intro|intro _)) <;> first|exact(e1)|exact(e2)|assumption|omega|contradiction|simp_all)) (by simp[Sm.sum,Sm.foot,Sm.tch,Sm.refs];kernel_rfl) (by intro C;conv=>lhs;simp) (by first|exact True.intro|omega|simp) ?_
 exact AW.ret qI
def qCC (a b:Dc):Int:=xS (xC (jC a (zY a b))) (xC (jC b (zY a b)))
def qGG (a b:Dc):Int:=if a.neg=b.neg then(if a.neg=true then sgn (- qCC a b) else sgn (qCC a b)) else if a.neg=true then -1 else 1
theorem zJQ (n:Int):(if 1<(if n < -1 then -1 else n) then 1 else(if n < -1 then -1 else n))=sgn n:=by unfold sgn;split <;> split <;> (try split) <;> omega
theorem zUL (a b:Dc) (ha:okD a) (hb:okD b):AFn Tryz.prog G 122 [a.enc,b.enc] (.int .i64 (qGG a b)):=by
 refine AFn.introU tok Tryz.func122 (by kernel_rfl) rfl rfl ?_
 simp only[Tryz.f122,qG,List.map_cons,List.map_nil]
 have hal:=qRR (G:=G) a b ha hb
 have hl:∀ (d:Dc),okD d->∀ sc:Int,sc<=1000->(xC (jC d sc)).length<=1000000:=fun d hd sc hs=>by
  have:=qQE (jC d sc);have:=hd.1;have:=hd.2.1;simp[jC]at *; omega
 have hm3:zY a b<=1000:=by have:=ha.2.2.1;have:=hb.2.2.1;unfold zY;split <;> omega
 have hcm:=qTS (G:=G) (xC (jC a (zY a b))) (xC (jC b (zY a b))) (hl a ha _ hm3) (hl b hb _ hm3)
 have hrg:=qWR (xC (jC a (zY a b))) (xC (jC b (zY a b))) (hl a ha _ hm3) (hl b hb _ hm3)
 rw[show xS (xC (jC a (zY a b))) (xC (jC b (zY a b)))=qCC a b from rfl]at hcm hrg
 have hwn:IntKind.i64.wrap (- qCC a b) = - qCC a b:=by simp[IntKind.wrap,IntKind.bits,IntKind.signed];omega
 refine rgn [] [[],[],[2,3]] ?_
 iterate 3 refine op3 ?_
 refine qA (rgn [.nilp,.tup [.sl 1 ((xC (jC a (zY a b))).map wP),.sl 1 ((xC (jC b (zY a b))).map wP),.int .i64 (zY a b)]] [[],[],[],[],[],[],[2,3,13,14,15],[],[],[2,3,5,6]] ?_)
 iterate 10 refine oq1 tok hal ?_
 refine qA (rgn [.nilp,.int .i64 (qCC a b)] [[],[],[2,3,18],[2,3,8]] ?_)
 iterate 4 refine oq1 tok hcm ?_
 refine qA (AW.seq (AW.block (rgn [] [[],[],[],[],[2,8,24],[2,8,19]] ?_)))
 iterate 6 refine op3 ?_
 refine qA (cnd ?_ ?_)
 ·intro h19
  try simp at h19
  refine rgn [] [[]] ?_
  refine op3 ?_
  refine qA (rgn [] [[],[8,26]] ?_)
  iterate 2 refine op3 ?_
  refine qA (cnd ?_ ?_)
  ·intro h26
   try simp at h26
   have hC:qGG a b = -1:=by unfold qGG;rw[if_neg h19,if_pos h26]
   refine rgz [] [[]] ?_
   refine op3 ?_
   refine qA (rgn [] [[],[],[],[4]] ?_)
   iterate 4 refine op3 ?_
   refine qA ?_
   exact AW.ret (qI (k:=by simp[hC]))
  intro h26
  try simp at h26
  have hC:qGG a b=1:=by unfold qGG;rw[if_neg h19,if_neg (by simp[h26])]
  refine AW.skip (rgn [] [[],[],[],[4]] ?_)
  iterate 4 refine op3 ?_
  refine qA ?_
  exact AW.ret (qI (k:=by simp[hC]))
 intro h19
 try simp at h19
 refine rgn [] [[],[],[8,27]] ?_
 iterate 3 refine op3 ?_
 refine qA (cnd ?_ ?_)
 ·intro h27
  try simp at h27
  have hC:qGG a b=sgn (- qCC a b):=by unfold qGG;rw[if_pos h19,if_pos h27]
  refine rgz [] [[],[],[8]] ?_
  iterate 3 refine op3 ?_
  refine qA (rgn [] [[],[],[],[4]] ?_)
  iterate 4 refine op3 ?_
  refine qA ?_
  exact AW.ret (qI (k:=by(simp[hwn,hC];unfold sgn;(repeat' split) <;> omega)))
 intro h27
 try simp at h27
 have hC:qGG a b=sgn (qCC a b):=by unfold qGG;rw[if_pos h19,if_neg (by simp[h27])]
 refine AW.skip (rgn [] [[],[],[],[4]] ?_)
 iterate 4 refine op3 ?_
 refine qA ?_
 exact AW.ret (qI (k:=by simp[zJQ,hC]))
theorem jB {d:Dc} (h:zO d=true):okD d/\d.digits.length<=60/\d.scale<=60:=by
 unfold zO at h
 simp only[Bool.and_eq_true,decide_eq_true_eq]at h
 obtain⟨⟨h1,h2⟩,_⟩:=h
 exact⟨⟨by omega,by omega,by omega,h1⟩,by omega,by omega⟩
def qN (d:Dc):Nat:=zW d.digits * 10 ^ (60-d.scale.toNat)
def qD (d:Dc):Int:=if d.neg=true then-(qN d:Int) else qN d
theorem zSZ {a:Int} {k:Int} (hk:0<k):sgn (a * k)=sgn a:=by
 unfold sgn
 by_cases h1:a<0
 ·rw[if_pos h1,if_pos (Int.mul_neg_of_neg_of_pos h1 hk)]
 rw[if_neg h1]
 by_cases h2:a=0
 ·subst h2;simp
 have:=Int.mul_pos (show 0<a by omega) hk
 rw[if_neg h2,if_neg (by omega),if_neg (by omega)]
theorem zNO {a b:Dc} (ha:zO a=true) (hb:zO b=true):sgn (qCC a b)=sgn ((qN a:Int)-qN b):=by
 obtain⟨⟨a1,a2,a3,a4⟩,a5,a6⟩:=jB ha
 obtain⟨⟨b1,b2,b3,b4⟩,b5,b6⟩:=jB hb
 have hm1:a.scale<=zY a b:=by unfold zY;split <;> omega
 have hm2:b.scale<=zY a b:=by unfold zY;split <;> omega
 have hm3:zY a b<=60:=by unfold zY;split <;> omega
 unfold qCC jC
 rw[qMZ (qJX (qAF a4 _)) (qJX (qAF b4 _)),qJW (qAF a4 _),qJW (qAF b4 _),qJB,qJB]
 have ea:(qN a:Int)=((zW a.digits * 10 ^ (zY a b-a.scale).toNat:Nat):Int) * ((10 ^ (60-(zY a b).toNat):Nat):Int):=by
  rw[<-Int.natCast_mul,Nat.mul_assoc,<-Nat.pow_add,show(zY a b-a.scale).toNat+(60-(zY a b).toNat)=60-a.scale.toNat by omega];rfl
 have eb:(qN b:Int)=((zW b.digits * 10 ^ (zY a b-b.scale).toNat:Nat):Int) * ((10 ^ (60-(zY a b).toNat):Nat):Int):=by
  rw[<-Int.natCast_mul,Nat.mul_assoc,<-Nat.pow_add,show(zY a b-b.scale).toNat+(60-(zY a b).toNat)=60-b.scale.toNat by omega];rfl
 rw[ea,eb,<-Int.sub_mul,zSZ (by have:=Nat.pow_pos (n:=60-(zY a b).toNat) (show 0<10 by omega);omega)]
theorem zGW (n:Int):sgn (- n) = - sgn n:=by unfold sgn;split <;> split <;> (try split) <;> omega
theorem qAT {s:List UInt8} (hd:s.all qO=true) (hl:0<s.length) (h:qV s 0≠48):10 ^ (s.length-1)<=zW s:=by
 cases s with
 | nil=>simp at hl
 | cons b s =>
  simp only[List.all_cons,Bool.and_eq_true]at hd
  have h1:=(kL b).1 hd.1
  have h2:b.toNat≠48:=by simp[qV]at h;omega
  rw[jS]
  have:=Nat.mul_le_mul_right (10 ^ s.length) (show 1<=b.toNat-48 by omega)
  simp;omega
theorem zHA {d:Dc} (h:zO d=true) (h0:qN d=0):d.neg=false:=by
 have hk:=jB h
 unfold zO at h
 simp only[Bool.and_eq_true,decide_eq_true_eq]at h
 obtain⟨⟨h1,h2⟩,h3⟩:=h
 by_cases hz:d.digits=[48]
 ·rw[if_pos hz]at h3;simp at h3;exact h3.2
 rw[if_neg hz]at h3
 simp at h3
 have:=qAT h1 (by omega) h3.1
 have hp:=Nat.pow_pos (n:=d.digits.length-1) (show 0<10 by omega)
 have hq:0<qN d:=Nat.mul_pos (by omega) (Nat.pow_pos (by omega))
 omega
theorem zLL {a b:Dc} (ha:zO a=true) (hb:zO b=true):qGG a b=sgn (qD a-qD b):=by
 have hr:=zNO ha hb
 unfold qGG
 by_cases h:a.neg=b.neg
 ·rw[if_pos h]
  unfold qD
  rw[<-h]
  split
  ·rw[zGW,hr,<-zGW];congr 1;omega
  exact hr
 rw[if_neg h]
 have hz1:=fun h0=>zHA ha h0
 have hz2:=fun h0=>zHA hb h0
 unfold qD
 cases hna:a.neg with
 | true =>
  have hnb:b.neg=false:=by rw[hna]at h;simpa using h
  have:qN a≠0:=fun e=>by have:=hz1 e;rw[hna]at this;cases this
  rw[hnb];simp[sgn];omega
 | false =>
  have hnb:b.neg=true:=by rw[hna]at h;simpa using h
  have:qN b≠0:=fun e=>by have:=hz2 e;rw[hnb]at this;cases this
  rw[hnb];simp[sgn];omega
def vG (s:List UInt8) (i:Nat):Nat->Nat->Int->Option Int
 | 0,_,v=>some v
 | r+1,j,v=>match s[i+j]? with
  | none=>none
  | some c=>if(c.toNat:Int)<128\/192<=(c.toNat:Int) then none else vG s i r (j+1) (64 * v+c.toNat-128)
def jA (c:Int):Nat × Int × Int :=
 if 194<=c/\c<224 then(2,128,c-192) else if 224<=c/\c<240 then(3,2048,c-224) else if 240<=c/\c<245 then(4,65536,c-240) else(0,0,0)
def qPQ (low:Int) (need:Nat):Option Int->Int × Int
 | none=>(0,0)
 | some v=>if v<low\/v > 1114111\/(55296<=v/\v<57344) then(0,0) else(v,need)
def jH (s:List UInt8) (i:Nat) (x:Nat × Int × Int):Int × Int:=if x.1=0\/s.length<i+x.1 then(0,0) else qPQ x.2.1 x.1 (vG s i (x.1-1) 1 x.2.2)
def yL (s:List UInt8) (i:Nat):Int × Int:=match s[i]? with
 | none=>(0,0)
 | some b=>if(b.toNat:Int)<128 then(b.toNat,1) else jH s i (jA b.toNat)
def rS (s:List UInt8) (i:Nat) (x:Nat × Int × Int):St:=⟨[.p (.str s),.p (.int .i64 i),.dead,.dead,.p (.int .i64 0),.p (.int .i64 0),.dead,.p (.int .i64 x.1),.p (.int .i64 x.2.1),.p (.int .i64 x.2.2)]++List.replicate 86 .dead,[],[],0⟩
def rS2 (s:List UInt8) (i:Nat) (need:Nat) (low:Int) (a:Nat × Int):St:=⟨[.p (.str s),.p (.int .i64 i),.dead,.dead,.p (.int .i64 0),.p (.int .i64 0),.dead,.p (.int .i64 need),.p (.int .i64 low),.p (.int .i64 a.2),.p (.int .i64 a.1)]++List.replicate 85 .dead,[],[],0⟩
theorem zVB (s:List UInt8) (i:Nat) (hi:i<s.length) (hs:s.length<=1000000000):AFn Tryz.prog G 92 [.str s,.int .i64 i] (.tup [.int .i64 (yL s i).1,.int .i64 (yL s i).2]):=by
 refine AFn.intro tok Tryz.func92 (by kernel_rfl) rfl ?_
 simp only[Tryz.f92,St.start]
 obtain⟨b,hb⟩:∃ b,s[i]?=some b:=⟨s[i],by simp[hi]⟩
 have hblt:b.toNat<256:=b.toNat_lt
 have hrune:yL s i=if(b.toNat:Int)<128 then((b.toNat:Int),1) else jH s i (jA b.toNat):=by simp only[yL,hb]
 refine AW.seqRun tok [] (by intro C;conv=>lhs;simp) trivial ?_
 refine AW.seqRun tok [.int .u8 b.toNat] (by intro C;conv=>lhs;simp) (by simp[hb]) ?_
 refine AW.seqRun tok [] (by intro C;conv=>lhs;simp) trivial ?_
 refine AW.seqRun tok [] (by intro C;conv=>lhs;simp) trivial ?_
 refine AW.seqRun tok [] (by intro C;conv=>lhs;simp) trivial ?_
 refine AW.join (α:=Nat × Int × Int) (fun x=>yL s i=jH s i x/\x.1<=4/\0<=x.2.2/\x.2.2<=40) (fun x=>rS s i x) ?_ ?_
 ·refine AW.block ?_
  refine AW.seqRun tok [] (by intro C;conv=>lhs;simp) trivial ?_
  refine AW.cond (c := .tmp 16) (by conv=>lhs;simp) trivial ?_ ?_
  ·intro h1
   simp at h1
   refine AW.seqRun tok [] (by intro C;conv=>lhs;simp) trivial ?_
   exact AW.ret ⟨.inr rfl,_,_,by(conv=>lhs;simp),trivial,by rw[hrune,if_pos h1];simp⟩
  intro h1
  simp at h1
  have hr2:yL s i=jH s i (jA b.toNat):=by rw[hrune,if_neg (by omega)]
  refine AW.seqRun tok [] (by intro C;conv=>lhs;simp) (by simp) ?_
  refine AW.cond (c := .tmp 20) (by conv=>lhs;simp) trivial ?_ ?_
  ·intro h2
   simp at h2
   refine AW.seqRun tok [] (by intro C;conv=>lhs;simp) trivial ?_
   refine AW.seqRun tok [] (by intro C;conv=>lhs;simp) trivial ?_
   refine AW.run tok [] (by intro C;conv=>lhs;simp) (by omega) ?_
   exact⟨(2,128,b.toNat-192),⟨by rw[hr2];simp[jA,h2],by simp,by simp;omega,by simp;omega⟩,by simp[rS],rfl,by simp[rS],by simp[rS]⟩
  intro h2
  refine AW.seqRun tok [] (by intro C;conv=>lhs;simp) (by simp) ?_
  refine AW.cond (c := .tmp 29) (by conv=>lhs;simp) trivial ?_ ?_
  ·intro h3
   simp at h3
   refine AW.seqRun tok [] (by intro C;conv=>lhs;simp) trivial ?_
   refine AW.seqRun tok [] (by intro C;conv=>lhs;simp) trivial ?_
   refine AW.run tok [] (by intro C;conv=>lhs;simp) (by omega) ?_
   exact⟨(3,2048,b.toNat-224),⟨by rw[hr2];simp[jA,h3,show ¬ ((b.toNat:Int)<224) by omega],by simp,by simp;omega,by simp;omega⟩,by simp[rS],rfl,by simp[rS],by simp[rS]⟩
  intro h3
  refine AW.seqRun tok [] (by intro C;conv=>lhs;simp) (by simp) ?_
  refine AW.cond (c := .tmp 38) (by conv=>lhs;simp) trivial ?_ ?_
  ·intro h4
   simp at h4
   refine AW.seqRun tok [] (by intro C;conv=>lhs;simp) trivial ?_
   refine AW.seqRun tok [] (by intro C;conv=>lhs;simp) trivial ?_
   refine AW.run tok [] (by intro C;conv=>lhs;simp) (by omega) ?_
   exact⟨(4,65536,b.toNat-240),⟨by rw[hr2];simp[jA,h4,show ¬ ((b.toNat:Int)<224) by omega,show ¬ ((b.toNat:Int)<240) by omega],by simp,by simp;omega,by simp;omega⟩,by simp[rS],rfl,by simp[rS],by simp[rS]⟩
  intro h4
  simp at h2 h3 h4
  refine AW.skip ?_
  exact⟨(0,0,0),⟨by rw[hr2];simp[jA,show ¬ (194<=(b.toNat:Int)/\(b.toNat:Int)<224) by omega,show ¬ (224<=(b.toNat:Int)/\(b.toNat:Int)<240) by omega,show ¬ (240<=(b.toNat:Int)/\(b.toNat:Int)<245) by omega],
   by simp,by simp,by simp⟩,by simp[rS],rfl,by simp[rS],by simp[rS]⟩
 rintro⟨need,low,v0⟩ ⟨hr,hneed,hv0,hv1⟩
 simp only at hneed hv0 hv1
 simp only[rS]
 rw[hr]
 refine AW.seq ?_
 refine AW.seqRun tok [] (by intro C;conv=>lhs;simp) (by simp +contextual;omega) ?_
 refine AW.cond (c := .tmp 56) (by conv=>lhs;simp) trivial ?_ ?_
 ·intro h1
  simp at h1
  refine AW.seqRun tok [] (by intro C;conv=>lhs;simp) trivial ?_
  exact AW.ret ⟨.inr rfl,_,_,by(conv=>lhs;simp),trivial,by simp[jH,show need=0\/s.length<i+need by omega]⟩
 intro h1
 simp at h1
 have hfit:¬ (need=0\/s.length<i+need):=by omega
 have htl:jH s i (need,low,v0)=qPQ low need (vG s i (need-1) 1 v0):=by simp only[jH];rw[if_neg hfit]
 rw[htl]
 refine AW.skip (AW.seq ?_)
 refine AW.seqRun tok [] (by intro C;conv=>lhs;simp) trivial ?_
 refine AW.block ?_
 refine AW.loop (α:=Nat × Int) (fun a=>1<=a.1/\a.1<=need/\vG s i (need-1) 1 v0=vG s i (need-a.1) a.1 a.2/\0<=a.2/\(a.1=1->a.2<=40)/\(a.1=2->a.2<=3000)/\(a.1=3->a.2<=200000)/\(a.1=4->a.2<=14000000))
  (fun a=>rS2 s i need low a) (fun a=>need-a.1) (1,v0) ⟨by simp,by omega,rfl,hv0,fun _=>hv1,by simp,by simp,by simp⟩ ⟨by simp[rS2],rfl,by simp[rS2],by simp[rS2]⟩ ?_
 rintro⟨j,v⟩ ⟨hj1,hj2,hlp,hv,hb1,hb2,hb3,hb4⟩
 simp only at hj1 hj2 hlp hv hb1 hb2 hb3 hb4
 simp only[rS2]
 refine AW.seq ?_
 refine AW.seqRun tok [] (by intro C;conv=>lhs;simp) trivial ?_
 refine AW.cond (c := .tmp 59) (by conv=>lhs;simp) trivial ?_ ?_
 ·intro h4
  simp at h4
  obtain⟨c,hc⟩:∃ c,s[i+j]?=some c:=⟨s[i+j]'(by omega),by simp[show i+j<s.length by omega]⟩
  have hclt:c.toNat<256:=c.toNat_lt
  have hstep:vG s i (need-j) j v=if(c.toNat:Int)<128\/192<=(c.toNat:Int) then none else vG s i (need-(j+1)) (j+1) (64 * v+c.toNat-128):=by
   rw[show need-j=(need-(j+1))+1 by omega];simp only[vG,hc]
  refine AW.skip (AW.seq (AW.block ?_))
  refine AW.seqRun tok [.int .u8 c.toNat] (by intro C;conv=>lhs;simp) (by rw[show((i:Int)+j).toNat=i+j by omega];simp[hc];omega) ?_
  refine AW.seq ?_
  refine AW.seqRun tok [] (by intro C;conv=>lhs;simp) (by simp) ?_
  refine AW.cond (c := .tmp 73) (by conv=>lhs;simp) trivial ?_ ?_
  ·intro h5
   simp at h5
   refine AW.seqRun tok [] (by intro C;conv=>lhs;simp) trivial ?_
   exact AW.ret ⟨.inr rfl,_,_,by(conv=>lhs;simp),trivial,by rw[hlp,hstep,if_pos (by omega)];simp[qPQ]⟩
  intro h5
  simp at h5
  refine AW.skip ?_
  refine AW.run tok [] (by intro C;conv=>lhs;simp) (by omega) ?_
  refine AW.run tok [] (by intro C;conv=>lhs;simp) (by omega) ?_
  exact⟨(j+1,64 * v+c.toNat-128),⟨by simp,by simp;omega,by rw[hlp,hstep,if_neg (by omega)],by simp;omega,by simp;omega,by simp;omega,by simp;omega,by simp;omega⟩,by simp;omega,by simp[rS2],rfl,by simp[rS2],by simp[rS2]⟩
 intro h4
 simp at h4
 have hjn:j=need:=by omega
 subst hjn
 rw[hlp]
 simp only[Nat.sub_self,vG]
 refine AW.exit ?_
 simp
 refine AW.seq ?_
 refine AW.seqRun tok [] (by intro C;conv=>lhs;simp) (by omega) ?_
 refine AW.cond (c := .tmp 93) (by conv=>lhs;simp) trivial ?_ ?_
 ·intro h5
  simp at h5
  refine AW.seqRun tok [] (by intro C;conv=>lhs;simp) trivial ?_
  exact AW.ret ⟨.inr rfl,_,_,by(conv=>lhs;simp),trivial,by simp only[qPQ];rw[if_pos (by omega)];simp⟩
 intro h5
 simp at h5
 refine AW.skip ?_
 refine AW.seqRun tok [] (by intro C;conv=>lhs;simp) trivial ?_
 exact AW.ret ⟨.inr rfl,_,_,by(conv=>lhs;simp),trivial,by simp only[qPQ];rw[if_neg (by omega)];simp⟩
theorem qTK (s:List UInt8) (i:Nat) (hi:i<s.length):0<=(yL s i).2/\(i:Int)+(yL s i).2<=s.length/\(yL s i).2<=4:=by
 unfold yL
 split
 ·simp;omega
 rename_i b hb
 split
 ·simp;omega
 have h4:(jA b.toNat).1<=4:=by
  unfold jA;split
  ·simp
  split
  ·simp
  split <;> simp
 generalize jA b.toNat=x at h4
 unfold jH
 split
 ·simp;omega
 rename_i h
 have h':i+x.1<=s.length:=by omega
 unfold qPQ
 split
 ·simp;omega
 split
 ·simp;omega
 simp only;omega
def qMN (s:List UInt8):Nat->Nat->Bool
 | 0,_=>true
 | f+1,i=>if i<s.length then(if(yL s i).2=0 then false else qMN s f (i+(yL s i).2.toNat)) else true
def qAS (s:List UInt8):Bool:=qMN s (s.length+1) 0
def vS (s:List UInt8) (i:Nat):St:=⟨[.p (.str s),.dead,.p (.bool false),.p (.int .i64 i)]++List.replicate 17 .dead,[],[],0⟩
theorem qMU (s:List UInt8) (hs:s.length<=1000000000):AFn Tryz.prog G 48 [.str s] (.bool (qAS s)):=by
 refine AFn.intro tok Tryz.func48 (by kernel_rfl) rfl ?_
 simp only[Tryz.f48,St.start]
 refine AW.seqRun tok [] (by intro C;conv=>lhs;simp) trivial ?_
 refine AW.seqRun tok [] (by intro C;conv=>lhs;simp) trivial ?_
 refine AW.seq (AW.block ?_)
 refine AW.loop (α:=Nat × Nat) (fun a=>qAS s=qMN s a.2 a.1/\a.1<=s.length/\s.length+1<=a.2+a.1) (fun a=>vS s a.1) (fun a=>s.length-a.1) (0,s.length+1) ⟨rfl,by simp,by simp⟩ ⟨by simp[vS],rfl,by simp[vS],by simp[vS]⟩ ?_
 rintro⟨i,f⟩ ⟨hI,hi,hf⟩
 simp only at hI hi hf
 simp only[vS]
 refine AW.seq ?_
 refine AW.seqRun tok [] (by intro C;conv=>lhs;simp) trivial ?_
 refine AW.cond (c := .tmp 9) (by conv=>lhs;simp) trivial ?_ ?_
 ·intro h1
  simp at h1
  obtain⟨f,rfl⟩:∃ f',f=f'+1:=⟨f-1,by omega⟩
  have hl:=qTK s i h1
  have hR:=zVB (G:=G) s i h1 hs
  simp only[qMN,h1,if_true]at hI
  refine AW.skip (AW.block ?_)
  refine AW.seqRun tok [.tup [.str s,.int .i64 i],.tup [.int .i64 (yL s i).1,.int .i64 (yL s i).2]] (by intro C;conv=>lhs;simp) (by simp[hR]) ?_
  refine AW.seq ?_
  refine AW.seqRun tok [] (by intro C;conv=>lhs;simp) trivial ?_
  refine AW.cond (c := .tmp 17) (by conv=>lhs;simp) trivial ?_ ?_
  ·intro h2
   simp at h2
   refine AW.seqRun tok [] (by intro C;conv=>lhs;simp) trivial ?_
   exact AW.ret ⟨.inr rfl,_,_,by(conv=>lhs;simp),trivial,by rw[hI];simp[h2]⟩
  intro h2
  simp at h2
  rw[if_neg h2]at hI
  refine AW.skip ?_
  refine AW.run tok [] (by intro C;conv=>lhs;simp) (by omega) ?_
  exact⟨(i+(yL s i).2.toNat,f),⟨hI,by simp;omega,by simp;omega⟩,by simp;omega,by simp[vS];omega,rfl,by simp[vS],by simp[vS]⟩
 intro h1
 simp at h1
 refine AW.exit ?_
 simp
 refine AW.seqRun tok [] (by intro C;conv=>lhs;simp) trivial ?_
 exact AW.ret ⟨.inr rfl,_,_,by(conv=>lhs;simp),trivial,by
  rw[hI]
  cases f with
  | zero=>simp[qMN]
  | succ f=>simp only[qMN];rw[if_neg (by omega)];simp⟩
theorem zFY {s:List UInt8} {j:Nat} {c:UInt8} (h:s[j]?=some c):(⟨s.toArray⟩:ByteArray).get! j=c:=by
 have hj:=(List.getElem?_eq_some_iff.1 h).1
 have hc:=(List.getElem?_eq_some_iff.1 h).2
 show s.toArray[j]! = c
 rw[getElem!_pos s.toArray j (by simpa using hj)]
 simpa using hc
def jZ (o:Option UInt8):Nat:=match o with
 | some c=>c.toNat
 | none=>0
def yR (o:Option UInt8):Bool:=match o with
 | some c=>c.toNat / 64 == 2
 | none=>false
def qRH (b0:Nat) (o1 o2 o3:Option UInt8):Nat × Nat :=
 if b0<0x80 then(b0,1)
 else if b0 / 32 == 6 && yR o1 then
  if(b0 % 32) * 64+jZ o1 % 64 >= 0x80 then((b0 % 32) * 64+jZ o1 % 64,2) else(65533,1)
 else if b0 / 16 == 14 && yR o1 && yR o2 then
  if(b0 % 16) * 4096+(jZ o1 % 64) * 64+jZ o2 % 64 >= 0x800 && Utf8.valid ((b0 % 16) * 4096+(jZ o1 % 64) * 64+jZ o2 % 64:Nat) then((b0 % 16) * 4096+(jZ o1 % 64) * 64+jZ o2 % 64,3) else(65533,1)
 else if b0 / 8 == 30 && yR o1 && yR o2 && yR o3 then
  if(b0 % 8) * 262144+(jZ o1 % 64) * 4096+(jZ o2 % 64) * 64+jZ o3 % 64 >= 0x10000 && Utf8.valid ((b0 % 8) * 262144+(jZ o1 % 64) * 4096+(jZ o2 % 64) * 64+jZ o3 % 64:Nat) then
   ((b0 % 8) * 262144+(jZ o1 % 64) * 4096+(jZ o2 % 64) * 64+jZ o3 % 64,4) else(65533,1)
 else(65533,1)
theorem zPU {s:List UInt8} {i:Nat} {b:UInt8} (h:s[i]?=some b):Utf8.decode ⟨s.toArray⟩ i=qRH b.toNat s[i+1]? s[i+2]? s[i+3]?:=by
 have hsz:(⟨s.toArray⟩:ByteArray).size=s.length:=by simp[ByteArray.size]
 have cont:∀ k,(decide (i+k<(⟨s.toArray⟩:ByteArray).size) && ((⟨s.toArray⟩:ByteArray).get! (i+k)).toNat / 64 == 2)=yR s[i+k]?:=by
  intro k
  rw[hsz]
  cases hk:s[i+k]? with
  | none =>
   have:¬ i+k<s.length:=by have:=List.getElem?_eq_none_iff.1 hk;omega
   simp[yR,this]
  | some c =>
   have:=(List.getElem?_eq_some_iff.1 hk).1
   simp[yR,this,zFY hk]
 have byt:∀ k,yR s[i+k]?=true->((⟨s.toArray⟩:ByteArray).get! (i+k)).toNat=jZ s[i+k]?:=by
  intro k hk
  cases hc:s[i+k]? with
  | none=>rw[hc]at hk;cases hk
  | some c=>rw[zFY hc];rfl
 have b0:((⟨s.toArray⟩:ByteArray).get! (i+0)).toNat=b.toNat:=by rw[Nat.add_zero,zFY h]
 unfold Utf8.decode qRH
 simp only[cont,b0]
 by_cases h1:yR s[i+1]?=true
 ·rw[byt 1 h1]
  by_cases h2:yR s[i+2]?=true
  ·rw[byt 2 h2]
   by_cases h3:yR s[i+3]?=true
   ·rw[byt 3 h3];simp only[h1,h2,h3];rfl
   simp only[h1,h2,h3,Bool.and_false,Bool.false_eq_true,if_false];rfl
  simp only[h1,h2,Bool.and_false,Bool.false_and,Bool.false_eq_true,if_false];rfl
 simp only[h1,Bool.and_false,Bool.false_and,Bool.false_eq_true,if_false];rfl
theorem zPI (low v:Int) (m k:Nat) (hk:k≠0) (hv:v=(m:Int)):(if(qPQ low k (some v)).2=0 then((65533:Nat),(1:Nat)) else((qPQ low k (some v)).1.toNat,(qPQ low k (some v)).2.toNat)) =
  if(m:Int)<low\/(m:Int) > 1114111\/(55296<=(m:Int)/\(m:Int)<57344) then(65533,1) else(m,k):=by
 subst hv
 unfold qPQ
 by_cases h:(m:Int)<low\/(m:Int) > 1114111\/(55296<=(m:Int)/\(m:Int)<57344)
 ·simp only[h,if_true]
 simp only[h,if_false]
 rw[if_neg (by omega)]
 rfl
theorem qIC (m:Nat):Utf8.valid (m:Int)=decide (¬ ((m:Int) > 1114111\/(55296<=(m:Int)/\(m:Int)<57344))):=by
 rw[Bool.eq_iff_iff];simp only[Utf8.valid,Bool.or_eq_true,Bool.and_eq_true,decide_eq_true_eq];omega
theorem isC (c:UInt8):(c.toNat / 64 == 2)=decide (128<=c.toNat/\c.toNat<192):=by rw[Bool.eq_iff_iff];simp only[beq_iff_eq,decide_eq_true_eq];omega
theorem yG (c:UInt8):yR (some c)=decide (128<=c.toNat/\c.toNat<192):=isC c
theorem xI {s:List UInt8} {i r j:Nat} {v:Int} {c:UInt8} (h:s[i+j]?=some c) (hc:128<=c.toNat/\c.toNat<192):vG s i (r+1) j v=vG s i r (j+1) (64 * v+c.toNat-128):=by
 simp only[vG,h];rw[if_neg (by omega)]
theorem qCN {s:List UInt8} {i r j:Nat} {v:Int} {c:UInt8} (h:s[i+j]?=some c) (hc:¬ (128<=c.toNat/\c.toNat<192)):vG s i (r+1) j v=none:=by
 simp only[vG,h];rw[if_pos (by omega)]
theorem xO {n:Nat} {o1 o2 o3:Option UInt8} (h0:¬ n<128) (h:(n / 32=6->yR o1=true->n % 32 * 64+jZ o1 % 64<128)/\(n / 16=14->yR o1=true->yR o2=false)/\(n / 8=30->yR o1=true->yR o2=true->yR o3=true->1114111<n % 8 * 262144)) :
  qRH n o1 o2 o3=(65533,1):=by
 obtain⟨h1,h2,h3⟩:=h
 unfold qRH
 rw[if_neg h0]
 by_cases a:n / 32=6
 ·have b:¬ n / 16=14:=by omega
  have c:¬ n / 8=30:=by omega
  cases hc:yR o1 with
  | true=>simp only[a,beq_self_eq_true,Bool.and_self,if_true];rw[if_neg (by have:=h1 a hc;omega)]
  | false=>simp[a,b,c]
 by_cases b:n / 16=14
 ·have c:¬ n / 8=30:=by omega
  cases hc:yR o1 with
  | true=>simp[a,b,c,h2 b hc]
  | false=>simp[a,b,c]
 by_cases c:n / 8=30
 ·cases hc1:yR o1 with
  | false=>simp[a,b]
  | true =>
   cases hc2:yR o2 with
   | false=>simp[a,b]
   | true =>
    cases hc3:yR o3 with
    | false=>simp[a,b]
    | true =>
     have hb:=h3 c hc1 hc2 hc3
     simp only[a,b,c,beq_iff_eq,beq_self_eq_true,Bool.false_and,Bool.and_self,Bool.and_true,if_false,if_true,Bool.false_eq_true]
     rw[if_neg]
     rw[qIC]
     simp only[Bool.and_eq_true,decide_eq_true_eq]
     omega
 simp[a,b,c]
theorem zYC {n:Nat} {c:UInt8} {o2 o3:Option UInt8} (h0:¬ n<128) (hn:n / 32=6) (hc:128<=c.toNat/\c.toNat<192) :
  qRH n (some c) o2 o3=if n % 32 * 64+c.toNat % 64 >= 128 then(n % 32 * 64+c.toNat % 64,2) else(65533,1):=by
 have h1:yR (some c)=true:=by rw[yG];exact decide_eq_true hc
 unfold qRH
 rw[if_neg h0,if_pos (by rw[h1,hn];rfl)]
 rfl
theorem zYB {n:Nat} {c d:UInt8} {o3:Option UInt8} (h0:¬ n<128) (hn:n / 16=14) (hc:128<=c.toNat/\c.toNat<192) (hd:128<=d.toNat/\d.toNat<192) {m:Nat} (hm:m=n % 16 * 4096+c.toNat % 64 * 64+d.toNat % 64) :
  qRH n (some c) (some d) o3=if(m:Int)<2048\/(m:Int) > 1114111\/(55296<=(m:Int)/\(m:Int)<57344) then(65533,1) else(m,3):=by
 have h1:yR (some c)=true:=by rw[yG];exact decide_eq_true hc
 have h2:yR (some d)=true:=by rw[yG];exact decide_eq_true hd
 have e1:¬ n / 32=6:=by omega
 unfold qRH
 rw[if_neg h0,if_neg (by rw[h1];simp[e1]),if_pos (by rw[h1,h2,hn];rfl)]
 simp only[jZ,<-hm,qIC]
 clear hm
 by_cases hb:(m:Int)<2048\/(m:Int) > 1114111\/55296<=(m:Int)/\(m:Int)<57344
 ·rw[if_pos hb,if_neg];simp only[Bool.and_eq_true,decide_eq_true_eq];omega
 rw[if_neg hb,if_pos];simp only[Bool.and_eq_true,decide_eq_true_eq];omega
theorem zYA {n:Nat} {c d e:UInt8} (h0:¬ n<128) (hn:n / 8=30) (hc:128<=c.toNat/\c.toNat<192) (hd:128<=d.toNat/\d.toNat<192) (he:128<=e.toNat/\e.toNat<192) {m:Nat}
  (hm:m=n % 8 * 262144+c.toNat % 64 * 4096+d.toNat % 64 * 64+e.toNat % 64) :
  qRH n (some c) (some d) (some e)=if(m:Int)<65536\/(m:Int) > 1114111\/(55296<=(m:Int)/\(m:Int)<57344) then(65533,1) else(m,4):=by
 have h1:yR (some c)=true:=by rw[yG];exact decide_eq_true hc
 have h2:yR (some d)=true:=by rw[yG];exact decide_eq_true hd
 have h3:yR (some e)=true:=by rw[yG];exact decide_eq_true he
 have e1:¬ n / 32=6:=by omega
 have e2:¬ n / 16=14:=by omega
 unfold qRH
 rw[if_neg h0,if_neg (by rw[h1];simp[e1]),if_neg (by rw[h1,h2];simp[e2]),if_pos (by rw[h1,h2,h3,hn];rfl)]
 simp only[jZ,<-hm,qIC]
 clear hm
 by_cases hb:(m:Int)<65536\/(m:Int) > 1114111\/55296<=(m:Int)/\(m:Int)<57344
 ·rw[if_pos hb,if_neg];simp only[Bool.and_eq_true,decide_eq_true_eq];omega
 rw[if_neg hb,if_pos];simp only[Bool.and_eq_true,decide_eq_true_eq];omega
theorem qZS {s:List UInt8} {i:Nat} (hi:i<s.length):Utf8.decode ⟨s.toArray⟩ i=if(yL s i).2=0 then(65533,1) else((yL s i).1.toNat,(yL s i).2.toNat):=by
 obtain⟨b,hb⟩:∃ b,s[i]?=some b:=⟨s[i],by simp[hi]⟩
 rw[zPU hb]
 have hblt:b.toNat<256:=b.toNat_lt
 have hr:yL s i=if(b.toNat:Int)<128 then((b.toNat:Int),1) else jH s i (jA b.toNat):=by simp only[yL,hb]
 have in1:∀ k,s[i+k]?=none↔s.length<=i+k:=fun k=>List.getElem?_eq_none_iff
 have has:∀ k,i+k<s.length->∃ c,s[i+k]?=some c:=fun k hk=>⟨s[i+k],by simp[hk]⟩
 generalize b.toNat=n at hblt hr
 by_cases h0:n<128
 ·rw[if_pos (by omega)]at hr
  rw[hr]
  simp[qRH,h0]
 rw[if_neg (by omega)]at hr
 rw[hr]
 clear hr
 have tail0:∀ x:Nat × Int × Int,(x.1=0\/s.length<i+x.1)->(if(jH s i x).2=0 then((65533:Nat),(1:Nat)) else((jH s i x).1.toNat,(jH s i x).2.toNat))=(65533,1):=by
  intro x hx;unfold jH;rw[if_pos hx];rfl
 have tailn:∀ x:Nat × Int × Int, ¬ (x.1=0\/s.length<i+x.1)->vG s i (x.1-1) 1 x.2.2=none->(if(jH s i x).2=0 then((65533:Nat),(1:Nat)) else((jH s i x).1.toNat,(jH s i x).2.toNat))=(65533,1):=by
  intro x hx hn;unfold jH;rw[if_neg hx,hn];rfl
 have tails:∀ (x:Nat × Int × Int) (v:Int) (m:Nat), ¬ (x.1=0\/s.length<i+x.1)->vG s i (x.1-1) 1 x.2.2=some v->v=m->(if(jH s i x).2=0 then((65533:Nat),(1:Nat)) else((jH s i x).1.toNat,(jH s i x).2.toNat)) =
   if(m:Int)<x.2.1\/(m:Int) > 1114111\/(55296<=(m:Int)/\(m:Int)<57344) then(65533,1) else(m,x.1):=by
  intro x v m hx hl hv;unfold jH;rw[if_neg hx,hl];exact zPI _ _ _ _ (by omega) hv
 by_cases hA:194<=n/\n<224
 ·have hrc:jA n=(2,128,(n:Int)-192):=by unfold jA;rw[if_pos (by omega)]
  rw[hrc]
  by_cases hl:s.length<i+2
  ·rw[tail0 _ (Or.inr hl)]
   refine xO h0 ⟨fun _ h => ?_,fun h=>by omega,fun h=>by omega⟩
   rw[(in1 1).2 (by omega)]at h;cases h
  obtain⟨c,h1⟩:=has 1 (by omega)
  rw[h1]
  by_cases hc:128<=c.toNat/\c.toNat<192
  ·rw[tails (2,128,(n:Int)-192) _ (n % 32 * 64+c.toNat % 64) (by simp;omega) (by rw[show(2:Nat)-1=0+1 from rfl,xI h1 hc];rfl) (by simp only[];omega)]
   rw[zYC h0 (by omega) hc,if_pos (by omega),if_neg (by simp only[];omega)]
  rw[tailn _ (by simp;omega) (by rw[show((2:Nat),(128:Int),(n:Int)-192).1-1=0+1 from rfl,qCN h1 hc])]
  refine xO h0 ⟨fun _ h => ?_,fun h=>by omega,fun h=>by omega⟩
  rw[yG]at h;exact(hc (of_decide_eq_true h)).elim
 by_cases hB:224<=n/\n<240
 ·have hrc:jA n=(3,2048,(n:Int)-224):=by unfold jA;rw[if_neg (by omega),if_pos (by omega)]
  rw[hrc]
  by_cases hl:s.length<i+3
  ·rw[tail0 _ (Or.inr hl)]
   refine xO h0 ⟨fun h=>by omega,fun _ _ => ?_,fun h=>by omega⟩
   rw[(in1 2).2 (by omega)];rfl
  obtain⟨c,h1⟩:=has 1 (by omega)
  obtain⟨d,h2⟩:=has 2 (by omega)
  rw[h1,h2]
  by_cases hc:128<=c.toNat/\c.toNat<192
  ·by_cases hd:128<=d.toNat/\d.toNat<192
   ·rw[tails (3,2048,(n:Int)-224) _ (n % 16 * 4096+c.toNat % 64 * 64+d.toNat % 64) (by simp;omega) (by rw[show(3:Nat)-1=1+1 from rfl,xI h1 hc,show(1:Nat)=0+1 from rfl,xI h2 hd];rfl) (by simp only[];omega)]
    exact zYB h0 (by omega) hc hd rfl
   rw[tailn _ (by simp;omega) (by rw[show((3:Nat),(2048:Int),(n:Int)-224).1-1=1+1 from rfl,xI h1 hc,show(1:Nat)=0+1 from rfl,qCN h2 hd])]
   refine xO h0 ⟨fun h=>by omega,fun _ _ => ?_,fun h=>by omega⟩
   rw[yG];exact decide_eq_false hd
  rw[tailn _ (by simp;omega) (by rw[show((3:Nat),(2048:Int),(n:Int)-224).1-1=1+1 from rfl,qCN h1 hc])]
  refine xO h0 ⟨fun h=>by omega,fun _ h => ?_,fun h=>by omega⟩
  rw[yG]at h;exact(hc (of_decide_eq_true h)).elim
 by_cases hC:240<=n/\n<245
 ·have hrc:jA n=(4,65536,(n:Int)-240):=by unfold jA;rw[if_neg (by omega),if_neg (by omega),if_pos (by omega)]
  rw[hrc]
  by_cases hl:s.length<i+4
  ·rw[tail0 _ (Or.inr hl)]
   refine xO h0 ⟨fun h=>by omega,fun h=>by omega,fun _ _ _ h => ?_⟩
   rw[(in1 3).2 (by omega)]at h;cases h
  obtain⟨c,h1⟩:=has 1 (by omega)
  obtain⟨d,h2⟩:=has 2 (by omega)
  obtain⟨e,h3⟩:=has 3 (by omega)
  rw[h1,h2,h3]
  by_cases hc:128<=c.toNat/\c.toNat<192
  ·by_cases hd:128<=d.toNat/\d.toNat<192
   ·by_cases he:128<=e.toNat/\e.toNat<192
    ·rw[tails (4,65536,(n:Int)-240) _ (n % 8 * 262144+c.toNat % 64 * 4096+d.toNat % 64 * 64+e.toNat % 64) (by simp;omega)
      (by rw[show(4:Nat)-1=2+1 from rfl,xI h1 hc,show(2:Nat)=1+1 from rfl,xI h2 hd,show(1:Nat)=0+1 from rfl,xI h3 he];rfl) (by simp only[];omega)]
     exact zYA h0 (by omega) hc hd he rfl
    rw[tailn _ (by simp;omega) (by rw[show((4:Nat),(65536:Int),(n:Int)-240).1-1=2+1 from rfl,xI h1 hc,show(2:Nat)=1+1 from rfl,xI h2 hd,show(1:Nat)=0+1 from rfl,qCN h3 he])]
    refine xO h0 ⟨fun h=>by omega,fun h=>by omega,fun _ _ _ h => ?_⟩
    rw[yG]at h;exact(he (of_decide_eq_true h)).elim
   rw[tailn _ (by simp;omega) (by rw[show((4:Nat),(65536:Int),(n:Int)-240).1-1=2+1 from rfl,xI h1 hc,show(2:Nat)=1+1 from rfl,qCN h2 hd])]
   refine xO h0 ⟨fun h=>by omega,fun h=>by omega,fun _ _ h => ?_⟩
   rw[yG]at h;exact(hd (of_decide_eq_true h)).elim
  rw[tailn _ (by simp;omega) (by rw[show((4:Nat),(65536:Int),(n:Int)-240).1-1=2+1 from rfl,qCN h1 hc])]
  refine xO h0 ⟨fun h=>by omega,fun h=>by omega,fun _ h => ?_⟩
  rw[yG]at h;exact(hc (of_decide_eq_true h)).elim
 have hrc:jA n=(0,0,0):=by unfold jA;rw[if_neg (by omega),if_neg (by omega),if_neg (by omega)]
 rw[hrc,tail0 _ (.inl rfl)]
 refine xO h0 ⟨fun h _ => ?_,fun h=>by omega,fun h _ _ _=>by omega⟩
 have:jZ s[i+1]? % 64<64:=Nat.mod_lt _ (by omega)
 omega
theorem zDX (s:List UInt8) (i:Nat):yL s i=yL (s.drop i) 0:=by
 have h:∀ k,(s.drop i)[k]?=s[i+k]?:=fun k=>by rw[List.getElem?_drop]
 have hl:∀ (f:Nat) (j:Nat) (v:Int),vG s i f j v=vG (s.drop i) 0 f j v:=by
  intro f
  induction f with
  | zero=>intro j v;rfl
  | succ f ih =>
   intro j v
   simp only[vG,Nat.zero_add,h,ih]
 unfold yL
 rw[h 0,Nat.add_zero]
 cases hb:s[i]? with
 | none=>rfl
 | some b =>
  have hi:=(List.getElem?_eq_some_iff.1 hb).1
  simp only[jH,hl,List.length_drop]
  have e:(s.length<i+(jA ↑b.toNat).1)↔(s.length-i<0+(jA ↑b.toNat).1):=by omega
  simp only[e]
theorem qYQ (s:List UInt8):Lib.validD s=qAS s:=by
 have key:∀ (n:Nat) (s:List UInt8) (i f:Nat),n=s.length-i->i<=s.length->s.length+1<=f+i->qMN s f i=Lib.validD (s.drop i):=by
  intro n
  induction n using Nat.strongRecOn with
  | _ n ih =>
   intro s i f hn hi hf
   cases f with
   | zero=>omega
   | succ f =>
    simp only[qMN]
    by_cases hlt:i<s.length
    ·rw[if_pos hlt]
     have hne:s.drop i≠[]:=by simp;omega
     rw[Lib.validD_step _ hne]
     have hd:=qZS (s:=s.drop i) (i:=0) (by simp;omega)
     rw[<-zDX]at hd
     have hl:=qTK s i hlt
     have hdl:Lib.decodeL (s.drop i)=Utf8.decode ⟨(s.drop i).toArray⟩ 0:=rfl
     rw[hdl,hd]
     by_cases h0:(yL s i).2=0
     ·rw[if_pos h0,if_pos h0,if_pos ⟨rfl,rfl⟩]
     rw[if_neg h0,if_neg h0]
     have hne2:¬ ((yL s i).1.toNat=65533/\(yL s i).2.toNat=1):=by
      rintro⟨h1,h2⟩
      have:(yL s i).1=65533:=by omega
      have h3:(yL s i).2=1:=by omega
      obtain⟨b,hb⟩:∃ b,s[i]?=some b:=⟨s[i],by simp[hlt]⟩
      have hb256:b.toNat<256:=b.toNat_lt
      have hr:yL s i=if(b.toNat:Int)<128 then((b.toNat:Int),1) else jH s i (jA b.toNat):=by simp only[yL,hb]
      rw[hr]at this h3
      split at this
      ·simp only[]at this;omega
      rename_i hge
      rw[if_neg hge]at h3
      unfold jH at h3
      split at h3
      ·simp at h3
      rename_i hx
      have:(jA b.toNat).1=0\/2<=(jA b.toNat).1:=by
       unfold jA;repeat' split
       all_goals simp
      unfold qPQ at h3
      split at h3
      ·simp at h3
      split at h3
      ·simp at h3
      simp only[]at h3;omega
     simp only[]
     rw[if_neg hne2,List.drop_drop]
     exact ih _ (by omega) s (i+(yL s i).2.toNat) f rfl (by omega) (by omega)
    rw[if_neg hlt,List.drop_eq_nil_of_le (by omega)];rfl
 exact(key _ s 0 (s.length+1) rfl (by omega) (by omega)).symm
def xA (s:List UInt8):List UInt8:=s.take 100
theorem qZO (s:List UInt8):AFn Tryz.prog G 27 [.str s] (.str (xA s)):=by
 refine AFn.introU tok Tryz.func27 (by kernel_rfl) rfl rfl ?_
 simp only[Tryz.f27,qG,List.map_cons,List.map_nil]
 refine rgn [] [[0]] ?_
 refine op3 ?_
 refine qA (AW.seq (rgn [] [[],[],[0,5]] ?_))
 iterate 3 refine op3 ?_
 refine qA (cnd ?_ ?_)
 ·intro h5
  try simp at h5
  refine rgn [] [[],[],[2]] ?_
  iterate 3 refine op3 ?_
  refine qA ?_
  exact AW.ret (qI (k:=by simp[xA]))
 intro h5
 try simp at h5
 refine AW.skip (rgn [] [[],[2]] ?_)
 iterate 2 refine op3 ?_
 refine qA ?_
 exact AW.ret (qI (k:=by simp[xA];rw[List.take_of_length_le (by omega)]))
def qCI (s:List UInt8):List UInt8:=if qAS (xA s)=true then xA s else[97]
theorem qIL (s:List UInt8):(xA s).length<=100:=by simp[xA];omega
theorem qSQ (s:List UInt8):(qCI s).length<=100:=by
 unfold qCI;split
 ·exact qIL s
 simp
theorem zGK (s:List UInt8):AFn Tryz.prog G 28 [.str s] (.str (qCI s)):=by
 refine AFn.introU tok Tryz.func28 (by kernel_rfl) rfl rfl ?_
 simp only[Tryz.f28,qG,List.map_cons,List.map_nil]
 have h1:=qZO (G:=G) s
 have hl:=qIL s
 have h2:=qMU (G:=G) (xA s) (by omega)
 refine rgn [] [[0]] ?_
 refine op3 ?_
 refine qA (rgn [.nilp,.str (xA s)] [[],[],[0]] ?_)
 iterate 3 refine op3 ?_ (hv:=by first|exact True.intro|(simp[h1];done)|omega|simp)
 refine qA (AW.seq (rgn [.nilp,.bool (qAS (xA s))] [[],[],[0,7]] ?_))
 iterate 3 refine op3 ?_ (hv:=by first|exact True.intro|(simp[h2];done)|omega|simp)
 refine qA (cnd ?_ ?_)
 ·intro h7
  try simp at h7
  refine rgn [] [[]] ?_
  refine op3 ?_
  refine qA ?_
  exact AW.ret (qI (k:=by simp[qCI,h7]))
 intro h7
 try simp at h7
 refine AW.skip (rgn [] [[],[2]] ?_)
 iterate 2 refine op3 ?_
 refine qA ?_
 exact AW.ret (qI (k:=by simp[qCI,h7]))
def qBE (n:Nat):List UInt8:=List.replicate n 107
def xT (l:List (List UInt8)) (i:Nat):List UInt8:=if h:i<l.length then qCI l[i] else qBE (i-l.length+1)
def qMJ (out:List (List UInt8)) (s:List UInt8):List (List UInt8):=if s∈out then out else out++[s]
def vJ (l:List (List UInt8)) (many:Nat):Nat->Nat->List (List UInt8)->List (List UInt8)
 | 0,_,out=>out
 | f+1,i,out=>if out.length<many then vJ l many f (i+1) (qMJ out (xT l i)) else out
def qFP (l:List (List UInt8)) (many:Nat):List (List UInt8):=vJ l many (l.length+many+1) 0 []
theorem zAI {α:Type} [DecidableEq α]:∀ {l m:List α},l.Nodup->(∀ x∈l,x∈m)->l.length<=m.length
 | [],m,_,_=>by simp
 | a::l,m,hn,hs=>by
  have ha:=hs a (by simp)
  have hn':=List.nodup_cons.1 hn
  have:=zAI (l:=l) (m:=m.erase a) hn'.2 fun x hx=>(List.mem_erase_of_ne (by rintro rfl;exact hn'.1 hx)).2 (hs x (by simp[hx]))
  rw[List.length_erase_of_mem ha]at this
  have:=List.length_pos_of_mem ha
  simp;omega
theorem zHR {out:List (List UInt8)} {n:Nat} (h:∀ t,1<=t->t<=n->qBE t∈out):n<=out.length:=by
 have hs:((List.range n).map fun t=>qBE (t+1)).Nodup:=by
  unfold List.Nodup
  refine List.Pairwise.map _ (fun a b hab => ?_) List.nodup_range
  intro he;have:=congrArg List.length he;simp[qBE]at this;exact hab this
 have:=zAI hs (m:=out) (by
  intro x hx;obtain⟨t,ht,rfl⟩:=List.mem_map.1 hx
  simp at ht;exact h _ (by omega) (by omega))
 simpa using this
theorem zAN {l:List (List UInt8)} {many:Nat} {out:List (List UInt8)} (h:¬ out.length<many):∀ f i,vJ l many f i out=out
 | 0,_=>rfl
 | f+1,i=>by simp only[vJ];rw[if_neg h]
theorem zOF (l:List (List UInt8)) (many:Nat) (hl:l.length<=140737488351232) (hm:many<=100000):AFn Tryz.prog G 29 [.sl 1 (l.map PD.str),.int .i64 many] (.sl 1 ((qFP l many).map PD.str)):=by
 refine AFn.introU tok Tryz.func29 (by kernel_rfl) rfl rfl ?_
 simp only[Tryz.f29,qG,List.map_cons,List.map_nil]
 have hw:=fun s=>zGK (G:=G) s
 refine rgn [] [[0,1]] ?_
 refine op3 ?_
 refine qA (rgn [] [[],[0,1,5]] ?_)
 iterate 2 refine op3 ?_
 refine qA (rgn [] [[]] ?_)
 refine op3 ?_
 refine qA (AW.seq (rgn [] [[]] ?_))
 refine op3 ?_
 refine qA (AW.block ?_)
 refine AW.loop (α:=Nat × List (List UInt8)) (fun a=>a.1<=l.length+many/\qFP l many=vJ l many (l.length+many+1-a.1) a.1 a.2/\a.2.length<=many/\(∀ t,1<=t->t+l.length<=a.1->qBE t∈a.2)) (fun a=>⟨zA 52 [(0,.p (.sl 1 (l.map PD.str))),(1,.p (.int .i64 many)),(5,.ms 11),(6,.p (.str (qBE (a.1-l.length+1)))),(7,.p (.int .i64 a.1))],[],[(11,.row 9 1 (a.2.map PD.str))],0⟩) (fun a=>l.length+many-a.1) ((0,[])) ⟨by simp,rfl,by simp,by intro t h1 h2;simp at h2;omega⟩ ⟨qE (by simp[qBE]),rfl,by simp,by simp⟩ ?_
 rintro⟨i,out⟩ ⟨hi,hn,ho,hk⟩
 simp only at hi hn ho hk
 have hkl:i-l.length<=out.length:=zHR fun t h1 h2=>hk t h1 (by omega)
 refine AW.seq (rgn [] [[],[],[],[0,1,5,6,7,15]] ?_)
 iterate 4 refine op3 ?_
 refine qA (cnd ?_ ?_)
 ·intro h15
  try simp at h15
  have hstep:qFP l many=vJ l many (l.length+many+1-(i+1)) (i+1) (qMJ out (xT l i)):=by
   rw[hn,show l.length+many+1-i=(l.length+many+1-(i+1))+1 by omega];simp only[vJ];rw[if_pos h15]
  refine AW.skip (AW.seq (AW.block (rgn [] [[],[0,1,5,6,7,8]] ?_)))
  iterate 2 refine op3 ?_
  refine qA ?_
  refine AW.join (α:=Unit) (fun _=>True) (fun a=>⟨zA 52 [(0,.p (.sl 1 (l.map PD.str))),(1,.p (.int .i64 many)),(5,.ms 11),(6,.p (.str (qBE (i+1-l.length+1)))),(7,.p (.int .i64 i)),(8,.p (.str (xT l i)))],[],[(11,.row 9 1 (out.map PD.str))],0⟩) ?_ ?_
  ·
   refine rgn [] [[],[],[],[0,1,5,6,7,8,22]] ?_
   iterate 4 refine op3 ?_
   refine qA (cnd ?_ ?_)
   ·intro h22
    try simp at h22
    have hs:xT l i=qCI l[i]:=by simp[xT,h22]
    have hsl:=qSQ l[i]
    refine rgz [.str l[i],.nilp,.str (qCI l[i])] [[],[],[],[],[0,1,5,6,7,27],[0,1,5,6,7,8]] ?_
    iterate 6 refine op3 ?_ (hv:=by first|exact True.intro|(simp[hw,h22];done)|omega|simp)
    refine qA ?_
    exact⟨(),trivial,qE (by simp[hs,show i+1-l.length=i-l.length from by omega]),rfl,by simp[hs,show i+1-l.length=i-l.length from by omega],by simp[hs,show i+1-l.length=i-l.length from by omega]⟩
   intro h22
   try simp at h22
   have hs:xT l i=qBE (i-l.length+1):=by simp[xT];omega
   refine rgz [] [[],[],[0,1,5,6,7,8]] ?_
   iterate 3 refine op3 ?_ (hv:=by first|exact True.intro|(simp[qBE];omega;done)|omega|simp)
   refine qA ?_
   exact⟨(),trivial,qE (by simp[hs,show i+1-l.length+1=i-l.length+1+1 from by omega,qBE,List.replicate_succ']),rfl,by simp[hs,show i+1-l.length+1=i-l.length+1+1 from by omega,qBE,List.replicate_succ'],by simp[hs,show i+1-l.length+1=i-l.length+1+1 from by omega,qBE,List.replicate_succ']⟩
  ·
   rintro a hI
   generalize hns:xT l i=s at *
   have hkay:∀ t,1<=t->t+l.length<=i+1->qBE t∈qMJ out s:=by
    intro t h1 h2
    by_cases h3:t+l.length<=i
    ·have:=hk t h1 h3
     unfold qMJ;split
     ·exact this
     simp[this]
    have:qBE t=s:=by rw[<-hns];simp only[xT];rw[dif_neg (by omega)];congr 1;omega
    rw[this];unfold qMJ;split
    ·assumption
    simp
   refine rgn [] [[]] ?_
   refine op3 ?_
   refine qA (AW.seq (rgn [] [[]] ?_))
   refine op3 ?_
   refine qA (AW.block ?_)
   refine AW.loop (α:=Nat) (fun k=>k<=out.length) (fun k=>⟨zA 52 [(0,.p (.sl 1 (l.map PD.str))),(1,.p (.int .i64 many)),(5,.ms 11),(6,.p (.str (qBE (i+1-l.length+1)))),(7,.p (.int .i64 i)),(8,.p (.str s)),(9,.p (.bool (decide (s∈out.take k)))),(10,.p (.int .i64 k))],[],[(11,.row 9 1 (out.map PD.str))],0⟩) (fun k=>out.length-k) (0) (by omega) ⟨qE (by simp),rfl,by simp,by simp⟩ ?_
   rintro k hko
   refine AW.seq (rgn [] [[],[],[],[0,1,5,6,7,8,9,10,33]] ?_)
   iterate 4 refine op3 ?_
   refine qA (cnd ?_ ?_)
   ·intro h33
    try simp at h33
    have hsn:(decide (s∈out.take k) || decide (out[k]=s))=decide (s∈out.take (k+1)):=by
     rw[List.take_succ_eq_append_getElem h33,Bool.eq_iff_iff];simp only[Bool.or_eq_true,decide_eq_true_eq,List.mem_append,List.mem_singleton];exact⟨fun h=>h.imp id Eq.symm,fun h=>h.imp id Eq.symm⟩
    refine AW.skip (AW.seq (AW.block (rgz [.str out[k]] [[],[],[],[],[0,1,5,6,7,8,10,37,40],[],[],[],[0,1,5,6,7,8,10,44],[0,1,5,6,7,8,9,10]] ?_)))
    iterate 2 refine op3 ?_ (hv:=by first|exact True.intro|(simp[h33];done)|omega|simp)
    iterate 6 refine op4 ?_ (hv:=by first|exact True.intro|(simp[h33];done)|omega|simp)
    iterate 2 refine op3 ?_ (hv:=by first|exact True.intro|(simp[h33];done)|omega|simp)
    refine qA (rgz [] [[],[],[0,1,5,6,7,8,9,10]] ?_)
    iterate 3 refine op3 ?_
    refine qA ?_
    exact⟨k+1,by omega,by omega,qE (by simp[hsn]),rfl,by simp[hsn],by simp[hsn]⟩
   intro h33
   try simp at h33
   have hkk:k=out.length:=by omega
   subst hkk
   simp only[List.take_length]
   refine AW.exit ?_
   simp
   refine rgn [] [[],[0,1,5,6,7,8,46]] ?_
   iterate 2 refine op3 ?_
   refine qA (cnd ?_ ?_)
   ·intro h46
    try simp at h46
    have had:qMJ out s=out++[s]:=by unfold qMJ;rw[if_neg h46]
    rw[had]at hstep hkay
    refine rgz [.str s] [[],[],[],[0,1,6,7,50],[0,1,5,6,7]] ?_
    iterate 5 refine op3 ?_
    refine qA (rgz [] [[],[],[0,1,5,6,7]] ?_)
    iterate 3 refine op3 ?_
    refine qA ?_
    exact⟨i+1,out++[s],⟨by omega,hstep,by simp;omega,hkay⟩,by omega,qE (by simp),rfl,by simp,by simp⟩
   intro h46
   try simp at h46
   have had:qMJ out s=out:=by unfold qMJ;rw[if_pos h46]
   rw[had]at hstep hkay
   refine AW.skip (rgz [] [[],[],[0,1,5,6,7]] ?_)
   iterate 3 refine op3 ?_
   refine qA ?_
   exact⟨i+1,out,⟨by omega,hstep,by omega,hkay⟩,by omega,qE (by simp),rfl,by simp,by simp⟩
 intro h15
 try simp at h15
 have hn2:qFP l many=out:=by rw[hn];exact zAN (by omega) _ _
 refine AW.exit ?_
 simp
 refine rgn [] [[],[4]] ?_
 iterate 2 refine op3 ?_
 refine qA ?_
 exact AW.ret (qI (k:=by simp[hn2]))
end Go.Proofs.YtgcbapchinideaaGreatDoor
