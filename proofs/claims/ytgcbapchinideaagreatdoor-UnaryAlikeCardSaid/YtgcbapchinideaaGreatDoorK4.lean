import Derived.Test.YtgcbapchinideaaGreatDoorK3
import Derived.Test.YtgcbapchinideaaGreatDoorK2
import Derived.Test.YtgcbapchinideaaGreatDoorM3
import Derived.Test.YtgcbapchinideaaGreatDoorK1
import Derived.Test.YtgcbapchinideaaGreatDoorM4
import Derived.Lib.Bytealg
import Derived.Shelf.Strings.Builder1
import Derived.Shelf.Unicode.DecodeAny
import Derived.Lib.MapLaws
namespace Go.Proofs.YtgcbapchinideaaGreatDoor
open Sy Go
set_option maxRecDepth 100000
set_option maxHeartbeats 4000000
set_option linter.all false
variable {G:qR}
theorem zLC (l:List Val) (g:FuncId) (p:Val->Bool) (hg:∀ v∈l,AFn Tryz.prog G g [v.enc] (.bool (p v))):AFn Tryz.prog G 156 [.sl 9 (l.map Val.enc),.fn g] (.int .i64 (match l.findIdx? p with|some i=>(i:Int)|none => -1)):=by
 refine AFn.introU tok Tryz.func156 (by kernel_rfl) rfl rfl ?_
 simp only[Tryz.f156,qG,List.map_cons,List.map_nil]
 refine rgn [] [[0,1]] ?_
 refine op3 ?_
 refine qA (AW.seq (rgn [] [[],[],[0,1,7,8]] ?_))
 iterate 3 refine op3 ?_
 refine qA (AW.block ?_)
 refine AW.intFactU (i:=7) rfl (by decide) ?_;intro hlen;simp at hlen
 refine AW.loop (α:=Nat) (fun k=>k<=l.length/\(l.take k).all (fun v => !p v)=true) (fun k=>⟨zA 19 [(0,.p (.sl 9 (l.map Val.enc))),(1,.p (.fn g)),(7,.p (.int .i64 l.length)),(8,.p (.int .i64 k))],[],[],0⟩) (fun k=>l.length-k) (0) ⟨by omega,rfl⟩ ⟨qE (by simp),rfl,by simp,by simp⟩ ?_
 rintro k ⟨hk,hall⟩
 refine rgn [] [[]] ?_
 refine op3 ?_
 refine qA (AW.seq (cnd ?_ ?_))
 ·intro h9
  try simp at h9
  obtain⟨v,hv⟩:∃ v,l[k]?=some v:=⟨l[k],by simp[h9]⟩
  have hgv:=hg v (List.mem_of_getElem? hv)
  refine AW.skip (AW.seq (AW.block (rgn [] [[],[0,1,5,7,8]] ?_)))
  iterate 2 refine op3 ?_
  refine qA (rgn [v.enc,.tup [v.enc],.bool (p v)] [[],[],[],[],[],[0,1,5,7,8,16]] ?_)
  iterate 6 refine op3 ?_ (hv:=by first|exact True.intro|(simp[hv];done)|(simp at hgv ⊢; exact hgv);done|omega|simp)
  refine qA (cnd ?_ ?_)
  ·intro h16
   try simp at h16
   have hf:l.findIdx? p=some k:=by
    rw[List.findIdx?_eq_some_iff_getElem]
    have h9':=h9
    refine⟨h9, ?_,fun j hj => ?_⟩
    ·rw[List.getElem?_eq_getElem h9]at hv;cases hv;exact h16
    have:=List.all_eq_true.1 hall (l[j]'(by omega)) (List.mem_iff_getElem.2 ⟨j,by simp;omega,by simp⟩)
    simpa using this
   refine rgn [] [[],[4]] ?_
   iterate 2 refine op3 ?_
   refine qA ?_
   exact AW.ret (qI (k:=by simp[hf]))
  intro h16
  try simp at h16
  refine AW.skip (rgz [] [[],[0,1,7,8]] ?_)
  iterate 2 refine op3 ?_
  refine qA ?_
  exact⟨k+1,⟨by omega,by rw[List.take_add_one,hv,List.all_append,hall];simpa using h16⟩,by omega,qE (by simp),rfl,by simp,by simp⟩
 intro h9
 try simp at h9
 rw[List.take_of_length_le h9]at hall
 have hf:l.findIdx? p=none:=by
  rw[List.findIdx?_eq_none_iff];intro x hx;simpa using List.all_eq_true.1 hall x hx
 refine AW.exit ?_
 simp
 refine rgn [] [[]] ?_
 refine op3 ?_
 refine qA ?_
 exact AW.ret (qI (k:=by simp[hf]))
theorem qKL (l:List Val) (g:FuncId) (p:Val->Bool) (hg:∀ v∈l,AFn Tryz.prog G g [v.enc] (.bool (p v))):AFn Tryz.prog G 113 [.sl 9 (l.map Val.enc),.fn g] (.bool (l.any p)):=by
 refine AFn.introU tok Tryz.func113 (by kernel_rfl) rfl rfl ?_
 simp only[Tryz.f113,qG,List.map_cons,List.map_nil]
 have hi:=zLC l g p hg
 have ha:l.any p=decide (0<=(match l.findIdx? p with|some i=>(i:Int)|none => -1)):=by
  cases h:l.findIdx? p with
  | none=>simp;intro x hx;simpa using List.findIdx?_eq_none_iff.1 h x hx
  | some i =>
   obtain⟨h1,h2,_⟩:=List.findIdx?_eq_some_iff_getElem.1 h
   simp;exact⟨_,List.getElem_mem h1,h2⟩
 rw[ha]
 generalize (match l.findIdx? p with|some i=>(i:Int)|none => -1)=n at *
 refine rgn [] [[0,1]] ?_
 refine op3 ?_
 refine qA (rgn [.nilp,.int .i64 n] [[],[],[7],[],[4]] ?_)
 iterate 5 refine oq1 tok hi ?_
 exact qA (AW.ret qI)
def yN (v:Val):List Val:=(zS v.keys).map (qUJ v)
theorem qTG {ks:List (List UInt8)} {s:List UInt8}:s∈zS ks↔s∈ks:=(List.mergeSort_perm ks _).mem_iff
theorem qSR (ks:List (List UInt8)):AX Tryz.prog G 68 [.p (.sl 1 (ks.map PD.str))] [] (.func (.func 99) [] [.ptr 901 0]) [] [(901,.vars 27 [.p (.sl 1 (ks.map PD.str))])]:=by
 refine AX.introU tok 900 Tryz.func68 (by kernel_rfl) rfl rfl ?_
 simp only[Tryz.f68,qG,List.map_cons,List.map_nil]
 refine rgn [] [[],[1]] ?_
 iterate 2 refine op3 ?_
 refine qA (rgn [] [[],[2]] ?_)
 iterate 2 refine op3 ?_
 refine qA ?_
 exact AW.ret qZ
theorem qPJ (v:Val) (hl:v.keys.length<=v.kids.length) (hn:v.keys.length<=1000000):AFn Tryz.prog G 126 [v.enc] (.tup [.sl 1 ((zS v.keys).map PD.str),.sl 9 ((yN v).map Val.enc)]):=by
 refine AFn.introU tok Tryz.func126 (by kernel_rfl) rfl rfl ?_
 simp only[Tryz.f126,qG,List.map_cons,List.map_nil]
 have hsl:=qLH v.keys
 have hix:=zTY (G:=G) v.keys
 refine rgn [] [[],[],[1]] ?_
 iterate 3 refine op3 ?_
 refine qA (rgn [] [[],[]] ?_)
 iterate 2 refine op3 ?_
 refine qJ ?_
 refine qB.stepK [1,10] (zF rfl (qSR v.keys) (by simp)) (by conv=>lhs;simp) rfl ?_
 refine qB.stepK [1,11] (zF rfl (qTF 901 v.keys (by omega)) (by simp)) (by conv=>lhs;simp) rfl ?_
 refine qB.run [[1,4]] ?_
 refine op3 ?_
 refine qA (rgn [] [[]] ?_)
 refine op3 ?_
 refine qA (AW.seq (rgn [] [[],[],[]] ?_))
 iterate 3 refine op3 ?_
 refine qA (AW.block ?_)
 refine AW.beginE 5 5 31 9 (by simp) (by simp) (by conv=>lhs;simp) ?_
 refine AW.loop (α:=Nat) (fun k=>k<=v.keys.length) (fun k=>⟨zA 32 [(1,.ptr 1 0),(4,.p (.sl 1 ((zS v.keys).map PD.str))),(5,.ms 5),(12,.p (.sl 1 ((zS v.keys).map PD.str))),(13,.p (.int .i64 v.keys.length)),(14,.p (.int .i64 k))],[],[(1,.vars 31 v.cells),(5,.row 31 9 (((yN v).take k).map Val.enc))],0⟩) (fun k=>v.keys.length-k) (0) (by omega) ⟨qE (by simp[hsl]),rfl,by simp,by simp⟩ ?_
 rintro k hk
 refine rgn [] [[]] ?_
 refine op3 ?_
 refine qA (AW.seq (cnd ?_ ?_))
 ·intro h15
  try simp at h15
  obtain⟨s,hs⟩:∃ s,(zS v.keys)[k]?=some s:=⟨(zS v.keys)[k]'(by omega),by simp[show k<(zS v.keys).length by omega]⟩
  have hm:s∈v.keys:=qTG.1 (List.mem_of_getElem? hs)
  have hkid:=qUI hl hm
  have hi:=hix s
  unfold zLD at hi
  rw[if_pos hm]at hi
  refine AW.skip (AW.seq (AW.block ?_))
  have hks:(yN v)[k]?=some (qUJ v s):=by simp[yN,hs]
  generalize hkv:yN v=kv at *
  have hkl:(kv.take k).length<=k:=List.length_take_le _ _
  refine rgn [.str s] [[],[],[1,4,5,7,12,13,14]] ?_
  iterate 3 refine op3 ?_ (hv:=by first|exact True.intro|(simp[hs];done)|omega|simp)
  refine qA ?_
  refine AW.runDrawK tok mixed [1,4,5,12,13,14] 11 [[5],[1],[19],[1],[21],[7],[22,23],[20,24],[25],[26],[18,27]] [.nilp,.int .i64 (v.keys.idxOf s),(qUJ v s).enc,(qUJ v s).enc] [] (by kernel_rfl) (by intro C;conv=>lhs;simp) (by(simp[hkid];exact⟨hi,by omega⟩)) (by simp[Sm.sum,Sm.foot,Sm.tch,Sm.refs];kernel_rfl) (by intro C;conv=>lhs;simp) (by first|exact True.intro|omega|simp) ?_
  refine AW.renE 28 5 (by simp) (by conv=>lhs;simp) ?_
  refine rgz [] [[],[1,4,5,12,13,14]] ?_
  iterate 2 refine op3 ?_
  refine qA ?_
  exact⟨k+1,by omega,by omega,qE (by simp[List.take_add_one,hks]),rfl,by simp[List.take_add_one,hks],by simp[List.take_add_one,hks]⟩
 intro h15
 try simp at h15
 have hkl:(yN v).length=v.keys.length:=by simp[yN,hsl]
 refine AW.exit ?_
 simp
 refine AW.freezeE 5 (by conv=>lhs;simp) ?_
 refine rgn [] [[],[],[],[2,3]] ?_
 iterate 4 refine op3 ?_
 refine qA ?_
 exact AW.ret (qI (k:=by simp;rw[List.take_of_length_le (by simp;omega)]))
def yU:Nat->Val->Val->Int
 | 0,_,_=>0
 | f+1,a,b=>if a.kind≠b.kind then kF a.kind b.kind else if a.kind=4 then qGG a.num b.num else if a.kind=5 then Lib.compareBytes a.text b.text else if a.kind=6 then wN (yU f) a.kids b.kids
  else if a.kind=8 then kF a.code b.code
  else if a.kind=7 then(if wN jE (zS a.keys) (zS b.keys)≠0 then wN jE (zS a.keys) (zS b.keys) else wN (yU f) (yN a) (yN b)) else 0
theorem qCY {v x:Val} (hl:v.keys.length<=v.kids.length) (h:x∈yN v):x∈v.kids:=by
 obtain⟨s,hs,rfl⟩:=List.mem_map.1 h
 exact List.mem_of_getElem? (qUI hl (qTG.1 hs))
theorem zCA (f:Nat) (a b:Val) (ha:zX a=true) (hb:zX b=true) (ih:∀ x∈a.kids, ∀ y∈b.kids,AFn Tryz.prog G 83 [x.enc,y.enc] (.int .i64 (yU f x y))):AFn Tryz.prog G 83 [a.enc,b.enc] (.int .i64 (yU (f+1) a b)):=by
 refine AFn.introU tok Tryz.func83 (by kernel_rfl) rfl rfl ?_
 simp only[Tryz.f83,qG,List.map_cons,List.map_nil]
 have hki:=zUJ (G:=G) a.kind b.kind
 have hce:=zUK (G:=G) a.code b.code
 have hst:=zGG (G:=G) a.text b.text
 refine rgn [] [[],[],[2,3]] ?_
 iterate 3 refine op3 ?_
 refine qA (AW.seq (rgn [] [[],[],[],[],[2,3,13]] ?_))
 iterate 5 refine op3 ?_
 refine qA (cnd ?_ ?_)
 ·intro h13
  try simp at h13
  have hR:yU (f+1) a b=kF a.kind b.kind:=by simp only[yU];rw[if_pos h13]
  refine rgn [.nilp,.int .i64 (kF a.kind b.kind)] [[],[],[],[15,17],[],[4]] ?_
  iterate 6 refine oq1 tok hki ?_
  refine qA ?_
  exact AW.ret (qI (k:=by simp[hR]))
 intro h13
 try simp at h13
 have hkd:¬ a.kind≠b.kind:=by simpa using h13
 refine AW.skip (AW.seq (rgn [] [[],[2,3,20]] ?_))
 iterate 2 refine op3 ?_
 refine qA (AW.block (rgn [] [[],[2,3,20,21]] ?_))
 iterate 2 refine op3 ?_
 refine qA (cnd ?_ ?_)
 ·intro h21
  try simp at h21
  have hR:yU (f+1) a b=qGG a.num b.num:=by simp only[yU];rw[if_neg hkd,if_pos h21]
  have hnum:=zUL (G:=G) a.num b.num (jB (vK ha h21)).1 (jB (vK hb (by omega))).1
  refine rgn [.nilp,.int .i64 (qGG a.num b.num)] [[],[],[],[24,26],[],[4]] ?_
  iterate 6 refine op3 ?_ (hv:=by first|exact True.intro|((simp at hnum ⊢; exact hnum);done)|omega|simp)
  refine qA ?_
  exact AW.ret (qI (k:=by simp[hR]))
 intro h21
 try simp at h21
 refine rgn [] [[],[2,3,20,28]] ?_
 iterate 2 refine op3 ?_
 refine qA (cnd ?_ ?_)
 ·intro h28
  try simp at h28
  have hR:yU (f+1) a b=Lib.compareBytes a.text b.text:=by simp only[yU];rw[if_neg hkd,if_neg h21,if_pos h28]
  refine rgn [.nilp,.int .i64 (Lib.compareBytes a.text b.text)] [[],[],[],[31,33],[],[4]] ?_
  iterate 6 refine oq1 tok hst ?_
  refine qA ?_
  exact AW.ret (qI (k:=by simp[hR]))
 intro h28
 try simp at h28
 refine rgn [] [[],[2,3,20,35]] ?_
 iterate 2 refine op3 ?_
 refine qA (cnd ?_ ?_)
 ·intro h35
  try simp at h35
  have hR:yU (f+1) a b=wN (yU f) a.kids b.kids:=by simp only[yU];rw[if_neg hkd,if_neg h21,if_neg h28,if_pos h35]
  have hcl:=zCB (G:=G) a.kids b.kids 83 (yU f) ih
  refine rgn [.nilp,.int .i64 (wN (yU f) a.kids b.kids)] [[],[],[],[38,40],[],[4]] ?_
  iterate 6 refine oq1 tok hcl ?_
  refine qA ?_
  exact AW.ret (qI (k:=by simp[hR]))
 intro h35
 try simp at h35
 refine rgn [] [[],[2,3,20,42]] ?_
 iterate 2 refine op3 ?_
 refine qA (cnd ?_ ?_)
 ·intro h42
  try simp at h42
  have hR:yU (f+1) a b=kF a.code b.code:=by simp only[yU];rw[if_neg hkd,if_neg h21,if_neg h28,if_neg h35,if_pos h42]
  refine rgn [.nilp,.int .i64 (kF a.code b.code)] [[],[],[],[45,47],[],[4]] ?_
  iterate 6 refine oq1 tok hce ?_
  refine qA ?_
  exact AW.ret (qI (k:=by simp[hR]))
 intro h42
 try simp at h42
 refine rgn [] [[],[2,3,49]] ?_
 iterate 2 refine op3 ?_
 refine qA (cnd ?_ ?_)
 ·intro h49
  try simp at h49
  have hR:yU (f+1) a b=(if wN jE (zS a.keys) (zS b.keys)≠0 then wN jE (zS a.keys) (zS b.keys) else wN (yU f) (yN a) (yN b)):=by simp only[yU];rw[if_neg hkd,if_neg h21,if_neg h28,if_neg h35,if_neg h42,if_pos h49]
  have hoa:=qDY ha h49
  have hob:=qDY hb (by omega)
  have hsa:=qPJ (G:=G) a (by omega) (by omega)
  have hsb:=qPJ (G:=G) b (by omega) (by omega)
  have hcs:=zQA (G:=G) (zS a.keys) (zS b.keys)
  have hcl:=zCB (G:=G) (yN a) (yN b) 83 (yU f) fun x hx y hy=>ih x (qCY (by omega) hx) y (qCY (by omega) hy)
  have hor:=zXN (G:=G) (wN jE (zS a.keys) (zS b.keys)) (wN (yU f) (yN a) (yN b))
  rw[<-hR]at hor
  refine rgn [.nilp,.tup [.sl 1 ((zS a.keys).map PD.str),.sl 9 ((yN a).map Val.enc)]] [[],[],[],[],[3,54,55],[],[3,5,6]] ?_
  iterate 7 refine op3 ?_ (hv:=by first|exact True.intro|((simp at hsa ⊢; exact hsa);done)|omega|simp)
  refine qA (rgn [.nilp,.tup [.sl 1 ((zS b.keys).map PD.str),.sl 9 ((yN b).map Val.enc)]] [[],[],[],[],[5,6,59,60],[],[5,6,7,8]] ?_)
  iterate 7 refine op3 ?_ (hv:=by first|exact True.intro|((simp at hsb ⊢; exact hsb);done)|omega|simp)
  refine qA (rgn [.nilp,.int .i64 (wN jE (zS a.keys) (zS b.keys)),.nilp,.int .i64 (wN (yU f) (yN a) (yN b)),.int .i64 (wN jE (zS a.keys) (zS b.keys)),.int .i64 (wN (yU f) (yN a) (yN b)),.nilp,.int .i64 (yU (f+1) a b)] [[],[],[6,8,63],[],[],[63,66],[],[],[4]] ?_)
  iterate 9 refine oq1 tok (ai hcs (ai hcl hor)) ?_
  exact qA (AW.ret qI)
 intro h49
 try simp at h49
 have hR:yU (f+1) a b=0:=by simp only[yU];rw[if_neg hkd,if_neg h21,if_neg h28,if_neg h35,if_neg h42,if_neg h49]
 refine AW.skip (rgn [] [[]] ?_)
 refine op3 ?_
 refine qA ?_
 exact AW.ret (qI (k:=by simp[hR]))
theorem zIH:∀ (f:Nat) (a b:Val),zX a=true->zX b=true->Val.sz a<=f->AFn Tryz.prog G 83 [a.enc,b.enc] (.int .i64 (yU (f+1) a b))
 | 0,a,b,ha,hb,h=>zCA 0 a b ha hb fun x hx=>by have:=Val.sz_kid hx;omega
 | f+1,a,b,ha,hb,h=>zCA (f+1) a b ha hb fun x hx y hy=>zIH f x y (jJ ha hx) (jJ hb hy) (by have:=Val.sz_kid hx;omega)
def wT (a b:Val):Int:=yU (Val.sz a+1) a b
theorem qKN (a b:Val) (ha:zX a=true) (hb:zX b=true):AFn Tryz.prog G 83 [a.enc,b.enc] (.int .i64 (wT a b)):=zIH _ a b ha hb (Nat.le_refl _)
structure Ord {α:Type} (p:α->α->Int) (S:α->Prop):Prop where
 anti:∀ x y,S x->S y->p x y = - p y x
 tr:∀ x y z,S x->S y->S z->p x y<=0->p y z<=0->p x z<=0
theorem Ord.refl {α:Type} {p:α->α->Int} {S:α->Prop} (h:Ord p S) {x:α} (hx:S x):p x x=0:=by have:=h.anti x x hx hx;omega
theorem Ord.lt_le {α:Type} {p:α->α->Int} {S:α->Prop} (h:Ord p S) {x y z:α} (hx:S x) (hy:S y) (hz:S z) (h1:p x y<0) (h2:p y z<=0):p x z<0:=by
 have h3:=h.tr x y z hx hy hz (by omega) h2
 by_cases h4:p x z=0
 ·have a1:=h.anti x z hx hz
  have a2:=h.anti x y hx hy
  have:=h.tr y z x hy hz hx h2 (by omega)
  omega
 omega
theorem Ord.le_lt {α:Type} {p:α->α->Int} {S:α->Prop} (h:Ord p S) {x y z:α} (hx:S x) (hy:S y) (hz:S z) (h1:p x y<=0) (h2:p y z<0):p x z<0:=by
 have h3:=h.tr x y z hx hy hz h1 (by omega)
 by_cases h4:p x z=0
 ·have a1:=h.anti x z hx hz
  have a2:=h.anti y z hy hz
  have:=h.tr z x y hz hx hy (by omega) h1
  omega
 omega
theorem Ord.eq_eq {α:Type} {p:α->α->Int} {S:α->Prop} (h:Ord p S) {x y z:α} (hx:S x) (hy:S y) (hz:S z) (h1:p x y=0) (h2:p y z=0):p x z=0:=by
 have a1:=h.anti x y hx hy
 have a2:=h.anti y z hy hz
 have a3:=h.anti x z hx hz
 have:=h.tr x y z hx hy hz (by omega) (by omega)
 have:=h.tr z y x hz hy hx (by omega) (by omega)
 omega
theorem Ord.then {α:Type} {p q:α->α->Int} {S:α->Prop} (hp:Ord p S) (hq:Ord q S):Ord (fun x y=>if p x y≠0 then p x y else q x y) S:=by
 refine⟨fun x y hx hy => ?_,fun x y z hx hy hz h1 h2 => ?_⟩
 ·have a1:=hp.anti x y hx hy
  have a2:=hq.anti x y hx hy
  by_cases h:p x y=0
  ·rw[if_neg (by omega),if_neg (by omega)];exact a2
  rw[if_pos h,if_pos (by omega)];exact a1
 by_cases e1:p x y=0
 ·rw[if_neg (by omega)]at h1
  by_cases e2:p y z=0
  ·rw[if_neg (by omega)]at h2
   rw[if_neg (by have:=hp.eq_eq hx hy hz e1 e2;omega)]
   exact hq.tr x y z hx hy hz h1 h2
  rw[if_pos e2]at h2
  have:=hp.le_lt hx hy hz (by omega) (show p y z<0 by omega)
  rw[if_pos (by omega)];omega
 rw[if_pos e1]at h1
 by_cases e2:p y z=0
 ·have:=hp.lt_le hx hy hz (show p x y<0 by omega) (by omega)
  rw[if_pos (by omega)];omega
 rw[if_pos e2]at h2
 have:=hp.lt_le hx hy hz (show p x y<0 by omega) h2
 rw[if_pos (by omega)];omega
theorem Ord.of_key {α:Type} {p:α->α->Int} {S:α->Prop} (k:α->Int) (h:∀ x y,S x->S y->p x y=sgn (k x-k y)):Ord p S:=by
 refine⟨fun x y hx hy => ?_,fun x y z hx hy hz h1 h2 => ?_⟩
 ·rw[h x y hx hy,h y x hy hx];unfold sgn;(repeat' split) <;> omega
 rw[h x y hx hy]at h1;rw[h y z hy hz]at h2;rw[h x z hx hz]
 have e1 : k x ≤ k y := by unfold sgn at h1; split at h1; · omega
                           ·split at h1 <;> omega
 have e2 : k y ≤ k z := by unfold sgn at h2; split at h2; · omega
                           ·split at h2 <;> omega
 unfold sgn; split; · omega
 split <;> omega
theorem qRJ (a b:Int):kF a b=sgn (a-b):=by unfold kF sgn;(repeat' split) <;> omega
theorem Ord.map {α β:Type} {p:β->β->Int} {S:β->Prop} (h:Ord p S) (f:α->β) {S':α->Prop} (hS:∀ x,S' x->S (f x)):Ord (fun x y=>p (f x) (f y)) S' :=
 ⟨fun x y hx hy=>h.anti _ _ (hS x hx) (hS y hy),fun x y z hx hy hz=>h.tr _ _ _ (hS x hx) (hS y hy) (hS z hz)⟩
theorem Ord.list {α:Type} {p:α->α->Int} {S:α->Prop} (h:Ord p S):Ord (wN p) (fun l=>∀ x∈l,S x):=by
 constructor
 ·intro l
  induction l with
  | nil=>intro m _ _;cases m <;> simp[wN]
  | cons x l ih =>
   intro m hl hm
   cases m with
   | nil=>simp[wN]
   | cons y m =>
    simp only[wN]
    have a:=h.anti x y (hl x (by simp)) (hm y (by simp))
    have:=ih m (fun z hz=>hl z (by simp[hz])) (fun z hz=>hm z (by simp[hz]))
    by_cases e:p x y=0
    ·rw[if_neg (by omega),if_neg (by omega)];exact this
    rw[if_pos e,if_pos (by omega)];exact a
 intro l
 induction l with
 | nil=>intro m n _ _ _ _ _;cases n <;> simp[wN]
 | cons x l ih =>
  intro m n hl hm hn h1 h2
  cases m with
  | nil=>simp[wN]at h1
  | cons y m =>
   cases n with
   | nil=>simp[wN]at h2
   | cons z n =>
    have sx:=hl x (by simp);have sy:=hm y (by simp);have sz:=hn z (by simp)
    simp only[wN]at h1 h2 ⊢
    by_cases e1:p x y=0
    ·rw[if_neg (by omega)]at h1
     by_cases e2:p y z=0
     ·rw[if_neg (by omega)]at h2
      rw[if_neg (by have:=h.eq_eq sx sy sz e1 e2;omega)]
      exact ih m n (fun w hw=>hl w (by simp[hw])) (fun w hw=>hm w (by simp[hw])) (fun w hw=>hn w (by simp[hw])) h1 h2
     rw[if_pos e2]at h2
     have:=h.le_lt sx sy sz (by omega) (show p y z<0 by omega)
     rw[if_pos (by omega)];omega
    rw[if_pos e1]at h1
    by_cases e2:p y z=0
    ·have:=h.lt_le sx sy sz (show p x y<0 by omega) (by omega)
     rw[if_pos (by omega)];omega
    rw[if_pos e2]at h2
    have:=h.lt_le sx sy sz (show p x y<0 by omega) h2
    rw[if_pos (by omega)];omega
def qEM (a b:List UInt8):Int:=wN (fun x y:UInt8=>kF x.toNat y.toNat) a b
theorem qRO:Ord qEM (fun _=>True) :=
 let h:=(Ord.of_key (p:=fun x y:UInt8=>kF x.toNat y.toNat) (S:=fun _=>True) (fun x=>(x.toNat:Int)) fun x y _ _=>qRJ _ _).list
 ⟨fun x y _ _=>h.anti x y (fun _ _=>trivial) (fun _ _=>trivial),fun x y z _ _ _=>h.tr x y z (fun _ _=>trivial) (fun _ _=>trivial) (fun _ _=>trivial)⟩
theorem qNP (a b:UInt8) (al bs:List UInt8):qEM (a::al) (b::bs)=if kF a.toNat b.toNat≠0 then kF a.toNat b.toNat else qEM al bs:=rfl
theorem zIF {a b:Int} (h:a<b):kF a b = -1:=if_pos h
theorem zIG {a b:Int} (h:b<a):kF a b=1:=by unfold kF;rw[if_neg (by omega),if_pos h]
theorem qMF (a:Int):kF a a=0:=by unfold kF;rw[if_neg (by omega),if_neg (by omega)]
theorem qFA:∀ a b:List UInt8,Lib.compareBytes a b=qEM a b
 | [],[]=>rfl
 | [],_::_=>rfl
 | _::_,[]=>rfl
 | a::al,b::bs=>by
  simp only[Lib.compareBytes,qNP,UInt8.lt_iff_toNat_lt]
  by_cases h1:a.toNat<b.toNat
  ·rw[if_pos h1,zIF (by omega)];simp
  by_cases h2:b.toNat<a.toNat
  ·rw[if_neg h1,if_pos h2,zIG (by omega)];simp
  rw[if_neg h1,if_neg h2,show a.toNat=b.toNat by omega,qMF];simpa using qFA al bs
theorem zIE:∀ a b:List UInt8,jE a b=qEM a b
 | [],[]=>rfl
 | [],b::bs=>by simp[jE,Op.bytesLess,qEM,wN]
 | a::al,[]=>by simp[jE,Op.bytesLess,qEM,wN]
 | a::al,b::bs=>by
  have ih:=zIE al bs
  rw[qNP,<-ih]
  by_cases h1:a.toNat<b.toNat
  ·rw[zIF (by omega)];simp[jE,Op.bytesLess,UInt8.lt_iff_toNat_lt,h1]
  by_cases h2:b.toNat<a.toNat
  ·have hne:a≠b:=by rintro rfl;omega
   rw[zIG (by omega)];simp[jE,Op.bytesLess,UInt8.lt_iff_toNat_lt,h1,hne]
  have he:a=b:=UInt8.toNat_inj.1 (by omega)
  subst he
  rw[qMF];simp[jE,Op.bytesLess]
theorem zPZ:Ord jE (fun _=>True):=by
 rw[show jE=qEM from funext fun a=>funext fun b=>zIE a b];exact qRO
theorem zBZ:Ord Lib.compareBytes (fun _=>True):=by
 rw[show Lib.compareBytes=qEM from funext fun a=>funext fun b=>qFA a b];exact qRO
theorem zQC:Ord qGG (fun d=>zO d=true):=Ord.of_key qD fun x y hx hy=>zLL hx hy
def qAB (f:Nat) (k:Int) (a b:Val):Int :=
 if k=4 then qGG a.num b.num else if k=5 then Lib.compareBytes a.text b.text else if k=6 then wN (yU f) a.kids b.kids
 else if k=8 then kF a.code b.code
 else if k=7 then(if wN jE (zS a.keys) (zS b.keys)≠0 then wN jE (zS a.keys) (zS b.keys) else wN (yU f) (yN a) (yN b)) else 0
theorem qDE (f:Nat) (a b:Val):yU (f+1) a b=if kF a.kind b.kind≠0 then kF a.kind b.kind else qAB f a.kind a b:=by
 simp only[yU,qAB]
 by_cases h:a.kind=b.kind
 ·rw[if_neg (by simpa using h),h,qMF];simp
 ·rw [if_pos h, if_pos (by unfold kF; split; · omega
                           ·split <;> omega)]
theorem zQL {f:Nat} (ih:Ord (yU f) (fun v=>zX v=true)) (k:Int):Ord (qAB f k) (fun v=>zX v=true/\v.kind=k):=by
 by_cases h4:k=4
 ·have:qAB f k=fun a b=>qGG a.num b.num:=by funext a b;simp[qAB,h4]
  rw[this];exact zQC.map Val.num fun x hx=>vK hx.1 (by omega)
 by_cases h5:k=5
 ·have:qAB f k=fun a b=>Lib.compareBytes a.text b.text:=by funext a b;simp[qAB,h5]
  rw[this];exact zBZ.map Val.text fun x hx=>trivial
 by_cases h6:k=6
 ·have:qAB f k=fun a b=>wN (yU f) a.kids b.kids:=by funext a b;simp[qAB,h6]
  rw[this];exact ih.list.map Val.kids fun x hx y hy=>jJ hx.1 hy
 by_cases h8:k=8
 ·have:qAB f k=fun a b=>kF a.code b.code:=by funext a b;simp[qAB,h8]
  rw[this];exact Ord.of_key Val.code fun x y _ _=>qRJ _ _
 by_cases h7:k=7
 ·have:qAB f k=fun a b=>if wN jE (zS a.keys) (zS b.keys)≠0 then wN jE (zS a.keys) (zS b.keys) else wN (yU f) (yN a) (yN b):=by funext a b;simp[qAB,h7]
  rw[this]
  refine Ord.then (p:=fun a b:Val=>wN jE (zS a.keys) (zS b.keys)) (q:=fun a b=>wN (yU f) (yN a) (yN b)) ?_ ?_
  ·exact zPZ.list.map (fun v:Val=>zS v.keys) fun x hx y hy=>trivial
  exact ih.list.map yN fun x hx y hy=>jJ hx.1 (qCY (by have:=qDY hx.1 (by omega);omega) hy)
 have:qAB f k=fun a b=>0:=by funext a b;simp[qAB,h4,h5,h6,h7,h8]
 rw[this];exact⟨fun _ _ _ _=>by simp,fun _ _ _ _ _ _ _ _=>by simp⟩
theorem qHG {a b : Int} (h : kF a b = 0) : a = b := by unfold kF at h; split at h; · omega
                                                       ·split at h <;> omega
theorem qRK:∀ f,Ord (yU f) (fun v=>zX v=true)
 | 0=>⟨fun _ _ _ _=>by simp[yU],fun _ _ _ _ _ _ _ _=>by simp[yU]⟩
 | f+1=>by
  have ihb:=zQL (qRK f)
  have hk:Ord (fun a b:Val=>kF a.kind b.kind) (fun v=>zX v=true):=Ord.of_key Val.kind fun x y _ _=>qRJ _ _
  refine⟨fun x y hx hy => ?_,fun x y z hx hy hz h1 h2 => ?_⟩
  ·rw[qDE,qDE]
   have a1:=hk.anti x y hx hy
   by_cases e:kF x.kind y.kind=0
   ·have he:=qHG e
    rw[if_neg (by omega),if_neg (by omega),he]
    exact(ihb y.kind).anti x y ⟨hx,he⟩ ⟨hy,rfl⟩
   rw[if_pos e,if_pos (by omega)];exact a1
  rw[qDE]at h1 h2 ⊢
  by_cases e1:kF x.kind y.kind=0
  ·rw[if_neg (by omega)]at h1
   by_cases e2:kF y.kind z.kind=0
   ·rw[if_neg (by omega)]at h2
    have:=hk.eq_eq hx hy hz e1 e2
    rw[if_neg (by omega)]
    have k1:=qHG e1
    have k2:=qHG e2
    rw[<-k1]at h2
    exact(ihb x.kind).tr x y z ⟨hx,rfl⟩ ⟨hy,k1.symm⟩ ⟨hz,by omega⟩ h1 h2
   rw[if_pos e2]at h2
   have:=hk.le_lt hx hy hz (by show kF x.kind y.kind<=0;omega) (show kF y.kind z.kind<0 by omega)
   rw[if_pos (by omega)];omega
  rw[if_pos e1]at h1
  have e3:kF y.kind z.kind<=0:=by
   by_cases e2:kF y.kind z.kind=0
   ·omega
   rw[if_pos e2]at h2;exact h2
  have:=hk.lt_le hx hy hz (show kF x.kind y.kind<0 by omega) e3
  rw[if_pos (by omega)];omega
theorem qRI {α:Type} {p q:α->α->Int}:∀ {l m:List α},(∀ x∈l, ∀ y∈m,p x y=q x y)->wN p l m=wN q l m
 | [],[],_=>rfl
 | [],_::_,_=>rfl
 | _::_,[],_=>rfl
 | x::l,y::m,h=>by
  simp only[wN]
  rw[h x (by simp) y (by simp),qRI (fun a ha b hb=>h a (by simp[ha]) b (by simp[hb]))]
theorem qVA:∀ (f g:Nat) (a b:Val),zX a=true->zX b=true->Val.sz a<f->Val.sz a<g->yU f a b=yU g a b
 | 0,_,a,_,_,_,h,_=>by omega
 | _+1,0,a,_,_,_,_,h=>by omega
 | f+1,g+1,a,b,ha,hb,hf,hg=>by
  have key:∀ l m:List Val,(∀ x∈l,x∈a.kids)->(∀ y∈m,y∈b.kids)->wN (yU f) l m=wN (yU g) l m:=fun l m hl hm=>qRI fun x hx y hy=>by
   have:=Val.sz_kid (hl x hx)
   exact qVA f g x y (jJ ha (hl x hx)) (jJ hb (hm y hy)) (by omega) (by omega)
  rw[qDE,qDE]
  by_cases hk:kF a.kind b.kind=0
  ·rw[if_neg (by omega),if_neg (by omega)]
   have hkk:=qHG hk
   unfold qAB
   rw[key a.kids b.kids (fun _ h=>h) (fun _ h=>h)]
   by_cases h7:a.kind=7
   ·rw[key (yN a) (yN b) (fun x hx=>qCY (by have:=qDY ha h7;omega) hx) (fun y hy=>qCY (by have:=qDY hb (by omega);omega) hy)]
   by_cases h4:a.kind=4
   ·simp[h4]
   by_cases h5:a.kind=5
   ·simp[h5]
   by_cases h6:a.kind=6
   ·simp[h6]
   by_cases h8:a.kind=8
   ·simp[h8]
   simp[h4,h5,h6,h7,h8]
  rw[if_pos hk,if_pos hk]
theorem qDD {a b:Val} (ha:zX a=true) (hb:zX b=true) {n:Nat} (h:Val.sz a<n):wT a b=yU n a b:=qVA _ _ a b ha hb (by omega) h
theorem yS:Ord wT (fun v=>zX v=true):=by
 refine⟨fun x y hx hy => ?_,fun x y z hx hy hz h1 h2 => ?_⟩
 ·rw[qDD (n:=Val.sz x+Val.sz y+1) hx hy (by omega),qDD (n:=Val.sz x+Val.sz y+1) hy hx (by omega)]
  exact(qRK _).anti x y hx hy
 rw[qDD (n:=Val.sz x+Val.sz y+1) hx hy (by omega)]at h1
 rw[qDD (n:=Val.sz x+Val.sz y+1) hy hz (by omega)]at h2
 rw[qDD (n:=Val.sz x+Val.sz y+1) hx hz (by omega)]
 exact(qRK _).tr x y z hx hy hz h1 h2
def qQ (code m:Int):Val := .mk 8 m dc0 [] [] [] code
def vH (r:Dc × Int) (m:Int):Val:=if r.2=0 then .mk 4 m r.1 [] [] [] 0 else qQ r.2 m
def yT (b:Bool) (m:Int):Val := .mk (if b=true then 3 else 2) m dc0 [] [] [] 0
def splitB (c:UInt8):List UInt8->List (List UInt8)
 | []=>[[]]
 | b::r=>if b=c then[]::splitB c r else match splitB c r with
  | []=>[[b]]
  | h::t=>(b::h)::t
theorem zJL (c:UInt8):∀ s,splitB c s≠[]
 | []=>by simp[splitB]
 | b::r=>by
  simp only[splitB]
  split
  ·simp
  split <;> simp
theorem qPH (c:UInt8):∀ s,(splitB c s).length=s.count c+1
 | []=>by simp[splitB]
 | b::r=>by
  have ih:=qPH c r
  simp only[splitB]
  split
  ·rename_i h;subst h;simp[ih]
  rename_i h
  rw[List.count_cons_of_ne h,<-ih]
  split
  ·rename_i h2;exact absurd h2 (zJL c r)
  rename_i h2;rw[h2];simp
theorem qTC {c:UInt8}:∀ {s},c ∉ s->splitB c s=[s]
 | [],_=>rfl
 | b::r,h=>by
  simp only[List.mem_cons,not_or]at h
  simp only[splitB,qTC h.2]
  rw[if_neg (fun e=>h.1 e.symm)]
theorem qTD {c:UInt8}:∀ {a r:List UInt8},c ∉ a->splitB c (a++c::r)=a::splitB c r
 | [],r,_=>by simp[splitB]
 | b::a,r,h=>by
  simp only[List.mem_cons,not_or]at h
  simp only[List.cons_append,splitB]
  rw[if_neg (fun e=>h.1 e.symm),qTD h.2]
theorem qLS {c:UInt8}:∀ {a r:List UInt8},c ∉ a->Lib.indexByte (a++c::r) c=a.length
 | [],r,_=>by simp[Lib.indexByte]
 | b::a,r,h=>by
  simp only[List.mem_cons,not_or]at h
  have ih:=qLS (r:=r) h.2
  simp only[List.cons_append,Lib.indexByte]
  rw[if_neg (by intro e;exact h.1 (eq_of_beq e).symm),ih,List.length_cons,if_neg (by intro e;have:=eq_of_beq e;omega)]
  omega
theorem qUM {c:UInt8}:∀ {s:List UInt8},c ∉ s->Lib.indexByte s c = -1
 | [],_=>rfl
 | b::a,h=>by
  simp only[List.mem_cons,not_or]at h
  simp only[Lib.indexByte]
  rw[if_neg (by intro e;exact h.1 (eq_of_beq e).symm),qUM h.2]
  rfl
theorem zKQ {c:UInt8} {s:List UInt8} (h:c∈s):∃ a r,s=a++c::r/\c ∉ a:=by
 induction s with
 | nil=>cases h
 | cons b s ih =>
  by_cases e:b=c
  ·subst e;exact⟨[],s,rfl,by simp⟩
  obtain⟨a,r,rfl,hn⟩:=ih (by rcases List.mem_cons.1 h with h|h;exact absurd h.symm e;exact h)
  exact⟨b::a,r,rfl,by simp only[List.mem_cons,not_or];exact⟨fun h=>e h.symm,hn⟩⟩
theorem zPW {c:UInt8} {a r:List UInt8} (h:c ∉ a):(a++c::r).count c=r.count c+1:=by
 rw[List.count_append,List.count_cons_self,List.count_eq_zero.2 h];omega
def qAE (u:Nat):List UInt8:=if h:u=0 then[] else qAE (u / 10)++[UInt8.ofNat (48+u % 10)]
termination_by u
decreasing_by omega
theorem qDC:qAE 0=[]:=by rw[qAE];simp
theorem qRD {u:Nat} (h:0<u):qAE u=qAE (u / 10)++[UInt8.ofNat (48+u % 10)]:=by rw[qAE];rw[dif_neg (by omega)]
theorem qRE:∀ k u:Nat,u<10 ^ k->(qAE u).length<=k
 | 0,u,h=>by
  have:u=0:=by simpa using h
  subst this;rw[qDC];simp
 | k+1,u,h=>by
  rcases Nat.eq_zero_or_pos u with h0|h0
  ·subst h0;rw[qDC];simp
  rw[qRD h0,List.length_append,List.length_singleton]
  have:=qRE k (u / 10) (by rw[Nat.pow_succ]at h;omega)
  omega
def qFV (n:Int):Dc:=(wU (decide (n<0)) (qAE n.natAbs) 0).1
def qSA (l:List UInt8) (k:Nat):List UInt8:=(List.range l.length).map fun i=>if i<k\/l.length-k<=i then l.getD (l.length-1-i) 0 else l.getD i 0
theorem qCO (l:List UInt8) (k:Nat):(qSA l k).length=l.length:=by simp[qSA]
theorem qCP (l:List UInt8) (k:Nat) {i:Nat} (h:i<l.length):(qSA l k)[i]?=some (if i<k\/l.length-k<=i then l.getD (l.length-1-i) 0 else l.getD i 0):=by
 simp[qSA,h]
theorem qGK (L:List UInt8) (i:Nat) (b:UInt8):(qP L).set i (.int .u8 b.toNat)=qP (L.set i b):=by unfold qP;rw[List.map_set]
theorem zJU (l:List UInt8):qSA l 0=l:=by
 apply List.ext_getElem?
 intro i
 by_cases h:i<l.length
 ·rw[qCP l 0 h,if_neg (by omega),List.getD_eq_getElem?_getD,List.getElem?_eq_getElem h];rfl
 rw[List.getElem?_eq_none (by rw[qCO];omega),List.getElem?_eq_none (by omega)]
theorem zNM (l:List UInt8) {k:Nat} (h:l.length<=2 * k+1):qSA l k=l.reverse:=by
 apply List.ext_getElem?
 intro i
 by_cases hi:i<l.length
 ·rw[qCP l k hi,List.getElem?_reverse hi]
  have h1:l[l.length-1-i]?=some (l[l.length-1-i]'(by omega)):=List.getElem?_eq_getElem _
  rw[h1]
  congr 1
  split
  ·rw[List.getD_eq_getElem?_getD,h1];rfl
  have h2:l[i]?=some (l[l.length-1-i]'(by omega)):=by rw[<-h1];congr 1;omega
  rw[List.getD_eq_getElem?_getD,h2];rfl
 rw[List.getElem?_eq_none (by rw[qCO];omega),List.getElem?_eq_none (by rw[List.length_reverse];omega)]
theorem zJV (l:List UInt8) {k:Nat} (h:2 * k+1<l.length):((qSA l k).set k (l.getD (l.length-1-k) 0)).set (l.length-1-k) (l.getD k 0)=qSA l (k+1):=by
 apply List.ext_getElem?
 intro i
 by_cases hi:i<l.length
 ·rw[qCP l (k+1) hi,List.getElem?_set,List.getElem?_set]
  simp only[List.length_set,qCO]
  by_cases h1:l.length-1-k=i
  ·subst h1
   rw[if_pos rfl,if_pos (by omega),if_pos (.inr (by omega)),show l.length-1-(l.length-1-k)=k by omega]
  rw[if_neg h1]
  by_cases h2:k=i
  ·subst h2
   rw[if_pos rfl,if_pos (by omega),if_pos (.inl (by omega))]
  rw[if_neg h2,qCP l k hi]
  congr 1
  by_cases h3:i<k\/l.length-k<=i
  ·rw[if_pos h3,if_pos (by omega)]
  rw[if_neg h3,if_neg (by omega)]
 rw[List.getElem?_eq_none (by simp[qCO];omega),List.getElem?_eq_none (by rw[qCO];omega)]
theorem zPP (u:Nat):(qAE u).all qO=true:=by
 induction u using Nat.strongRecOn with
 | _ u ih =>
  rcases Nat.eq_zero_or_pos u with h|h
  ·subst h;rw[qDC];rfl
  rw[qRD h,List.all_append,ih (u / 10) (by omega)]
  have:qO (UInt8.ofNat (48+u % 10))=true:=by
   rw[kL,UInt8.toNat_ofNat'];omega
  rw[List.all_cons,this];rfl
theorem qVW (s:List UInt8) (h:qX s≠[]):qV (qX s) 0≠48:=by
 unfold qX at h ⊢
 have:=List.head?_dropWhile_not (fun b:UInt8=>b == 48) s
 cases hs:s.dropWhile (fun b=>b == 48)with
 | nil=>exact absurd hs h
 | cons b r =>
  rw[hs]at this
  simp only[List.head?_cons]at this
  have hb:¬ b=48:=by simpa using this
  unfold qV
  simp only[List.getD_cons_zero]
  intro e
  exact hb (UInt8.toNat_inj.1 (by show b.toNat=48;omega))
theorem zOX {n:Int} (h0 : -9223372036854775808<=n) (h1:n<=9223372036854775807):zO (qFV n)=true:=by
 have hl:=qRE 20 n.natAbs (by omega)
 have hd:=zPP n.natAbs
 have hsl:(qX (qAE n.natAbs)).length<=20:=Nat.le_trans (List.dropWhile_sublist _).length_le hl
 have hsd:(qX (qAE n.natAbs)).all qO=true:=by
  rw[List.all_eq_true]at hd ⊢
  exact fun b hb=>hd b ((List.dropWhile_sublist _).subset hb)
 have hh:=qVW (qAE n.natAbs)
 have e:qFV n=if qX (qAE n.natAbs)=[] then⟨false,[48],0⟩ else⟨decide (n<0),qX (qAE n.natAbs),0⟩:=by
  have ht:wH (qX (qAE n.natAbs)) 0=(qX (qAE n.natAbs),0):=rfl
  unfold qFV wU
  rw[ht]
  by_cases h:qX (qAE n.natAbs)=[]
  ·rw[if_pos h,if_pos h]
  rw[if_neg h,if_neg h,if_neg (by simp only;omega)];rfl
 rw[e]
 generalize qX (qAE n.natAbs)=s at *
 split
 ·decide
 rename_i hne
 have hpos:0<s.length:=List.length_pos_iff.2 hne
 have h48:¬ s=[48]:=by
  intro he;exact hh hne (by rw[he];rfl)
 unfold zO
 simp only
 rw[if_neg h48,hsd]
 have:=hh hne
 simp[this];omega
def qWO (m:Int):Val := .mk 1 m dc0 [] [] [] 0
def wW (s:List UInt8) (m:Int):Val:=if 4096<s.length then qQ 3 m else .mk 5 m dc0 s [] [] 0
def yE (l:List Val) (m:Int):Val:=if 200<l.length then qQ 3 m else .mk 6 m dc0 [] [] l 0
def qFB (n:Int) (m:Int):Val:=vH (qFV n,0) m
theorem zMU (code m:Int):AFn Tryz.prog G 69 [.int .i64 code,.int .u64 m] ((qQ code m).enc):=by
 refine AFn.introU tok Tryz.func69 (by kernel_rfl) rfl rfl ?_
 simp only[Tryz.f69,qG,List.map_cons,List.map_nil]
 have e:qQ code m = .mk 8 m dc0 [] [] [] code:=rfl
 rw[e]
 refine rgn [] [[]] ?_
 refine op3 ?_
 refine qA (rgn [] [[],[],[4,7],[4]] ?_)
 iterate 4 refine op3 ?_
 refine qA ?_
 exact AW.ret (qI (k:=by simp[dc0]))
def kR (v:Val):Bool × Bool:=if v.kind=8 then(false,false) else if v.kind=1\/v.kind=2 then(false,true) else(true,true)
theorem qSW (v:Val):AFn Tryz.prog G 33 [v.enc] (.tup [.bool (kR v).1,.bool (kR v).2]):=by
 refine AFn.introU tok Tryz.func33 (by kernel_rfl) rfl rfl ?_
 simp only[Tryz.f33,qG,List.map_cons,List.map_nil]
 refine rgn [] [[],[],[1]] ?_
 iterate 3 refine op3 ?_
 refine qA (AW.seq (rgn [] [[],[5]] ?_))
 iterate 2 refine op3 ?_
 refine qA (AW.block (rgn [] [[],[5,6]] ?_))
 iterate 2 refine op3 ?_
 refine qA (cnd ?_ ?_)
 ·intro h6
  try simp at h6
  refine rgn [] [[],[]] ?_
  iterate 2 refine op3 ?_
  refine qA ?_
  exact AW.ret (qI (k:=by(first|(exfalso;omega)|(simp[kR, *];done))))
 intro h6
 try simp at h6
 refine AW.seq (rgn [] [[],[5,8]] ?_)
 iterate 2 refine op3 ?_
 refine qA (cnd ?_ ?_)
 ·intro h8
  try simp at h8
  refine AW.skip (cnd ?_ ?_)
  ·intro h8
   try simp at h8
   refine rgn [] [[],[]] ?_
   iterate 2 refine op3 ?_
   refine qA ?_
   exact AW.ret (qI (k:=by(first|(exfalso;omega)|(simp[kR, *];done))))
  intro h8
  try simp at h8
  refine AW.skip (rgn [] [[],[]] ?_)
  iterate 2 refine op3 ?_
  refine qA ?_
  exact AW.ret (qI (k:=by(first|(exfalso;omega)|(simp[kR, *];done))))
 intro h8
 try simp at h8
 refine rgz [] [[],[8]] ?_
 iterate 2 refine op3 ?_
 refine qA (cnd ?_ ?_)
 ·intro h8
  try simp at h8
  refine rgn [] [[],[]] ?_
  iterate 2 refine op3 ?_
  refine qA ?_
  exact AW.ret (qI (k:=by(first|(exfalso;omega)|(simp[kR, *];done))))
 intro h8
 try simp at h8
 refine AW.skip (rgn [] [[],[]] ?_)
 iterate 2 refine op3 ?_
 refine qA ?_
 exact AW.ret (qI (k:=by(first|(exfalso;omega)|(simp[kR, *];done))))
structure Item where
 kind:Int
 many:Int
 mask:Int
 num:List UInt8
 text:List UInt8
 keys:List (List UInt8)
@[simp] def Item.enc (x:Item):PD := .agg [.int .i64 x.kind,.int .i64 x.many,.int .u64 x.mask,.str x.num,.str x.text,.sl 1 (x.keys.map PD.str)]
def wY (a:Int):Nat:=(a % 2 ^ 64).toNat &&& 7
theorem qJZ (a:Int):wY a<8:=Nat.and_lt_two_pow _ (n:=3) (by decide)
theorem qUA (a:Int):IntKind.i64.wrap (((a % 2 ^ IntKind.i64.bits).toNat &&& 7 % 2 ^ IntKind.i64.bits:Nat):Int)=(wY a:Int):=by
 have h:=qJZ a
 have e:((a % 2 ^ IntKind.i64.bits).toNat &&& 7 % 2 ^ IntKind.i64.bits:Nat)=wY a:=rfl
 rw[e]
 simp[IntKind.wrap,IntKind.bits,IntKind.signed];omega
def qCE (s:List UInt8):Dc:=if(vY (xA s)).2=0 then(vY (xA s)).1 else⟨false,[55],0⟩
def zBE (alone:List Val) (x:Item):Nat:=min (wY x.many) alone.length
def zG (alone:List Val) (x:Item):List Val:=if wY x.kind=5\/wY x.kind=6 then alone.drop (alone.length-zBE alone x) else[]
def zU (alone:List Val) (x:Item):List Val:=if wY x.kind=5\/wY x.kind=6 then alone.take (alone.length-zBE alone x) else alone
def wQ (alone:List Val) (x:Item):Val :=
 .mk (wY x.kind+1) x.mask (if wY x.kind=3 then qCE x.num else dc0) (if wY x.kind=4 then qCI x.text else[])
  (if wY x.kind=6 then qFP x.keys (zG alone x).length else[]) (zG alone x) (if wY x.kind=7 then 40 else 0)
def qCZ (alone:List Val) (x:Item):List Val:=zU alone x++[wQ alone x]
def qIY (l:List Item):List Val:=(l.take 80).foldl qCZ []
def uS (l:List Item):Val:=(qIY l).getLastD zAF
def vX (l:List Item) (k:Nat):List Val:=(l.take k).foldl qCZ []
theorem qCA {l:List Item} {k:Nat} {x:Item} (h:l[k]?=some x):vX l (k+1)=qCZ (vX l k) x:=by
 unfold vX;rw[List.take_add_one,h];simp
theorem zLB (a:List Val) (x:Item):(qCZ a x).length<=a.length+1:=by
 unfold qCZ zU;split <;> simp <;> omega
theorem qIZ (l:List Item):∀ k,(vX l k).length<=k
 | 0=>by simp[vX]
 | k+1=>by
  cases h:l[k]? with
  | none =>
   have h1:vX l (k+1)=vX l k:=by unfold vX;rw[List.take_add_one,h];simp
   have:=qIZ l k
   rw[h1];omega
  | some x =>
   rw[qCA h]
   have:=zLB (vX l k) x
   have:=qIZ l k
   omega
theorem zCZ (l:List Item) (hl:∀ x∈l,x.keys.length<=140737488351232):AFn Tryz.prog G 10 [.sl 6 (l.map Item.enc)] ((uS l).enc):=by
 refine AFn.introU tok Tryz.func10 (by kernel_rfl) rfl rfl ?_
 simp only[Tryz.f10,qG,List.map_cons,List.map_nil]
 refine rgn [] [[]] ?_
 refine op3 ?_
 refine qA (rgn [] [[],[0,2,3]] ?_)
 iterate 2 refine op3 ?_
 refine qA (AW.seq (rgn [] [[]] ?_))
 refine op3 ?_
 refine qA (AW.block ?_)
 refine AW.loop (α:=Nat) (fun k=>k<=l.length/\k<=80) (fun k=>⟨zA 121 [(0,.p (.sl 6 (l.map Item.enc))),(2,.ptr 2 0),(3,.ms 11),(4,.p (.int .i64 k))],[],[(11,.row 31 9 ((vX l k).map Val.enc)),(2,.vars 31 [.p (.int .i64 0),.p (.int .u64 0),.p (.bool false),.p (.str []),.p (.int .i64 0),.p (.str []),.nilsl,.nilsl,.p (.int .i64 0)])],0⟩) (fun k=>l.length-k) (0) ⟨by omega,by omega⟩ ⟨qE (by simp),rfl,by simp[vX],by simp⟩ ?_
 rintro k ⟨hk,hk8⟩
 have hal:=qIZ l k
 generalize haa:vX l k=alone at *
 refine AW.seq (rgn [] [[],[],[],[],[0,2,3,4,16],[],[],[0,2,3,4,19]] ?_)
 iterate 5 refine op3 ?_
 iterate 2 refine op4 ?_
 refine op3 ?_
 refine qA (cnd ?_ ?_)
 ·intro h19
  try simp at h19
  obtain⟨x,hx⟩:∃ x,l[k]?=some x:=⟨l[k],by simp[h19.1]⟩
  have hsh:=qZO (G:=G) x.num
  have hpa:=zRL (G:=G) (xA x.num) (by have:=qIL x.num;omega)
  have hwo:=zGK (G:=G) x.text
  have h3k:=qJZ x.kind
  have hxl:=hl x (List.mem_of_getElem? hx)
  refine AW.skip (AW.seq (AW.block (rgn [x.enc] [[],[],[],[],[0,2,3,4,26],[],[0,2,3,4,5]] ?_)))
  iterate 7 refine op3 ?_ (h:=by intro C;conv=>lhs;simp[qUA]) (hv:=by first|exact True.intro|(simp[hx];done)|omega|simp)
  refine qA (rgn [x.enc] [[],[],[],[],[0,2,3,4,29,32],[],[],[0,2,3,4,35],[],[0,2,3,4,6]] ?_)
  iterate 10 refine op3 ?_ (hv:=by first|exact True.intro|(simp[hx];done)|omega|simp)
  refine qA ?_
  refine AW.join (α:=Unit) (fun _=>True) (fun a=>⟨zA 121 [(0,.p (.sl 6 (l.map Item.enc))),(2,.ptr 2 0),(3,.ms 11),(4,.p (.int .i64 k)),(6,.ptr 6 0)],[],[(11,.row 31 9 ((zU alone x).map Val.enc)),(2,.vars 31 [.p (.int .i64 0),.p (.int .u64 0),.p (.bool false),.p (.str []),.p (.int .i64 0),.p (.str []),.nilsl,.nilsl,.p (.int .i64 0)]),(6,.vars 31 [.p (.int .i64 (wY x.kind+1)),.p (.int .u64 x.mask),.p (.bool (wQ alone x).num.neg),.p (.str (wQ alone x).num.digits),.p (.int .i64 (wQ alone x).num.scale),.p (.str (wQ alone x).text),.p (.sl 1 []),.p (.sl 9 ((zG alone x).map Val.enc)),.p (.int .i64 (wQ alone x).code)])],0⟩) ?_ ?_
  ·
   refine AW.seqRegionO [] ?_
   refine qB.fill 6 [none,none,none,none,none,none,some 1,some 9] (by conv=>lhs;simp) ?_
   refine qB.run [[],[0,2,3,4,6,37]] ?_
   iterate 2 refine op3 ?_
   refine qA (AW.block (rgn [] [[],[0,2,3,4,6,37,38]] ?_))
   iterate 2 refine op3 ?_
   refine qA (cnd ?_ ?_)
   ·intro h38
    try simp at h38
    have hq:wY x.kind=3:=by omega
    refine rgn [x.enc,.nilp,.str (xA x.num),.nilp,.tup [(vY (xA x.num)).1.enc,.int .i64 (vY (xA x.num)).2]] [[],[],[],[],[0,2,3,4,6,45],[],[],[],[],[0,2,3,4,6,48,49],[],[],[0,2,3,4,6,7,8]] ?_
    iterate 13 refine op3 ?_ (hv:=by first|exact True.intro|exact hsh|exact hpa|simp[hx];done|omega|simp)
    refine qA (AW.seq (rgn [] [[],[0,2,3,4,6,7,51]] ?_))
    iterate 2 refine op3 ?_
    refine qA (cnd ?_ ?_)
    ·intro h51
     try simp at h51
     refine rgz [] [[],[0,2,3,4,6,7]] ?_
     iterate 2 refine op3 ?_
     refine qA (rgz [] [[],[],[0,2,3,4,6]] ?_)
     iterate 3 refine op3 ?_
     refine qA ?_
     exact⟨(),trivial,qE (by simp[zU,wQ,zG,qCE,dc0,Val.num,Val.text,Val.code,Val.keys,Val.kids,hq,h51]),rfl,by simp[zU,wQ,zG,qCE,dc0,Val.num,Val.text,Val.code,Val.keys,Val.kids,hq,h51],by simp[zU,wQ,zG,qCE,dc0,Val.num,Val.text,Val.code,Val.keys,Val.kids,hq,h51]⟩
    intro h51
    try simp at h51
    refine AW.skip (rgz [] [[],[],[0,2,3,4,6]] ?_)
    iterate 3 refine op3 ?_
    refine qA ?_
    exact⟨(),trivial,qE (by simp[zU,wQ,zG,qCE,dc0,Val.num,Val.text,Val.code,Val.keys,Val.kids,hq,h51]),rfl,by simp[zU,wQ,zG,qCE,dc0,Val.num,Val.text,Val.code,Val.keys,Val.kids,hq,h51],by simp[zU,wQ,zG,qCE,dc0,Val.num,Val.text,Val.code,Val.keys,Val.kids,hq,h51]⟩
   intro h38
   try simp at h38
   refine rgn [] [[],[0,2,3,4,6,37,55]] ?_
   iterate 2 refine op3 ?_
   refine qA (cnd ?_ ?_)
   ·intro h55
    try simp at h55
    have hq:wY x.kind=4:=by omega
    refine rgz [x.enc,.nilp,.str (qCI x.text)] [[],[],[],[],[0,2,3,4,6,61],[],[],[0,2,3,4,6]] ?_
    iterate 8 refine op3 ?_ (hv:=by first|exact True.intro|exact hwo|simp[hx];done|omega|simp)
    refine qA ?_
    exact⟨(),trivial,qE (by simp[zU,wQ,zG,qCE,dc0,Val.num,Val.text,Val.code,Val.keys,Val.kids,hq]),rfl,by simp[zU,wQ,zG,qCE,dc0,Val.num,Val.text,Val.code,Val.keys,Val.kids,hq],by simp[zU,wQ,zG,qCE,dc0,Val.num,Val.text,Val.code,Val.keys,Val.kids,hq]⟩
   intro h55
   try simp at h55
   refine rgn [] [[],[0,2,3,4,6,37,64]] ?_
   iterate 2 refine op3 ?_
   refine qA (cnd ?_ ?_)
   ·intro h64
    try simp at h64
    have hq:wY x.kind=7:=by omega
    refine rgz [] [[],[0,2,3,4,6]] ?_
    iterate 2 refine op3 ?_
    refine qA ?_
    exact⟨(),trivial,qE (by simp[zU,wQ,zG,qCE,dc0,Val.num,Val.text,Val.code,Val.keys,Val.kids,hq]),rfl,by simp[zU,wQ,zG,qCE,dc0,Val.num,Val.text,Val.code,Val.keys,Val.kids,hq],by simp[zU,wQ,zG,qCE,dc0,Val.num,Val.text,Val.code,Val.keys,Val.kids,hq]⟩
   intro h64
   try simp at h64
   refine AW.join (α:=Unit) (fun _=>True) (fun a=>⟨zA 121 [(0,.p (.sl 6 (l.map Item.enc))),(2,.ptr 2 0),(3,.ms 11),(4,.p (.int .i64 k)),(6,.ptr 6 0),(67,.p (.bool (decide (wY x.kind=5\/wY x.kind=6))))],[],[(11,.row 31 9 (alone.map Val.enc)),(2,.vars 31 [.p (.int .i64 0),.p (.int .u64 0),.p (.bool false),.p (.str []),.p (.int .i64 0),.p (.str []),.nilsl,.nilsl,.p (.int .i64 0)]),(6,.vars 31 [.p (.int .i64 (wY x.kind+1)),.p (.int .u64 x.mask),.p (.bool false),.p (.str []),.p (.int .i64 0),.p (.str []),.p (.sl 1 []),.p (.sl 9 []),.p (.int .i64 0)])],0⟩) ?_ ?_
   ·
    refine rgn [] [[],[0,2,3,4,6,37,67]] ?_
    iterate 2 refine op3 ?_
    refine qA (cnd ?_ ?_)
    ·intro h67
     try simp at h67
     refine AW.skip ?_
     exact⟨(),trivial,qE (by simp[show(wY x.kind=5\/wY x.kind=6)=True from eq_true (by omega),h67]),rfl,by simp[show(wY x.kind=5\/wY x.kind=6)=True from eq_true (by omega),h67],by simp[show(wY x.kind=5\/wY x.kind=6)=True from eq_true (by omega),h67]⟩
    intro h67
    try simp at h67
    refine rgz [] [[],[0,2,3,4,6,67]] ?_
    iterate 2 refine op3 ?_
    refine qA ?_
    exact⟨(),trivial,qE (by simp[show(wY x.kind=5\/wY x.kind=6)=(wY x.kind=6) from propext (by omega),show((wY x.kind:Int)+1=7)=(wY x.kind=6) from propext (by omega)]),rfl,by simp[show(wY x.kind=5\/wY x.kind=6)=(wY x.kind=6) from propext (by omega),show((wY x.kind:Int)+1=7)=(wY x.kind=6) from propext (by omega)],by simp[show(wY x.kind=5\/wY x.kind=6)=(wY x.kind=6) from propext (by omega),show((wY x.kind:Int)+1=7)=(wY x.kind=6) from propext (by omega)]⟩
   ·
    rintro a hI
    refine cnd ?_ ?_
    ·intro h67
     try simp at h67
     have hmany:=qJZ x.many
     have hkn:((alone.length:Int)-if alone.length<wY x.many then(alone.length:Int) else(wY x.many:Int)).toNat=alone.length-zBE alone x:=by unfold zBE;split <;> omega
     have hq3:¬ wY x.kind=3:=by omega
     have hq4:¬ wY x.kind=4:=by omega
     have hq7:¬ wY x.kind=7:=by omega
     refine rgn [x.enc] [[],[],[],[],[0,2,3,4,6,74],[],[],[],[0,2,3,4,6,78],[0,2,3,4,6,9]] ?_
     iterate 10 refine op3 ?_ (h:=by intro C;conv=>lhs;simp[qUA]) (hv:=by first|exact True.intro|(simp[hx];done)|omega|simp)
     refine qA (rgn [] [[],[],[],[0,2,3,4,6,82],[0,2,3,4,6,10]] ?_)
     iterate 5 refine op3 ?_
     refine qA ?_
     refine AW.seqRegionO [] ?_
     refine qB.freeze 11 (by conv=>lhs;simp) ?_
     refine qB.run [[],[],[],[],[0,2,3,4,6,10,87],[],[0,2,3,4,6,10]] ?_
     iterate 7 refine op3 ?_
     refine qA (rgz [] [[],[],[],[0,2,4,6,89,92],[]] ?_)
     iterate 5 refine op3 ?_
     refine qJ ?_
     refine qB.take 89 11 (by conv=>lhs;simp) ?_
     refine qB.freeze 83 (by conv=>lhs;simp) ?_
     refine qB.run [[0,2,3,4,6]] ?_
     refine op3 ?_
     refine qA ?_
     exact⟨(),trivial,qE (by simp[zU,wQ,zG,qCE,dc0,Val.num,Val.text,Val.code,Val.keys,Val.kids,hq3,hq4,hq7,hkn,h67,show List.take alone.length (alone.map Val.enc)=alone.map Val.enc from List.take_of_length_le (by simp)]),rfl,by simp[zU,wQ,zG,qCE,dc0,Val.num,Val.text,Val.code,Val.keys,Val.kids,hq3,hq4,hq7,hkn,h67,show List.take alone.length (alone.map Val.enc)=alone.map Val.enc from List.take_of_length_le (by simp)],by simp[zU,wQ,zG,qCE,dc0,Val.num,Val.text,Val.code,Val.keys,Val.kids,hq3,hq4,hq7,hkn,h67,show List.take alone.length (alone.map Val.enc)=alone.map Val.enc from List.take_of_length_le (by simp)]⟩
    intro h67
    try simp at h67
    have hq3:¬ wY x.kind=3:=by omega
    have hq4:¬ wY x.kind=4:=by omega
    have hq7:¬ wY x.kind=7:=by omega
    refine AW.skip ?_
    exact⟨(),trivial,qE (by simp[zU,wQ,zG,qCE,dc0,Val.num,Val.text,Val.code,Val.keys,Val.kids,hq3,hq4,hq7,h67]),rfl,by simp[zU,wQ,zG,qCE,dc0,Val.num,Val.text,Val.code,Val.keys,Val.kids,hq3,hq4,hq7,h67],by simp[zU,wQ,zG,qCE,dc0,Val.num,Val.text,Val.code,Val.keys,Val.kids,hq3,hq4,hq7,h67]⟩
  ·
   rintro a hI
   refine AW.join (α:=Unit) (fun _=>True) (fun a=>⟨zA 121 [(0,.p (.sl 6 (l.map Item.enc))),(2,.ptr 2 0),(3,.ms 11),(4,.p (.int .i64 k)),(6,.ptr 6 0)],[],[(11,.row 31 9 ((zU alone x).map Val.enc)),(2,.vars 31 [.p (.int .i64 0),.p (.int .u64 0),.p (.bool false),.p (.str []),.p (.int .i64 0),.p (.str []),.nilsl,.nilsl,.p (.int .i64 0)]),(6,.vars 31 [.p (.int .i64 (wQ alone x).kind),.p (.int .u64 (wQ alone x).mask),.p (.bool (wQ alone x).num.neg),.p (.str (wQ alone x).num.digits),.p (.int .i64 (wQ alone x).num.scale),.p (.str (wQ alone x).text),.p (.sl 1 ((wQ alone x).keys.map PD.str)),.p (.sl 9 ((wQ alone x).kids.map Val.enc)),.p (.int .i64 (wQ alone x).code)])],0⟩) ?_ ?_
   ·
    refine rgn [] [[],[],[0,2,3,4,6,96]] ?_
    iterate 3 refine op3 ?_
    refine qA (cnd ?_ ?_)
    ·intro h96
     try simp at h96
     have hq:wY x.kind=6:=by omega
     have hkl:(zG alone x).length<=100000:=by unfold zG;split <;> simp <;> omega
     have hna:=zOF (G:=G) x.keys (zG alone x).length hxl hkl
     refine AW.runDrawK tok mixed [0,2,3,4,6] 9 [[0],[4],[97,98],[99],[100],[6],[102],[103],[101,104]] [x.enc,.nilp,.sl 1 ((qFP x.keys (zG alone x).length).map PD.str)] [] (by kernel_rfl) (by intro C;conv=>lhs;simp) (by first|(simp[hx];done)|(simp[hx];exact hna)) (by simp[Sm.sum,Sm.foot,Sm.tch,Sm.refs];kernel_rfl) (by intro C;conv=>lhs;simp) (by first|exact True.intro|omega|simp) ?_
     exact⟨(),trivial,qE (by simp[wQ,Val.kind,Val.mask,Val.keys,Val.kids,hq]),rfl,by simp[wQ,Val.kind,Val.mask,Val.keys,Val.kids,hq],by simp[wQ,Val.kind,Val.mask,Val.keys,Val.kids,hq]⟩
    intro h96
    try simp at h96
    have hq:¬ wY x.kind=6:=by omega
    refine AW.skip ?_
    exact⟨(),trivial,qE (by simp[wQ,Val.kind,Val.mask,Val.keys,Val.kids,hq]),rfl,by simp[wQ,Val.kind,Val.mask,Val.keys,Val.kids,hq],by simp[wQ,Val.kind,Val.mask,Val.keys,Val.kids,hq]⟩
   ·
    rintro a hI
    have hrl:(zU alone x).length<=alone.length:=by unfold zU;split <;> simp <;> omega
    refine rgz [(wQ alone x).enc] [[],[],[],[0,2,4,110],[0,2,3,4]] ?_
    iterate 5 refine op3 ?_ (hv:=by first|exact True.intro|(simp;done)|(simp;omega)|omega;done|omega|simp)
    refine qA (rgz [] [[],[],[0,2,3,4]] ?_)
    iterate 3 refine op3 ?_
    refine qA ?_
    exact⟨k+1,⟨by omega,by omega⟩,by omega,qE (by simp[haa,qCA hx,qCZ]),rfl,by simp[haa,qCA hx,qCZ],by simp[haa,qCA hx,qCZ]⟩
 intro h19
 try simp at h19
 have hfin:qIY l=alone:=by
  rw[<-haa];unfold qIY vX
  congr 1
  by_cases h:k=80
  ·rw[h]
  have hkl:k=l.length:=by omega
  rw[hkl,List.take_length,List.take_of_length_le (by omega)]
 refine AW.exit ?_
 simp
 refine AW.seq (rgn [] [[],[],[2,3,113]] ?_)
 iterate 3 refine op3 ?_
 refine qA (cnd ?_ ?_)
 ·intro h113
  try simp at h113
  have hB:uS l=zAF:=by simp[uS,hfin,h113]
  refine rgn [] [[],[2]] ?_
  iterate 2 refine op3 ?_
  refine qA ?_
  exact AW.ret (qI (k:=by simp[hB,zAF,dc0,Val.kind,Val.mask,Val.num,Val.text,Val.keys,Val.kids,Val.code]))
 intro h113
 try simp at h113
 have hlast:alone[alone.length-1]?=some (uS l):=by
  rw[uS,hfin,List.getLastD_eq_getLast?,List.getLast?_eq_getElem?]
  have:alone.length-1<alone.length:=by
   have:alone≠[]:=h113
   have:=List.length_pos_iff.2 this;omega
  simp[this]
 have hpos:0<alone.length:=List.length_pos_iff.2 h113
 refine AW.skip (rgn [(uS l).enc] [[],[],[],[],[2,119],[],[2]] ?_)
 iterate 7 refine op3 ?_ (hv:=by first|exact True.intro|(simp[hlast];done)|omega|simp)
 exact qA (AW.ret qI)
theorem zEL {v:Val} (h1:1<=v.kind/\v.kind<=8/\v.kids.length<=200) (h2:v.kind=8↔v.code≠0) (h3:v.kind=4->zO v.num=true) (h3':v.kind≠4->v.num=dc0)
  (h4:v.kind=5->qAR v.text=true) (h4':v.kind≠5->v.text=[]) (h5:v.kind=7->v.keys.length=v.kids.length/\qNG v.keys=true) (h5':v.kind≠7->v.keys=[]) (h6:v.kids=[]\/v.kind=6\/v.kind=7)
  (h7:∀ k∈v.kids,zX k=true):zX v=true:=by
 rw[qBV]
 simp only[Bool.and_eq_true,qDU]
 refine⟨⟨by simp[qEO];omega,⟨⟨⟨⟨?_, ?_⟩, ?_⟩, ?_⟩, ?_⟩⟩,List.all_eq_true.2 h7⟩
 ·unfold zID
  by_cases h:v.kind=8
  ·simp[h,h2.1 h]
  ·have : v.code = 0 := by by_cases hc : v.code = 0; · exact hc
                           ·exact(h (h2.2 hc)).elim
   simp[h,this]
 ·unfold zOB
  by_cases h:v.kind=4
  ·rw[if_pos h];exact h3 h
  rw[if_neg h,h3' h];simp[dc0]
 ·unfold qYY
  by_cases h:v.kind=5
  ·rw[if_pos h];exact h4 h
  rw[if_neg h,h4' h];simp
 ·unfold qLP
  by_cases h:v.kind=7
  ·rw[if_pos h,(h5 h).1,(h5 h).2];simp
  rw[if_neg h,h5' h];simp
 unfold zHQ
 rcases h6 with h|h|h <;> simp[h]
theorem zDQ {s:List UInt8} (h:s.all qO=true):(qX s).all qO=true:=by
 rw[List.all_eq_true]at h ⊢
 exact fun b hb=>h b ((List.dropWhile_sublist _).subset hb)
theorem qZH {s:List UInt8} (h:qX s≠[]):qV (qX s) 0≠48:=by
 induction s with
 | nil=>exact(h rfl).elim
 | cons b s ih =>
  by_cases hb:b=48
  ·have e:qX (b::s)=qX s:=by simp[qX,hb]
   rw[e]at h ⊢; exact ih h
  have e:qX (b::s)=b::s:=by simp[qX,hb]
  rw[e]
  intro h2
  simp[qV]at h2
  exact hb (UInt8.toNat_inj.1 (by show b.toNat=48;omega))
theorem qPA:∀ (k:Nat) (d:List UInt8),(∃ r,d=(wH d k).1++r)/\((wH d k).2=0\/(wH d k).1.getLast?≠some 48)
 | 0,d=>⟨⟨[],by simp[wH]⟩,.inl rfl⟩
 | k+1,d=>by
  simp only[wH]
  split
  ·obtain⟨⟨r,hr⟩,h2⟩:=qPA k d.dropLast
   refine⟨⟨r++d.drop (d.length-1), ?_⟩,h2⟩
   have e:d.dropLast++d.drop (d.length-1)=d:=by rw[List.dropLast_eq_take,List.take_append_drop]
   rw[<-List.append_assoc,<-hr,e]
  rename_i h;exact⟨⟨[],by simp⟩,.inr h⟩
theorem qHI {neg:Bool} {digits:List UInt8} {scale:Nat} (hd:digits.all qO=true) (h:(wU neg digits scale).2=0):zO (wU neg digits scale).1=true:=by
 unfold wU at h ⊢
 simp only at h ⊢
 obtain⟨⟨r,hr⟩,hl⟩:=qPA scale (qX digits)
 generalize wH (qX digits) scale=x at *
 split
 ·decide +kernel
 rename_i hne
 rw[if_neg hne]at h
 split
 ·rename_i hb;rw[if_pos hb]at h;simp at h
 rename_i hb
 have hpos:0<x.1.length:=List.length_pos_iff.2 hne
 have hall:x.1.all qO=true:=by
  have:=zDQ hd
  rw[hr,List.all_append,Bool.and_eq_true]at this;exact this.1
 have hh:qV x.1 0≠48:=by
  have h1:=qZH (s:=digits) (by rw[hr];simp[hne])
  rw[hr]at h1
  obtain⟨c,d,hx⟩:∃ c d,x.1=c::d:=by
   cases hx:x.1 with
   | nil=>exact(hne hx).elim
   | cons c d=>exact⟨c,d,rfl⟩
  rw[hx]at h1 ⊢
  simpa[qV]using h1
 rw[zLK (by simp only[];omega) hall]
 simp only
 rw[if_neg (by intro e;rw[e]at hh;exact hh rfl)]
 have hlast:x.2=0\/qV x.1 (x.1.length-1)≠48:=hl.imp id fun h h2=>h ((qBZ hpos).1 h2)
 simp[hh]
 exact hlast
theorem zDD (n:Nat):(zZ n).all qO=true:=List.all_eq_true.2 fun b hb=>by rw[(List.mem_replicate.1 hb).2];rfl
theorem zKX {neg:Bool} {digits:List UInt8} {sc:Int} (hd:digits.all qO=true) (h:(uZ neg digits sc).2=0):zO (uZ neg digits sc).1=true:=by
 unfold uZ at h ⊢
 split
 ·rename_i hs;rw[if_pos hs]at h;exact qHI (by rw[List.all_append,hd,zDD];rfl) h
 rename_i hs;rw[if_neg hs]at h;exact qHI hd h
theorem zGX (s:List UInt8) (k:Nat):((s.take (k+wO s k)).drop k).all qO=true:=by
 have e:(s.take (k+wO s k)).drop k=(s.drop k).takeWhile fun b=>xV b.toNat:=by
  rw[List.drop_take,show k+wO s k-k=wO s k by omega]
  unfold wO
  have:∀ (l:List UInt8) (p:UInt8->Bool),l.take (l.takeWhile p).length=l.takeWhile p:=by
   intro l p
   induction l with
   | nil=>rfl
   | cons a l ih => rw [List.takeWhile_cons]; split
                    ·simp[ih]
                    rfl
  exact this _ _
 rw[e,List.all_eq_true]
 have:∀ (l:List UInt8) (p:UInt8->Bool) (b:UInt8),b∈l.takeWhile p->p b=true:=by
  intro l p b
  induction l with
  | nil=>intro h;simp at h
  | cons a l ih =>
   intro h
   rw[List.takeWhile_cons]at h
   split at h
   ·rename_i ha
    rcases List.mem_cons.1 h with rfl|h
    ·exact ha
    exact ih h
   simp at h
 exact fun b hb=>this _ _ b hb
theorem qTL {s:List UInt8} {neg:Bool} {digits:List UInt8} {scale:Nat} (hd:digits.all qO=true):∀ o,(qFL s neg digits scale o).2=0->zO (qFL s neg digits scale o).1=true
 | none,h=>by simp[qFL,xP]at h
 | some (k,up),h=>by
  simp only[qFL]at h ⊢
  split
  ·rename_i hk;rw[if_pos hk]at h;exact zKX hd h
  rename_i hk;rw[if_neg hk]at h;simp[xP]at h
theorem zGE {s:List UInt8} (h:(vY s).2=0):zO (vY s).1=true:=by
 unfold vY at h ⊢
 split
 ·rename_i hb;rw[if_pos hb]at h;simp[xP]at h
 rename_i hb
 rw[if_neg hb]at h
 have hd:=zGX s (a0M s)
 revert h
 generalize (s.take (a0M s+wO s (a0M s))).drop (a0M s)=d0 at *
 generalize a0M s+wO s (a0M s)=k
 intro h
 unfold qJR at h ⊢
 split
 ·rename_i hp
  rw[if_pos hp]at h
  split
  ·rename_i hz;rw[if_pos hz]at h;simp[qZA,xP]at h
  rename_i hz
  rw[if_neg hz]at h
  exact qTL (by rw[List.all_append,hd,zGX];rfl) _ h
 rename_i hp
 rw[if_neg hp]at h
 exact qTL hd _ h
theorem qYL (s:List UInt8):qAR (qCI s)=true:=by
 have hl:=qSQ s
 unfold qAR
 rw[qYQ]
 have:qAS (qCI s)=true:=by
  unfold qCI
  split
  ·assumption
  decide +kernel
 rw[this];simp;omega
theorem zDH {n:Nat} (h:n<=4096) (hv:qAS (qBE n)=true):qAR (qBE n)=true:=by
 unfold qAR;rw[qYQ,hv];simp[qBE];omega
theorem zES:∀ n,n<=9->qAS (qBE n)=true:=by decide +kernel
theorem zEH {l:List (List UInt8)} {i many:Nat} (hi:i<=l.length+many) (hm:many<=8):qAR (xT l i)=true:=by
 unfold xT
 split
 ·exact qYL _
 exact zDH (by omega) (zES _ (by omega))
theorem qDX {l:List (List UInt8)} {many:Nat} (hm:many<=8):∀ (f i:Nat) (out:List (List UInt8)),i+f=l.length+many+1->out.Nodup->(∀ s∈out,qAR s=true)->out.length<=many->(∀ t,1<=t->t+l.length<=i->qBE t∈out) ->
  (vJ l many f i out).Nodup/\(∀ s∈vJ l many f i out,qAR s=true)/\(vJ l many f i out).length=many
 | 0,i,out,hf,_,_,h3,h4=>by
  have:=zHR (out:=out) (n:=many+1) fun t h1 h2=>h4 t h1 (by omega)
  omega
 | f+1,i,out,hf,h1,h2,h3,h4=>by
  simp only[vJ]
  split
  ·rename_i hlt
   have hw:=zEH (l:=l) (i:=i) (many:=many) (by omega) hm
   have hk:∀ t,1<=t->t+l.length<=i+1->qBE t∈qMJ out (xT l i):=by
    intro t h5 h6
    by_cases h7:t+l.length<=i
    ·have:=h4 t h5 h7
     unfold qMJ;split
     ·exact this
     simp[this]
    have:qBE t=xT l i:=by simp only[xT];rw[dif_neg (by omega)];congr 1;omega
    rw[this];unfold qMJ;split
    ·assumption
    simp
   unfold qMJ at hk ⊢
   split at hk
   ·rename_i hin
    rw[if_pos hin]
    exact qDX hm f (i+1) out (by omega) h1 h2 h3 hk
   rename_i hin
   rw[if_neg hin]
   refine qDX hm f (i+1) (out++[xT l i]) (by omega) ?_ (fun s hs => ?_) (by simp;omega) hk
   ·rw[List.nodup_append]
    exact⟨h1,by simp,by intro a ha b hb;simp at hb;subst hb;rintro rfl;exact hin ha⟩
   rcases List.mem_append.1 hs with h|h
   ·exact h2 s h
   simp at h;rw[h];exact hw
  exact⟨h1,h2,by omega⟩
theorem zEI {l:List (List UInt8)} {many:Nat} (hm:many<=8):qNG (qFP l many)=true/\(qFP l many).length=many:=by
 obtain⟨h1,h2,h3⟩:=qDX (l:=l) hm (l.length+many+1) 0 [] (by omega) List.nodup_nil (by simp) (by simp) (by intro t h1 h2;omega)
 exact⟨by unfold qNG;simp only[Bool.and_eq_true,List.all_eq_true,decide_eq_true_eq];exact⟨h2,h1⟩,h3⟩
theorem zOC (s:List UInt8):zO (qCE s)=true:=by
 unfold qCE
 split
 ·rename_i h;exact zGE h
 decide +kernel
theorem qKB (alone:List Val) (x:Item):(zG alone x).length<=8:=by
 have:=qJZ x.many
 unfold zG zBE;split
 ·simp;omega
 simp
theorem qXA {alone:List Val} {x:Item} {k:Val} (h:k∈zG alone x):k∈alone:=by
 unfold zG at h;split at h
 ·exact List.mem_of_mem_drop h
 cases h
theorem zLA {alone:List Val} (x:Item) (ha:∀ v∈alone,zX v=true):zX (wQ alone x)=true:=by
 have hk:=qJZ x.kind
 have hn:=zEI (l:=x.keys) (qKB alone x)
 have hl:=qKB alone x
 have hkid:¬ (wY x.kind=5\/wY x.kind=6)->zG alone x=[]:=fun h=>by unfold zG;rw[if_neg h]
 have hmem:=fun k (hk:k∈zG alone x)=>ha k (qXA hk)
 unfold wQ
 generalize zG alone x=kids at *
 refine zEL ?_ ?_ ?_ ?_ ?_ ?_ ?_ ?_ ?_ ?_ <;> simp only[Val.kind_mk,Val.num_mk,Val.text_mk,Val.keys_mk,Val.kids_mk,Val.code_mk]
 ·omega
 ·by_cases h:wY x.kind=7
  ·simp[h]
  simp[h];omega
 ·intro h;rw[if_pos (by omega)];exact zOC _
 ·intro h;rw[if_neg (by omega)]
 ·intro h;rw[if_pos (by omega)];exact qYL _
 ·intro h;rw[if_neg (by omega)]
 ·intro h;rw[if_pos (by omega)];exact⟨hn.2,hn.1⟩
 ·intro h;rw[if_neg (by omega)]
 ·by_cases h:wY x.kind=5\/wY x.kind=6
  ·right;omega
  left;exact hkid h
 exact hmem
theorem qVE (l:List Item):zX (uS l)=true:=by
 have key:∀ (l:List Item) (alone:List Val),(∀ v∈alone,zX v=true)->∀ v∈l.foldl qCZ alone,zX v=true:=by
  intro l
  induction l with
  | nil=>exact fun alone h=>h
  | cons x l ih =>
   intro alone h
   refine ih _ fun v hv => ?_
   unfold qCZ at hv
   rcases List.mem_append.1 hv with hv|hv
   ·unfold zU at hv;split at hv
    ·exact h v (List.mem_of_mem_take hv)
    exact h v hv
   simp at hv;rw[hv];exact zLA x h
 unfold uS
 rw[List.getLastD_eq_getLast?]
 cases hx:(qIY l).getLast? with
 | none=>decide +kernel
 | some v=>exact key _ [] (by simp) v (List.mem_of_getLast? hx)
theorem zT (code m:Int):AFn Tryz.prog G 34 [.agg [.int .u64 m],.int .i64 code] ((qQ code m).enc):=by
 refine AFn.introU tok Tryz.func34 (by kernel_rfl) rfl rfl ?_
 simp only[Tryz.f34,qG,List.map_cons,List.map_nil]
 have hf:=zMU (G:=G) code m
 simp only[Val.enc_def]at hf
 refine rgn [] [[],[1,2,4]] ?_
 iterate 2 refine op3 ?_
 refine qA (rgn [.nilp,(qQ code m).enc] [[],[],[],[4,8],[4]] ?_)
 iterate 5 refine oq1 tok hf ?_
 exact qA (AW.ret qI)
theorem zAP (m:Int):AFn Tryz.prog G 129 [.agg [.int .u64 m]] ((qWO m).enc):=by
 refine AFn.introU tok Tryz.func129 (by kernel_rfl) rfl rfl ?_
 simp only[Tryz.f129,qG,List.map_cons,List.map_nil]
 have e:qWO m = .mk 1 m dc0 [] [] [] 0:=rfl
 rw[e]
 refine rgn [] [[],[1,2]] ?_
 iterate 2 refine op3 ?_
 refine qA (rgn [] [[],[],[],[2]] ?_)
 iterate 4 refine op3 ?_
 refine qA ?_
 exact AW.ret (qI (k:=by simp[dc0]))
theorem qAM (x:Bool) (m:Int):AFn Tryz.prog G 35 [.agg [.int .u64 m],.bool x] ((yT x m).enc):=by
 refine AFn.introU tok Tryz.func35 (by kernel_rfl) rfl rfl ?_
 simp only[Tryz.f35,qG,List.map_cons,List.map_nil]
 have e:yT x m = .mk (if x=true then 3 else 2) m dc0 [] [] [] 0:=rfl
 rw[e]
 refine rgn [] [[],[1,2,4]] ?_
 iterate 2 refine op3 ?_
 refine qA (AW.seq (rgn [] [[2,4,5]] ?_))
 refine op3 ?_
 refine qA (cnd ?_ ?_)
 ·intro h5
  try simp at h5
  rw[if_pos h5]
  refine rgn [] [[],[],[],[4]] ?_
  iterate 4 refine op3 ?_
  refine qA ?_
  exact AW.ret (qI (k:=by simp[dc0]))
 intro h5
 try simp at h5
 rw[if_neg (by rw[h5];simp)]
 refine AW.skip (rgn [] [[],[],[],[4]] ?_)
 iterate 4 refine op3 ?_
 refine qA ?_
 exact AW.ret (qI (k:=by simp[dc0]))
theorem qCT (s:List UInt8) (m:Int):AFn Tryz.prog G 36 [.agg [.int .u64 m],.str s] ((wW s m).enc):=by
 refine AFn.introU tok Tryz.func36 (by kernel_rfl) rfl rfl ?_
 simp only[Tryz.f36,qG,List.map_cons,List.map_nil]
 have hf:=zT (G:=G) 3 m
 have e:wW s m=if 4096<s.length then qQ 3 m else .mk 5 m dc0 s [] [] 0:=rfl
 rw[e]
 simp only[Val.enc_def]at hf
 refine rgn [] [[],[1,2,4]] ?_
 iterate 2 refine op3 ?_
 refine qA (AW.seq (rgn [] [[],[],[1,2,4,7]] ?_))
 iterate 3 refine op3 ?_
 refine qA (cnd ?_ ?_)
 ·intro h7
  try simp at h7
  rw[if_pos (by omega)]
  refine rgn [.nilp,(qQ 3 m).enc] [[],[],[4]] ?_
  iterate 3 refine oq1 tok hf ?_
  exact qA (AW.ret qI)
 intro h7
 try simp at h7
 rw[if_neg (by omega)]
 refine AW.skip (rgn [] [[],[],[],[4,13],[4]] ?_)
 iterate 5 refine op3 ?_
 refine qA ?_
 exact AW.ret (qI (k:=by simp[dc0]))
theorem vT (r:Dc × Int) (m:Int):AFn Tryz.prog G 41 [.agg [.int .u64 m],r.1.enc,.int .i64 r.2] ((vH r m).enc):=by
 refine AFn.introU tok Tryz.func41 (by kernel_rfl) rfl rfl ?_
 simp only[Tryz.f41,qG,List.map_cons,List.map_nil]
 have hf:=zT (G:=G) r.2 m
 have e:vH r m=if r.2=0 then .mk 4 m r.1 [] [] [] 0 else qQ r.2 m:=rfl
 rw[e]
 simp only[Val.enc_def]at hf
 refine rgn [] [[],[],[2,3,4,6]] ?_
 iterate 3 refine op3 ?_
 refine qA (AW.seq (rgn [] [[],[2,3,4,6,8]] ?_))
 iterate 2 refine op3 ?_
 refine qA (cnd ?_ ?_)
 ·intro h8
  try simp at h8
  rw[if_neg (by simpa using h8)]
  refine rgn [.nilp,(qQ r.2 m).enc] [[],[],[6,11],[6]] ?_
  iterate 4 refine oq1 tok hf ?_
  exact qA (AW.ret qI)
 intro h8
 try simp at h8
 rw[if_pos (by simpa using h8)]
 refine AW.skip (rgn [] [[],[],[],[6,15],[6]] ?_)
 iterate 5 refine op3 ?_
 refine qA ?_
 exact AW.ret (qI (k:=by simp[dc0]))
theorem qCU (l:List Val) (m:Int) (hl:∀ v∈l,Few v) (hn:l.length<=1000000):AFn Tryz.prog G 40 [.agg [.int .u64 m],.sl 9 (l.map Val.enc)] ((yE l m).enc):=by
 refine AFn.introU tok Tryz.func40 (by kernel_rfl) rfl rfl ?_
 simp only[Tryz.f40,qG,List.map_cons,List.map_nil]
 have hf:=zT (G:=G) 3 m
 have hc:=qVB (G:=G) (.mk 6 m dc0 [] [] l 0) (.mk (by simp) (by simpa using hn) (by simpa using hl))
 have e:yE l m=if 200<l.length then qQ 3 m else .mk 6 m dc0 [] [] l 0:=rfl
 rw[e]
 simp only[Val.enc_def]at hf hc
 refine rgn [] [[],[1,2,4]] ?_
 iterate 2 refine op3 ?_
 refine qA (AW.seq (rgn [] [[],[],[1,2,4,7]] ?_))
 iterate 3 refine op3 ?_
 refine qA (cnd ?_ ?_)
 ·intro h7
  try simp at h7
  rw[if_pos (by omega)]
  refine rgn [.nilp,(qQ 3 m).enc] [[],[],[4]] ?_
  iterate 3 refine oq1 tok hf ?_
  exact qA (AW.ret qI)
 intro h7
 try simp at h7
 rw[if_neg (by omega)]
 refine AW.skip (rgn [.nilp,(Val.mk 6 m dc0 [] [] l 0).enc] [[],[],[],[4,13],[],[4]] ?_)
 iterate 6 refine op3 ?_ (hv:=by first|exact True.intro|((simp[dc0]at hc ⊢; exact hc);done)|omega|simp)
 exact qA (AW.ret qI)
theorem zBP (s:List UInt8) (m:Int):Few (wW s m):=by
 unfold wW qQ
 split <;> exact .mk (by simp) (by simp) (by simp)
theorem zSD (s:List UInt8):AX Tryz.prog G 36 [.agg [.p (.int .u64 0)],.p (.str s)] [] (.p (wW s 0).enc) [] [] :=
 AX.ofFn (qCT s 0) (by simp[V.fitsL,V.fits])
theorem zIA (ws:List (List UInt8)) (m:Int) (hn:ws.length<=1000000):AX Tryz.prog G 66 [.p (.agg [.int .u64 m]),.p (.sl 1 (ws.map PD.str)),.func (.func 36) [.agg [.p (.int .u64 0)]] []] [] (.agg (yE (ws.map fun s=>wW s 0) m).cells) [] []:=by
 refine AX.introU tok 900 Tryz.func66 (by kernel_rfl) rfl rfl ?_
 simp only[Tryz.f66,qG,List.map_cons,List.map_nil]
 have hl:=qCU (G:=G) (ws.map fun s=>wW s 0) m (by simp[zBP]) (by simpa using hn)
 generalize hws:(ws.map fun s=>wW s 0)=vs at *
 have hvl:vs.length=ws.length:=by rw[<-hws];simp
 have hvg:∀ (k:Nat) s,ws[k]?=some s->vs[k]?=some (wW s 0):=fun k s h=>by rw[<-hws,List.getElem?_map,h];rfl
 simp only[Val.enc_def]at hl
 refine rgn [] [[],[1,2,3,6]] ?_
 iterate 2 refine op3 ?_
 refine qA (rgn [] [[]] ?_)
 refine op3 ?_
 refine qA (AW.seq (rgn [] [[],[],[2,3,6,7,10,11,12]] ?_))
 iterate 3 refine op3 ?_
 refine qA (AW.block ?_)
 refine AW.beginE 7 50 31 9 (by simp) (by simp) (by conv=>lhs;simp) ?_
 refine AW.loop (α:=Nat) (fun k=>k<=ws.length) (fun k=>⟨zA 26 [(2,.func (.func 36) [.agg [.p (.int .u64 0)]] []),(3,.ptr 903 0),(6,.ptr 906 0),(7,.ms 50),(10,.p (.sl 1 (ws.map PD.str))),(11,.p (.int .i64 ws.length)),(12,.p (.int .i64 k))],[],[(903,.vars 61 [.p (.int .u64 m)]),(906,.vars 31 [.p (.int .i64 0),.p (.int .u64 0),.p (.bool false),.p (.str []),.p (.int .i64 0),.p (.str []),.nilsl,.nilsl,.p (.int .i64 0)]),(50,.row 31 9 ((vs.map Val.enc).take k))],900⟩) (fun k=>ws.length-k) (0) (by omega) ⟨qE (by simp),rfl,by simp,by simp⟩ ?_
 rintro k hk
 refine rgn [] [[]] ?_
 refine op3 ?_
 refine qA (AW.seq (cnd ?_ ?_))
 ·intro h13
  try simp at h13
  obtain⟨s,hs⟩:∃ s,ws[k]?=some s:=⟨ws[k]'(by omega),by simp[show k<ws.length by omega]⟩
  have hv:=hvg k s hs
  have hgp:(vs.map Val.enc)[k]?=some (wW s 0).enc:=by rw[List.getElem?_map,hv];rfl
  have htk:(vs.map Val.enc).take k++[(wW s 0).enc]=(vs.map Val.enc).take (k+1):=by rw[List.take_add_one,hgp];rfl
  have hw:=zSD (G:=G) s
  simp only[Val.enc_def]at htk hw
  refine AW.skip (AW.seq (AW.block (rgn [.str s] [[],[],[2,3,6,7,9,10,11,12]] ?_)))
  iterate 3 refine op3 ?_ (hv:=by first|exact True.intro|((simp[hs]);done)|omega|simp)
  refine qA (rgz [(wW s 0).enc] [[],[],[]] ?_)
  iterate 3 refine op3 ?_
  refine qJ ?_
  refine qB.stepK [2,3,6,10,11,12,16,19] (zF rfl hw (by simp)) (by conv=>lhs;simp) rfl ?_
  refine qB.run [[],[],[2,3,6,7,10,11,12]] ?_
  iterate 3 refine op3 ?_
  refine qA (rgz [] [[],[2,3,6,7,10,11,12]] ?_)
  iterate 2 refine op3 ?_
  refine qA ?_
  exact⟨k+1,by omega,by omega,qE (by simp[htk]),rfl,by simp[htk],by simp[htk]⟩
 intro h13
 try simp at h13
 obtain rfl:k=ws.length:=by omega
 have hall:(vs.map Val.enc).take ws.length=vs.map Val.enc:=List.take_of_length_le (by simp[hvl])
 simp only[hall]
 refine AW.exit ?_
 simp
 refine rgn [.nilp,(yE vs m).enc] [[]] ?_
 refine op3 ?_ (hv:=by first|exact True.intro|exact hl|(simp at hl ⊢; exact hl);done|omega|simp)
 refine qJ ?_
 refine qB.freeze 50 (by conv=>lhs;simp) ?_
 refine qB.run [[],[6,25],[6]] ?_
 iterate 3 refine op3 ?_ (hv:=by first|exact True.intro|exact hl|(simp at hl ⊢; exact hl);done|omega|simp)
 refine qA ?_
 exact AW.ret qZ
theorem zBL {s:List UInt8} {k:Nat} (h:k<s.length):s[k]?=some (s.getD k 0):=by simp[List.getD_eq_getElem?_getD,h]
theorem qNT (s:List UInt8) (c:UInt8):AFn Tryz.prog G 173 [.str s,.int .u8 c.toNat] (.str (s.dropWhile (fun b=>b == c))):=by
 refine AFn.introU tok Tryz.func173 (by kernel_rfl) rfl rfl ?_
 simp only[Tryz.f173,qG,List.map_cons,List.map_nil]
 refine rgn [] [[0,1]] ?_
 refine op3 ?_
 refine qA (AW.seq (AW.block ?_))
 refine AW.loop (α:=List UInt8) (fun r=>r.dropWhile (fun b=>b == c)=s.dropWhile (fun b=>b == c)) (fun r=>⟨zA 17 [(0,.p (.str r)),(1,.p (.int .u8 c.toNat))],[],[],0⟩) (fun r=>r.length) (s) rfl ⟨qE (by simp),rfl,by simp,by simp⟩ ?_
 rintro r hr
 have hix:0<r.length->r[0]?=some (r.getD 0 0):=fun h=>zBL h
 refine AW.seq (rgn [.int .u8 (r.getD 0 0).toNat] [[],[],[],[],[],[0,1,8,10],[],[],[0,1,13]] ?_)
 iterate 4 refine op3 ?_ (hv:=by first|exact True.intro|exact fun h=>⟨h,_,hix (by omega),rfl⟩|simp;done|omega|simp)
 iterate 4 refine op4 ?_ (hv:=by first|exact True.intro|exact fun h=>⟨h,_,hix (by omega),rfl⟩|simp;done|omega|simp)
 refine op3 ?_ (hv:=by first|exact True.intro|exact fun h=>⟨h,_,hix (by omega),rfl⟩|simp;done|omega|simp)
 refine qA (cnd ?_ ?_)
 ·intro h13
  try simp at h13
  obtain⟨b,r,rfl⟩:∃ b r',r=b::r':=by
   cases r with
   | nil=>simp at h13
   | cons b r=>exact⟨b,r,rfl⟩
  have hb:b=c:=UInt8.toNat_inj.1 (by have:=h13.2;simp at this;omega)
  subst hb
  have hr2:List.dropWhile (fun b'=>b' == b) r=List.dropWhile (fun b'=>b' == b) s:=by rw[<-hr];simp
  refine AW.skip (AW.block (rgz [] [[],[],[0,1]] ?_))
  iterate 3 refine op3 ?_
  refine qA ?_
  exact⟨r,hr2,by simp,qE (by simp),rfl,by simp,by simp⟩
 intro h13
 try simp at h13
 have hr3:s.dropWhile (fun b=>b == c)=r:=by
  rw[<-hr]
  cases r with
  | nil=>rfl
  | cons b r =>
   have hb:b≠c:=by rintro rfl;simp at h13
   simp[hb]
 rw[hr3]
 refine AW.exit ?_
 simp
 refine rgn [] [[],[4]] ?_
 iterate 2 refine op3 ?_
 exact qA (AW.ret qI)
theorem qZD (s:List UInt8) (c:UInt8):(decide (1<=(s.length:Int)) && decide (List.drop (s.length-1) s=[c]))=decide (s.getLast?=some c):=by
 by_cases h:s=[]
 ·subst h;simp
 obtain⟨a,b,rfl⟩:∃ a b,s=a++[b]:=⟨s.dropLast,s.getLast h,(List.dropLast_concat_getLast h).symm⟩
 rw[Bool.eq_iff_iff]
 simp
 intro _;omega
theorem qRY (s:List UInt8) (c:UInt8):AFn Tryz.prog G 104 [.str s,.str [c]] (.bool (decide (s.getLast?=some c))):=by
 refine AFn.introU tok Tryz.func104 (by kernel_rfl) rfl rfl ?_
 simp only[Tryz.f104,qG,List.map_cons,List.map_nil]
 refine AW.strFactU (i:=0) rfl (by decide) ?_
 intro hlen
 have hsuf:(decide (1<=(s.length:Int)) && decide (List.drop (s.length-1) s=[c]))=decide (s.getLast?=some c):=qZD s c
 refine rgn [] [[0,1]] ?_
 refine op3 ?_
 refine qA (rgn [] [[],[],[],[],[0,1,9],[],[],[],[],[],[1,10,11,13,15],[],[1,10,17],[],[],[20],[4]] ?_)
 iterate 6 refine op3 ?_
 iterate 9 refine op4 ?_
 iterate 2 refine op3 ?_
 refine qA ?_
 exact AW.ret (qI (k:=by simp[hsuf]))
theorem qYD (s:List UInt8) (c:UInt8):AFn Tryz.prog G 73 [.str s,.str [c]] (.bool (decide (s.getLast?=some c))):=by
 refine AFn.introU tok Tryz.func73 (by kernel_rfl) rfl rfl ?_
 simp only[Tryz.f73,qG,List.map_cons,List.map_nil]
 refine rgn [] [[0,1]] ?_
 refine op3 ?_
 refine qA (rgn [.nilp,.bool (decide (s.getLast?=some c))] [[],[],[7],[4]] ?_)
 iterate 4 refine op3 ?_ (hv:=by first|exact True.intro|(exact qRY s c;done)|omega|simp)
 exact qA (AW.ret qI)
theorem qYA (s:List UInt8) (c:UInt8) (hc:c.toNat<128):AFn Tryz.prog G 136 [.str s,.str [c]] (.str (s.dropWhile (fun b=>b == c))):=by
 refine AFn.introU tok Tryz.func136 (by kernel_rfl) rfl rfl ?_
 simp only[Tryz.f136,qG,List.map_cons,List.map_nil]
 refine rgn [] [[0,1]] ?_
 refine op3 ?_
 refine qA (AW.seq (rgn [] [[],[],[],[],[],[0,1,12]] ?_))
 iterate 3 refine op3 ?_
 iterate 2 refine op4 ?_
 refine op3 ?_
 refine qA (cnd ?_ ?_)
 ·intro h12
  try simp at h12
  subst h12
  refine rgn [] [[],[4]] ?_
  iterate 2 refine op3 ?_
  exact qA (AW.ret qI)
 intro h12
 try simp at h12
 refine AW.skip (AW.seq (rgn [.int .u8 c.toNat] [[],[],[],[],[],[0,1,17,19],[],[0,1,21]] ?_))
 iterate 4 refine op3 ?_ (hv:=by first|exact True.intro|(simp;done)|omega|simp)
 iterate 3 refine op4 ?_ (hv:=by first|exact True.intro|(simp;done)|omega|simp)
 refine op3 ?_ (hv:=by first|exact True.intro|(simp;done)|omega|simp)
 refine qA (cnd ?_ ?_)
 ·intro h21
  try simp at h21
  refine rgn [.int .u8 c.toNat,.nilp,.str (s.dropWhile (fun b=>b == c))] [[],[],[],[25],[4]] ?_
  iterate 5 refine op3 ?_ (hv:=by first|exact True.intro|exact qNT s c|simp;done|omega|simp)
  exact qA (AW.ret qI)
 intro h21
 try simp at h21
 omega
theorem qYZ (s:List UInt8):(if s.all (fun b => !qCD b.toNat) then(-1:Int) else(((s.takeWhile fun b => !qCD b.toNat).length:Nat):Int))=if s.all qO then -1 else((s.takeWhile qO).length:Int):=by
 have e:(fun b:UInt8 => !qCD b.toNat)=qO:=by funext b;rw[zKG];simp
 rw[e]
theorem zBI (s:List UInt8):qCF qCD s=if s.all qO then -1 else((s.takeWhile qO).length:Int):=by
 rw[qXD (fun n h=>by simp[qCD] <;> omega),qYZ]
theorem zQX {s:List UInt8} (h:s.all qO=true):s.takeWhile qO=s/\s.dropWhile qO=[]:=by
 have:=qYW (W:=s) (F:=[]) h (by simp)
 simpa using this
theorem zSP (s:List UInt8):s.take (s.takeWhile qO).length=s.takeWhile qO/\s.drop (s.takeWhile qO).length=s.dropWhile qO:=by
 have h:=List.takeWhile_append_dropWhile (p:=qO) (l:=s)
 generalize s.takeWhile qO=A at *
 generalize s.dropWhile qO=B at *
 subst h
 simp
theorem zMV (s:List UInt8):(s.takeWhile qO).length<=s.length:=(List.takeWhile_sublist _).length_le
theorem zVT (s:List UInt8):(s.dropWhile qO).length<=s.length:=(List.dropWhile_sublist _).length_le
theorem qXX {s:List UInt8} {n:Int} (hc:(if s.all qO=true then(-1:Int) else((s.takeWhile qO).length:Int))=n) (h:n<0):(s.takeWhile qO).length=s.length:=by
 split at hc
 ·rename_i ha;rw[(zQX ha).1]
 omega
theorem qPK {s:List UInt8} {n:Int} (hc:(if s.all qO=true then(-1:Int) else((s.takeWhile qO).length:Int))=n) (h:0<=n):n=((s.takeWhile qO).length:Int):=by
 split at hc
 ·omega
 omega
theorem qIR (s:List UInt8):AFn Tryz.prog G 106 [.str s] (.tup [.str (s.takeWhile qO),.str (s.dropWhile qO)]):=by
 refine AFn.introU tok Tryz.func106 (by kernel_rfl) rfl rfl ?_
 simp only[Tryz.f106,qG,List.map_cons,List.map_nil]
 have hI:=qYC (G:=G) s 146 qCD zNU
 rw[zBI]at hI
 have htw:=zSP s
 have hle:=zMV s
 generalize hc:(if s.all qO=true then(-1:Int) else((s.takeWhile qO).length:Int))=n at hI
 refine rgn [] [[],[0]] ?_
 iterate 2 refine op3 ?_
 refine qA (rgn [.nilp,.int .i64 n] [[],[],[0,4]] ?_)
 iterate 3 refine oq1 tok hI ?_
 refine qA ?_
 refine AW.join (α:=Unit) (fun _=>True) (fun a=>⟨zA 17 [(0,.p (.str s)),(4,.p (.int .i64 (s.takeWhile qO).length))],[],[],0⟩) ?_ ?_
 ·
  refine rgn [] [[],[0,4,8]] ?_
  iterate 2 refine op3 ?_
  refine qA (cnd ?_ ?_)
  ·intro h8
   try simp at h8
   refine rgz [] [[],[],[0,4]] ?_
   iterate 3 refine op3 ?_
   refine qA ?_
   exact⟨(),trivial,qE (by simp[qXX hc h8]),rfl,by simp[qXX hc h8],by simp[qXX hc h8]⟩
  intro h8
  try simp at h8
  refine AW.skip ?_
  exact⟨(),trivial,qE (by simp[qPK hc h8]),rfl,by simp[qPK hc h8],by simp[qPK hc h8]⟩
 ·
  rintro a hI
  refine AW.seqRunDrawK tok mixed [2,3] 7 [[0],[4],[11,12],[0],[4],[14,15],[13]] [] [] (by kernel_rfl) (by intro C;conv=>lhs;simp) (by omega) (by simp[Sm.sum,Sm.foot,Sm.tch,Sm.refs];kernel_rfl) (by intro C;conv=>lhs;simp) (by first|exact True.intro|omega|simp) ?_
  exact AW.ret (qI (k:=by simp[htw.1,htw.2]))
theorem zUB (s:List UInt8):(qX s).length<=s.length:=(List.dropWhile_sublist _).length_le
theorem qAQ {d:Dc} (h:zO d=true):1<=d.digits.length/\d.digits.length<=60/\0<=d.scale/\d.scale<=60:=by
 unfold zO at h;simp only[Bool.and_eq_true,decide_eq_true_eq]at h;omega
theorem qOH (t:List UInt8) (c:UInt8):yP t [c]=decide (t.head?=some c):=by cases t <;> simp[yP]
theorem qSS (D:List UInt8) (c:UInt8):qHJ (D++[c])=qHJ D * 10+(c.toNat-48):=by simp[qHJ]
theorem zGN {D:List UInt8} (h:D.all qO=true):qHJ D<10 ^ D.length:=by
 have key:∀ (r:List UInt8),r.all qO=true->qHJ r.reverse<10 ^ r.length:=by
  intro r
  induction r with
  | nil=>intro _;decide
  | cons b r ih =>
   intro h
   simp only[List.all_cons,Bool.and_eq_true,qO,xV,decide_eq_true_eq]at h
   have:=ih h.2
   rw[List.reverse_cons,qSS,List.length_cons,Nat.pow_succ];omega
 have:=key D.reverse (by simpa using h)
 simpa using this
theorem zMW (s:List UInt8):(s.takeWhile qO).all qO=true:=List.all_takeWhile
theorem zSY (t:List UInt8):(jX t).length<=t.length:=by unfold jX;split <;> simp
theorem wBK {t:List UInt8} {a b:Bool} (h1:a=decide (t.head?=some 45)) (h2:b=decide (t.head?=some 43)) (h:a=true\/b=true):t.tail=jX t/\1<=t.length:=by
 subst h1;subst h2
 simp only[decide_eq_true_eq]at h
 unfold jX;rw[if_pos h]
 refine⟨by simp, ?_⟩
 cases t with
 | nil=>simp at h
 | cons a t=>simp
theorem zNG {t:List UInt8} {a b:Bool} (h1:a=decide (t.head?=some 45)) (h2:b=decide (t.head?=some 43)) (h:a=false/\b=false):t=jX t:=by
 subst h1;subst h2
 simp only[decide_eq_false_iff_not]at h
 unfold jX;rw[if_neg (fun h'=>h'.elim h.1 h.2)]
theorem zBQ (s:List UInt8) (hs:s.length<=1000000000000):AFn Tryz.prog G 107 [.str s] (.tup [.int .i64 ((qKF s).getD 0),.bool (qKF s).isSome]):=by
 refine AFn.introU tok Tryz.func107 (by kernel_rfl) rfl rfl ?_
 simp only[Tryz.f107,qG,List.map_cons,List.map_nil]
 refine rgn [] [[],[0]] ?_
 iterate 2 refine op3 ?_
 refine qA (AW.seq (rgn [] [[],[0,11]] ?_))
 iterate 2 refine op3 ?_
 refine qA (cnd ?_ ?_)
 ·intro h11
  try simp at h11
  subst h11
  refine rgn [] [[],[]] ?_
  iterate 2 refine op3 ?_
  refine qA ?_
  exact AW.ret (qI (k:=by simp[qKF]))
 intro h11
 try simp at h11
 obtain⟨b,t,rfl⟩:∃ b t,s=b::t:=by
  cases s with
  | nil=>exact absurd rfl h11
  | cons b t=>exact⟨b,t,rfl⟩
 have hp1:=qOH t 45
 have hp2:=qOH t 43
 have hlt:=zSY t
 simp only[List.length_cons]at hs
 refine AW.skip (AW.seq (rgn [.int .u8 b.toNat,.int .u8 b.toNat] [[],[],[],[],[],[0,15,17],[],[0,19]] ?_))
 iterate 4 refine op3 ?_ (hv:=by first|exact True.intro|(simp;done)|omega|simp)
 iterate 3 refine op4 ?_ (hv:=by first|exact True.intro|(simp;done)|omega|simp)
 refine op3 ?_ (hv:=by first|exact True.intro|(simp;done)|omega|simp)
 refine qA (cnd ?_ ?_)
 ·intro h19
  try simp at h19
  have he:qKF (b::t)=none:=by
   unfold qKF;simp only;rw[if_pos ⟨by rintro rfl;exact h19.1 rfl,by rintro rfl;exact h19.2 rfl⟩]
  refine rgn [] [[],[]] ?_
  iterate 2 refine op3 ?_
  refine qA ?_
  exact AW.ret (qI (k:=by simp[he]))
 intro h19
 try simp at h19
 have hb:¬ (b≠101/\b≠69):=by
  rintro⟨h1,h2⟩
  have h1':b.toNat≠101:=fun e=>h1 (UInt8.toNat_inj.1 e)
  have h2':b.toNat≠69:=fun e=>h2 (UInt8.toNat_inj.1 e)
  have:=h19 (by omega)
  omega
 have he:qKF (b::t)=if(jX t).dropWhile qO≠[]\/((jX t).takeWhile qO).length<1\/2<((jX t).takeWhile qO).length then none
   else some (if t.head?=some 45 then-(qHJ ((jX t).takeWhile qO):Int) else qHJ ((jX t).takeWhile qO)):=by
  unfold qKF;simp only;rw[if_neg hb]
 rw[he]
 clear he
 have hlead:=qIR (G:=G) (jX t)
 have hall:=zMW (jX t)
 refine AW.skip (rgn [] [[],[],[0]] ?_)
 iterate 3 refine op3 ?_
 refine qA (rgn [.nilp,.bool (yP t [45])] [[],[],[0,4]] ?_)
 iterate 3 refine op3 ?_
 refine qA ?_
 refine AW.join (α:=Unit) (fun _=>True) (fun a=>⟨zA 63 [(0,.p (.str (jX t))),(4,.p (.bool (yP t [45])))],[],[],0⟩) ?_ ?_
 ·
  refine rgn [.nilp,.bool (yP t [43])] [[],[],[],[],[0,4,28]] ?_
  iterate 2 refine op3 ?_
  iterate 2 refine op4 ?_
  refine op3 ?_
  refine qA (cnd ?_ ?_)
  ·intro h28
   try simp at h28
   have hsT:=wBK hp1 hp2 h28
   refine rgz [] [[],[],[0,4]] ?_
   iterate 3 refine op3 ?_
   refine qA ?_
   exact⟨(),trivial,qE (by simp[hsT.1]),rfl,by simp[hsT.1],by simp[hsT.1]⟩
  intro h28
  try simp at h28
  refine AW.skip ?_
  exact⟨(),trivial,qE (by simp[(zNG hp1 hp2 h28).symm]),rfl,by simp[(zNG hp1 hp2 h28).symm],by simp[(zNG hp1 hp2 h28).symm]⟩
 ·
  rintro a hI
  generalize jX t=u at *
  generalize u.takeWhile qO=D at *
  generalize u.dropWhile qO=E at *
  refine rgn [.nilp,.tup [.str D,.str E]] [[],[],[],[],[4,34,35],[],[4,5,6]] ?_
  iterate 7 refine oq1 tok hlead ?_
  refine qA (AW.seq (rgn [] [[],[],[],[],[4,5,38,40],[],[],[4,5,43],[],[],[],[4,5,47]] ?_))
  iterate 12 first|refine op3 ?_|refine op4 ?_
  refine qA (cnd ?_ ?_)
  ·intro h47
   try simp at h47
   rw[if_pos (h47.elim (fun h=>h.elim .inl (fun h => .inr (.inl (by omega)))) (fun h => .inr (.inr (by omega))))]
   refine rgn [] [[],[]] ?_
   iterate 2 refine op3 ?_
   exact qA (AW.ret qI)
  intro h47
  try simp at h47
  rw[if_neg (by
   rintro(h|h)
   ·exact h h47.1.1
   omega)]
  have hD2:D.length<=2:=by omega
  refine AW.skip (rgn [] [[]] ?_)
  refine op3 ?_
  refine qA (AW.seq (rgn [] [[],[4,7,49]] ?_))
  iterate 2 refine op3 ?_
  refine qA (AW.block ?_)
  refine AW.loop (α:=Nat) (fun pos=>pos<=D.length) (fun pos=>⟨zA 63 [(4,.p (.bool (yP t [45]))),(7,.p (.int .i64 (qHJ (D.take pos)))),(49,.it 49)],[],[(49,.iter D pos)],0⟩) (fun pos=>D.length-pos) (0) (by omega) ⟨qE (by simp[qHJ]),rfl,by simp,by simp⟩ ?_
  rintro pos hp
  have hvl:qHJ (D.take pos)<10 ^ (D.take pos).length:=zGN (qGP hall pos)
  have hpw:10 ^ (D.take pos).length<=10 ^ 2:=Nat.pow_le_pow_right (by omega) (by simp;omega)
  by_cases hs14:pos<D.length
  ·
   refine rgn [.bool true] [[],[]] ?_
   iterate 2 refine oq1 tok hs14 ?_
   refine qA (AW.seq (cnd ?_ ?_))
   ·intro h51
    try simp at h51
    obtain⟨c,hc⟩:∃ c,D[pos]?=some c:=⟨D[pos],by simp[hs14]⟩
    have hcd:qO c=true:=List.all_eq_true.1 hall c (List.mem_of_getElem? hc)
    have hcd2:48<=c.toNat/\c.toNat<=57:=by simp[qO,xV]at hcd;omega
    have hdl:uR D pos=(c.toNat,1):=by
     have hg:D.getD pos 0=c:=by simp[List.getD_eq_getElem?_getD,hc]
     have:=qIX (s:=D) (pos:=pos) hs14 (by rw[hg];omega)
     rw[hg]at this;exact this
    have hsn:qHJ (D.take (pos+1))=qHJ (D.take pos) * 10+(c.toNat-48):=by rw[List.take_add_one,hc];exact qSS _ _
    rw[hdl]
    refine AW.skip (AW.block (rgn [] [[],[4,7,9,49]] ?_))
    iterate 2 refine op3 ?_
    refine qA (rgz [] [[],[],[],[4,49,54,56],[],[],[4,7,49]] ?_)
    iterate 7 refine op3 ?_ (hv:=by first|exact True.intro|(omega;done)|omega|simp)
    refine qA ?_
    exact⟨pos+1,by omega,by omega,qE (by simp[hsn,(show((c.toNat-48:Nat):Int)=(c.toNat:Int)-48 by omega)]),rfl,by simp[hsn,(show((c.toNat-48:Nat):Int)=(c.toNat:Int)-48 by omega)],by simp[hsn,(show((c.toNat-48:Nat):Int)=(c.toNat:Int)-48 by omega)]⟩
   intro h51
   try simp at h51
  ·
   refine rgn [.bool false] [[],[]] ?_
   iterate 2 refine oq1 tok hs14 ?_
   refine qA (AW.seq (cnd ?_ ?_))
   ·intro h51
    try simp at h51
   intro h51
   try simp at h51
   have hpD:D.take pos=D:=List.take_of_length_le (by omega)
   rw[hpD]at hvl hpw ⊢
   refine AW.exit ?_
   simp
   refine AW.seq (rgn [] [[7,59]] ?_)
   refine op3 ?_
   refine qA (cnd ?_ ?_)
   ·intro h59
    try simp at h59
    rw[hp1]at h59
    have ht:t.head?=some 45:=by simpa using h59
    rw[if_pos ht]
    have hw:IntKind.i64.wrap (-(qHJ D:Int)) = -(qHJ D:Int):=by simp[IntKind.wrap,IntKind.bits,IntKind.signed];omega
    refine rgz [] [[],[],[7]] ?_
    iterate 3 refine op3 ?_ (hv:=by first|exact True.intro|(omega;done)|omega|simp)
    refine qA (rgn [] [[],[],[2,3]] ?_)
    iterate 3 refine op3 ?_
    refine qA ?_
    exact AW.ret (qI (k:=by simp[hw]))
   intro h59
   try simp at h59
   rw[hp1]at h59
   have ht:¬ t.head?=some 45:=by simpa using h59
   rw[if_neg ht]
   refine AW.skip (rgn [] [[],[],[2,3]] ?_)
   iterate 3 refine op3 ?_
   exact qA (AW.ret qI)
theorem qOG (neg:Bool) (digits:List UInt8) (scale:Nat) (hd:digits.length<=10000000000) (hs:scale<=10000000000):AFn Tryz.prog G 95 [.bool neg,.str digits,.int .i64 scale] (.tup [(wU neg digits scale).1.enc,.int .i64 (wU neg digits scale).2]):=by
 refine AFn.introU tok Tryz.func95 (by kernel_rfl) rfl rfl ?_
 simp only[Tryz.f95,qG,List.map_cons,List.map_nil]
 have hstr:(qX digits).length<=digits.length:=zUB digits
 refine rgn [] [[],[0,1,2,6]] ?_
 iterate 2 refine op3 ?_
 refine qA (rgn [.nilp,.str (qX digits)] [[],[],[0,1,2,6]] ?_)
 iterate 3 refine op3 ?_ (hv:=by first|exact True.intro|(exact qYA digits 48 (by decide);done)|omega|simp)
 refine qA (AW.seq (AW.block ?_))
 refine AW.loop (α:=List UInt8 × Nat) (fun a=>wH (qX digits) scale=wH a.1 a.2/\a.2<=scale/\a.1.length<=digits.length) (fun a=>⟨zA 40 [(0,.p (.bool neg)),(1,.p (.str a.1)),(2,.p (.int .i64 a.2)),(6,.ptr 6 0)],[],[(6,.vars 26 [.p (.bool false),.p (.str []),.p (.int .i64 0)])],0⟩) (fun a=>a.2) ((qX digits,scale)) ⟨rfl,Nat.le_refl _,hstr⟩ ⟨qE (by simp),rfl,by simp,by simp⟩ ?_
 rintro⟨d,k⟩ ⟨ht,hk,hdl⟩
 simp only at ht hk hdl
 have hsf:=qYD (G:=G) d 48
 refine AW.seq (rgn [.nilp,.bool (decide (d.getLast?=some 48))] [[],[],[],[],[],[0,1,2,6,15]] ?_)
 iterate 3 refine op3 ?_ (hv:=by first|exact True.intro|exact fun h=>⟨h,hsf⟩|simp;done|omega|simp)
 iterate 2 refine op4 ?_ (hv:=by first|exact True.intro|exact fun h=>⟨h,hsf⟩|simp;done|omega|simp)
 refine op3 ?_ (hv:=by first|exact True.intro|exact fun h=>⟨h,hsf⟩|simp;done|omega|simp)
 refine qA (cnd ?_ ?_)
 ·intro h15
  try simp at h15
  obtain⟨k,rfl⟩:∃ k',k=k'+1:=⟨k-1,by omega⟩
  have hl:d.getLast?=some 48:=by simpa using h15.2
  have hpos:0<d.length:=by cases d with
   | nil=>simp at hl
   | cons=>simp
  have ht':wH (qX digits) scale=wH d.dropLast k:=by rw[ht];simp only[wH];rw[if_pos hl]
  refine AW.skip (AW.block (rgz [] [[],[],[],[],[0,2,6,20],[],[],[],[0,1,2,6]] ?_))
  iterate 9 refine op3 ?_ (hv:=by first|exact True.intro|(omega;done)|omega|simp)
  refine qA ?_
  exact⟨(d.dropLast,k),⟨ht',by simp only[];omega,by simp;omega⟩,by simp,qE (by simp[qAJ]),rfl,by simp[qAJ],by simp[qAJ]⟩
 intro h15
 try simp at h15
 have htl:wH (qX digits) scale=(d,k):=by
  rw[ht]
  cases k with
  | zero=>rfl
  | succ k =>
   simp only[wH]
   rw[if_neg]
   intro hl
   have:=h15 (by omega)
   simp[hl]at this
 have hN:wU neg digits scale=if d=[] then(⟨false,[48],0⟩,0) else if 60<d.length\/60<k then(⟨false,[],0⟩,3) else(⟨neg,d,k⟩,0):=by unfold wU;simp only[htl]
 rw[hN]
 refine AW.exit ?_
 simp
 refine AW.seq (AW.block (rgn [] [[],[],[0,1,2,6,23]] ?_))
 iterate 3 refine op3 ?_
 refine qA (cnd ?_ ?_)
 ·intro h23
  try simp at h23
  subst h23
  refine rgn [] [[],[],[6,7]] ?_
  iterate 3 refine op3 ?_
  exact qA (AW.ret qI)
 intro h23
 try simp at h23
 rw[if_neg h23]
 refine rgn [] [[],[],[],[],[],[0,1,2,6,31,33],[],[0,1,2,6,27]] ?_
 iterate 4 refine op3 ?_
 iterate 2 refine op4 ?_
 iterate 2 refine op3 ?_
 refine qA (cnd ?_ ?_)
 ·intro h27
  try simp at h27
  rw[if_pos (by omega)]
  refine rgn [] [[],[],[6,7]] ?_
  iterate 3 refine op3 ?_
  exact qA (AW.ret qI)
 intro h27
 try simp at h27
 rw[if_neg (by omega)]
 refine AW.skip (rgn [] [[],[],[],[6,39],[],[6,7]] ?_)
 iterate 6 refine op3 ?_
 exact qA (AW.ret qI)
theorem zQK (s:List UInt8):qCG s [45]=qBK s/\yP s [45]=zAM s:=by
 have h:=qOH s 45
 unfold qCG qBK zAM
 rw[h]
 refine⟨?_,rfl⟩
 simp
theorem zUP (s:List UInt8):(qBK s).length<=s.length:=by unfold qBK;split <;> simp
theorem zXU {W:List UInt8} (h:(((W[0]?.getD 0).toNat:Nat):Int)=48):W.head?=some 48:=by
 cases W with
 | nil=>simp at h
 | cons b W=>simp at h ⊢; exact UInt8.toNat_inj.1 (by show b.toNat=48;omega)
theorem zVN (n:Nat):Lib.repeatL [48] n=zZ n:=by
 unfold zZ
 induction n with
 | zero=>rfl
 | succ n ih=>simp only[Lib.repeatL,List.replicate_succ,ih];rfl
theorem zFF (q:List UInt8) : -99<=(qKF q).getD 0/\(qKF q).getD 0<=99:=by
 unfold qKF
 split
 ·simp
 rename_i b t
 split
 ·simp
 split
 ·simp
 rename_i h
 have h1:=zGN (zMW (jX t))
 have h2:10 ^ ((jX t).takeWhile qO).length<=10 ^ 2:=Nat.pow_le_pow_right (by omega) (by omega)
 simp only[Option.getD_some]
 split <;> omega
theorem qNR (s:List UInt8) (hs:s.length<=1000000000):AFn Tryz.prog G 74 [.str s] (.tup [(xE s).1.enc,.int .i64 (xE s).2]):=by
 refine AFn.introU tok Tryz.func74 (by kernel_rfl) rfl rfl ?_
 simp only[Tryz.f74,qG,List.map_cons,List.map_nil]
 have hbp:=zQK s
 have hbl:=zUP s
 have hP:xE s=match qKE ((qBK s).dropWhile qO)with
  | none=>xP
  | some (P,r)=>zFH (zAM s) ((qBK s).takeWhile qO) P (qKF r):=rfl
 rw[hP]
 clear hP
 have hl1:=qIR (G:=G) (qBK s)
 have hw1:=zMV (qBK s)
 have hw2:=zVT (qBK s)
 have hcp:=qKT (G:=G) s [45]
 rw[hbp.1,hbp.2]at hcp
 generalize qBK s=u at *
 generalize zAM s=ng at *
 generalize u.takeWhile qO=W at *
 generalize u.dropWhile qO=r at *
 have hcr:=qKT (G:=G) r [46]
 have hr46:=qOH r 46
 have hcut:qCG r [46]=if r.head?=some 46 then r.drop 1 else r:=by unfold qCG;rw[hr46];simp
 have hl2:=qIR (G:=G) (r.drop 1)
 have hv1:=zMV (r.drop 1)
 have hv2:=zVT (r.drop 1)
 rw[List.length_drop]at hv1 hv2
 refine rgn [] [[],[0,2]] ?_
 iterate 2 refine op3 ?_
 refine qA (rgn [.nilp,.tup [.str u,.bool ng]] [[],[],[],[],[2,17,18],[],[2,4,5]] ?_)
 iterate 7 refine oq1 tok hcp ?_
 refine qA (rgn [.nilp,.tup [.str W,.str r]] [[],[],[],[],[2,5,22,23],[],[2,4,5,6]] ?_)
 iterate 7 refine oq1 tok hl1 ?_
 refine qA (rgn [] [[]] ?_)
 refine op3 ?_
 refine qA ?_
 refine AW.join (α:=List UInt8 × List UInt8) (fun a=>qKE r=some (a.1,a.2)/\a.1.length<=s.length/\a.2.length<=s.length) (fun a=>⟨zA 80 [(2,.ptr 2 0),(4,.p (.str a.2)),(5,.p (.bool ng)),(6,.p (.str W)),(7,.p (.str a.1))],[],[(2,.vars 26 [.p (.bool false),.p (.str []),.p (.int .i64 0)])],0⟩) ?_ ?_
 ·
  refine rgn [.nilp,.tup [.str (qCG r [46]),.bool (yP r [46])]] [[],[],[],[],[],[2,4,5,6,7,8,28],[2,4,5,6,7,8,9]] ?_
  iterate 7 refine oq1 tok hcr ?_
  refine qA (rgn [] [[2,4,5,6,7,8,29]] ?_)
  refine op3 ?_
  refine qA (cnd ?_ ?_)
  ·intro h29
   try simp at h29
   have hh:r.head?=some 46:=by rw[hr46]at h29;simpa using h29
   rw[if_pos hh]at hcut
   rw[hcut]
   have hF:qKE r=if(r.drop 1).takeWhile qO=[] then none else some ((r.drop 1).takeWhile qO,(r.drop 1).dropWhile qO):=by unfold qKE;rw[if_pos hh]
   rw[hF]
   generalize (r.drop 1).takeWhile qO=P at *
   generalize (r.drop 1).dropWhile qO=q at *
   rw[List.drop_one]at hl2
   refine rgn [.nilp,.tup [.str P,.str q]] [[],[],[],[],[2,5,6,33,34],[],[2,4,5,6,7]] ?_
   iterate 7 refine oq1 tok hl2 ?_
   refine qA (rgn [] [[],[2,4,5,6,7,36]] ?_)
   iterate 2 refine op3 ?_
   refine qA (cnd ?_ ?_)
   ·intro h36
    try simp at h36
    rw[if_pos h36]
    refine rgn [] [[],[],[2,3]] ?_
    iterate 3 refine op3 ?_
    refine qA ?_
    exact AW.ret (qI (k:=by simp[xP]))
   intro h36
   try simp at h36
   rw[if_neg h36]
   refine AW.skip ?_
   exact⟨(P,q),⟨rfl,by simp only[];omega,by simp only[];omega⟩,qE (by simp),rfl,by simp,by simp⟩
  intro h29
  try simp at h29
  have hh:¬ r.head?=some 46:=by rw[hr46]at h29;simpa using h29
  have hF:qKE r=some ([],r):=by unfold qKE;rw[if_neg hh]
  rw[hF]
  refine AW.skip ?_
  exact⟨([],r),⟨rfl,by simp,by simp only[];omega⟩,qE (by simp),rfl,by simp,by simp⟩
 ·
  rintro⟨P,q⟩ ⟨hf,hpl,hql⟩
  simp only at hpl hql
  rw[hf]
  simp only
  have hex:=zBQ (G:=G) q (by omega)
  have hrg:=zFF q
  generalize qKF q=e at *
  have hix:∀ h:W≠[],W[0]?=some (W.getD 0 0):=fun h=>zBL (List.length_pos_iff.2 h)
  refine rgn [.nilp,.tup [.int .i64 (e.getD 0),.bool e.isSome]] [[],[],[],[],[2,5,6,7,41,42],[],[2,5,6,7,10,11]] ?_
  iterate 7 refine oq1 tok hex ?_
  refine qA (AW.seq (rgn [.int .u8 (W.getD 0 0).toNat] [[],[],[],[],[2,5,6,7,10,45,47],[],[],[],[2,5,6,7,10,49,51],[],[],[],[],[2,5,6,7,10,49,53,56],[],[2,5,6,7,10,58]] ?_))
  iterate 16 first|refine op3 ?_ (hv:=by first|exact True.intro|exact fun h1 h2 h3=>⟨⟨⟨h1,h2⟩,h3⟩,_,hix h2,rfl⟩|exact fun h1 h2=>⟨⟨h1,h2⟩,fun h3=>⟨⟨h1,h2⟩,h3⟩⟩|simp;done|omega|simp)|refine op4 ?_ (hv:=by first|exact True.intro|(first|exact fun h1 h2 h3=>⟨⟨⟨h1,h2⟩,h3⟩,_,hix h2,rfl⟩|exact fun h1 h2=>⟨⟨h1,h2⟩,fun h3=>⟨⟨h1,h2⟩,h3⟩⟩|simp;done)|omega|simp)
  refine qA (cnd ?_ ?_)
  ·intro h58
   try simp at h58
   have hbad:zFH ng W P e=xP:=by
    cases e with
    | none=>rfl
    | some up =>
     simp only[zFH]
     rw[if_pos]
     rcases h58 with(h|h)|h
     ·cases h
     ·exact .inl h
     exact .inr ⟨by omega,zXU h.2⟩
   rw[hbad]
   refine rgn [] [[],[],[2,3]] ?_
   iterate 3 refine op3 ?_
   refine qA ?_
   exact AW.ret (qI (k:=by simp[xP]))
  intro h58
  try simp at h58
  obtain⟨up,rfl⟩:∃ up,e=some up:=by
   cases e with
   | none=>exact absurd rfl h58.1.1
   | some up=>exact⟨up,rfl⟩
  have hend:zFH ng W P (some up)=uZ ng (W++P) (P.length-up):=by
   simp only[zFH];rw[if_neg]
   rintro(h|⟨h,h'⟩)
   ·exact h58.1.2 h
   refine h58.2 (by omega) ?_
   cases W with
   | nil=>simp at h'
   | cons b W=>simp at h';subst h';rfl
  rw[hend]
  simp only[Option.getD_some]at hrg ⊢
  have hWP:(W++P).length<=2000000000:=by simp;omega
  refine AW.skip (rgn [] [[],[],[],[2,5,10,62,63],[],[],[2,5,62,66],[],[2,5,12,13]] ?_)
  iterate 9 refine op3 ?_
  refine qA (AW.seq (rgn [] [[],[2,5,12,13,68]] ?_))
  iterate 2 refine op3 ?_
  refine qA (cnd ?_ ?_)
  ·intro h68
   try simp at h68
   obtain⟨z,hz⟩:∃ z:Nat,(z:Int)=up-P.length:=⟨(up-P.length).toNat,by omega⟩
   have hw3:IntKind.i64.wrap (-((P.length:Int)-up))=(z:Int):=by simp[IntKind.wrap,IntKind.bits,IntKind.signed];omega
   have hrp:=qML (G:=G) [48] z (by simp;omega)
   rw[zVN]at hrp
   have hL:uZ ng (W++P) ((P.length:Int)-up)=wU ng (W++(P++zZ z)) 0:=by
    unfold uZ;rw[if_pos h68,show(-((P.length:Int)-up)).toNat=z by omega,List.append_assoc]
   have hzl:(zZ z).length=z:=by simp[zZ]
   rw[hL]
   have hmd:=qOG (G:=G) ng (W++(P++zZ z)) 0 (by simp[zZ]at hWP ⊢; omega) (by omega)
   refine rgz [.nilp,.str (zZ z)] [[],[],[],[2,5,69,72],[],[],[2,5,12,13]] ?_
   iterate 7 refine op3 ?_ (hv:=by first|exact True.intro|(rw[hw3];exact hrp)|(simp at hWP;omega);done|omega|simp)
   refine qA (rgn [.nilp,.tup [(wU ng (W++(P++zZ z)) 0).1.enc,.int .i64 (wU ng (W++(P++zZ z)) 0).2]] [[],[],[],[2,77],[],[],[],[2,3]] ?_)
   iterate 8 refine oq1 tok hmd ?_
   exact qA (AW.ret qI)
  intro h68
  try simp at h68
  obtain⟨sc,hsc⟩:∃ sc:Nat,(sc:Int)=P.length-up:=⟨((P.length:Int)-up).toNat,by omega⟩
  have hL:uZ ng (W++P) ((P.length:Int)-up)=wU ng (W++P) sc:=by
   unfold uZ;rw[if_neg (by omega),show((P.length:Int)-up).toNat=sc by omega]
  rw[hL]
  have hmd:=qOG (G:=G) ng (W++P) sc (by omega) (by omega)
  rw[hsc]at hmd
  refine AW.skip (rgn [.nilp,.tup [(wU ng (W++P) sc).1.enc,.int .i64 (wU ng (W++P) sc).2]] [[],[],[],[2,77],[],[],[],[2,3]] ?_)
  iterate 8 refine oq1 tok hmd ?_
  exact qA (AW.ret qI)
theorem qNQ (d:Dc) (hd:zO d=true):AFn Tryz.prog G 114 [d.enc] (.str (xD d)):=by
 refine AFn.introU tok Tryz.func114 (by kernel_rfl) rfl rfl ?_
 simp only[Tryz.f114,qG,List.map_cons,List.map_nil]
 have hb:=qAQ hd
 have hrp:=qML (G:=G) [48] (d.scale.toNat+1-d.digits.length) (by simp;omega)
 rw[zVN]at hrp
 have hmx:(if(d.digits.length:Int)<d.scale+1 then d.scale+1-d.digits.length else 0)=((d.scale.toNat+1-d.digits.length:Nat):Int):=by split <;> omega
 have hzl:(zZ (d.scale.toNat+1-d.digits.length)).length=d.scale.toNat+1-d.digits.length:=by simp[zZ]
 have hpl:(wV d).length=d.scale.toNat+1-d.digits.length+d.digits.length:=by simp[wV,zZ]
 have hP:xD d=(if d.neg=true then[45] else[])++(if d.scale=0 then wV d else(wV d).take ((wV d).length-d.scale.toNat)++46::(wV d).drop ((wV d).length-d.scale.toNat)):=rfl
 have hpad:zZ (d.scale.toNat+1-d.digits.length)++d.digits=wV d:=rfl
 rw[hP]
 refine rgn [] [[],[1]] ?_
 iterate 2 refine op3 ?_
 refine qA ?_
 refine AW.seqRunDrawK tok mixed [1,3] 12 [[1],[6],[7],[1],[9],[10],[8,11],[12],[13],[1],[15],[14,16]] [.nilp,.str (zZ (d.scale.toNat+1-d.digits.length))] [] (by kernel_rfl) (by intro C;conv=>lhs;simp) (by rw[hmx];refine⟨by omega,by omega,hrp,by omega⟩) (by simp[Sm.sum,Sm.foot,Sm.tch,Sm.refs];kernel_rfl) (by intro C;conv=>lhs;simp) (by first|exact True.intro|omega|simp) ?_
 refine rgn [] [[]] ?_
 refine op3 ?_
 refine qA ?_
 refine AW.join (α:=Unit) (fun _=>True) (fun a=>⟨zA 41 [(1,.ptr 1 0),(3,.p (.str (wV d))),(4,.p (.str (if d.neg=true then[45] else[])))],[],[(1,.vars 26 [.p (.bool d.neg),.p (.str d.digits),.p (.int .i64 d.scale)])],0⟩) ?_ ?_
 ·
  refine rgn [] [[],[1,3,4,19]] ?_
  iterate 2 refine op3 ?_
  refine qA (cnd ?_ ?_)
  ·intro h19
   try simp at h19
   refine rgz [] [[]] ?_
   refine op3 ?_
   refine qA ?_
   exact⟨(),trivial,qE (by simp[hpad,h19]),rfl,by simp[hpad,h19],by simp[hpad,h19]⟩
  intro h19
  try simp at h19
  refine AW.skip ?_
  exact⟨(),trivial,qE (by simp[hpad,h19]),rfl,by simp[hpad,h19],by simp[hpad,h19]⟩
 ·
  rintro a hI
  have hsg:(if d.neg=true then[45] else[]:List UInt8).length<=1:=by split <;> simp
  generalize (if d.neg=true then[45] else[]:List UInt8)=sg at *
  have hk:((wV d).length-d.scale).toNat=(wV d).length-d.scale.toNat:=by omega
  generalize wV d=pd at *
  refine AW.seq (rgn [] [[],[],[1,3,4,22]] ?_)
  iterate 3 refine op3 ?_
  refine qA (cnd ?_ ?_)
  ·intro h22
   try simp at h22
   refine rgn [] [[],[],[25],[2]] ?_
   iterate 4 refine op3 ?_ (hv:=by first|exact True.intro|(omega;done)|omega|simp)
   refine qA ?_
   exact AW.ret (qI (k:=by simp[h22]))
  intro h22
  try simp at h22
  refine AW.skip (rgn [] [[],[],[],[],[3,4,30],[3,4,5]] ?_)
  iterate 6 refine op3 ?_
  refine qA ?_
  refine AW.seqRunDrawK tok mixed [2] 10 [[4],[3],[5],[32,33],[31,34],[35],[3],[5],[37,38],[36,39]] [] [] (by kernel_rfl) (by intro C;conv=>lhs;simp) (by omega) (by simp[Sm.sum,Sm.foot,Sm.tch,Sm.refs];kernel_rfl) (by intro C;conv=>lhs;simp) (by first|exact True.intro|omega|simp) ?_
  exact AW.ret (qI (k:=by simp[h22,hk]))
theorem zTD (l:List UInt8) (hl:l.length<=1000000):AX Tryz.prog G 94 [.ms 90] [(90,.row 5 1 (qP l))] (.tuple []) [90] [(90,.row 5 1 (qP l.reverse))]:=by
 refine AX.introU tok 700 Tryz.func94 (by kernel_rfl) rfl rfl ?_
 simp only[Tryz.f94,qG,List.map_cons,List.map_nil]
 refine rgn [] [[],[],[],[],[0,2,3]] ?_
 iterate 5 refine op3 ?_
 refine qA (AW.block ?_)
 refine AW.loop (α:=Nat) (fun k=>k<=l.length) (fun k=>⟨zA 28 [(0,.ms 90),(2,.p (.int .i64 k)),(3,.p (.int .i64 ((l.length:Int)-1-k)))],[90],[(90,.row 5 1 (qP (qSA l k)))],700⟩) (fun k=>l.length-k) (0) (by omega) ⟨qE (by simp),rfl,by simp[zJU],by simp⟩ ?_
 rintro k hk
 have hlen:=qCO l k
 refine AW.seq (rgn [] [[],[],[0,2,3,9]] ?_)
 iterate 3 refine op3 ?_
 refine qA (cnd ?_ ?_)
 ·intro h9
  try simp at h9
  have h2:2 * k+1<l.length:=by omega
  have g1:=qCP l k (i:=k) (by omega)
  have g2:=qCP l k (i:=l.length-1-k) (by omega)
  rw[if_neg (by omega)]at g1 g2
  have hst:=zJV l h2
  generalize l.getD k 0=x at *
  generalize l.getD (l.length-1-k) 0=y at *
  generalize qSA l k=R at *
  have hix:((l.length:Int)-1-k).toNat=l.length-1-k:=by omega
  have b1:(qP R)[k]?=some (.int .u8 x.toNat):=qBJ g1
  have b2:(qP R)[l.length-1-k]?=some (.int .u8 y.toNat):=qBJ g2
  have b3:((qP R).set k (.int .u8 y.toNat))[l.length-1-k]?=some (.int .u8 y.toNat):=by rw[List.getElem?_set_ne (by omega)];exact b2
  refine AW.skip (AW.seq (AW.block ?_))
  refine AW.drawR mixed 14 [[0],[2],[0],[3],[0],[3],[18,19],[20],[0],[2],[22,23],[24],[14,15],[26,21]] [.int .u8 y.toNat,.int .u8 x.toNat] (by kernel_rfl) ?_
  iterate 2 refine qS.o0 tok (hv:=by first|exact True.intro|(simp[b1,b2,hix,hlen];done)|(simp[b1,b2,hix,hlen];omega);done|omega|simp) (k := ?_)
  refine qS.q [90] (.ms 90) rfl (qDL tok (orc:=[]) (orc':=[]) (v:=True) (by conv=>lhs;simp) trivial) (by simp) (by kernel_rfl) (by conv=>lhs;simp) ?_
  iterate 4 refine qS.o0 tok (hv:=by first|exact True.intro|(simp[b1,b2,hix,hlen];done)|(simp[b1,b2,hix,hlen];omega);done|omega|simp) (k := ?_)
  refine qS.o1 tok (orc:=[.int .u8 y.toNat]) (hv:=by first|exact True.intro|(simp[b1,b2,hix,hlen];done)|(simp[b1,b2,hix,hlen];omega);done|omega|simp) (k := ?_)
  iterate 3 refine qS.o0 tok (hv:=by first|exact True.intro|(simp[b1,b2,hix,hlen];done)|(simp[b1,b2,hix,hlen];omega);done|omega|simp) (k := ?_)
  refine qS.o1 tok (orc:=[.int .u8 x.toNat]) (hv:=by first|exact True.intro|(simp[b1,b2,hix,hlen];done)|(simp[b1,b2,hix,hlen];omega);done|omega|simp) (k := ?_)
  refine qS.o0 tok (hv:=by first|exact True.intro|(simp[b1,b2,hix,hlen];done)|(simp[b1,b2,hix,hlen];omega);done|omega|simp) (k := ?_)
  refine qS.o1 tok (orc:=[.int .u8 x.toNat,.int .u8 y.toNat]) (hv:=by first|exact True.intro|(simp[b1,b2,hix,hlen];done)|(simp[b1,b2,hix,hlen];omega);done|omega|simp) (k := ?_)
  refine qS.nil (by kernel_rfl) ⟨by kernel_rfl, ?_⟩
  refine qB.run [[],[0,2,3]] ?_
  iterate 2 refine op3 ?_ (hv:=by first|exact True.intro|(simp[b3,hix,hlen];done)|(simp[b3,hix,hlen];omega);done|omega|simp)
  refine qA (rgz [] [[],[],[],[0,11,13],[],[0,2,3]] ?_)
  iterate 6 refine op3 ?_
  refine qA ?_
  exact⟨k+1,by omega,by omega,qE (by simp[<-hst,qGK,show(l.length:Int)-1-k-1=l.length-1-(k+1) from by omega]),rfl,by simp[<-hst,qGK,show(l.length:Int)-1-k-1=l.length-1-(k+1) from by omega],by simp[<-hst,qGK,show(l.length:Int)-1-k-1=l.length-1-(k+1) from by omega]⟩
 intro h9
 try simp at h9
 have hall:=zNM l (k:=k) (by omega)
 rw[<-hall]
 refine AW.exit ?_
 simp
 exact qBY
theorem qDJ (n:Int) (h0 : -9223372036854775808<=n) (h1:n<=9223372036854775807):AFn Tryz.prog G 64 [.int .i64 n] ((qFV n).enc):=by
 refine AFn.introU tok Tryz.func64 (by kernel_rfl) rfl rfl ?_
 simp only[Tryz.f64,qG,List.map_cons,List.map_nil]
 have hU:n.natAbs<10 ^ 20:=by omega
 have hdl:=qRE 20 n.natAbs hU
 have hmd:=qOG (G:=G) (decide (n<0)) (qAE n.natAbs) 0 (by omega) (by omega)
 have hI:qFV n=(wU (decide (n<0)) (qAE n.natAbs) 0).1:=rfl
 rw[hI]
 generalize wU (decide (n<0)) (qAE n.natAbs) 0=r1 at *
 obtain⟨q1,e1⟩:=r1
 simp only[Dc.enc]at hmd
 refine rgn [] [[]] ?_
 refine op3 ?_
 refine qA (rgn [] [[],[],[0,2,3]] ?_)
 iterate 3 refine op3 ?_
 refine qA ?_
 refine AW.join (α:=Unit) (fun _=>True) (fun a=>⟨zA 35 [(0,.p (.int .i64 n)),(2,.ptr 2 0),(3,.p (.int .u64 (n.natAbs:Nat)))],[],[(2,.vars 26 [.p (.bool false),.p (.str []),.p (.int .i64 0)])],0⟩) ?_ ?_
 ·
  refine rgn [] [[],[0,2,3,10]] ?_
  iterate 2 refine op3 ?_
  refine qA (cnd ?_ ?_)
  ·intro h10
   try simp at h10
   have hw:IntKind.u64.wrap (-(IntKind.u64.wrap n))=(n.natAbs:Nat):=by simp[IntKind.wrap,IntKind.bits,IntKind.signed];omega
   refine rgz [] [[],[],[0,2,3]] ?_
   iterate 3 refine op3 ?_
   refine qA ?_
   exact⟨(),trivial,qE (by simp[hw]),rfl,by simp[hw],by simp[hw]⟩
  intro h10
  try simp at h10
  have hw:IntKind.u64.wrap n=(n.natAbs:Nat):=by simp[IntKind.wrap,IntKind.bits,IntKind.signed];omega
  refine AW.skip ?_
  exact⟨(),trivial,qE (by simp[hw]),rfl,by simp[hw],by simp[hw]⟩
 ·
  rintro a hI
  refine rgn [] [[]] ?_
  refine op3 ?_
  refine qA (AW.seq (AW.block ?_))
  refine AW.beginE 4 90 5 1 (by simp) (by simp) (by conv=>lhs;simp) ?_
  refine AW.loop (α:=Nat × List UInt8) (fun s=>qAE n.natAbs=qAE s.1++s.2.reverse/\s.1<=n.natAbs) (fun s=>⟨zA 35 [(0,.p (.int .i64 n)),(2,.ptr 2 0),(3,.p (.int .u64 (s.1:Nat))),(4,.ms 90)],[],[(2,.vars 26 [.p (.bool false),.p (.str []),.p (.int .i64 0)]),(90,.row 5 1 (qP s.2))],0⟩) (fun s=>s.1) ((n.natAbs,[])) ⟨by simp,Nat.le_refl _⟩ ⟨qE (by simp),rfl,by simp[qP],by simp⟩ ?_
  rintro⟨u,l⟩ ⟨hu,hle⟩
  simp only at hu hle
  have hll:l.length<=20:=by have:=congrArg List.length hu;simp at this;omega
  refine AW.seq (rgn [] [[],[0,2,3,4,14]] ?_)
  iterate 2 refine op3 ?_
  refine qA (cnd ?_ ?_)
  ·intro h14
   try simp at h14
   have hup:0<u:=by omega
   rw[qRD hup,List.append_assoc]at hu
   have hd:u % 10<10:=Nat.mod_lt _ (by decide)
   have dm:(u:Int).tmod 10=((u % 10:Nat):Int):=(Int.ofNat_tmod u 10).symm
   have dc:IntKind.u8.wrap (IntKind.u64.wrap (48+(u:Int) % 10))=((UInt8.ofNat (48+u % 10)).toNat:Int):=by
    rw[show(UInt8.ofNat (48+u % 10)).toNat=48+u % 10 by rw[UInt8.toNat_ofNat'];omega,show(u:Int) % 10=((u % 10:Nat):Int) from rfl]
    simp[IntKind.wrap,IntKind.bits,IntKind.signed];omega
   have dq:IntKind.u64.wrap ((u:Int) / 10)=((u / 10:Nat):Int):=by simp[IntKind.wrap,IntKind.bits,IntKind.signed];omega
   generalize UInt8.ofNat (48+u % 10)=D at *
   refine AW.skip (AW.seq (AW.block (rgz [.int .u8 D.toNat] [[],[],[],[],[0,2,3,17,21],[],[],[0,2,3,4]] ?_)))
   iterate 8 refine op3 ?_ (h:=by intro C;conv=>lhs;simp[dm,dc]) (hv:=by first|exact True.intro|((simp[dm,dc]);done)|omega|simp)
   refine qA (rgz [] [[],[],[0,2,3,4]] ?_)
   iterate 3 refine op3 ?_
   refine qA ?_
   exact⟨(u / 10,l++[D]),⟨by simp only[List.reverse_append,List.reverse_singleton];exact hu,by simp only;omega⟩,by simp only;omega,qE (by simp[dq,qP]),rfl,by simp[dq,qP],by simp[dq,qP]⟩
  intro h14
  try simp at h14
  obtain rfl:u=0:=by omega
  rw[qDC,List.nil_append]at hu
  have hrv:=zTD (G:=G) l (by omega)
  rw[<-hu]at hrv
  refine AW.exit ?_
  simp
  refine rgn [] [[]] ?_
  refine op3 ?_
  refine qJ ?_
  refine qB.stepK [0,2,4] (zF rfl hrv (by simp)) (by conv=>lhs;simp) rfl ?_
  refine qB.nil ?_
  refine rgn [.str (qAE n.natAbs),.nilp,.tup [q1.enc,.int .i64 e1]] [[],[],[],[2,28,30],[],[],[],[2,32,33],[],[],[2,5]] ?_
  iterate 11 refine oq1 tok hmd ?_
  refine qA (rgn [] [[],[2]] ?_)
  iterate 2 refine op3 ?_
  exact qA (AW.ret qI)
theorem qXB (n m:Int):AFn Tryz.prog G 41 [.agg [.int .u64 m],(qFV n).enc,.int .i64 0] (qFB n m).enc:=vT (qFV n,0) m
def qNW (runes:List UInt8->Nat) (v:Val) (m:Int):Val :=
 if v.kind=1 then qFB 0 m else if v.kind=5 then qFB (runes v.text) m else if v.kind=6\/v.kind=7 then qFB v.kids.length m
 else if v.kind=4 then .mk 4 m ⟨false,v.num.digits,v.num.scale⟩ [] [] [] 0 else qQ 40 m
theorem zKW (runes:List UInt8->Nat) (v:Val) (m:Int) (hr:v.kind=5->AFn Tryz.prog G 65 [.str v.text] (.int .i64 (runes v.text:Nat))/\runes v.text<=1000000) (hk:v.kids.length<=1000000):AFn Tryz.prog G 31 [.agg [.int .u64 m],v.enc] ((qNW runes v m).enc):=by
 refine AFn.introU tok Tryz.func31 (by kernel_rfl) rfl rfl ?_
 simp only[Tryz.f31,qG,List.map_cons,List.map_nil]
 have d0:=qDJ (G:=G) 0 (by decide) (by decide)
 have d1:=qDJ (G:=G) v.kids.length (by omega) (by omega)
 have d2:=fun h:v.kind=5=>qDJ (G:=G) (runes v.text) (by omega) (by have:=(hr h).2;omega)
 have n0:=qXB (G:=G) 0 m
 have n1:=qXB (G:=G) v.kids.length m
 have n2:=qXB (G:=G) (runes v.text) m
 have n3:=vT (G:=G) (⟨false,v.num.digits,v.num.scale⟩,0) m
 have hf:=zT (G:=G) 40 m
 have e3:vH (⟨false,v.num.digits,v.num.scale⟩,0) m = .mk 4 m ⟨false,v.num.digits,v.num.scale⟩ [] [] [] 0:=rfl
 rw[e3]at n3
 unfold qNW
 generalize qFV 0=D0 at *
 generalize qFV v.kids.length=D1 at *
 generalize qFV (runes v.text)=D2 at *
 generalize qFB 0 m=V0 at *
 generalize qFB v.kids.length m=V1 at *
 generalize qFB (runes v.text) m=V2 at *
 simp only[Val.enc_def,Dc.enc]at d0 d1 d2 n0 n1 n2 n3 hf
 refine rgn [] [[],[],[2,3,4]] ?_
 iterate 3 refine op3 ?_
 refine qA (AW.seq (rgn [] [[],[2,3,4,6]] ?_))
 iterate 2 refine op3 ?_
 refine qA (AW.block (rgn [] [[],[2,3,4,6,7]] ?_))
 iterate 2 refine op3 ?_
 refine qA (cnd ?_ ?_)
 ·intro h7
  try simp at h7
  rw[if_pos h7]
  refine AW.seqRunDrawK tok mixed [4] 2 [[2],[]] [.nilp,D0.enc] [.nilp,V0.enc] (by kernel_rfl) (by intro C;conv=>lhs;simp) (by exact d0) (by simp[Sm.sum,Sm.foot,Sm.tch,Sm.refs];kernel_rfl) (by intro C;conv=>lhs;simp) (by exact n0) ?_
  exact AW.ret qI
 intro h7
 try simp at h7
 rw[if_neg h7]
 refine rgn [] [[],[2,3,4,6,12]] ?_
 iterate 2 refine op3 ?_
 refine qA (cnd ?_ ?_)
 ·intro h12
  try simp at h12
  rw[if_pos h12]
  obtain⟨r1,r2⟩:=hr h12
  have d2:=d2 h12
  refine AW.seqRunDrawK tok mixed [4] 6 [[2],[3],[15],[16],[17],[14,18]] [.nilp,.int .i64 (runes v.text:Nat),.nilp,D2.enc,.nilp,V2.enc] [] (by kernel_rfl) (by intro C;conv=>lhs;simp) (by exact⟨r1,d2,n2⟩) (by simp[Sm.sum,Sm.foot,Sm.tch,Sm.refs];kernel_rfl) (by intro C;conv=>lhs;simp) (by first|exact True.intro|omega|simp) ?_
  exact AW.ret qI
 intro h12
 try simp at h12
 rw[if_neg h12]
 refine AW.seq (rgn [] [[],[2,3,4,6,20]] ?_)
 iterate 2 refine op3 ?_
 refine qA (cnd ?_ ?_)
 ·intro h20
  try simp at h20
  rw[if_pos (show v.kind=6\/v.kind=7 by omega)]
  refine AW.skip (cnd ?_ ?_)
  ·intro h20
   try simp at h20
   refine AW.seqRunDrawK tok mixed [4] 6 [[2],[3],[24],[25],[26],[23,27]] [.nilp,D1.enc,.nilp,V1.enc] [] (by kernel_rfl) (by intro C;conv=>lhs;simp) (by exact⟨d1,n1⟩) (by simp[Sm.sum,Sm.foot,Sm.tch,Sm.refs];kernel_rfl) (by intro C;conv=>lhs;simp) (by first|exact True.intro|omega|simp) ?_
   exact AW.ret qI
  intro h20
  try simp at h20
  exfalso;omega
 intro h20
 try simp at h20
 refine rgz [] [[],[2,3,4,6,20]] ?_
 iterate 2 refine op3 ?_
 refine qA (cnd ?_ ?_)
 ·intro h20
  try simp at h20
  rw[if_pos (show v.kind=6\/v.kind=7 by omega)]
  refine AW.seqRunDrawK tok mixed [4] 6 [[2],[3],[24],[25],[26],[23,27]] [.nilp,D1.enc,.nilp,V1.enc] [] (by kernel_rfl) (by intro C;conv=>lhs;simp) (by exact⟨d1,n1⟩) (by simp[Sm.sum,Sm.foot,Sm.tch,Sm.refs];kernel_rfl) (by intro C;conv=>lhs;simp) (by first|exact True.intro|omega|simp) ?_
  exact AW.ret qI
 intro h20
 try simp at h20
 rw[if_neg (show ¬ (v.kind=6\/v.kind=7) by omega)]
 refine rgn [] [[],[2,3,4,29]] ?_
 iterate 2 refine op3 ?_
 refine qA (cnd ?_ ?_)
 ·intro h29
  try simp at h29
  rw[if_pos h29]
  refine rgn [] [[],[],[2,3,4]] ?_
  iterate 3 refine op3 ?_
  refine qA (rgn [.nilp,(Val.mk 4 m ⟨false,v.num.digits,v.num.scale⟩ [] [] [] 0).enc] [[],[],[],[4,36],[4]] ?_)
  iterate 5 refine op3 ?_ (hv:=by first|exact True.intro|exact n3|(simp;done)|(simp at n3 ⊢; exact n3);done|omega|simp)
  exact qA (AW.ret qI)
 intro h29
 try simp at h29
 rw[if_neg h29]
 refine AW.skip (rgn [.nilp,(qQ 40 m).enc] [[],[],[4]] ?_)
 iterate 3 refine oq1 tok hf ?_
 exact qA (AW.ret qI)
def qQM (v:Val) (m:Int):Val :=
 if v.kind=7 then yE ((zS v.keys).map fun s=>wW s 0) m
 else if v.kind=6 then yE ((List.range v.kids.length).map fun i:Nat=>qFB i 0) m else qQ 40 m
theorem zTZ (r:Dc × Int) (m:Int):Few (vH r m):=by
 unfold vH qQ
 split <;> exact .mk (by simp) (by simp) (by simp)
theorem zOJ (v:Val) (m:Int) (hk:v.kids.length<=1000000) (hn:v.keys.length<=1000000):AFn Tryz.prog G 32 [.agg [.int .u64 m],v.enc] ((qQM v m).enc):=by
 refine AFn.introU tok Tryz.func32 (by kernel_rfl) rfl rfl ?_
 simp only[Tryz.f32,qG,List.map_cons,List.map_nil]
 have hf:=zT (G:=G) 40 m
 have he:=zIA (G:=G) (zS v.keys) m (by rw[qLH];omega)
 have hl:=qCU (G:=G) ((List.range v.kids.length).map fun i:Nat=>qFB i 0) m (by simp[qFB,zTZ]) (by simp;omega)
 have e:qQM v m=if v.kind=7 then yE ((zS v.keys).map fun s=>wW s 0) m else if v.kind=6 then yE ((List.range v.kids.length).map fun i:Nat=>qFB i 0) m else qQ 40 m:=rfl
 rw[e]
 generalize yE ((zS v.keys).map fun s=>wW s 0) m=L1 at *
 generalize hvs:((List.range v.kids.length).map fun i:Nat=>qFB i 0)=vs at *
 have hvl:vs.length=v.kids.length:=by rw[<-hvs];simp
 have hvg:∀ k,k<v.kids.length->vs[k]?=some (qFB k 0):=fun k h=>by rw[<-hvs];simp[h]
 simp only[Val.enc_def]at hf he hl
 refine rgn [] [[],[],[2,3,4]] ?_
 iterate 3 refine op3 ?_
 refine qA (AW.seq (rgn [] [[],[2,3,4,8]] ?_))
 iterate 2 refine op3 ?_
 refine qA (AW.block (rgn [] [[],[2,3,4,8,9]] ?_))
 iterate 2 refine op3 ?_
 refine qA (cnd ?_ ?_)
 ·intro h9
  try simp at h9
  rw[if_pos h9]
  refine AW.seqDrawR mixed 8 [[2],[3],[12],[13],[14],[],[16],[11,15,17]] [L1.enc] (by kernel_rfl) ?_
  iterate 3 refine qS.o0 tok (k := ?_)
  refine qS.call [901] (qSR v.keys) rfl rfl (by simp) (by simp) (by simp) (by simp) (by simp) (by first|(simp;done)|(simp;omega)) (by first|(simp;done)|(simp;omega)) (by kernel_rfl) (by conv=>lhs;simp) ?_
  refine qS.call [] (qTF 901 v.keys (by omega)) rfl rfl (by simp) (by simp) (by simp) (by simp) (by simp) (by first|(simp;done)|(simp;omega)) (by first|(simp;done)|(simp;omega)) (by kernel_rfl) (by conv=>lhs;simp) ?_
  iterate 2 refine qS.o0 tok (k := ?_)
  refine qS.call [] he rfl rfl (by simp) (by simp) (by simp) (by simp) (by simp) (by first|(simp;done)|(simp;omega)) (by first|(simp;done)|(simp;omega)) (by kernel_rfl) (by conv=>lhs;simp) ?_
  refine qS.nil (by kernel_rfl) ⟨by kernel_rfl, ?_⟩
  refine qB.run [[4]] ?_
  refine op3 ?_
  exact qA (AW.ret qI)
 intro h9
 try simp at h9
 rw[if_neg h9]
 refine rgn [] [[],[2,3,4,19]] ?_
 iterate 2 refine op3 ?_
 refine qA (cnd ?_ ?_)
 ·intro h19
  try simp at h19
  rw[if_pos h19]
  refine rgn [] [[]] ?_
  refine op3 ?_
  refine qA (AW.seq (rgn [] [[],[],[],[2,4,5,23,24]] ?_))
  iterate 4 refine op3 ?_
  refine qA (AW.block ?_)
  refine AW.beginE 5 50 31 9 (by simp) (by simp) (by conv=>lhs;simp) ?_
  refine AW.loop (α:=Nat) (fun k=>k<=v.kids.length) (fun k=>⟨zA 40 [(2,.ptr 2 0),(4,.ptr 4 0),(5,.ms 50),(23,.p (.int .i64 v.kids.length)),(24,.p (.int .i64 k))],[],[(2,.vars 61 [.p (.int .u64 m)]),(4,.vars 31 [.p (.int .i64 0),.p (.int .u64 0),.p (.bool false),.p (.str []),.p (.int .i64 0),.p (.str []),.nilsl,.nilsl,.p (.int .i64 0)]),(50,.row 31 9 ((vs.map Val.enc).take k))],0⟩) (fun k=>v.kids.length-k) (0) (by omega) ⟨qE (by simp),rfl,by simp,by simp⟩ ?_
  rintro k hkk
  refine rgn [] [[]] ?_
  refine op3 ?_
  refine qA (AW.seq (cnd ?_ ?_))
  ·intro h25
   try simp at h25
   have hv:=hvg k (by omega)
   have hgp:(vs.map Val.enc)[k]?=some (qFB k 0).enc:=by rw[List.getElem?_map,hv];rfl
   have htk:(vs.map Val.enc).take k++[(qFB k 0).enc]=(vs.map Val.enc).take (k+1):=by rw[List.take_add_one,hgp];rfl
   have dk:=qDJ (G:=G) k (by omega) (by omega)
   have nk:=qXB (G:=G) k 0
   generalize qFV (k:Int)=Dk at *
   generalize qFB (k:Int) 0=Vk at *
   simp only[Val.enc_def,Dc.enc]at htk dk nk
   refine AW.skip (AW.seq (AW.block (rgn [] [[],[2,4,5,6,23,24]] ?_)))
   iterate 2 refine op3 ?_
   refine qA (rgz [.nilp,Dk.enc,.nilp,Vk.enc,Vk.enc] [[],[],[],[],[2,4,23,24,27,31],[],[],[2,4,5,23,24]] ?_)
   iterate 8 refine op3 ?_ (hv:=by first|exact True.intro|exact dk|exact nk|(simp;done)|(simp at nk ⊢; exact nk);done|omega|simp)
   refine qA (rgz [] [[],[2,4,5,23,24]] ?_)
   iterate 2 refine op3 ?_
   refine qA ?_
   exact⟨k+1,by omega,by omega,qE (by simp[htk]),rfl,by simp[htk],by simp[htk]⟩
  intro h25
  try simp at h25
  obtain rfl:k=v.kids.length:=by omega
  have hall:(vs.map Val.enc).take v.kids.length=vs.map Val.enc:=List.take_of_length_le (by simp[hvl])
  simp only[hall]
  refine AW.exit ?_
  simp
  refine rgn [.nilp,(yE vs m).enc] [[]] ?_
  refine op3 ?_ (hv:=by first|exact True.intro|exact hl|(simp at hl ⊢; exact hl);done|omega|simp)
  refine qJ ?_
  refine qB.freeze 50 (by conv=>lhs;simp) ?_
  refine qB.run [[],[4,37],[4]] ?_
  iterate 3 refine op3 ?_ (hv:=by first|exact True.intro|exact hl|(simp at hl ⊢; exact hl);done|omega|simp)
  exact qA (AW.ret qI)
 intro h19
 try simp at h19
 rw[if_neg h19]
 refine AW.skip (rgn [.nilp,(qQ 40 m).enc] [[],[],[4]] ?_)
 iterate 3 refine oq1 tok hf ?_
 exact qA (AW.ret qI)
def qHM {α:Type} [DecidableEq α] (l:List α) (x:α):Int:=if x∈l then(l.idxOf x:Int) else -1
theorem zHV {α:Type} [DecidableEq α] {l:List α} {k:Nat} {x:α} (hk:k<l.length) (hx:l[k]?=some x) (hno:x ∉ l.take k):qHM l x=k:=by
 have hm:x∈l:=List.mem_of_getElem? hx
 unfold qHM;rw[if_pos hm]
 have:l.idxOf x=k:=by
  obtain⟨h1,h2⟩:=List.getElem?_eq_some_iff.1 hx
  have h3:=List.take_append_drop k l
  rw[<-h3,List.idxOf_append,if_neg hno,List.drop_eq_getElem_cons h1,h2,List.idxOf_cons_self]
  simp;omega
 rw[this]
theorem zHU {α:Type} [DecidableEq α] (l:List α) (x:α):0<=qHM l x↔x∈l:=by
 unfold qHM;split <;> simp[*]
theorem zPD (l:List (List UInt8)) (s:List UInt8):AFn Tryz.prog G 112 [.sl 1 (l.map PD.str),.str s] (.int .i64 (qHM l s)):=by
 refine AFn.introU tok Tryz.func112 (by kernel_rfl) rfl rfl ?_
 simp only[Tryz.f112,qG,List.map_cons,List.map_nil]
 refine rgn [] [[0,1]] ?_
 refine op3 ?_
 refine qA (AW.seq (rgn [] [[],[],[0,1,7,8]] ?_))
 iterate 3 refine op3 ?_
 refine qA (AW.block ?_)
 refine AW.intFactU (i:=7) rfl (by decide) ?_;intro hlen;simp at hlen
 refine AW.loop (α:=Nat) (fun k=>k<=l.length/\s ∉ l.take k) (fun k=>⟨zA 19 [(0,.p (.sl 1 (l.map PD.str))),(1,.p (.str s)),(7,.p (.int .i64 l.length)),(8,.p (.int .i64 k))],[],[],0⟩) (fun k=>l.length-k) (0) ⟨by omega,by simp⟩ ⟨qE (by simp),rfl,by simp,by simp⟩ ?_
 rintro k ⟨hk,hno⟩
 refine rgn [] [[]] ?_
 refine op3 ?_
 refine qA (AW.seq (cnd ?_ ?_))
 ·intro h9
  try simp at h9
  obtain⟨x,hx⟩:∃ x,l[k]?=some x:=⟨l[k],by simp[h9]⟩
  refine AW.skip (AW.seq (AW.block (rgn [] [[],[0,1,5,7,8]] ?_)))
  iterate 2 refine op3 ?_
  refine qA (rgn [.str x] [[],[],[],[],[],[0,1,5,7,8,16]] ?_)
  iterate 6 refine op3 ?_ (hv:=by first|exact True.intro|(simp[hx];done)|omega|simp)
  refine qA (cnd ?_ ?_)
  ·intro h16
   try simp at h16
   have hR:qHM l s=k:=zHV h9 (h16 ▸ hx) hno
   refine rgn [] [[],[4]] ?_
   iterate 2 refine op3 ?_
   refine qA ?_
   exact AW.ret (qI (k:=by simp[hR]))
  intro h16
  try simp at h16
  refine AW.skip (rgz [] [[],[0,1,7,8]] ?_)
  iterate 2 refine op3 ?_
  refine qA ?_
  exact⟨k+1,⟨by omega,by rw[List.take_add_one,hx];simp;exact⟨hno,h16⟩⟩,by omega,qE (by simp),rfl,by simp,by simp⟩
 intro h9
 try simp at h9
 have hR:qHM l s = -1:=by rw[List.take_of_length_le h9]at hno;unfold qHM;rw[if_neg hno]
 refine AW.exit ?_
 simp
 refine rgn [] [[]] ?_
 refine op3 ?_
 refine qA ?_
 exact AW.ret (qI (k:=by simp[hR]))
theorem zPF (l:List (List UInt8)) (s:List UInt8):AFn Tryz.prog G 79 [.sl 1 (l.map PD.str),.str s] (.bool (decide (s∈l))):=by
 refine AFn.introU tok Tryz.func79 (by kernel_rfl) rfl rfl ?_
 simp only[Tryz.f79,qG,List.map_cons,List.map_nil]
 have h1:=zPD (G:=G) l s
 have h2:decide (s∈l)=decide (0<=qHM l s):=decide_eq_decide.2 (zHU l s).symm
 rw[h2]
 generalize qHM l s=i at *
 refine rgn [] [[0,1]] ?_
 refine op3 ?_
 refine qA (rgn [.nilp,.int .i64 i] [[],[],[7],[],[4]] ?_)
 iterate 5 refine oq1 tok h1 ?_
 exact qA (AW.ret qI)
theorem zPE (l:List Int) (s:Int):AFn Tryz.prog G 206 [.sl 1 (l.map (PD.int .i64)),.int .i64 s] (.int .i64 (qHM l s)):=by
 refine AFn.introU tok Tryz.func206 (by kernel_rfl) rfl rfl ?_
 simp only[Tryz.f206,qG,List.map_cons,List.map_nil]
 refine rgn [] [[0,1]] ?_
 refine op3 ?_
 refine qA (AW.seq (rgn [] [[],[],[0,1,7,8]] ?_))
 iterate 3 refine op3 ?_
 refine qA (AW.block ?_)
 refine AW.intFactU (i:=7) rfl (by decide) ?_;intro hlen;simp at hlen
 refine AW.loop (α:=Nat) (fun k=>k<=l.length/\s ∉ l.take k) (fun k=>⟨zA 19 [(0,.p (.sl 1 (l.map (PD.int .i64)))),(1,.p (.int .i64 s)),(7,.p (.int .i64 l.length)),(8,.p (.int .i64 k))],[],[],0⟩) (fun k=>l.length-k) (0) ⟨by omega,by simp⟩ ⟨qE (by simp),rfl,by simp,by simp⟩ ?_
 rintro k ⟨hk,hno⟩
 refine rgn [] [[]] ?_
 refine op3 ?_
 refine qA (AW.seq (cnd ?_ ?_))
 ·intro h9
  try simp at h9
  obtain⟨x,hx⟩:∃ x,l[k]?=some x:=⟨l[k],by simp[h9]⟩
  refine AW.skip (AW.seq (AW.block (rgn [] [[],[0,1,5,7,8]] ?_)))
  iterate 2 refine op3 ?_
  refine qA (rgn [.int .i64 x] [[],[],[],[],[],[0,1,5,7,8,16]] ?_)
  iterate 6 refine op3 ?_ (hv:=by first|exact True.intro|(simp[hx];done)|omega|simp)
  refine qA (cnd ?_ ?_)
  ·intro h16
   try simp at h16
   have hR:qHM l s=k:=zHV h9 (h16 ▸ hx) hno
   refine rgn [] [[],[4]] ?_
   iterate 2 refine op3 ?_
   refine qA ?_
   exact AW.ret (qI (k:=by simp[hR]))
  intro h16
  try simp at h16
  refine AW.skip (rgz [] [[],[0,1,7,8]] ?_)
  iterate 2 refine op3 ?_
  refine qA ?_
  exact⟨k+1,⟨by omega,by rw[List.take_add_one,hx];simp;exact⟨hno,h16⟩⟩,by omega,qE (by simp),rfl,by simp,by simp⟩
 intro h9
 try simp at h9
 have hR:qHM l s = -1:=by rw[List.take_of_length_le h9]at hno;unfold qHM;rw[if_neg hno]
 refine AW.exit ?_
 simp
 refine rgn [] [[]] ?_
 refine op3 ?_
 refine qA ?_
 exact AW.ret (qI (k:=by simp[hR]))
theorem zPG (l:List Int) (s:Int):AFn Tryz.prog G 169 [.sl 1 (l.map (PD.int .i64)),.int .i64 s] (.bool (decide (s∈l))):=by
 refine AFn.introU tok Tryz.func169 (by kernel_rfl) rfl rfl ?_
 simp only[Tryz.f169,qG,List.map_cons,List.map_nil]
 have h1:=zPE (G:=G) l s
 have h2:decide (s∈l)=decide (0<=qHM l s):=decide_eq_decide.2 (zHU l s).symm
 rw[h2]
 generalize qHM l s=i at *
 refine rgn [] [[0,1]] ?_
 refine op3 ?_
 refine qA (rgn [.nilp,.int .i64 i] [[],[],[7],[],[4]] ?_)
 iterate 5 refine oq1 tok h1 ?_
 exact qA (AW.ret qI)
theorem zEV (l:List Val) (g:FuncId) (cs:List PD) (p:Val->Bool) (hg:∀ v∈l,AFn Tryz.prog G g [v.enc,.ref cs] (.bool (p v))):AFn Tryz.prog G 156 [.sl 9 (l.map Val.enc),.clo g [.ref cs]] (.int .i64 (match l.findIdx? p with|some i=>(i:Int)|none => -1)):=by
 refine AFn.introU tok Tryz.func156 (by kernel_rfl) rfl rfl ?_
 simp only[Tryz.f156,qG,List.map_cons,List.map_nil]
 refine rgn [] [[0,1]] ?_
 refine op3 ?_
 refine qA (AW.seq (rgn [] [[],[],[0,1,7,8]] ?_))
 iterate 3 refine op3 ?_
 refine qA (AW.block ?_)
 refine AW.intFactU (i:=7) rfl (by decide) ?_;intro hlen;simp at hlen
 refine AW.loop (α:=Nat) (fun k=>k<=l.length/\(l.take k).all (fun v => !p v)=true) (fun k=>⟨zA 19 [(0,.p (.sl 9 (l.map Val.enc))),(1,.p (.clo g [.ref cs])),(7,.p (.int .i64 l.length)),(8,.p (.int .i64 k))],[],[],0⟩) (fun k=>l.length-k) (0) ⟨by omega,rfl⟩ ⟨qE (by simp),rfl,by simp,by simp⟩ ?_
 rintro k ⟨hk,hall⟩
 refine rgn [] [[]] ?_
 refine op3 ?_
 refine qA (AW.seq (cnd ?_ ?_))
 ·intro h9
  try simp at h9
  obtain⟨v,hv⟩:∃ v,l[k]?=some v:=⟨l[k],by simp[h9]⟩
  have hgv:=hg v (List.mem_of_getElem? hv)
  refine AW.skip (AW.seq (AW.block (rgn [] [[],[0,1,5,7,8]] ?_)))
  iterate 2 refine op3 ?_
  refine qA (rgn [v.enc,.nilp,.bool (p v)] [[],[],[],[],[],[0,1,5,7,8,16]] ?_)
  iterate 6 refine op3 ?_ (hv:=by first|exact True.intro|(simp[hv];done)|(simp at hgv ⊢; exact hgv);done|omega|simp)
  refine qA (cnd ?_ ?_)
  ·intro h16
   try simp at h16
   have hf:l.findIdx? p=some k:=by
    rw[List.findIdx?_eq_some_iff_getElem]
    have h9':=h9
    refine⟨h9, ?_,fun j hj => ?_⟩
    ·rw[List.getElem?_eq_getElem h9]at hv;cases hv;exact h16
    have:=List.all_eq_true.1 hall (l[j]'(by omega)) (List.mem_iff_getElem.2 ⟨j,by simp;omega,by simp⟩)
    simpa using this
   refine rgn [] [[],[4]] ?_
   iterate 2 refine op3 ?_
   refine qA ?_
   exact AW.ret (qI (k:=by simp[hf]))
  intro h16
  try simp at h16
  refine AW.skip (rgz [] [[],[0,1,7,8]] ?_)
  iterate 2 refine op3 ?_
  refine qA ?_
  exact⟨k+1,⟨by omega,by rw[List.take_add_one,hv,List.all_append,hall];simpa using h16⟩,by omega,qE (by simp),rfl,by simp,by simp⟩
 intro h9
 try simp at h9
 rw[List.take_of_length_le h9]at hall
 have hf:l.findIdx? p=none:=by
  rw[List.findIdx?_eq_none_iff];intro x hx;simpa using List.all_eq_true.1 hall x hx
 refine AW.exit ?_
 simp
 refine rgn [] [[]] ?_
 refine op3 ?_
 refine qA ?_
 exact AW.ret (qI (k:=by simp[hf]))
theorem qHX (l:List Val) (g:FuncId) (cs:List PD) (p:Val->Bool) (hg:∀ v∈l,AFn Tryz.prog G g [v.enc,.ref cs] (.bool (p v))):AFn Tryz.prog G 113 [.sl 9 (l.map Val.enc),.clo g [.ref cs]] (.bool (l.any p)):=by
 refine AFn.introU tok Tryz.func113 (by kernel_rfl) rfl rfl ?_
 simp only[Tryz.f113,qG,List.map_cons,List.map_nil]
 have hi:=zEV l g cs p hg
 have ha:l.any p=decide (0<=(match l.findIdx? p with|some i=>(i:Int)|none => -1)):=by
  cases h:l.findIdx? p with
  | none=>simp;intro x hx;simpa using List.findIdx?_eq_none_iff.1 h x hx
  | some i =>
   obtain⟨h1,h2,_⟩:=List.findIdx?_eq_some_iff_getElem.1 h
   simp;exact⟨_,List.getElem_mem h1,h2⟩
 rw[ha]
 generalize (match l.findIdx? p with|some i=>(i:Int)|none => -1)=n at *
 refine rgn [] [[0,1]] ?_
 refine op3 ?_
 refine qA (rgn [.nilp,.int .i64 n] [[],[],[7],[],[4]] ?_)
 iterate 5 refine oq1 tok hi ?_
 exact qA (AW.ret qI)
def kN (k:List UInt8) (x:Val):Val := .mk 7 0 dc0 [] [[107,101,121],[118,97,108,117,101]] [wW k 0,x] 0
def xN (v:Val):List Val:=List.zipWith kN v.keys v.kids
def zEX (s:List UInt8) (v:Val) (m:Int):Val:=if v.kind=7 then yT (decide (s∈v.keys)) m else qQ 40 m
def uE (v:Val) (m:Int):Val:=if v.kind=7 then yE (xN v) m else qQ 40 m
theorem zTN (s:List UInt8) (v:Val) (m:Int):AFn Tryz.prog G 44 [.agg [.int .u64 m],.str [104,97,115],.str s,v.enc] ((zEX s v m).enc):=by
 refine AFn.introU tok Tryz.func44 (by kernel_rfl) rfl rfl ?_
 simp only[Tryz.f44,qG,List.map_cons,List.map_nil]
 have hf:=zT (G:=G) 40 m
 have hh:=zPF (G:=G) v.keys s
 have ht:=qAM (G:=G) (decide (s∈v.keys)) m
 have e:zEX s v m=if v.kind=7 then yT (decide (s∈v.keys)) m else qQ 40 m:=rfl
 rw[e]
 generalize decide (s∈v.keys)=b at *
 generalize yT b m=T at *
 simp only[Val.enc_def]at hf ht
 refine rgn [] [[],[],[1,2,4,7,8]] ?_
 iterate 3 refine op3 ?_
 refine qA (AW.seq (rgn [] [[],[],[1,2,4,7,8,14]] ?_))
 iterate 3 refine op3 ?_
 refine qA (cnd ?_ ?_)
 ·intro h14
  try simp at h14
  rw[if_neg h14]
  refine rgn [.nilp,(qQ 40 m).enc] [[],[],[8]] ?_
  iterate 3 refine oq1 tok hf ?_
  exact qA (AW.ret qI)
 intro h14
 try simp at h14
 rw[if_pos (by simpa using h14)]
 refine AW.skip (AW.seq (rgn [] [[],[2,4,7,8,18]] ?_))
 iterate 2 refine op3 ?_
 refine qA (cnd ?_ ?_)
 ·intro h18
  try simp at h18
  refine AW.seqRunDrawK tok mixed [8] 6 [[4],[7],[20],[2],[21,22],[19,23]] [.nilp,.bool b,.nilp,T.enc] [] (by kernel_rfl) (by intro C;conv=>lhs;simp) (by exact⟨hh,ht⟩) (by simp[Sm.sum,Sm.foot,Sm.tch,Sm.refs];kernel_rfl) (by intro C;conv=>lhs;simp) (by first|exact True.intro|omega|simp) ?_
  exact AW.ret qI
 intro h18
 try simp at h18
theorem zAU (s:List UInt8) (v:Val) (m:Int) (hn:v.kind=7->v.keys.length=v.kids.length) (hk:v.kids.length<=1000000) (hf2:∀ x∈v.kids,Few x):AFn Tryz.prog G 44 [.agg [.int .u64 m],.str [101,110,116,114,105,101,115],.str s,v.enc] ((uE v m).enc):=by
 refine AFn.introU tok Tryz.func44 (by kernel_rfl) rfl rfl ?_
 simp only[Tryz.f44,qG,List.map_cons,List.map_nil]
 have hf:=zT (G:=G) 40 m
 have e:uE v m=if v.kind=7 then yE (xN v) m else qQ 40 m:=rfl
 rw[e]
 simp only[Val.enc_def]at hf
 refine rgn [] [[],[],[1,2,4,7,8]] ?_
 iterate 3 refine op3 ?_
 refine qA (AW.seq (rgn [] [[],[],[1,2,4,7,8,14]] ?_))
 iterate 3 refine op3 ?_
 refine qA (cnd ?_ ?_)
 ·intro h14
  try simp at h14
  rw[if_neg h14]
  refine rgn [.nilp,(qQ 40 m).enc] [[],[],[8]] ?_
  iterate 3 refine oq1 tok hf ?_
  exact qA (AW.ret qI)
 intro h14
 try simp at h14
 rw[if_pos (by simpa using h14)]
 have h7:v.kind=7:=by simpa using h14
 have hn:=hn h7
 have hvl:(xN v).length=v.keys.length:=by simp[xN,hn]
 have hvg:∀ (k:Nat) a x,v.keys[k]?=some a->v.kids[k]?=some x->(xN v)[k]?=some (kN a x):=fun k a x h1 h2=>by unfold xN;rw[List.getElem?_zipWith,h1,h2]
 have hl:=qCU (G:=G) (xN v) m (fun x hx=>by
  unfold xN at hx
  obtain⟨i,hi⟩:=List.mem_iff_getElem?.1 hx
  rw[List.getElem?_zipWith]at hi
  cases h1:v.keys[i]? with
  | none=>rw[h1]at hi;cases hi
  | some a =>
   cases h2:v.kids[i]? with
   | none=>rw[h1,h2]at hi;cases hi
   | some y =>
    rw[h1,h2]at hi
    cases hi
    refine .mk (by simp[kN]) (by simp[kN]) fun z hz => ?_
    simp only[kN,Val.kids_mk,List.mem_cons,List.not_mem_nil,or_false]at hz
    rcases hz with rfl|rfl
    ·exact zBP a 0
    exact hf2 _ (List.mem_of_getElem? h2)) (by omega)
 generalize xN v=vs at *
 simp only[Val.enc_def]at hl
 refine AW.skip (AW.seq (rgn [] [[],[2,4,7,8,18]] ?_))
 iterate 2 refine op3 ?_
 refine qA (cnd ?_ ?_)
 ·intro h18
  try simp at h18
 intro h18
 try simp at h18
 refine AW.skip (rgn [] [[]] ?_)
 refine op3 ?_
 refine qA (AW.seq (rgn [] [[],[],[],[4,7,8,9,26,27,28]] ?_))
 iterate 4 refine op3 ?_
 refine qA (AW.block ?_)
 refine AW.beginE 9 100 31 9 (by simp) (by simp) (by conv=>lhs;simp) ?_
 refine AW.loop (α:=Nat) (fun k=>k<=v.keys.length) (fun k=>⟨zA 51 [(4,.ptr 4 0),(7,.ptr 7 0),(8,.ptr 8 0),(9,.ms 100),(26,.p (.sl 1 (v.keys.map PD.str))),(27,.p (.int .i64 v.keys.length)),(28,.p (.int .i64 k))],[],[(4,.vars 61 [.p (.int .u64 m)]),(7,.vars 31 v.cells),(8,.vars 31 [.p (.int .i64 0),.p (.int .u64 0),.p (.bool false),.p (.str []),.p (.int .i64 0),.p (.str []),.nilsl,.nilsl,.p (.int .i64 0)]),(100,.row 31 9 ((vs.map Val.enc).take k))],0⟩) (fun k=>v.keys.length-k) (0) (by omega) ⟨qE (by simp),rfl,by simp,by simp⟩ ?_
 rintro k hkk
 refine rgn [] [[]] ?_
 refine op3 ?_
 refine qA (AW.seq (cnd ?_ ?_))
 ·intro h29
  try simp at h29
  obtain⟨a,ha⟩:∃ a,v.keys[k]?=some a:=⟨v.keys[k]'(by omega),by simp[show k<v.keys.length by omega]⟩
  obtain⟨x,hx⟩:∃ x,v.kids[k]?=some x:=⟨v.kids[k]'(by omega),by simp[show k<v.kids.length by omega]⟩
  have hv:=hvg k a x ha hx
  have hgp:(vs.map Val.enc)[k]?=some (kN a x).enc:=by rw[List.getElem?_map,hv];rfl
  have htk:(vs.map Val.enc).take k++[(kN a x).enc]=(vs.map Val.enc).take (k+1):=by rw[List.take_add_one,hgp];rfl
  have hw:=qCT (G:=G) a 0
  simp only[Val.enc_def]at htk hw
  refine AW.skip (AW.seq (AW.block (rgn [.str a] [[],[],[],[],[4,7,8,9,10,11,26,27,28]] ?_)))
  iterate 5 refine op3 ?_ (hv:=by first|exact True.intro|((simp[ha]);done)|omega|simp)
  refine qA ?_
  refine AW.drawR mixed 14 [[9],[],[],[11],[35,36],[7],[38],[10],[39,40],[41],[37,42],[34,43],[44],[33,45]] [] (by kernel_rfl) ?_
  refine qS.o0 tok (hv:=by first|exact True.intro|exact hw|(simp[kN,dc0];done)|(simp[hx];done)|(simp[hx];omega)|(simp;done);done|omega|simp) (k := ?_)
  refine qS.plainRow tok [.str [107,101,121],.str [118,97,108,117,101]] rfl rfl rfl rfl rfl rfl rfl (by conv=>lhs;simp) (by simp) (by decide) (by decide) 51 (by simp) (by kernel_rfl) (by conv=>lhs;simp) ?_
  iterate 2 refine qS.o0 tok (hv:=by first|exact True.intro|exact hw|(simp[kN,dc0];done)|(simp[hx];done)|(simp[hx];omega)|(simp;done);done|omega|simp) (k := ?_)
  refine qS.o1 tok (orc:=[.nilp,(wW a 0).enc]) (hv:=by first|exact True.intro|exact hw|(simp[kN,dc0];done)|(simp[hx];done)|(simp[hx];omega)|(simp;done);done|omega|simp) (k := ?_)
  iterate 3 refine qS.o0 tok (hv:=by first|exact True.intro|exact hw|(simp[kN,dc0];done)|(simp[hx];done)|(simp[hx];omega)|(simp;done);done|omega|simp) (k := ?_)
  refine qS.o1 tok (orc:=[x.enc]) (hv:=by first|exact True.intro|exact hw|(simp[kN,dc0];done)|(simp[hx];done)|(simp[hx];omega)|(simp;done);done|omega|simp) (k := ?_)
  refine qS.o0 tok (hv:=by first|exact True.intro|exact hw|(simp[kN,dc0];done)|(simp[hx];done)|(simp[hx];omega)|(simp;done);done|omega|simp) (k := ?_)
  refine qS.plainRow tok [(wW a 0).enc,x.enc] rfl rfl rfl rfl rfl rfl rfl (by conv=>lhs;simp) (by simp) (by decide) (by decide) 510 (by simp) (by kernel_rfl) (by conv=>lhs;simp) ?_
  refine qS.o0 tok (hv:=by first|exact True.intro|exact hw|(simp[kN,dc0];done)|(simp[hx];done)|(simp[hx];omega)|(simp;done);done|omega|simp) (k := ?_)
  iterate 2 refine qS.o1 tok (orc:=[(kN a x).enc]) (hv:=by first|exact True.intro|exact hw|(simp[kN,dc0];done)|(simp[hx];done)|(simp[hx];omega)|(simp;done);done|omega|simp) (k := ?_)
  refine qS.nil (by kernel_rfl) ⟨by kernel_rfl, ?_⟩
  refine qB.run [[4,7,8,9,26,27,28]] ?_
  refine op3 ?_
  refine qJ ?_
  refine qB.take 46 100 (by conv=>lhs;simp) ?_
  refine qB.nil ?_
  refine rgz [] [[],[4,7,8,9,26,27,28]] ?_
  iterate 2 refine op3 ?_
  refine qA ?_
  exact⟨k+1,by omega,by omega,qE (by simp[htk]),rfl,by simp[htk],by simp[htk]⟩
 intro h29
 try simp at h29
 obtain rfl:k=v.keys.length:=by omega
 have hall:(vs.map Val.enc).take v.keys.length=vs.map Val.enc:=List.take_of_length_le (by simp[hvl])
 simp only[hall]
 refine AW.exit ?_
 simp
 refine rgn [.nilp,(yE vs m).enc] [[]] ?_
 refine op3 ?_ (hv:=by first|exact True.intro|exact hl|(simp at hl ⊢; exact hl);done|omega|simp)
 refine qJ ?_
 refine qB.freeze 100 (by conv=>lhs;simp) ?_
 refine qB.run [[],[8,50],[8]] ?_
 iterate 3 refine op3 ?_ (hv:=by first|exact True.intro|exact hl|(simp at hl ⊢; exact hl);done|omega|simp)
 exact qA (AW.ret qI)
def zQR (u:Bool):V:=if u then .ptr 2 0 else .p .nilp
def qFD (u:Bool) (bs:List UInt8):List (Nat × Box):=[(2,.vars 163 [zQR u,.ms 3]),(3,.row 5 1 (qP bs))]
theorem zCL:(Tryz.prog.info? 163).map (·.size)=some 2:=by kernel_rfl
theorem zQQ:liesAt Tryz.prog Tryz.prog.depth 163 (2 / Tryz.prog.cellsOf 163) 0 163 1=true:=by kernel_rfl
section
set_option maxHeartbeats 1000000 in
theorem zUN (b:Nat) (w:World) (h0:w.cell? ⟨b,0,none⟩=some (.pointer (some ⟨b,0,none⟩))) :
  Calls Tryz.prog 193 #[.pointer (some ⟨b,0,none⟩)] w fun e w'=>e = .returned (.tuple #[])/\w'=w:=by
 obtain⟨j,hj,_⟩:=Option.map_eq_some_iff.1 zCL
 go_enter Tryz.func193,Tryz.ntmps193
 go_wp2
 rw[Lib.run_neq_ptr_same w _ Tryz.underlying161 hj]
 go_wp2
 go_end0
 exact⟨rfl,rfl⟩
set_option maxHeartbeats 1000000 in
theorem zQE (b:Nat) (w:World) (h0:w.cell? ⟨b,0,none⟩=some (.pointer none)) (hsh:w.shape? b=some (163,2)) (hfz:w.frozen? ⟨b,0,none⟩=false) :
  Calls Tryz.prog 193 #[.pointer (some ⟨b,0,none⟩)] w fun e w'=>e = .returned (.tuple #[])/\w'=w.setCell ⟨b,0,none⟩ (.pointer (some ⟨b,0,none⟩)):=by
 obtain⟨j,hj,hjs⟩:=Option.map_eq_some_iff.1 zCL
 go_enter Tryz.func193,Tryz.ntmps193
 go_wp2
 rw[Lib.run_to_unsafe w ⟨b,0,none⟩ Tryz.underlying161 Tryz.underlying241 hj (by rw[hjs];decide) hsh (Nat.zero_lt_succ 1)]
 simp only[Result.andThen]
 rw[Oper.upon_value]
 go_wp2
 rw[run_callFunc_extern Tryz.func220 (by kernel_rfl) (by kernel_rfl) (by kernel_rfl) (e:=Extern.AbiNoEscape.same) (by kernel_rfl)]
 rw[Lib.run_noEscape]
 simp only[Result.andThen]
 rw[Oper.upon_value]
 go_wp2
 rw[Lib.run_from_unsafe w ⟨b,0,none⟩ Tryz.underlying241 Tryz.underlying161 hj hsh zQQ]
 simp only[Result.andThen]
 rw[Oper.upon_value]
 go_wp2
 go_end0
 exact⟨rfl,rfl⟩
end
theorem qKK (u:Bool) (bs:List UInt8):AX Tryz.prog G 193 [.ptr 2 0] (qFD u bs) (.tuple []) [2,3] (qFD true bs):=by
 refine⟨kA Tryz.func193 (by kernel_rfl) rfl,fun M μ w vs hg rel => ?_⟩
 obtain⟨l⟩:=vs
 have hsz:l.length=1:=by simpa using rel.slots.1
 match l,hsz with
 | [v],_ =>
 have hv:=rel.slots.2 0 v (.ptr 2 0) rfl rfl
 cases hv with
 | @ptr _ _ b hb =>
 have hbx:=rel.box 2 (.vars 163 [zQR u,.ms 3]) (by simp[qFD])
 cases hbx with
 | @vars _ _ b' arr h0 hh hs ho hc =>
 rw[hb]at h0;cases h0
 obtain⟨x,y,rfl⟩:∃ x y,arr = #[x,y]:=by
  obtain⟨l⟩:=arr
  match l,hs with
  | [x,y],_=>exact⟨x,y,rfl⟩
 have hx:=hc 0 x (zQR u) rfl rfl
 have hy:=hc 1 y (.ms 3) rfl rfl
 have hfin:∀ w',Rel ⟨w.heap.size,w,M,μ,wZ μ (qFD u bs)⟩ M μ ⟨[.ptr 2 0],(qFD u bs).map (·.1),qFD true bs,0⟩ #[.pointer (some ⟨b,0,none⟩)] w' ->
   ∃ v M' μ',(Ending.returned (.tuple #[]):Ending) = .returned v/\Rel ⟨w.heap.size,w,M,μ,wZ μ (qFD u bs)⟩ M' μ' ⟨[.tuple []],[2,3],qFD true bs,0⟩ #[v] w':=by
  intro w' r
  refine⟨_,M,μ,rfl,{ r with slots:=⟨rfl,fun i u x hu hx => ?_⟩,pins:=fun _ _=>rfl }⟩
  cases i with
  | zero=>simp at hu hx;subst hu;subst hx;exact .tuple rfl fun i u x hu=>by simp at hu
  | succ i=>simp at hx
 cases u with
 | true =>
  obtain rfl:x = .pointer (some ⟨b,0,none⟩):=by
   cases hx with
   | ptr h=>rw[hb]at h;cases h;rfl
  refine(zUN b w (by rw[zP hh];rfl)).mono ?_
  rintro e w' ⟨rfl,rfl⟩
  exact hfin _ rel
 | false =>
  obtain rfl:x = .pointer none:=by
   cases hx with
   | p h=>cases h;rfl
  refine(zQE b w (by rw[zP hh];rfl) (by simp[World.shape?,hh]) (by simp[World.frozen?,hh])).mono ?_
  rintro e w' ⟨rfl,rfl⟩
  refine hfin _ ?_
  have ht:Turned w (w.setCell ⟨b,0,none⟩ (.pointer (some ⟨b,0,none⟩))) b :=
   ⟨rfl,rfl,rfl,by simp[World.setCell],fun k hk=>RowKit.Below.heap_setCell w ⟨b,0,none⟩ _ k hk⟩
  have:=rel.write (id:=2) (bx := .vars 163 [zQR true,.ms 3]) (by simp[qM,qFD]) hb ht (.vars (arr := #[.pointer (some ⟨b,0,none⟩),y]) hb (by simp only[World.setCell,Array.getElem?_modify,if_pos,hh];simp) rfl (fun i u hu => ?_) (fun i u x hu hx => ?_))
  ·simpa[qFD,zM]using this
  ·match i,hu with
   | 0,hu=>simp at hu;subst hu;rfl
   | 1,hu=>exact ho 1 u (by simpa using hu)
   | i+2,hu=>simp at hu
  match i,hu,hx with
  | 0,hu,hx=>simp at hu hx;subst hu;subst hx;exact .ptr hb
  | 1,hu,hx=>simp at hu hx;subst hu;subst hx;exact hy
  | i+2,hu,hx=>simp at hu
theorem zFU (bs:List UInt8):AX Tryz.prog G 193 [.ptr 2 0] [(2,.vars 163 [.p .nilp,.ms 3]),(3,.row 5 1 (qP bs))] (.tuple []) [2,3] [(2,.vars 163 [.ptr 2 0,.ms 3]),(3,.row 5 1 (qP bs))]:=qKK false bs
theorem zQF (bs:List UInt8):AX Tryz.prog G 193 [.ptr 2 0] [(2,.vars 163 [.ptr 2 0,.ms 3]),(3,.row 5 1 (qP bs))] (.tuple []) [2,3] [(2,.vars 163 [.ptr 2 0,.ms 3]),(3,.row 5 1 (qP bs))]:=qKK true bs
open Go.Shelf Go.RowKit
section
variable {P:Program} {ρ:Ren}
abbrev qSN (g:Nat) (w w':World):Prop:=Kept (fun k=>k=g\/w.heap.size<=k) w w'
theorem qLQ (g:Nat) (w:World):qSN g w w.drew:=⟨rfl,rfl,rfl,Nat.le_refl _,fun _ _=>rfl⟩
theorem zAS (g:Nat) (w:World) (n:Nat):qSN g w (w.drew.freeze ⟨g,0,none⟩ n):=by
 unfold World.freeze
 split
 ·exact qLQ g w
 exact⟨rfl,rfl,rfl,by simp only[Array.size_modify];exact Nat.le_refl _,fun k hk=>by
  simp only[Array.getElem?_modify]
  rw[if_neg (by omega)];rfl⟩
theorem qQF (g:Nat) (w:World) (o:Obj):qSN g w (w.alloc o).drew:=⟨rfl,rfl,rfl,by show w.heap.size<=(w.heap.push o).size;simp,fun k hk=>by
 show(w.heap.push o)[k]?=_
 rw[Array.getElem?_push,if_neg (by omega)]⟩
theorem zAT (g:Nat) (w:World) (o:Obj):qSN g w (w.drew.alloc o):=qQF g w o
set_option maxHeartbeats 1000000 in
theorem zUR (L:Lays.n169 P ρ) (X:Builder.Extra P ρ) (b g cap:Nat) (p:Value) (cur:Array Value) (l:List UInt8) (w:World) (hbk:w.heap[b]?=some (.cells #[p,.slice (some ⟨g,0,none⟩) l.length cap] (ρ.t 72) (0,0)))
  (hg:w.heap[g]?=some (.cells cur (ρ.t 5) (0,0))) (hnc:l.length<=cap) (hcm:cap<=maxLen) (hcs:cur.size=cap) (hcells:∀ (j:Nat) (x:UInt8),l[j]?=some x->cur[j]?=some (Value.int .u8 x.toNat)) (h0:l≠[]) :
  Calls P (ρ.f 169) #[.pointer (some ⟨b,0,none⟩)] w fun e w'=>e = .returned (.string ⟨l.toArray⟩)/\qSN g w w':=by
 have hl0:l.length≠0:=by simpa using h0
 have c1:w.drew.cell? ⟨b,1,none⟩=some (.slice (some ⟨g,0,none⟩) l.length cap):=by
  have:w.drew.heap[b]?=some (.cells #[p,.slice (some ⟨g,0,none⟩) l.length cap] (ρ.t 72) (0,0)):=hbk
  rw[Lib.cell_of_heap this];rfl
 have hSD:(Builtin.unsafeSliceData_ #[(ρ.t 37)] (ρ.t 127) #[.slice (some ⟨g,0,none⟩) l.length cap]).run P w.drew = .ok (.pointer (some ⟨g,0,none⟩)) w.drew :=
  Lib.run_unsafeSliceData_row _ _ _ _ _ _ (by omega)
 have hUS:(Builtin.unsafeString_ #[(ρ.t 127),(ρ.t 3)] (ρ.t 9) #[.pointer (some ⟨g,0,none⟩),.int .i64 l.length]).run P w.drew = .ok (.string ⟨l.toArray⟩) (w.drew.freeze ⟨g,0,none⟩ l.length):=by
  refine Lib.run_unsafeString_row w.drew (ρ.t 127) (ρ.t 3) (ρ.t 9) (ρ.t 5) L.t127 X.cellsByte g cur.size (by have hg':w.drew.heap[g]?=some (.cells cur (ρ.t 5) (0,0)):=hg;simp[World.shape?,hg']) l h0 (by omega) (by unfold maxLen at hcm;omega) ?_
  intro j x hx
  have hg':w.drew.heap[g]?=some (.cells cur (ρ.t 5) (0,0)):=hg
  rw[jF,Nat.zero_add,Lib.cell_of_heap hg']
  exact hcells j x hx
 have mixed:=L.mixed
 have t72:=L.t72;have a72:=L.a72;have z72:=L.z72;have v72:=L.v72;have u72:=run_underlying L.t72
 have t70:=L.t70;have a70:=L.a70;have z70:=L.z70;have v70:=L.v70;have u70:=run_underlying L.t70
 have t37:=L.t37;have a37:=L.a37;have z37:=L.z37;have v37:=L.v37;have u37:=run_underlying L.t37
 have t127:=L.t127;have a127:=L.a127;have z127:=L.z127;have v127:=L.v127;have u127:=run_underlying L.t127
 have t3:=L.t3;have a3:=L.a3;have z3:=L.z3;have v3:=L.v3;have u3:=run_underlying L.t3
 have t9:=L.t9;have a9:=L.a9;have z9:=L.z9;have v9:=L.v9;have u9:=run_underlying L.t9
 have t5:=X.t5;have a5:=X.a5;have z5:=X.z5;have v5:=X.v5;have u5:=run_underlying X.t5
 go_enter L.f169,Body.n169_ntmps ρ
 go_wp2
 go_region_o
 all_goals (go_wp2;go_ret;exact⟨rfl,zAS g w _⟩)
set_option maxHeartbeats 2000000 in
theorem zUS (L:Lays.n169 P ρ) (X:Builder.Extra P ρ) (b:Nat) (p:Value) (w:World) (hbk:w.heap[b]?=some (.cells #[p,.slice none 0 0] (ρ.t 72) (0,0))) :
  Calls P (ρ.f 169) #[.pointer (some ⟨b,0,none⟩)] w fun e w'=>e = .returned (.string ⟨#[]⟩)/\qSN w.heap.size w w':=by
 have hUS:=Any.unsafeString_none L X
 have c1:w.drew.cell? ⟨b,1,none⟩=some (.slice none 0 0):=by
  have:w.drew.heap[b]?=some (.cells #[p,.slice none 0 0] (ρ.t 72) (0,0)):=hbk
  rw[Lib.cell_of_heap this];rfl
 have hSD:(Builtin.unsafeSliceData_ #[(ρ.t 37)] (ρ.t 127) #[.slice none 0 0]).run P w.drew = .ok (.pointer none) w.drew:=rfl
 have mixed:=L.mixed
 have t72:=L.t72;have a72:=L.a72;have z72:=L.z72;have v72:=L.v72;have u72:=run_underlying L.t72
 have t70:=L.t70;have a70:=L.a70;have z70:=L.z70;have v70:=L.v70;have u70:=run_underlying L.t70
 have t37:=L.t37;have a37:=L.a37;have z37:=L.z37;have v37:=L.v37;have u37:=run_underlying L.t37
 have t127:=L.t127;have a127:=L.a127;have z127:=L.z127;have v127:=L.v127;have u127:=run_underlying L.t127
 have t3:=L.t3;have a3:=L.a3;have z3:=L.z3;have v3:=L.v3;have u3:=run_underlying L.t3
 have t9:=L.t9;have a9:=L.a9;have z9:=L.z9;have v9:=L.v9;have u9:=run_underlying L.t9
 have t5:=X.t5;have a5:=X.a5;have z5:=X.z5;have v5:=X.v5;have u5:=run_underlying X.t5
 go_enter L.f169,Body.n169_ntmps ρ
 go_wp2
 go_region_o
 all_goals (go_wp2;go_ret;exact⟨rfl,qLQ _ w⟩)
set_option maxHeartbeats 2000000 in
theorem zQP (L:Lays.n169 P ρ) (X:Builder.Extra P ρ) (b g:Nat) (p:Value) (cur:Array Value) (w:World) (hlt:b<w.heap.size) (hbk:w.heap[b]?=some (.cells #[p,.slice (some ⟨g,0,none⟩) 0 0] (ρ.t 72) (0,0))) (hg:w.heap[g]?=some (.cells cur (ρ.t 5) (0,0))) :
  Calls P (ρ.f 169) #[.pointer (some ⟨b,0,none⟩)] w fun e w'=>e = .returned (.string ⟨#[]⟩)/\qSN g w w':=by
 have hUS:=Any.unsafeString_none L X
 have c1:w.drew.cell? ⟨b,1,none⟩=some (.slice (some ⟨g,0,none⟩) 0 0):=by
  have:w.drew.heap[b]?=some (.cells #[p,.slice (some ⟨g,0,none⟩) 0 0] (ρ.t 72) (0,0)):=hbk
  rw[Lib.cell_of_heap this];rfl
 have hSD:(Builtin.unsafeSliceData_ #[(ρ.t 37)] (ρ.t 127) #[.slice (some ⟨g,0,none⟩) 0 0]).run P w.drew = .ok (.pointer (some ⟨w.drew.heap.size,0,none⟩)) (w.drew.alloc (.view ⟨g,0,none⟩ (ρ.t 5))) :=
  Lib.run_unsafeSliceData_zero w.drew _ _ (ρ.t 5) L.t127 ⟨g,0,none⟩ 0 ((ρ.t 5),cur.size) (by have hg':w.drew.heap[g]?=some (.cells cur (ρ.t 5) (0,0)):=hg;simp[World.shape?,hg'])
 have c2:(w.drew.alloc (.view ⟨g,0,none⟩ (ρ.t 5))).cell? ⟨b,1,none⟩=some (.slice (some ⟨g,0,none⟩) 0 0):=by
  have:(w.drew.alloc (.view ⟨g,0,none⟩ (ρ.t 5))).heap[b]?=_:=(Lib.alloc_old w.drew _ b hlt).trans hbk
  rw[Lib.cell_of_heap this];rfl
 have c3:(w.alloc (.view ⟨g,0,none⟩ (ρ.t 5))).drew.cell? ⟨b,1,none⟩=some (.slice (some ⟨g,0,none⟩) 0 0):=c2
 have c0:w.cell? ⟨b,1,none⟩=some (.slice (some ⟨g,0,none⟩) 0 0):=c1
 have mixed:=L.mixed
 have t72:=L.t72;have a72:=L.a72;have z72:=L.z72;have v72:=L.v72;have u72:=run_underlying L.t72
 have t70:=L.t70;have a70:=L.a70;have z70:=L.z70;have v70:=L.v70;have u70:=run_underlying L.t70
 have t37:=L.t37;have a37:=L.a37;have z37:=L.z37;have v37:=L.v37;have u37:=run_underlying L.t37
 have t127:=L.t127;have a127:=L.a127;have z127:=L.z127;have v127:=L.v127;have u127:=run_underlying L.t127
 have t3:=L.t3;have a3:=L.a3;have z3:=L.z3;have v3:=L.v3;have u3:=run_underlying L.t3
 have t9:=L.t9;have a9:=L.a9;have z9:=L.z9;have v9:=L.v9;have u9:=run_underlying L.t9
 have t5:=X.t5;have a5:=X.a5;have z5:=X.z5;have v5:=X.v5;have u5:=run_underlying X.t5
 go_enter L.f169,Body.n169_ntmps ρ
 go_wp2
 go_region_o
 all_goals (go_wp2;go_ret;first|exact⟨rfl,qQF g w _⟩|exact⟨rfl,zAT g w _⟩)
set_option maxHeartbeats 2000000 in
theorem zQO (L:Lays.n169 P ρ) (X:Builder.Extra P ρ) (b g cap:Nat) (p:Value) (w:World) (hc0:cap≠0) (hbk:w.heap[b]?=some (.cells #[p,.slice (some ⟨g,0,none⟩) 0 cap] (ρ.t 72) (0,0))) :
  Calls P (ρ.f 169) #[.pointer (some ⟨b,0,none⟩)] w fun e w'=>e = .returned (.string ⟨#[]⟩)/\qSN g w w':=by
 have hUS:=Any.unsafeString_none L X
 have c1:w.drew.cell? ⟨b,1,none⟩=some (.slice (some ⟨g,0,none⟩) 0 cap):=by
  have:w.drew.heap[b]?=some (.cells #[p,.slice (some ⟨g,0,none⟩) 0 cap] (ρ.t 72) (0,0)):=hbk
  rw[Lib.cell_of_heap this];rfl
 have hSD:(Builtin.unsafeSliceData_ #[(ρ.t 37)] (ρ.t 127) #[.slice (some ⟨g,0,none⟩) 0 cap]).run P w.drew = .ok (.pointer (some ⟨g,0,none⟩)) w.drew :=
  Lib.run_unsafeSliceData_row _ _ _ _ _ _ hc0
 clear hc0
 have mixed:=L.mixed
 have t72:=L.t72;have a72:=L.a72;have z72:=L.z72;have v72:=L.v72;have u72:=run_underlying L.t72
 have t70:=L.t70;have a70:=L.a70;have z70:=L.z70;have v70:=L.v70;have u70:=run_underlying L.t70
 have t37:=L.t37;have a37:=L.a37;have z37:=L.z37;have v37:=L.v37;have u37:=run_underlying L.t37
 have t127:=L.t127;have a127:=L.a127;have z127:=L.z127;have v127:=L.v127;have u127:=run_underlying L.t127
 have t3:=L.t3;have a3:=L.a3;have z3:=L.z3;have v3:=L.v3;have u3:=run_underlying L.t3
 have t9:=L.t9;have a9:=L.a9;have z9:=L.z9;have v9:=L.v9;have u9:=run_underlying L.t9
 have t5:=X.t5;have a5:=X.a5;have z5:=X.z5;have v5:=X.v5;have u5:=run_underlying X.t5
 go_enter L.f169,Body.n169_ntmps ρ
 go_wp2
 go_region_o
 all_goals (go_wp2;go_ret;exact⟨rfl,qLQ _ w⟩)
end
theorem qEP:Builder.Extra Tryz.prog Tryz.lays169_ren where
 sizeBuilder:=by kernel_rfl
 liesBuilder:=by kernel_rfl
 t5:=Tryz.underlying5
 a5:=Tryz.isAgg5
 z5:=Tryz.sizeOf5
 v5:=Tryz.zeroValue5
 infoByte:=by kernel_rfl
 cellsByte:=by kernel_rfl
 sizeByte:=by kernel_rfl
 neB5:=by decide
theorem qSI (u:Bool) (bs:List UInt8):AX Tryz.prog G 151 [.ptr 2 0] (qFD u bs) (.p (.str bs)) [] []:=by
 refine⟨kA Tryz.func151 (by kernel_rfl) rfl,fun M μ w vs hg rel => ?_⟩
 obtain⟨l⟩:=vs
 have hsz:l.length=1:=by simpa using rel.slots.1
 match l,hsz with
 | [v],_ =>
 have hv:=rel.slots.2 0 v (.ptr 2 0) rfl rfl
 cases hv with
 | @ptr _ _ b hb =>
 have hbx:=rel.box 2 (.vars 163 [zQR u,.ms 3]) (by simp[qFD])
 cases hbx with
 | @vars _ _ b' arr h0 hh hs ho hc =>
 rw[hb]at h0;cases h0
 obtain⟨x,y,rfl⟩:∃ x y,arr = #[x,y]:=by
  obtain⟨l⟩:=arr
  match l,hs with
  | [x,y],_=>exact⟨x,y,rfl⟩
 have hy:=hc 1 y (.ms 3) rfl rfl
 have hblt:b<w.heap.size:=(Array.getElem?_eq_some_iff.1 hh).1
 have hfin:∀ (g:Nat) (w':World),(g<w.heap.size->wZ μ (qFD u bs) g/\∀ o,M g o=none)->bs.length<=maxLen->qSN g w w' ->
   ∃ v M' μ',(Ending.returned (.string ⟨bs.toArray⟩):Ending) = .returned v/\Rel ⟨w.heap.size,w,M,μ,wZ μ (qFD u bs)⟩ M' μ' ⟨[.p (.str bs)],[],[],0⟩ #[v] w':=by
  intro g w' hl hm hk
  refine⟨_,M,μ,rfl, ?_⟩
  have hko:∀ k,k<w.heap.size->k≠g->w'.heap[k]?=w.heap[k]?:=fun k h1 h2=>hk.block k (by omega)
  refine⟨fun b o v hv => ?_,fun _ _ _ h=>h,fun _ _ _=>rfl,⟨rfl,fun i u x hu hx => ?_⟩,fun _ h=>(by cases h),fun _ _ h=>(by cases h),by simp,fun _ _ _ h=>by simp[qM]at h,fun _ _ h=>by simp[qM]at h,hk.size, ?_⟩
  ·have h1:=rel.mem b o v hv
   have hlt:=yM h1
   exact(World.cell?_of_block (w:=w) (hko b hlt (by rintro rfl;rw[(hl hlt).2 o]at hv;cases hv))).trans h1
  ·cases i with
   | zero=>simp at hu hx;subst hu;subst hx;exact .p (.str (by simp) hm)
   | succ i=>simp at hx
  refine⟨hk.os,hk.tape,hk.output,hk.size,fun k h => ?_⟩
  have h1:k<w.heap.size:=Nat.not_le.1 fun h'=>h (.inl h')
  exact hko k h1 (by rintro rfl;exact h (.inr (hl h1).1))
 have hrow:=rel.box 3 (.row 5 1 (qP bs)) (by simp[qFD])
 have key:∃ g,(g<w.heap.size->wZ μ (qFD u bs) g/\∀ o,M g o=none)/\bs.length<=maxLen/\Calls Tryz.prog 151 #[.pointer (some ⟨b,0,none⟩)] w fun e w'=>e = .returned (.string ⟨bs.toArray⟩)/\qSN g w w':=by
  rcases hrow.cells with⟨he,hn,hval⟩|⟨g,cap,cur,hg0,hval,hgh,hcs,hlc,hcm,hone,hro⟩
  ·obtain rfl:bs=[]:=by simpa[qP]using he
   have hy':y = .slice none 0 0:=by cases hy with|ms h _=>rw[h,hval]
   subst hy'
   exact⟨w.heap.size,fun h=>absurd h (Nat.lt_irrefl _),by simp,zUS Tryz.lays169 qEP b x w hh⟩
  have hy':y = .slice (some ⟨g,0,none⟩) bs.length cap:=by cases hy with|ms h _=>rw[h,hval];simp[qP]
  subst hy'
  have hown:=rel.own 3 g (by simp[qM,qFD]) (.inl hg0)
  refine⟨g,fun h=>⟨⟨3,by simp[qM,qFD],.inl hg0⟩,hown.2.2⟩,by simp[qP]at hlc;omega, ?_⟩
  by_cases hbs:bs=[]
  ·subst hbs
   by_cases hc0:cap=0
   ·subst hc0;exact zQP Tryz.lays169 qEP b g x cur w hblt hh hgh
   exact zQO Tryz.lays169 qEP b g cap x w hc0 hh
  refine zUR Tryz.lays169 qEP b g cap x cur bs w hh hgh (by simpa[qP]using hlc) hcm (by simpa using hcs) (fun j z hz => ?_) hbs
  have hjl:=(List.getElem?_eq_some_iff.1 hz).1
  have hj:j<cur.size:=by rw[hcs];simp[qP]at hlc;omega
  have:=hro.get j (.int .u8 z.toNat) 0 (.int .u8 z.toNat) cur[j] (by simp[qP,hz]) rfl (by simp[qP,List.getElem?_take,hjl,hj])
  rw[Array.getElem?_eq_getElem hj]
  generalize cur[j]=q at this
  cases this
  rfl
 obtain⟨g,h1,h2,h3⟩:=key
 refine h3.mono ?_
 rintro e w' ⟨rfl,hk⟩
 exact hfin g w' h1 h2 hk
theorem zME (bs:List UInt8):AX Tryz.prog G 151 [.ptr 2 0] [(2,.vars 163 [.ptr 2 0,.ms 3]),(3,.row 5 1 (qP bs))] (.p (.str bs)) [] []:=qSI true bs
@[simp] theorem zYE (a s:List UInt8):qP (a++s)=qP a++s.map fun b => .int .u8 b.toNat:=by simp[qP]
theorem qSL (bs:List UInt8) (c:UInt8) (hb:bs.length<=100000000000):AX Tryz.prog G 157 [.ptr 2 0,.p (.int .u8 c.toNat)] [(2,.vars 163 [.p .nilp,.ms 3]),(3,.row 5 1 (qP bs))] (.dead) [2] [(2,.vars 163 [.ptr 2 0,.ms 3]),(3,.row 5 1 (qP (bs++[c])))]:=by
 refine AX.introU tok 900 Tryz.func157 (by kernel_rfl) rfl rfl ?_
 simp only[Tryz.f157,qG,List.map_cons,List.map_nil]
 refine rgn [] [[0,1]] ?_
 refine op3 ?_
 refine qA (rgn [] [[]] ?_)
 refine op3 ?_
 refine qJ ?_
 refine qB.stepK [0,1] (zF rfl (zFU bs) (by simp)) (by conv=>lhs;simp) rfl ?_
 refine qB.nil ?_
 refine rgn [.int .u8 c.toNat] [[],[],[],[],[1,7,11],[],[],[7,14],[],[],[17]] ?_
 iterate 11 refine op3 ?_
 refine qA (rgn [] [[]] ?_)
 refine op3 ?_
 refine qA ?_
 exact AW.ret qZ
theorem zMI (bs s:List UInt8) (hb:bs.length<=100000000000) (hs:s.length<=100000000000):AX Tryz.prog G 149 [.ptr 2 0,.p (.str s)] [(2,.vars 163 [.p .nilp,.ms 3]),(3,.row 5 1 (qP bs))] (.dead) [2] [(2,.vars 163 [.ptr 2 0,.ms 3]),(3,.row 5 1 (qP (bs++s)))]:=by
 refine AX.introU tok 900 Tryz.func149 (by kernel_rfl) rfl rfl ?_
 simp only[Tryz.f149,qG,List.map_cons,List.map_nil]
 refine rgn [] [[],[0,1]] ?_
 iterate 2 refine op3 ?_
 refine qA (rgn [] [[]] ?_)
 refine op3 ?_
 refine qJ ?_
 refine qB.stepK [0,1] (zF rfl (zFU bs) (by simp)) (by conv=>lhs;simp) rfl ?_
 refine qB.nil ?_
 refine rgn [] [[],[],[],[],[1,8,12],[],[],[],[1,14,16],[1]] ?_
 iterate 10 refine op3 ?_
 refine qA (rgn [] [[],[],[],[4,5]] ?_)
 iterate 4 refine op3 ?_
 refine qA ?_
 exact AW.ret qZ
theorem vQ (bs:List UInt8) (c:UInt8) (hb:bs.length<=100000000000):AX Tryz.prog G 157 [.ptr 2 0,.p (.int .u8 c.toNat)] [(2,.vars 163 [.ptr 2 0,.ms 3]),(3,.row 5 1 (qP bs))] (.dead) [2] [(2,.vars 163 [.ptr 2 0,.ms 3]),(3,.row 5 1 (qP (bs++[c])))]:=by
 refine AX.introU tok 900 Tryz.func157 (by kernel_rfl) rfl rfl ?_
 simp only[Tryz.f157,qG,List.map_cons,List.map_nil]
 refine rgn [] [[0,1]] ?_
 refine op3 ?_
 refine qA (rgn [] [[]] ?_)
 refine op3 ?_
 refine qJ ?_
 refine qB.stepK [0,1] (zF rfl (zQF bs) (by simp)) (by conv=>lhs;simp) rfl ?_
 refine qB.nil ?_
 refine rgn [.int .u8 c.toNat] [[],[],[],[],[1,7,11],[],[],[7,14],[],[],[17]] ?_
 iterate 11 refine op3 ?_
 refine qA (rgn [] [[]] ?_)
 refine op3 ?_
 refine qA ?_
 exact AW.ret qZ
theorem vP (bs s:List UInt8) (hb:bs.length<=100000000000) (hs:s.length<=100000000000):AX Tryz.prog G 149 [.ptr 2 0,.p (.str s)] [(2,.vars 163 [.ptr 2 0,.ms 3]),(3,.row 5 1 (qP bs))] (.dead) [2] [(2,.vars 163 [.ptr 2 0,.ms 3]),(3,.row 5 1 (qP (bs++s)))]:=by
 refine AX.introU tok 900 Tryz.func149 (by kernel_rfl) rfl rfl ?_
 simp only[Tryz.f149,qG,List.map_cons,List.map_nil]
 refine rgn [] [[],[0,1]] ?_
 iterate 2 refine op3 ?_
 refine qA (rgn [] [[]] ?_)
 refine op3 ?_
 refine qJ ?_
 refine qB.stepK [0,1] (zF rfl (zQF bs) (by simp)) (by conv=>lhs;simp) rfl ?_
 refine qB.nil ?_
 refine rgn [] [[],[],[],[],[1,8,12],[],[],[],[1,14,16],[1]] ?_
 iterate 10 refine op3 ?_
 refine qA (rgn [] [[],[],[],[4,5]] ?_)
 iterate 4 refine op3 ?_
 refine qA ?_
 exact AW.ret qZ
@[simp] theorem zYD:qP []=[]:=rfl
theorem zLG (r:Int) (l:List Int) (h:Lib.encodeRuneZ r=l):qP (Lib.encodeRune r)=l.map (PD.int .u8):=by
 subst h
 simp only[qP,Lib.encodeRune,List.map_map]
 apply List.map_congr_left
 intro x hx
 obtain⟨h0,h1⟩:=Lib.encodeRuneZ_byte r x hx
 simp[Function.comp]
 omega
theorem qXG {k:Nat} {n:Int} (h:0<=n/\n<k):∃ x:Fin k,n=x.val:=⟨⟨n.toNat,by omega⟩,by simp;omega⟩
theorem zVK (n:Int) (h:0<=n):IntKind.u8.wrap n=n % 256:=by simp[IntKind.wrap,IntKind.bits,IntKind.signed]
theorem zTV (n:Int) (h:0<=n/\n<32):IntKind.u8.wrap ↑(192 % 2 ^ IntKind.u8.bits ||| (IntKind.u8.wrap n % 2 ^ IntKind.u8.bits).toNat)=192+n:=by
 obtain⟨x,rfl⟩:=qXG h;revert x;decide +kernel
theorem zHO (n:Int) (h:0<=n/\n<16):IntKind.u8.wrap ↑(224 % 2 ^ IntKind.u8.bits ||| (IntKind.u8.wrap n % 2 ^ IntKind.u8.bits).toNat)=224+n:=by
 obtain⟨x,rfl⟩:=qXG h;revert x;decide +kernel
theorem zHN (n:Int) (h:0<=n/\n<8):IntKind.u8.wrap ↑(240 % 2 ^ IntKind.u8.bits ||| (IntKind.u8.wrap n % 2 ^ IntKind.u8.bits).toNat)=240+n:=by
 obtain⟨x,rfl⟩:=qXG h;revert x;decide +kernel
theorem zUG:∀ x:Fin 256,IntKind.u8.wrap ↑(128 % 2 ^ IntKind.u8.bits ||| (IntKind.u8.wrap ↑((((x.val:Nat):Int) % 2 ^ IntKind.u8.bits).toNat &&& 63 % 2 ^ IntKind.u8.bits) % 2 ^ IntKind.u8.bits).toNat)=128+((x.val:Nat):Int) % 64:=by decide +kernel
theorem qGD (n:Int) (h:0<=n):IntKind.u8.wrap ↑(128 % 2 ^ IntKind.u8.bits ||| (IntKind.u8.wrap ↑((IntKind.u8.wrap n % 2 ^ IntKind.u8.bits).toNat &&& 63 % 2 ^ IntKind.u8.bits) % 2 ^ IntKind.u8.bits).toNat)=128+n % 64:=by
 rw[zVK n h]
 obtain⟨x,hx⟩:=qXG (k:=256) (n:=n % 256) (by omega)
 rw[hx,zUG x,<-hx]
 omega
theorem zNH (r:Int):r.fdiv (2 ^ min 6 IntKind.i32.bits)=r / 64:=Int.fdiv_eq_ediv_of_nonneg _ (by decide)
theorem qZN (r:Int):r.fdiv (2 ^ min 12 IntKind.i32.bits)=r / 4096:=Int.fdiv_eq_ediv_of_nonneg _ (by decide)
theorem qZM (r:Int):r.fdiv (2 ^ min 18 IntKind.i32.bits)=r / 262144:=Int.fdiv_eq_ediv_of_nonneg _ (by decide)
theorem qXV (bs:List UInt8) (r:Int) (hb:bs.length<=100000000000) (h0:128<=r) (h1:r<=1114111) (h2:r<55296\/57343<r):AX Tryz.prog G 227 [.ms 3,.p (.int .i32 r)] [(3,.row 5 1 (qP bs))] (.ms 3) [] [(3,.row 5 1 (qP bs++qP (Lib.encodeRune r)))]:=by
 refine AX.introU tok 900 Tryz.func227 (by kernel_rfl) rfl rfl ?_
 simp only[Tryz.f227,qG,List.map_cons,List.map_nil]
 have hw:IntKind.u32.wrap r=r:=by simp[IntKind.wrap,IntKind.bits,IntKind.signed];omega
 refine rgn [] [[0,1]] ?_
 refine op3 ?_
 refine qA (rgn [] [[],[],[0,1,5]] ?_)
 iterate 3 refine op3 ?_
 refine qA (AW.block (rgn [] [[],[],[0,1,5,11]] ?_))
 iterate 3 refine op3 ?_
 refine qA (cnd ?_ ?_)
 ·intro h11
  try simp at h11
  rw[zLG r _ (Lib.encodeRuneZ_two (by omega) (by omega))]
  refine rgn [.int .u8 (192+r / 64),.int .u8 (128+r % 64)] [[],[],[],[],[1,14,18],[],[],[],[14,18,22],[],[24],[4]] ?_
  iterate 12 refine op3 ?_ (hv:=by first|exact True.intro|(simp only[zNH,qZN,qZM];exact⟨zTV _ (by omega),qGD _ (by omega)⟩;done)|omega|simp)
  refine qA ?_
  exact AW.ret qZ
 intro h11
 try simp at h11
 refine AW.seq (rgn [] [[],[],[0,1,5,25]] ?_)
 iterate 3 refine op3 ?_
 refine qA (cnd ?_ ?_)
 ·intro h25
  try simp at h25
  refine AW.skip (cnd ?_ ?_)
  ·intro h25
   try simp at h25
   rw[zLG r _ (Lib.encodeRuneZ_three (by omega))]
   refine rgn [.int .u8 (224+r / 4096),.int .u8 (128+r / 64 % 64),.int .u8 (128+r % 64)] [[],[],[],[],[1,34,38],[],[],[],[],[1,34,38,43],[],[],[],[34,38,43,47],[],[49],[4]] ?_
   iterate 17 refine op3 ?_ (hv:=by first|exact True.intro|(simp only[zNH,qZN,qZM];exact⟨zHO _ (by omega),qGD _ (by omega),qGD _ (by omega)⟩;done)|omega|simp)
   refine qA ?_
   exact AW.ret qZ
  intro h25
  try simp at h25
  refine rgn [] [[],[],[],[],[0,1,53,55],[],[0,1,50]] ?_
  iterate 3 refine op3 ?_
  iterate 2 refine op4 ?_
  iterate 2 refine op3 ?_
  refine qA (cnd ?_ ?_)
  ·intro h50
   try simp at h50
   rw[zLG r _ (Lib.encodeRuneZ_four (by omega) (by omega))]
   refine rgn [.int .u8 (240+r / 262144),.int .u8 (128+r / 4096 % 64),.int .u8 (128+r / 64 % 64),.int .u8 (128+r % 64)] [[],[],[],[],[1,57,61],[],[],[],[],[1,57,61,66],[],[],[],[],[1,57,61,66,71],[],[],[],[57,61,66,71,75],[57,76],[],[4]] ?_
   iterate 22 refine op3 ?_ (hv:=by first|exact True.intro|(simp only[zNH,qZN,qZM];exact⟨zHN _ (by omega),qGD _ (by omega),qGD _ (by omega),qGD _ (by omega)⟩;done)|omega|simp)
   refine qA ?_
   exact AW.ret qZ
  intro h50
  try simp at h50
  omega
 intro h25
 try simp at h25
 refine rgz [] [[],[],[],[],[],[0,1,5,33],[0,1,5,25]] ?_
 iterate 3 refine op3 ?_
 iterate 2 refine op4 ?_
 iterate 2 refine op3 ?_
 refine qA (cnd ?_ ?_)
 ·intro h25
  try simp at h25
  rw[zLG r _ (Lib.encodeRuneZ_three (by omega))]
  refine rgn [.int .u8 (224+r / 4096),.int .u8 (128+r / 64 % 64),.int .u8 (128+r % 64)] [[],[],[],[],[1,34,38],[],[],[],[],[1,34,38,43],[],[],[],[34,38,43,47],[],[49],[4]] ?_
  iterate 17 refine op3 ?_ (hv:=by first|exact True.intro|(simp only[zNH,qZN,qZM];exact⟨zHO _ (by omega),qGD _ (by omega),qGD _ (by omega)⟩;done)|omega|simp)
  refine qA ?_
  exact AW.ret qZ
 intro h25
 try simp at h25
 refine rgn [] [[],[],[],[],[0,1,53,55],[],[0,1,50]] ?_
 iterate 3 refine op3 ?_
 iterate 2 refine op4 ?_
 iterate 2 refine op3 ?_
 refine qA (cnd ?_ ?_)
 ·intro h50
  try simp at h50
  rw[zLG r _ (Lib.encodeRuneZ_four (by omega) (by omega))]
  refine rgn [.int .u8 (240+r / 262144),.int .u8 (128+r / 4096 % 64),.int .u8 (128+r / 64 % 64),.int .u8 (128+r % 64)] [[],[],[],[],[1,57,61],[],[],[],[],[1,57,61,66],[],[],[],[],[1,57,61,66,71],[],[],[],[57,61,66,71,75],[57,76],[],[4]] ?_
  iterate 22 refine op3 ?_ (hv:=by first|exact True.intro|(simp only[zNH,qZN,qZM];exact⟨zHN _ (by omega),qGD _ (by omega),qGD _ (by omega),qGD _ (by omega)⟩;done)|omega|simp)
  refine qA ?_
  exact AW.ret qZ
 intro h50
 try simp at h50
 omega
theorem qHZ (bs:List UInt8) (r:Int) (hb:bs.length<=100000000000) (h0:0<=r) (h1:r<=1114111) (h2:r<55296\/57343<r):AX Tryz.prog G 199 [.ms 3,.p (.int .i32 r)] [(3,.row 5 1 (qP bs))] (.ms 3) [] [(3,.row 5 1 (qP bs++qP (Lib.encodeRune r)))]:=by
 refine AX.introU tok 900 Tryz.func199 (by kernel_rfl) rfl rfl ?_
 simp only[Tryz.f199,qG,List.map_cons,List.map_nil]
 have hw:IntKind.u32.wrap r=r:=by simp[IntKind.wrap,IntKind.bits,IntKind.signed];omega
 have hw8:=zVK r h0
 refine rgn [] [[0,1]] ?_
 refine op3 ?_
 refine qA (AW.seq (rgn [] [[],[],[0,1,7]] ?_))
 iterate 3 refine op3 ?_
 refine qA (cnd ?_ ?_)
 ·intro h7
  try simp at h7
  rw[zLG r _ (Lib.encodeRuneZ_one (by omega) (by omega))]
  refine rgn [.int .u8 r] [[],[],[],[8,11],[],[4]] ?_
  iterate 6 refine op3 ?_ (hv:=by first|exact True.intro|((rw[hw8];omega);done)|omega|simp)
  refine qA ?_
  exact AW.ret qZ
 intro h7
 try simp at h7
 refine AW.skip (rgn [] [[],[]] ?_)
 iterate 2 refine op3 ?_
 refine qJ ?_
 refine qB.stepK [15] (zF rfl (qXV bs r hb (by omega) h1 h2) (by simp)) (by conv=>lhs;simp) rfl ?_
 refine qB.run [[4]] ?_
 refine op3 ?_
 refine qA ?_
 exact AW.ret qZ
theorem zRU (bs:List UInt8) (r:Int) (hb:bs.length<=100000000000) (h0:0<=r) (h1:r<=1114111) (h2:r<55296\/57343<r):AX Tryz.prog G 158 [.ptr 2 0,.p (.int .i32 r)] [(2,.vars 163 [.p .nilp,.ms 3]),(3,.row 5 1 (qP bs))] (.dead) [2] [(2,.vars 163 [.ptr 2 0,.ms 3]),(3,.row 5 1 (qP bs++qP (Lib.encodeRune r)))]:=by
 refine AX.introU tok 900 Tryz.func158 (by kernel_rfl) rfl rfl ?_
 simp only[Tryz.f158,qG,List.map_cons,List.map_nil]
 have hel:(Lib.encodeRune r).length<=4:=by simp only[Lib.encodeRune,List.length_map];exact(Lib.encodeRuneZ_length r).2
 refine rgn [] [[],[0,1]] ?_
 iterate 2 refine op3 ?_
 refine qA (rgn [] [[]] ?_)
 refine op3 ?_
 refine qJ ?_
 refine qB.stepK [0,1] (zF rfl (zFU bs) (by simp)) (by conv=>lhs;simp) rfl ?_
 refine qB.nil ?_
 refine rgn [] [[],[],[],[],[0,1,13],[0,1,6]] ?_
 iterate 6 refine op3 ?_
 refine qA (rgn [] [[],[],[],[],[],[0,6,14,18,19]] ?_)
 iterate 6 refine op3 ?_
 refine qJ ?_
 refine qB.stepK [0,6,14,20] (zF rfl (qHZ bs r hb h0 h1 h2) (by simp)) (by conv=>lhs;simp) rfl ?_
 refine qB.run [[],[],[0,6]] ?_
 iterate 3 refine op3 ?_
 refine qA (rgn [] [[],[],[],[6,26],[],[],[29],[],[4,5]] ?_)
 iterate 9 refine op3 ?_
 refine qA ?_
 exact AW.ret qZ
theorem qES (bs:List UInt8) (r:Int) (hb:bs.length<=100000000000) (h0:0<=r) (h1:r<=1114111) (h2:r<55296\/57343<r):AX Tryz.prog G 158 [.ptr 2 0,.p (.int .i32 r)] [(2,.vars 163 [.ptr 2 0,.ms 3]),(3,.row 5 1 (qP bs))] (.dead) [2] [(2,.vars 163 [.ptr 2 0,.ms 3]),(3,.row 5 1 (qP bs++qP (Lib.encodeRune r)))]:=by
 refine AX.introU tok 900 Tryz.func158 (by kernel_rfl) rfl rfl ?_
 simp only[Tryz.f158,qG,List.map_cons,List.map_nil]
 have hel:(Lib.encodeRune r).length<=4:=by simp only[Lib.encodeRune,List.length_map];exact(Lib.encodeRuneZ_length r).2
 refine rgn [] [[],[0,1]] ?_
 iterate 2 refine op3 ?_
 refine qA (rgn [] [[]] ?_)
 refine op3 ?_
 refine qJ ?_
 refine qB.stepK [0,1] (zF rfl (zQF bs) (by simp)) (by conv=>lhs;simp) rfl ?_
 refine qB.nil ?_
 refine rgn [] [[],[],[],[],[0,1,13],[0,1,6]] ?_
 iterate 6 refine op3 ?_
 refine qA (rgn [] [[],[],[],[],[],[0,6,14,18,19]] ?_)
 iterate 6 refine op3 ?_
 refine qJ ?_
 refine qB.stepK [0,6,14,20] (zF rfl (qHZ bs r hb h0 h1 h2) (by simp)) (by conv=>lhs;simp) rfl ?_
 refine qB.run [[],[],[0,6]] ?_
 iterate 3 refine op3 ?_
 refine qA (rgn [] [[],[],[],[6,26],[],[],[29],[],[4,5]] ?_)
 iterate 9 refine op3 ?_
 refine qA ?_
 exact AW.ret qZ
theorem qNM (l:List UInt8):(Lib.decodeL l).1<=1114111:=qEK _ _
theorem qSO (hG:U8 G) (s:List UInt8) (hs:s≠[]):AFn Tryz.prog G 195 [.str s] (.tup [.int .i32 (Lib.decodeL s).1,.int .i64 (Lib.decodeL s).2]):=by
 refine AFn.of_calls (kA Tryz.func195 (by kernel_rfl) rfl) fun M w vs hg hmem hsz hrd => ?_
 obtain⟨b,rfl,rfl,hm⟩:=zIL hsz hrd
 refine(Any.utf8_DecodeRuneInString Tryz.lays197 b w (zSH hG hg hmem)).mono ?_
 rintro e w' ⟨rfl,hb⟩
 have h0:b.size≠0:=fun h=>hs (List.eq_nil_of_length_eq_zero (by simpa using h))
 have e:Lib.decodeGo b=Lib.decodeL b.data.toList:=by
  unfold Lib.decodeGo Lib.decodeL
  rw[if_neg h0]
 rw[e]
 have h1:=qNM b.data.toList
 have h2:=Lib.decodeL_le b.data.toList hs
 have h3:b.data.toList.length<=maxLen:=by simpa using hm
 refine⟨_,rfl,.tup rfl fun i u d hu hd => ?_,hb⟩
 match i,hu,hd with
 | 0,hu,hd=>simp at hu hd;subst hu;subst hd;exact .int (by rw[jK];simp only[kD];omega) (by rw[kV];simp only[kE];omega)
 | 1,hu,hd=>simp at hu hd;subst hu;subst hd;exact .int (by rw[jK];simp only[kD];omega) (by rw[kV];simp only[kE];unfold maxLen at h3;omega)
 | i+2,hu,hd=>simp at hu
end Go.Proofs.YtgcbapchinideaaGreatDoor
