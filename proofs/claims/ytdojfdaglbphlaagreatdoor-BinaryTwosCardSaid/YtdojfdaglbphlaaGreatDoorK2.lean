import Derived.Test.YtdojfdaglbphlaaGreatDoorK1
import Derived.Test.YtdojfdaglbphlaaGreatDoorM3
import Derived.Test.YtdojfdaglbphlaaGreatDoorM4
import Derived.Maps.RangeRun
import Derived.Lib.MapLaws
import Derived.Lib.ValidLaws
namespace Go.Proofs.YtdojfdaglbphlaaGreatDoor
open Sy Go
set_option maxRecDepth 100000
set_option maxHeartbeats 4000000
set_option linter.unusedSimpArgs false
set_option linter.unusedVariables false
variable {G:qR}
def kC (v:Val):List Val:=(zL v.keys).map (qBW v)
theorem qGJ {ks:List (List UInt8)} {s:List UInt8}:s∈zL ks↔s∈ks:=(List.mergeSort_perm ks _).mem_iff
theorem zGO (ks:List (List UInt8)):AX Tryz.prog G 163 [.p (.sl 1 (ks.map PD.str))] [] (.func (.func 209) [] [.ptr 901 0]) [] [(901,.vars 27 [.p (.sl 1 (ks.map PD.str))])]:=by
 refine AX.introU tok 900 Tryz.func163 (by kernel_rfl) rfl rfl ?_
 simp only [Tryz.f163,qI,List.map_cons,List.map_nil]
 refine rgn [] [[],[1]] ?_
 iterate 2 refine op1 tok ?_
 refine qA (rgn [] [[],[2]] ?_)
 iterate 2 refine op1 tok ?_
 refine qA ?_
 exact AW.ret wD
theorem qNN (v:Val) (hl:v.keys.length≤v.kids.length) (hn:v.keys.length≤1000000):AFn Tryz.prog G 107 [v.enc] (.tup [.sl 1 ((zL v.keys).map PD.str),.sl 9 ((kC v).map Val.enc)]):=by
 refine AFn.introU tok Tryz.func107 (by kernel_rfl) rfl rfl ?_
 simp only [Tryz.f107,qI,List.map_cons,List.map_nil]
 have hsl:=uF v.keys
 have hix:=zQY (G:=G) v.keys
 refine rgn [] [[],[],[1]] ?_
 iterate 3 refine op1 tok ?_
 refine qA (rgn [] [[],[]] ?_)
 iterate 2 refine op1 tok ?_
 refine qZ ?_
 refine qC.stepK [1,10] (yS rfl (zGO v.keys) (by simp)) (by conv=>lhs; simp) rfl ?_
 refine qC.stepK [1,11] (yS rfl (zHI 901 v.keys (by omega)) (by simp)) (by conv=>lhs; simp) rfl ?_
 refine qC.run [[1,4]] ?_
 refine op1 tok ?_
 refine qA (rgn [] [[]] ?_)
 refine op1 tok ?_
 refine qA (AW.seq (rgn [] [[],[],[]] ?_))
 iterate 3 refine op1 tok ?_
 refine qA (AW.block ?_)
 refine AW.beginE 5 5 31 9 (by simp) (by simp) (by conv=>lhs; simp) ?_
 refine AW.loop (α:=Nat) (fun k=>k≤v.keys.length) (fun k=>⟨qV 32 [(1,.ptr 1 0),(4,.p (.sl 1 ((zL v.keys).map PD.str))),(5,.ms 5),(12,.p (.sl 1 ((zL v.keys).map PD.str))),(13,.p (.int .i64 v.keys.length)),(14,.p (.int .i64 k))],[],[(1,.vars 31 v.cells),(5,.row 31 9 (((kC v).take k).map Val.enc))],0⟩) (fun k=>v.keys.length-k) (0) (by omega) ⟨qB (by simp [hsl]),rfl,by simp,by simp⟩ ?_
 rintro k hk
 refine rgn [] [[]] ?_
 refine op1 tok ?_
 refine qA (AW.seq (cnd ?_ ?_))
 ·intro h15
  try simp at h15
  obtain ⟨s,hs⟩:∃ s,(zL v.keys)[k]?=some s:=⟨(zL v.keys)[k]'(by omega),by simp [show k<(zL v.keys).length by omega]⟩
  have hm:s∈v.keys:=qGJ.1 (List.mem_of_getElem? hs)
  have hkid:=qKN hl hm
  have hi:=hix s
  unfold zJF at hi
  rw [if_pos hm] at hi
  refine AW.skip (AW.seq (AW.block ?_))
  have hks:(kC v)[k]?=some (qBW v s):=by simp [kC,hs]
  generalize hkv:kC v=kv at *
  have hkl:(kv.take k).length≤k:=List.length_take_le _ _
  refine rgn [.str s] [[],[],[1,4,5,7,12,13,14]] ?_
  iterate 3 refine op1 tok ?_ (hv:=by first | with_reducible exact True.intro | (simp [hs]; done) | omega | simp | (simp +contextual; omega))
  refine qA ?_
  refine AW.runDrawK tok mixed [1,4,5,12,13,14] 11 [[5],[1],[19],[1],[21],[7],[22,23],[20,24],[25],[26],[18,27]] [.nilp,.int .i64 (v.keys.idxOf s),(qBW v s).enc,(qBW v s).enc] [] (by kernel_rfl) (by intro C; conv=>lhs; simp) (by (simp [hkid]; exact ⟨hi,by omega⟩)) (by simp [Sm.sum,Sm.foot,Sm.tch,Sm.refs]; kernel_rfl) (by intro C; conv=>lhs; simp) (by first | with_reducible exact True.intro | omega | simp | (simp +contextual; omega)) ?_
  refine AW.renE 28 5 (by simp) (by conv=>lhs; simp) ?_
  refine rgz [] [[],[1,4,5,12,13,14]] ?_
  iterate 2 refine op1 tok ?_
  refine qA ?_
  exact ⟨k+1,by omega,by omega,qB (by simp [List.take_add_one,hks]),rfl,by simp [List.take_add_one,hks],by simp [List.take_add_one,hks]⟩
 intro h15
 try simp at h15
 have hkl:(kC v).length=v.keys.length:=by simp [kC,hsl]
 refine AW.exit ?_
 simp
 refine AW.freezeE 5 (by conv=>lhs; simp) ?_
 refine rgn [] [[],[],[],[2,3]] ?_
 iterate 4 refine op1 tok ?_
 refine qA ?_
 exact AW.ret (qG (k:=by simp; rw [List.take_of_length_le (by simp; omega)]))
def kT:Nat→Val→Val→Int
 | 0,_,_=>0
 | f+1,a,b=>if a.kind≠b.kind then xG a.kind b.kind else if a.kind=4 then qBN a.num b.num else if a.kind=5 then Lib.compareBytes a.text b.text else if a.kind=6 then zX (kT f) a.kids b.kids
  else if a.kind=8 then xG a.code b.code
  else if a.kind=7 then (if zX wW (zL a.keys) (zL b.keys)≠0 then zX wW (zL a.keys) (zL b.keys) else zX (kT f) (kC a) (kC b)) else 0
theorem qGS {v x:Val} (hl:v.keys.length≤v.kids.length) (h:x∈kC v):x∈v.kids:=by
 obtain ⟨s,hs,rfl⟩:=List.mem_map.1 h
 exact List.mem_of_getElem? (qKN hl (qGJ.1 hs))
theorem zAU (f:Nat) (a b:Val) (ha:qS a=true) (hb:qS b=true) (ih:∀ x∈a.kids, ∀ y∈b.kids,AFn Tryz.prog G 41 [x.enc,y.enc] (.int .i64 (kT f x y))):AFn Tryz.prog G 41 [a.enc,b.enc] (.int .i64 (kT (f+1) a b)):=by
 refine AFn.introU tok Tryz.func41 (by kernel_rfl) rfl rfl ?_
 simp only [Tryz.f41,qI,List.map_cons,List.map_nil]
 have hki:=zRI (G:=G) a.kind b.kind
 have hce:=zRJ (G:=G) a.code b.code
 have hst:=zEE (G:=G) a.text b.text
 refine rgn [] [[],[],[2,3]] ?_
 iterate 3 refine op1 tok ?_
 refine qA (AW.seq (rgn [] [[],[],[],[],[2,3,13]] ?_))
 iterate 5 refine op1 tok ?_
 refine qA (cnd ?_ ?_)
 ·intro h13
  try simp at h13
  have hR:kT (f+1) a b=xG a.kind b.kind:=by simp only [kT]; rw [if_pos h13]
  refine rgn [.nilp,.int .i64 (xG a.kind b.kind)] [[],[],[],[15,17],[],[4]] ?_
  iterate 6 refine oq1 tok hki ?_
  refine qA ?_
  exact AW.ret (qG (k:=by simp [hR]))
 intro h13
 try simp at h13
 have hkd:¬ a.kind≠b.kind:=by simpa using h13
 refine AW.skip (AW.seq (rgn [] [[],[2,3,20]] ?_))
 iterate 2 refine op1 tok ?_
 refine qA (AW.block (rgn [] [[],[2,3,20,21]] ?_))
 iterate 2 refine op1 tok ?_
 refine qA (cnd ?_ ?_)
 ·intro h21
  try simp at h21
  have hR:kT (f+1) a b=qBN a.num b.num:=by simp only [kT]; rw [if_neg hkd,if_pos h21]
  have hnum:=zRK (G:=G) a.num b.num (zF (yW ha h21)).1 (zF (yW hb (by omega))).1
  refine rgn [.nilp,.int .i64 (qBN a.num b.num)] [[],[],[],[24,26],[],[4]] ?_
  iterate 6 refine op1 tok ?_ (hv:=by first | with_reducible exact True.intro | ((simp at hnum ⊢; exact hnum); done) | omega | simp | (simp +contextual; omega))
  refine qA ?_
  exact AW.ret (qG (k:=by simp [hR]))
 intro h21
 try simp at h21
 refine rgn [] [[],[2,3,20,28]] ?_
 iterate 2 refine op1 tok ?_
 refine qA (cnd ?_ ?_)
 ·intro h28
  try simp at h28
  have hR:kT (f+1) a b=Lib.compareBytes a.text b.text:=by simp only [kT]; rw [if_neg hkd,if_neg h21,if_pos h28]
  refine rgn [.nilp,.int .i64 (Lib.compareBytes a.text b.text)] [[],[],[],[31,33],[],[4]] ?_
  iterate 6 refine oq1 tok hst ?_
  refine qA ?_
  exact AW.ret (qG (k:=by simp [hR]))
 intro h28
 try simp at h28
 refine rgn [] [[],[2,3,20,35]] ?_
 iterate 2 refine op1 tok ?_
 refine qA (cnd ?_ ?_)
 ·intro h35
  try simp at h35
  have hR:kT (f+1) a b=zX (kT f) a.kids b.kids:=by simp only [kT]; rw [if_neg hkd,if_neg h21,if_neg h28,if_pos h35]
  have hcl:=zAV (G:=G) a.kids b.kids 41 (kT f) ih
  refine rgn [.nilp,.int .i64 (zX (kT f) a.kids b.kids)] [[],[],[],[38,40],[],[4]] ?_
  iterate 6 refine oq1 tok hcl ?_
  refine qA ?_
  exact AW.ret (qG (k:=by simp [hR]))
 intro h35
 try simp at h35
 refine rgn [] [[],[2,3,20,42]] ?_
 iterate 2 refine op1 tok ?_
 refine qA (cnd ?_ ?_)
 ·intro h42
  try simp at h42
  have hR:kT (f+1) a b=xG a.code b.code:=by simp only [kT]; rw [if_neg hkd,if_neg h21,if_neg h28,if_neg h35,if_pos h42]
  refine rgn [.nilp,.int .i64 (xG a.code b.code)] [[],[],[],[45,47],[],[4]] ?_
  iterate 6 refine oq1 tok hce ?_
  refine qA ?_
  exact AW.ret (qG (k:=by simp [hR]))
 intro h42
 try simp at h42
 refine rgn [] [[],[2,3,49]] ?_
 iterate 2 refine op1 tok ?_
 refine qA (cnd ?_ ?_)
 ·intro h49
  try simp at h49
  have hR:kT (f+1) a b=(if zX wW (zL a.keys) (zL b.keys)≠0 then zX wW (zL a.keys) (zL b.keys) else zX (kT f) (kC a) (kC b)):=by simp only [kT]; rw [if_neg hkd,if_neg h21,if_neg h28,if_neg h35,if_neg h42,if_pos h49]
  have hoa:=jW ha h49
  have hob:=jW hb (by omega)
  have hsa:=qNN (G:=G) a (by omega) (by omega)
  have hsb:=qNN (G:=G) b (by omega) (by omega)
  have hcs:=zOJ (G:=G) (zL a.keys) (zL b.keys)
  have hcl:=zAV (G:=G) (kC a) (kC b) 41 (kT f) fun x hx y hy=>ih x (qGS (by omega) hx) y (qGS (by omega) hy)
  have hor:=zTY (G:=G) (zX wW (zL a.keys) (zL b.keys)) (zX (kT f) (kC a) (kC b))
  rw [← hR] at hor
  refine rgn [.nilp,.tup [.sl 1 ((zL a.keys).map PD.str),.sl 9 ((kC a).map Val.enc)]] [[],[],[],[],[3,54,55],[],[3,5,6]] ?_
  iterate 7 refine op1 tok ?_ (hv:=by first | with_reducible exact True.intro | ((simp at hsa ⊢; exact hsa); done) | omega | simp | (simp +contextual; omega))
  refine qA (rgn [.nilp,.tup [.sl 1 ((zL b.keys).map PD.str),.sl 9 ((kC b).map Val.enc)]] [[],[],[],[],[5,6,59,60],[],[5,6,7,8]] ?_)
  iterate 7 refine op1 tok ?_ (hv:=by first | with_reducible exact True.intro | ((simp at hsb ⊢; exact hsb); done) | omega | simp | (simp +contextual; omega))
  refine qA (rgn [.nilp,.int .i64 (zX wW (zL a.keys) (zL b.keys)),.nilp,.int .i64 (zX (kT f) (kC a) (kC b)),.int .i64 (zX wW (zL a.keys) (zL b.keys)),.int .i64 (zX (kT f) (kC a) (kC b)),.nilp,.int .i64 (kT (f+1) a b)] [[],[],[6,8,63],[],[],[63,66],[],[],[4]] ?_)
  iterate 9 refine oq1 tok (ai hcs (ai hcl hor)) ?_
  exact qA (AW.ret qG)
 intro h49
 try simp at h49
 have hR:kT (f+1) a b=0:=by simp only [kT]; rw [if_neg hkd,if_neg h21,if_neg h28,if_neg h35,if_neg h42,if_neg h49]
 refine AW.skip (rgn [] [[]] ?_)
 refine op1 tok ?_
 refine qA ?_
 exact AW.ret (qG (k:=by simp [hR]))
theorem zFY:∀ (f:Nat) (a b:Val),qS a=true→qS b=true→Val.sz a≤f→AFn Tryz.prog G 41 [a.enc,b.enc] (.int .i64 (kT (f+1) a b))
 | 0,a,b,ha,hb,h=>zAU 0 a b ha hb fun x hx=>by have:=Val.sz_kid hx; omega
 | f+1,a,b,ha,hb,h=>zAU (f+1) a b ha hb fun x hx y hy=>zFY f x y (yG ha hx) (yG hb hy) (by have:=Val.sz_kid hx; omega)
def vL (a b:Val):Int:=kT (Val.sz a+1) a b
theorem zFX (a b:Val) (ha:qS a=true) (hb:qS b=true):AFn Tryz.prog G 41 [a.enc,b.enc] (.int .i64 (vL a b)):=zFY _ a b ha hb (Nat.le_refl _)
structure Ord {α:Type} (p:α→α→Int) (S:α→Prop):Prop where
 anti:∀ x y,S x→S y→p x y = - p y x
 tr:∀ x y z,S x→S y→S z→p x y≤0→p y z≤0→p x z≤0
theorem Ord.refl {α:Type} {p:α→α→Int} {S:α→Prop} (h:Ord p S) {x:α} (hx:S x):p x x=0:=by have:=h.anti x x hx hx; omega
theorem Ord.lt_le {α:Type} {p:α→α→Int} {S:α→Prop} (h:Ord p S) {x y z:α} (hx:S x) (hy:S y) (hz:S z) (h1:p x y<0) (h2:p y z≤0):p x z<0:=by
 have h3:=h.tr x y z hx hy hz (by omega) h2
 by_cases h4:p x z=0
 ·have a1:=h.anti x z hx hz
  have a2:=h.anti x y hx hy
  have:=h.tr y z x hy hz hx h2 (by omega)
  omega
 omega
theorem Ord.le_lt {α:Type} {p:α→α→Int} {S:α→Prop} (h:Ord p S) {x y z:α} (hx:S x) (hy:S y) (hz:S z) (h1:p x y≤0) (h2:p y z<0):p x z<0:=by
 have h3:=h.tr x y z hx hy hz h1 (by omega)
 by_cases h4:p x z=0
 ·have a1:=h.anti x z hx hz
  have a2:=h.anti y z hy hz
  have:=h.tr z x y hz hx hy (by omega) h1
  omega
 omega
theorem Ord.eq_eq {α:Type} {p:α→α→Int} {S:α→Prop} (h:Ord p S) {x y z:α} (hx:S x) (hy:S y) (hz:S z) (h1:p x y=0) (h2:p y z=0):p x z=0:=by
 have a1:=h.anti x y hx hy
 have a2:=h.anti y z hy hz
 have a3:=h.anti x z hx hz
 have:=h.tr x y z hx hy hz (by omega) (by omega)
 have:=h.tr z y x hz hy hx (by omega) (by omega)
 omega
theorem Ord.then {α:Type} {p q:α→α→Int} {S:α→Prop} (hp:Ord p S) (hq:Ord q S):Ord (fun x y=>if p x y≠0 then p x y else q x y) S:=by
 refine ⟨fun x y hx hy => ?_,fun x y z hx hy hz h1 h2 => ?_⟩
 ·have a1:=hp.anti x y hx hy
  have a2:=hq.anti x y hx hy
  by_cases h:p x y=0
  ·rw [if_neg (by omega),if_neg (by omega)]; exact a2
  rw [if_pos h,if_pos (by omega)]; exact a1
 by_cases e1:p x y=0
 ·rw [if_neg (by omega)] at h1
  by_cases e2:p y z=0
  ·rw [if_neg (by omega)] at h2
   rw [if_neg (by have:=hp.eq_eq hx hy hz e1 e2; omega)]
   exact hq.tr x y z hx hy hz h1 h2
  rw [if_pos e2] at h2
  have:=hp.le_lt hx hy hz (by omega) (show p y z<0 by omega)
  rw [if_pos (by omega)]; omega
 rw [if_pos e1] at h1
 by_cases e2:p y z=0
 ·have:=hp.lt_le hx hy hz (show p x y<0 by omega) (by omega)
  rw [if_pos (by omega)]; omega
 rw [if_pos e2] at h2
 have:=hp.lt_le hx hy hz (show p x y<0 by omega) h2
 rw [if_pos (by omega)]; omega
theorem Ord.of_key {α:Type} {p:α→α→Int} {S:α→Prop} (k:α→Int) (h:∀ x y,S x→S y→p x y=sgn (k x-k y)):Ord p S:=by
 refine ⟨fun x y hx hy => ?_,fun x y z hx hy hz h1 h2 => ?_⟩
 ·rw [h x y hx hy,h y x hy hx]; unfold sgn; (repeat' split) <;> omega
 rw [h x y hx hy] at h1; rw [h y z hy hz] at h2; rw [h x z hx hz]
 have e1 : k x ≤ k y := by unfold sgn at h1; split at h1; · omega
                           ·split at h1 <;> omega
 have e2 : k y ≤ k z := by unfold sgn at h2; split at h2; · omega
                           ·split at h2 <;> omega
 unfold sgn; split; · omega
 split <;> omega
theorem zOL (a b:Int):xG a b=sgn (a-b):=by unfold xG sgn; (repeat' split) <;> omega
theorem Ord.map {α β:Type} {p:β→β→Int} {S:β→Prop} (h:Ord p S) (f:α→β) {S':α→Prop} (hS:∀ x,S' x→S (f x)):Ord (fun x y=>p (f x) (f y)) S' :=
 ⟨fun x y hx hy=>h.anti _ _ (hS x hx) (hS y hy),fun x y z hx hy hz=>h.tr _ _ _ (hS x hx) (hS y hy) (hS z hz)⟩
theorem Ord.list {α:Type} {p:α→α→Int} {S:α→Prop} (h:Ord p S):Ord (zX p) (fun l=>∀ x∈l,S x):=by
 constructor
 ·intro l
  induction l with
  | nil=>intro m _ _; cases m <;> simp [zX]
  | cons x l ih =>
   intro m hl hm
   cases m with
   | nil=>simp [zX]
   | cons y m =>
    simp only [zX]
    have a:=h.anti x y (hl x (by simp)) (hm y (by simp))
    have:=ih m (fun z hz=>hl z (by simp [hz])) (fun z hz=>hm z (by simp [hz]))
    by_cases e:p x y=0
    ·rw [if_neg (by omega),if_neg (by omega)]; exact this
    rw [if_pos e,if_pos (by omega)]; exact a
 intro l
 induction l with
 | nil=>intro m n _ _ _ _ _; cases n <;> simp [zX]
 | cons x l ih =>
  intro m n hl hm hn h1 h2
  cases m with
  | nil=>simp [zX] at h1
  | cons y m =>
   cases n with
   | nil=>simp [zX] at h2
   | cons z n =>
    have sx:=hl x (by simp); have sy:=hm y (by simp); have sz:=hn z (by simp)
    simp only [zX] at h1 h2 ⊢
    by_cases e1:p x y=0
    ·rw [if_neg (by omega)] at h1
     by_cases e2:p y z=0
     ·rw [if_neg (by omega)] at h2
      rw [if_neg (by have:=h.eq_eq sx sy sz e1 e2; omega)]
      exact ih m n (fun w hw=>hl w (by simp [hw])) (fun w hw=>hm w (by simp [hw])) (fun w hw=>hn w (by simp [hw])) h1 h2
     rw [if_pos e2] at h2
     have:=h.le_lt sx sy sz (by omega) (show p y z<0 by omega)
     rw [if_pos (by omega)]; omega
    rw [if_pos e1] at h1
    by_cases e2:p y z=0
    ·have:=h.lt_le sx sy sz (show p x y<0 by omega) (by omega)
     rw [if_pos (by omega)]; omega
    rw [if_pos e2] at h2
    have:=h.lt_le sx sy sz (show p x y<0 by omega) h2
    rw [if_pos (by omega)]; omega
def qFZ (a b:List UInt8):Int:=zX (fun x y:UInt8=>xG x.toNat y.toNat) a b
theorem zDV:Ord qFZ (fun _=>True) :=
 let h:=(Ord.of_key (p:=fun x y:UInt8=>xG x.toNat y.toNat) (S:=fun _=>True) (fun x=>(x.toNat:Int)) fun x y _ _=>zOL _ _).list
 ⟨fun x y _ _=>h.anti x y (fun _ _=>trivial) (fun _ _=>trivial),fun x y z _ _ _=>h.tr x y z (fun _ _=>trivial) (fun _ _=>trivial) (fun _ _=>trivial)⟩
theorem qMF (a b:UInt8) (al bs:List UInt8):qFZ (a::al) (b::bs)=if xG a.toNat b.toNat≠0 then xG a.toNat b.toNat else qFZ al bs:=rfl
theorem qMX {a b:Int} (h:a<b):xG a b = -1:=if_pos h
theorem qMY {a b:Int} (h:b<a):xG a b=1:=by unfold xG; rw [if_neg (by omega),if_pos h]
theorem qDJ (a:Int):xG a a=0:=by unfold xG; rw [if_neg (by omega),if_neg (by omega)]
theorem qEV:∀ a b:List UInt8,Lib.compareBytes a b=qFZ a b
 | [],[]=>rfl
 | [],_::_=>rfl
 | _::_,[]=>rfl
 | a::al,b::bs=>by
  simp only [Lib.compareBytes,qMF,UInt8.lt_iff_toNat_lt]
  by_cases h1:a.toNat<b.toNat
  ·rw [if_pos h1,qMX (by omega)]; simp
  by_cases h2:b.toNat<a.toNat
  ·rw [if_neg h1,if_pos h2,qMY (by omega)]; simp
  rw [if_neg h1,if_neg h2,show a.toNat=b.toNat by omega,qDJ]; simpa using qEV al bs
theorem qWK:∀ a b:List UInt8,wW a b=qFZ a b
 | [],[]=>rfl
 | [],b::bs=>by simp [wW,Op.bytesLess,qFZ,zX]
 | a::al,[]=>by simp [wW,Op.bytesLess,qFZ,zX]
 | a::al,b::bs=>by
  have ih:=qWK al bs
  rw [qMF,← ih]
  by_cases h1:a.toNat<b.toNat
  ·rw [qMX (by omega)]; simp [wW,Op.bytesLess,UInt8.lt_iff_toNat_lt,h1]
  by_cases h2:b.toNat<a.toNat
  ·have hne:a≠b:=by rintro rfl; omega
   rw [qMY (by omega)]; simp [wW,Op.bytesLess,UInt8.lt_iff_toNat_lt,h1,hne]
  have he:a=b:=UInt8.toNat_inj.1 (by omega)
  subst he
  rw [qDJ]; simp [wW,Op.bytesLess]
theorem qJN:Ord wW (fun _=>True):=by
 rw [show wW=qFZ from funext fun a=>funext fun b=>qWK a b]; exact zDV
def zOQ (f:Nat) (k:Int) (a b:Val):Int :=
 if k=4 then qBN a.num b.num else if k=5 then Lib.compareBytes a.text b.text else if k=6 then zX (kT f) a.kids b.kids
 else if k=8 then xG a.code b.code
 else if k=7 then (if zX wW (zL a.keys) (zL b.keys)≠0 then zX wW (zL a.keys) (zL b.keys) else zX (kT f) (kC a) (kC b)) else 0
theorem zJT (f:Nat) (a b:Val):kT (f+1) a b=if xG a.kind b.kind≠0 then xG a.kind b.kind else zOQ f a.kind a b:=by
 simp only [kT,zOQ]
 by_cases h:a.kind=b.kind
 ·rw [if_neg (by simpa using h),h,qDJ]; simp
 ·rw [if_pos h, if_pos (by unfold xG; split; · omega
                           ·split <;> omega)]
theorem zJS {a b : Int} (h : xG a b = 0) : a = b := by unfold xG at h; split at h; · omega
                                                       ·split at h <;> omega
mutual
def qAY (ch:Val→Val):Val→Val
 | .mk k m n t ks vs c=>ch (.mk k m n t ks (qZM ch vs) c)
def qZM (ch:Val→Val):List Val→List Val
 | []=>[]
 | v::vs=>qAY ch v::qZM ch vs
end
theorem qSV (ch:Val→Val):∀ l,qZM ch l=l.map (qAY ch)
 | []=>by simp [qZM]
 | v::vs=>by simp [qZM,qSV ch vs]
theorem qVV (ch:Val→Val) (v:Val):qAY ch v=ch (.mk v.kind v.mask v.num v.text v.keys (v.kids.map (qAY ch)) v.code):=by
 cases v; simp only [qAY,qSV,Val.kind_mk,Val.mask_mk,Val.num_mk,Val.text_mk,Val.keys_mk,Val.kids_mk,Val.code_mk]
theorem wZ {v:Val} (h:qS v=true):v.keys.length≤200∧v.kids.length≤200:=by
 by_cases h7:v.kind=7
 ·have:=jW h h7; omega
 rw [jX] at h
 simp only [Bool.and_eq_true,qAM,qAA,qFM,decide_eq_true_eq] at h
 obtain ⟨⟨h1,⟨⟨_,h2⟩,_⟩⟩,_⟩:=h
 rw [if_neg h7] at h2
 simp at h2
 rw [h2]; simp; omega
def qJS (u:Val):Val := .mk u.kind 0 u.num u.text u.keys u.kids u.code
def qGB (v:Val):Val:=qAY qJS v
def InM (a:Int):Prop:=0≤a∧a<18446744073709551616
def kR (a:Int):Nat:=(a % 18446744073709551616).toNat
theorem qVR (a:Int):kR a<2 ^ 64:=by unfold kR; omega
theorem zFC {a:Int} (h:InM a):((kR a:Nat):Int)=a:=by unfold kR; unfold InM at h; omega
theorem qSO {n:Nat} (h:n<2 ^ 64):kR n=n:=by unfold kR; omega
def orM (a b:Int):Int:=((kR a ||| kR b:Nat):Int)
def zZB (a b:Int):Int:=((kR a &&& kR b:Nat):Int)
def zYE (a b:Int):Int:=((kR a &&& (18446744073709551615-kR b):Nat):Int)
theorem zMI (a b:Int):kR a ||| kR b<2 ^ 64:=Nat.or_lt_two_pow (qVR a) (qVR b)
theorem qMQ (a b:Int):kR (orM a b)=kR a ||| kR b:=qSO (zMI a b)
theorem zKJ {n:Nat} (h:n<2 ^ 64):IntKind.u64.wrap (n:Int)=n:=by simp [IntKind.wrap,IntKind.bits,IntKind.signed]; omega
theorem zB (a b:Int):IntKind.u64.wrap (((a % 2 ^ IntKind.u64.bits).toNat ||| (b % 2 ^ IntKind.u64.bits).toNat:Nat):Int)=orM a b:=zKJ (zMI a b)
theorem or_assoc (a b c:Int):orM (orM a b) c=orM a (orM b c):=by
 show ((kR (orM a b) ||| kR c:Nat):Int)=((kR a ||| kR (orM b c):Nat):Int)
 rw [qMQ,qMQ,Nat.or_assoc]
theorem or_self {a:Int} (h:InM a):orM a a=a:=by unfold orM; rw [Nat.or_self,zFC h]
def LeM (a b:Int):Prop:=orM a b=b
theorem LeM.or_left (a b:Int):LeM a (orM a b):=by
 unfold LeM; rw [← or_assoc]
 unfold orM; rw [qSO (zMI a a),Nat.or_self]
theorem LeM.trans {a b c:Int} (h1:LeM a b) (h2:LeM b c):LeM a c:=by
 unfold LeM at *; rw [← h2,← or_assoc,h1]
theorem LeM.or {a b c:Int} (h1:LeM a c) (h2:LeM b c):LeM (orM a b) c:=by
 unfold LeM at *; rw [or_assoc,h2,h1]
theorem LeM.refl {a:Int} (h:InM a):LeM a a:=or_self h
theorem LeM.and {a b:Int} (h:LeM a b) (ha:InM a):zZB b a=a:=by
 unfold LeM at h
 have h1:kR a ||| kR b=kR b:=by rw [← qMQ,h]
 unfold zZB
 have:kR b &&& kR a=kR a:=by
  rw [← h1]
  apply Nat.eq_of_testBit_eq; intro i
  simp only [Nat.testBit_and,Nat.testBit_or]
  cases (kR a).testBit i <;> cases (kR b).testBit i <;> rfl
 rw [this,zFC ha]
theorem LeM.sub {a b:Int} (h:LeM a b):zYE a b=0:=by
 unfold LeM at h
 have h1:kR a ||| kR b=kR b:=by rw [← qMQ,h]
 have hb:=qVR b
 unfold zYE
 have:kR a &&& (18446744073709551615-kR b)=0:=by
  apply Nat.eq_of_testBit_eq; intro i
  rw [show 18446744073709551615-kR b=2 ^ 64-(kR b+1) by omega]
  simp only [Nat.testBit_and,Nat.testBit_two_pow_sub_succ hb,Nat.zero_testBit]
  have h3:(kR a ||| kR b).testBit i=(kR b).testBit i:=by rw [h1]
  rw [Nat.testBit_or] at h3
  revert h3
  cases (kR a).testBit i <;> cases (kR b).testBit i <;> simp
 rw [this]; rfl
def yR:Val := .mk 0 0 dc0 [] [] [] 0
@[simp] theorem zSM:yR.kind=0:=rfl
@[simp] theorem zSL:yR.mask=0:=rfl
@[simp] theorem zVD:yR.num.neg=false:=rfl
@[simp] theorem zPJ:yR.num.digits=[]:=rfl
@[simp] theorem zRY:yR.num.scale=0:=rfl
@[simp] theorem zSK:yR.text=[]:=rfl
@[simp] theorem zSO:yR.keys=[]:=rfl
@[simp] theorem zSN:yR.kids=[]:=rfl
@[simp] theorem zSP:yR.code=0:=rfl
@[simp] def zRZ:List V:=[.p (.int .i64 0),.p (.int .u64 0),.p (.bool false),.p (.str []),.p (.int .i64 0),.p (.str []),.nilsl,.nilsl,.p (.int .i64 0)]
def qQW (v:Val) (m:Int):Val := .mk v.kind m v.num v.text v.keys v.kids v.code
@[simp] theorem zVI (u:Val) (m:Int):(qQW u m).kind=u.kind:=rfl
@[simp] theorem zVH (u:Val) (m:Int):(qQW u m).mask=m:=rfl
@[simp] theorem zYG (u:Val) (m:Int):(qQW u m).num=u.num:=rfl
@[simp] theorem zVG (u:Val) (m:Int):(qQW u m).text=u.text:=rfl
@[simp] theorem zVK (u:Val) (m:Int):(qQW u m).keys=u.keys:=rfl
@[simp] theorem zVJ (u:Val) (m:Int):(qQW u m).kids=u.kids:=rfl
@[simp] theorem zVL (u:Val) (m:Int):(qQW u m).code=u.code:=rfl
def qYI (v:Val) (l:List Val):Val := .mk v.kind v.mask v.num v.text v.keys l v.code
@[simp] theorem zVO (u:Val) (m:List Val):(qYI u m).kind=u.kind:=rfl
@[simp] theorem zVN (u:Val) (m:List Val):(qYI u m).mask=u.mask:=rfl
@[simp] theorem zYH (u:Val) (m:List Val):(qYI u m).num=u.num:=rfl
@[simp] theorem zVM (u:Val) (m:List Val):(qYI u m).text=u.text:=rfl
@[simp] theorem zVQ (u:Val) (m:List Val):(qYI u m).keys=u.keys:=rfl
@[simp] theorem zVP (u:Val) (m:List Val):(qYI u m).kids=m:=rfl
@[simp] theorem zVR (u:Val) (m:List Val):(qYI u m).code=u.code:=rfl
def vD (v:Val) (m:Int):Val:=qQW v (orM v.mask m)
@[simp] theorem zSU (u:Val) (m:Int):(vD u m).kind=u.kind:=rfl
@[simp] theorem zST (u:Val) (m:Int):(vD u m).mask=orM u.mask m:=rfl
@[simp] theorem zVE (u:Val) (m:Int):(vD u m).num=u.num:=rfl
@[simp] theorem zSS (u:Val) (m:Int):(vD u m).text=u.text:=rfl
@[simp] theorem zSW (u:Val) (m:Int):(vD u m).keys=u.keys:=rfl
@[simp] theorem zSV (u:Val) (m:Int):(vD u m).kids=u.kids:=rfl
@[simp] theorem zSX (u:Val) (m:Int):(vD u m).code=u.code:=rfl
theorem vB (v:Val):qGB v=qYI (qQW v 0) (v.kids.map qGB):=by
 show qAY qJS v=_
 rw [qVV]; rfl
@[simp] theorem zUN (u:Val):(qGB u).kind=u.kind:=by rw [vB]; rfl
@[simp] theorem zUM (u:Val):(qGB u).mask=0:=by rw [vB]; rfl
@[simp] theorem zVY (u:Val):(qGB u).num=u.num:=by rw [vB]; rfl
@[simp] theorem zUL (u:Val):(qGB u).text=u.text:=by rw [vB]; rfl
@[simp] theorem zUP (u:Val):(qGB u).keys=u.keys:=by rw [vB]; rfl
@[simp] theorem zUO (u:Val):(qGB u).kids=u.kids.map qGB:=by rw [vB]; rfl
@[simp] theorem zUQ (u:Val):(qGB u).code=u.code:=by rw [vB]; rfl
theorem qVU (v:Val):qAY id v=v:=by
 induction v using Val.induct with
 | h v ih =>
  rw [qVV]
  have:v.kids.map (qAY id)=v.kids:=by
   conv=>rhs; rw [← List.map_id v.kids]
   exact List.map_congr_left fun k hk=>ih k hk
  rw [this]; cases v; rfl
mutual
def qU:Val→Int
 | .mk _ m _ _ _ vs _=>qBF m vs
def qBF (m:Int):List Val→Int
 | []=>m
 | v::vs=>qBF (orM m (qU v)) vs
end
theorem qQA (v:Val):qU v=qBF v.mask v.kids:=by cases v; simp only [qU,Val.mask_mk,Val.kids_mk]
theorem qWI (l:List Val) (x:Val):∀ m,qBF m (l++[x])=orM (qBF m l) (qU x):=by
 induction l with
 | nil=>intro m; simp only [List.nil_append,qBF]
 | cons y l ih=>intro m; simp only [List.cons_append,qBF,ih]
theorem uJ {m:Int} {l:List Val} {k:Nat} {x:Val} (h:l[k]?=some x):qBF m (l.take (k+1))=orM (qBF m (l.take k)) (qU x):=by
 rw [List.take_add_one,h]; exact qWI _ _ _
@[simp] theorem zVV (m:Int):qBF m []=m:=by simp only [qBF]
mutual
def InV:Val→Prop
 | .mk _ m _ _ _ vs _=>InM m∧zPE vs
def zPE:List Val→Prop
 | []=>True
 | v::vs=>InV v∧zPE vs
end
theorem zBM:∀ l,zPE l↔∀ v∈l,InV v
 | []=>by simp [zPE]
 | v::vs=>by simp [zPE,zBM vs]
theorem zRU (v:Val):InV v↔InM v.mask∧∀ k∈v.kids,InV k:=by cases v; simp only [InV,zBM,Val.mask_mk,Val.kids_mk]
theorem zPD {v:Val} (h:InV v):InM v.mask:=((zRU v).1 h).1
mutual
def zYW:Val→Nat
 | .mk _ _ _ _ _ vs _=>zRE 0 vs+1
def zRE (d:Nat):List Val→Nat
 | []=>d
 | v::vs=>zRE (max d (zYW v)) vs
end
@[simp] theorem zYX (m:Nat):zRE m []=m:=by simp only [zRE]
theorem zLE (v:Val):Val.sz v=1+Val.szL v.kids:=by cases v; simp only [Val.sz,Val.kids_mk]
@[simp] theorem zZE:Val.szL []=0:=by simp only [Val.szL]
@[simp] theorem zZD (x:Val):Val.szL [x]=Val.sz x:=by simp only [Val.szL,Nat.add_zero]
theorem zTA (v:Val):1≤Val.sz v:=by rw [zLE]; omega
theorem zEK:∀ l:List Val,l.length≤Val.szL l
 | []=>by simp
 | v::l=>by simp only [Val.szL,List.length_cons]; have:=zEK l; have:=zTA v; omega
theorem zDE {v:Val} {n:Nat} (h:Val.sz v≤n):v.kids.length≤n:=by rw [zLE] at h; have:=zEK v.kids; omega
theorem zAW {α β:Type} {p:β→β→Int} (g:α→β):∀ {l m:List α},zX p (l.map g) (m.map g)=zX (fun x y=>p (g x) (g y)) l m
 | [],[]=>rfl
 | [],_::_=>rfl
 | _::_,[]=>rfl
 | x::l,y::m=>by simp only [List.map_cons,zX,zAW g]
section
variable {α:Type}
variable {le:α→α→Bool}
end
def eqL {α:Type} (p:α→α→Bool):List α→List α→Bool
 | [],[]=>true
 | x::l,y::m=>p x y && eqL p l m
 | _,_=>false
theorem zFQ {α:Type} {p:α→α→Bool}:∀ {l m:List α},eqL p l m=true→l.length=m.length
 | [],[],_=>rfl
 | x::l,y::m,h=>by simp only [eqL,Bool.and_eq_true] at h; simp [zFQ h.2]
 | [],_::_,h=>by simp [eqL] at h
 | _::_,[],h=>by simp [eqL] at h
theorem zAE {α:Type} {p:α→α→Bool} {l m:List α} {k:Nat} {x y:α} (hx:l[k]?=some x) (hy:m[k]?=some y):eqL p (l.drop k) (m.drop k)=(p x y && eqL p (l.drop (k+1)) (m.drop (k+1))):=by
 obtain ⟨h1,rfl⟩:=List.getElem?_eq_some_iff.1 hx
 obtain ⟨h2,rfl⟩:=List.getElem?_eq_some_iff.1 hy
 rw [List.drop_eq_getElem_cons h1,List.drop_eq_getElem_cons h2]; rfl
theorem zFR {α:Type} {p:α→α→Bool} {l m:List α} {k:Nat} (h1:l.length≤k) (h2:l.length=m.length):eqL p (l.drop k) (m.drop k)=true:=by
 rw [List.drop_eq_nil_of_le h1,List.drop_eq_nil_of_le (by omega)]; rfl
theorem qMV {α:Type} {p:α→α→Bool} (hp:∀ x y,p x y=true↔x=y):∀ {l m:List α},eqL p l m=true↔l=m
 | [],[]=>by simp [eqL]
 | x::l,y::m=>by simp [eqL,hp,qMV hp]
 | [],_::_=>by simp [eqL]
 | _::_,[]=>by simp [eqL]
def eqS (a b:List UInt8):Bool:=decide (a=b)
noncomputable def vF (a b:Val):Bool := @decide (a=b) (Classical.propDecidable _)
theorem qAQ (a b:Val):vF a b=true↔a=b:=by unfold vF; exact @decide_eq_true_iff _ (Classical.propDecidable _)
theorem zLJ (a b:Val):vF a b=(decide (a.kind=b.kind) && decide (a.mask=b.mask) && decide (a.num.neg=b.num.neg∧a.num.digits=b.num.digits∧a.num.scale=b.num.scale) && decide (a.text=b.text) && decide (a.code=b.code) && eqL eqS a.keys b.keys && eqL vF a.kids b.kids):=by
 rw [Bool.eq_iff_iff,qAQ]
 simp only [Bool.and_eq_true,decide_eq_true_eq,qMV qAQ,qMV (p:=eqS) (fun x y=>by simp [eqS])]
 constructor
 ·rintro rfl; simp
 rintro ⟨⟨⟨⟨⟨⟨h1,h2⟩,h3⟩,h4⟩,h5⟩,h6⟩,h7⟩
 exact Val.ext h1 h2 (Dc.ext' h3.1 h3.2.1 h3.2.2) h4 h6 h7 h5
theorem zLD (l m:List (List UInt8)):AFn Tryz.prog G 30 [.sl 1 (l.map PD.str),.sl 1 (m.map PD.str)] (.bool (eqL eqS l m)):=by
 refine AFn.introU tok Tryz.func30 (by kernel_rfl) rfl rfl ?_
 simp only [Tryz.f30,qI,List.map_cons,List.map_nil]
 refine rgn [] [[0,1]] ?_
 refine op1 tok ?_
 refine qA (AW.seq (rgn [] [[],[],[],[],[0,1,10]] ?_))
 iterate 5 refine op1 tok ?_
 refine qA (cnd ?_ ?_)
 ·intro h10
  try simp at h10
  have hR:eqL eqS l m=false:=by
   rw [← Bool.not_eq_true]; intro h; have:=zFQ h; omega
  refine rgn [] [[]] ?_
  refine op1 tok ?_
  refine qA ?_
  exact AW.ret (qG (k:=by simp [hR]))
 intro h10
 try simp at h10
 refine AW.skip (AW.seq (rgn [] [[]] ?_))
 refine op1 tok ?_
 refine qA (AW.block ?_)
 refine AW.slFactU (i:=0) rfl (by decide) ?_; intro hlen; simp at hlen
 refine AW.loop (α:=Nat) (fun k=>k≤l.length∧eqL eqS l m=eqL eqS (l.drop k) (m.drop k)) (fun k=>⟨qV 26 [(0,.p (.sl 1 (l.map PD.str))),(1,.p (.sl 1 (m.map PD.str))),(5,.p (.int .i64 k))],[],[],0⟩) (fun k=>l.length-k) (0) ⟨by omega,rfl⟩ ⟨qB (by simp),rfl,by simp,by simp⟩ ?_
 rintro k ⟨hk,hall⟩
 refine AW.seq (rgn [] [[],[],[],[0,1,5,14]] ?_)
 iterate 4 refine op1 tok ?_
 refine qA (cnd ?_ ?_)
 ·intro h14
  try simp at h14
  obtain ⟨x,hx⟩:∃ x,l[k]?=some x:=⟨l[k],by simp [h14]⟩
  obtain ⟨y,hy⟩:∃ y,m[k]?=some y:=⟨m[k]'(by omega),by simp [show k<m.length by omega]⟩
  have hst:=zAE (p:=eqS) hx hy
  refine AW.skip (AW.seq (AW.block ?_))
  refine AW.seqRunDrawK tok mixed [0,1,5,25] 9 [[0],[5],[17,18],[19],[1],[5],[21,22],[23],[20,24]] [.str x,.str y] [] (by kernel_rfl) (by intro C; conv=>lhs; simp) (by simp [hx,hy]) (by simp [Sm.sum,Sm.foot,Sm.tch,Sm.refs]; kernel_rfl) (by intro C; conv=>lhs; simp) (by first | with_reducible exact True.intro | omega | simp | (simp +contextual; omega)) ?_
  refine cnd ?_ ?_
  ·intro h25
   try simp at h25
   have hR:eqL eqS l m=false:=by rw [hall,hst]; simp [eqS,h25]
   refine rgn [] [[]] ?_
   refine op1 tok ?_
   refine qA ?_
   exact AW.ret (qG (k:=by simp [hR]))
  intro h25
  try simp at h25
  have hnx:eqL eqS l m=eqL eqS (l.drop (k+1)) (m.drop (k+1)):=by rw [hall,hst]; simp [eqS,h25]
  refine AW.skip (rgz [] [[],[],[0,1,5]] ?_)
  iterate 3 refine op1 tok ?_
  refine qA ?_
  exact ⟨k+1,⟨by omega,hnx⟩,by omega,qB (by simp),rfl,by simp,by simp⟩
 intro h14
 try simp at h14
 have hR:eqL eqS l m=true:=by rw [hall]; exact zFR (by omega) (by omega)
 refine AW.exit ?_
 simp
 refine rgn [] [[]] ?_
 refine op1 tok ?_
 refine qA ?_
 exact AW.ret (qG (k:=by simp [hR]))
theorem qVF (a b:Val) (hlm:a.kids.length≤1000000) (ih:∀ x∈a.kids, ∀ y∈b.kids,AFn Tryz.prog G 11 [x.enc,y.enc] (.bool (vF x y))):AFn Tryz.prog G 11 [a.enc,b.enc] (.bool (vF a b)):=by
 refine AFn.introU tok Tryz.func11 (by kernel_rfl) rfl rfl ?_
 simp only [Tryz.f11,qI,List.map_cons,List.map_nil]
 have ht:=zLD (G:=G) a.keys b.keys
 refine rgn [] [[],[],[2,3]] ?_
 iterate 3 refine op1 tok ?_
 refine qA (rgn [.nilp,.bool (eqL eqS a.keys b.keys)] [[],[],[],[],[2,3,12],[2,3,5]] ?_)
 iterate 6 refine oq1 tok ht ?_
 refine qA (AW.seq (rgn [] [[],[],[],[],[2,3,5,17],[],[],[],[],[],[2,3,5,18,23],[],[],[],[2,3,5,25,27],[],[],[],[2,3,5,31],[],[],[],[],[],[2,3,5,32,37],[],[],[],[2,3,5,39,41],[],[],[],[2,3,5,45],[],[],[],[2,3,49],[],[],[],[],[],[2,3,50,53,55],[],[],[2,3,58]] ?_))
 iterate 46 first | refine op1 tok ?_ | refine op2 tok ?_
 refine qA (cnd ?_ ?_)
 ·intro h58
  try simp at h58
  have hR:vF a b=false:=by
   rw [← Bool.not_eq_true]; intro h
   have hl:a.kids.length=b.kids.length:=by rw [(qAQ a b).1 h]
   have hk:eqL eqS a.keys b.keys=true:=by rw [(qAQ a b).1 h]; exact (qMV (p:=eqS) (fun x y=>by simp [eqS])).2 rfl
   have:=(qAQ a b).1 h
   subst this
   simp [hk] at h58
  refine rgn [] [[]] ?_
  refine op1 tok ?_
  refine qA ?_
  exact AW.ret (qG (k:=by simp [hR]))
 intro h58
 try simp at h58
 have hE:vF a b=eqL vF a.kids b.kids:=by
  rw [zLJ]; grind
 have hlen:a.kids.length=b.kids.length:=by grind
 refine AW.skip (AW.seq (rgn [] [[]] ?_))
 refine op1 tok ?_
 refine qA (AW.block ?_)
 refine AW.loop (α:=Nat) (fun k=>k≤a.kids.length∧vF a b=eqL vF (a.kids.drop k) (b.kids.drop k)) (fun k=>⟨qV 79 [(2,.ptr 2 0),(3,.ptr 3 0),(6,.p (.int .i64 k))],[],[(2,.vars 31 a.cells),(3,.vars 31 b.cells)],0⟩) (fun k=>a.kids.length-k) (0) ⟨by omega,hE⟩ ⟨qB (by simp),rfl,by simp,by simp⟩ ?_
 rintro k ⟨hk,hall⟩
 refine AW.seq (rgn [] [[],[],[],[],[2,3,6,63]] ?_)
 iterate 5 refine op1 tok ?_
 refine qA (cnd ?_ ?_)
 ·intro h63
  try simp at h63
  obtain ⟨x,hx⟩:∃ x,a.kids[k]?=some x:=⟨a.kids[k],by simp [h63]⟩
  obtain ⟨y,hy⟩:∃ y,b.kids[k]?=some y:=⟨b.kids[k]'(by omega),by simp [show k<b.kids.length by omega]⟩
  have hst:=zAE (p:=vF) hx hy
  have hgv:=ih x (List.mem_of_getElem? hx) y (List.mem_of_getElem? hy)
  simp only [Val.enc_def] at hgv
  refine AW.skip (AW.seq (AW.block ?_))
  refine AW.seqRunDrawK tok mixed [2,3,6,7] 11 [[2],[66],[6],[67,68],[69],[3],[71],[6],[72,73],[74],[70,75]] [x.enc,y.enc,.nilp,.bool (vF x y)] [] (by kernel_rfl) (by intro C; conv=>lhs; simp) (by (simp [hx,hy]; exact hgv)) (by simp [Sm.sum,Sm.foot,Sm.tch,Sm.refs]; kernel_rfl) (by intro C; conv=>lhs; simp) (by first | with_reducible exact True.intro | omega | simp | (simp +contextual; omega)) ?_
  refine rgn [] [[],[2,3,6,78]] ?_
  iterate 2 refine op1 tok ?_
  refine qA (cnd ?_ ?_)
  ·intro h78
   try simp at h78
   have hR:vF a b=false:=by rw [hall,hst]; simp [h78]
   refine rgn [] [[]] ?_
   refine op1 tok ?_
   refine qA ?_
   exact AW.ret (qG (k:=by simp [hR]))
  intro h78
  try simp at h78
  have hnx:vF a b=eqL vF (a.kids.drop (k+1)) (b.kids.drop (k+1)):=by rw [hall,hst]; simp [h78]
  refine AW.skip (rgz [] [[],[],[2,3,6]] ?_)
  iterate 3 refine op1 tok ?_
  refine qA ?_
  exact ⟨k+1,⟨by omega,hnx⟩,by omega,qB (by simp),rfl,by simp,by simp⟩
 intro h63
 try simp at h63
 have hR:vF a b=true:=by rw [hall]; exact zFR (by omega) (by omega)
 refine AW.exit ?_
 simp
 refine rgn [] [[]] ?_
 refine op1 tok ?_
 refine qA ?_
 exact AW.ret (qG (k:=by simp [hR]))
theorem zCK (a:Val):qS a=true→∀ b,AFn Tryz.prog G 11 [a.enc,b.enc] (.bool (vF a b)) :=
 Val.induct (p:=fun a=>qS a=true→∀ b,AFn Tryz.prog G 11 [a.enc,b.enc] (.bool (vF a b))) (fun a ih ha b=>qVF a b (by have:=wZ ha; omega) fun x hx y _=>ih x hx (yG ha hx) y) a
theorem qVG (v:Val) (hlm:v.kids.length≤1000000) (ih:∀ k∈v.kids,AFn Tryz.prog G 16 [k.enc] (.int .u64 (qU k))):AFn Tryz.prog G 16 [v.enc] (.int .u64 (qU v)):=by
 refine AFn.introU tok Tryz.func16 (by kernel_rfl) rfl rfl ?_
 simp only [Tryz.f16,qI,List.map_cons,List.map_nil]
 refine rgn [] [[],[1]] ?_
 iterate 2 refine op1 tok ?_
 refine qA (rgn [] [[],[],[1,3]] ?_)
 iterate 3 refine op1 tok ?_
 refine qA (AW.seq (rgn [] [[]] ?_))
 refine op1 tok ?_
 refine qA (AW.block ?_)
 refine AW.loop (α:=Nat) (fun k=>k≤v.kids.length) (fun k=>⟨qV 23 [(1,.ptr 1 0),(3,.p (.int .u64 (qBF v.mask (v.kids.take k)))),(4,.p (.int .i64 k))],[],[(1,.vars 31 v.cells)],0⟩) (fun k=>v.kids.length-k) (0) (by omega) ⟨qB (by simp),rfl,by simp,by simp⟩ ?_
 rintro k hk
 refine AW.seq (rgn [] [[],[],[],[],[1,3,4,11]] ?_)
 iterate 5 refine op1 tok ?_
 refine qA (cnd ?_ ?_)
 ·intro h11
  try simp at h11
  obtain ⟨x,hx⟩:∃ x,v.kids[k]?=some x:=⟨v.kids[k],by simp [h11]⟩
  have hix:=ih x (List.mem_of_getElem? hx)
  simp only [Val.enc_def] at hix
  refine AW.skip (AW.seq (AW.block (rgz [x.enc,.nilp,.int .u64 (qU x)] [[],[],[],[],[1,4,14,18],[],[],[1,4,21],[1,3,4]] ?_)))
  iterate 9 refine op1 tok ?_ (h:=by intro C; conv=>lhs; simp [zB]) (hv:=by first | with_reducible exact True.intro | (first | exact hix | simp [hx]; done) | omega | simp | (simp +contextual; omega))
  refine qA (rgz [] [[],[],[1,3,4]] ?_)
  iterate 3 refine op1 tok ?_
  refine qA ?_
  exact ⟨k+1,by omega,by omega,qB (by simp [uJ hx]),rfl,by simp [uJ hx],by simp [uJ hx]⟩
 intro h11
 try simp at h11
 rw [List.take_of_length_le h11]
 refine AW.exit ?_
 simp
 refine rgn [] [[],[2]] ?_
 iterate 2 refine op1 tok ?_
 refine qA ?_
 exact AW.ret (qG (k:=by simp [qQA v]))
theorem wG (v:Val):qS v=true→AFn Tryz.prog G 16 [v.enc] (.int .u64 (qU v)) :=
 Val.induct (p:=fun v=>qS v=true→AFn Tryz.prog G 16 [v.enc] (.int .u64 (qU v))) (fun v ih hv=>qVG v (by have:=wZ hv; omega) fun k hk=>ih k hk (yG hv hk)) v
theorem qOA (v:Val) (m:Int):AFn Tryz.prog G 21 [v.enc,.int .u64 m] ((vD v m).enc):=by
 refine AFn.introU tok Tryz.func21 (by kernel_rfl) rfl rfl ?_
 simp only [Tryz.f21,qI,List.map_cons,List.map_nil]
 refine rgn [] [[],[1,2,4]] ?_
 iterate 2 refine op1 tok ?_
 refine qA (rgn [] [[],[],[],[2,4,8],[],[2,4]] ?_)
 iterate 6 refine op1 tok ?_ (h:=by intro C; conv=>lhs; simp [zB])
 refine qA (rgn [] [[],[4]] ?_)
 iterate 2 refine op1 tok ?_
 exact qA (AW.ret qG)
theorem qSJ (v:Val) (s:List UInt8) (hl:v.keys.length≤v.kids.length) (hlm:v.keys.length≤1000000):AFn Tryz.prog G 53 [v.enc,.str s] (.tup [(if s∈v.keys then qBW v s else yR).enc,.bool (decide (s∈v.keys))]):=by
 refine AFn.introU tok Tryz.func53 (by kernel_rfl) rfl rfl ?_
 simp only [Tryz.f53,qI,List.map_cons,List.map_nil]
 refine rgn [] [[],[],[1,2,4]] ?_
 iterate 3 refine op1 tok ?_
 refine qA (AW.seq (rgn [] [[]] ?_))
 refine op1 tok ?_
 refine qA (AW.block ?_)
 refine AW.loop (α:=Nat) (fun k=>k≤v.keys.length∧s ∉ v.keys.take k) (fun k=>⟨qV 34 [(1,.p (.str s)),(2,.ptr 2 0),(4,.ptr 4 0),(6,.p (.int .i64 k))],[],[(2,.vars 31 v.cells),(4,.vars 31 zRZ)],0⟩) (fun k=>v.keys.length-k) (0) ⟨by omega,by simp⟩ ⟨qB (by simp),rfl,by simp,by simp⟩ ?_
 rintro k ⟨hk,hno⟩
 refine AW.seq (rgn [] [[],[],[],[],[1,2,4,6,11],[],[],[],[],[],[1,2,4,6,12,17],[1,2,4,6,18]] ?_)
 iterate 6 refine op1 tok ?_
 iterate 5 refine op2 tok ?_
 refine op1 tok ?_
 refine qA (cnd ?_ ?_)
 ·intro h18
  try simp at h18
  have h18':k<v.keys.length:=by omega
  obtain ⟨x,hx⟩:∃ x,v.keys[k]?=some x:=⟨v.keys[k],by simp [h18']⟩
  refine AW.skip (AW.seq (AW.block (rgn [.str x] [[],[],[],[],[1,2,4,6,25],[],[1,2,4,6,27]] ?_)))
  iterate 7 refine op1 tok ?_ (hv:=by first | with_reducible exact True.intro | (simp [hx]; done) | omega | simp | (simp +contextual; omega))
  refine qA (cnd ?_ ?_)
  ·intro h27
   try simp at h27
   have hin:s∈v.keys:=by rw [← h27]; exact List.mem_of_getElem? hx
   have hix:v.keys.idxOf s=k:=by
    subst h27
    have h1:v.keys=v.keys.take k++x::v.keys.drop (k+1):=by
     conv=>lhs; rw [← List.take_append_drop k v.keys]
     rw [List.drop_eq_getElem_cons h18',(List.getElem?_eq_some_iff.1 hx).2]
    rw [h1,List.idxOf_append,if_neg hno]
    simp; omega
   have hk':=qKN hl hin
   rw [hix] at hk'
   refine rgn [(qBW v s).enc] [[],[],[],[4,31],[],[],[4,5]] ?_
   iterate 7 refine op1 tok ?_ (hv:=by first | with_reducible exact True.intro | (simp [hk']; done) | omega | simp | (simp +contextual; omega))
   refine qA ?_
   exact AW.ret (qG (k:=by simp [hin]))
  intro h27
  try simp at h27
  refine AW.skip (rgz [] [[],[],[1,2,4,6]] ?_)
  iterate 3 refine op1 tok ?_
  refine qA ?_
  exact ⟨k+1,⟨by omega,by rw [List.take_add_one,hx]; simp; exact ⟨hno,fun e=>h27 e.symm⟩⟩,by omega,qB (by simp),rfl,by simp,by simp⟩
 intro h18
 try simp at h18
 have hno':s ∉ v.keys:=by rw [List.take_of_length_le (by omega)] at hno; exact hno
 refine AW.exit ?_
 simp
 refine rgn [] [[],[],[4,5]] ?_
 iterate 3 refine op1 tok ?_
 refine qA ?_
 exact AW.ret (qG (k:=by simp [hno',dc0]))
theorem qJJ:∀ (x y:List UInt8),x.length=y.length→x.all qH=true→y.all qH=true→(Op.bytesLess x y=true↔qE x<qE y)
 | [],[],_,_,_=>by simp [Op.bytesLess]
 | [],_::_,h,_,_=>by simp at h
 | _::_,[],h,_,_=>by simp at h
 | a::x,b::y,h,hx,hy=>by
  simp only [List.all_cons,Bool.and_eq_true] at hx hy
  have hl:x.length=y.length:=by simpa using h
  have ih:=qJJ x y hl hx.2 hy.2
  have da:=(zK a).1 hx.1
  have db:=(zK b).1 hy.1
  have lx:=wB hx.2
  have ly:=wB hy.2
  rw [wY,wY,hl]
  rw [hl] at lx
  simp only [Op.bytesLess,Bool.or_eq_true,Bool.and_eq_true,decide_eq_true_eq,beq_iff_eq,UInt8.lt_iff_toNat_lt,ih]
  by_cases h1:a.toNat<b.toNat
  ·have:=Nat.mul_le_mul_right (10 ^ y.length) (show a.toNat-48+1≤b.toNat-48 by omega)
   rw [Nat.add_mul,Nat.one_mul] at this
   exact ⟨fun _=>by omega,fun _ => .inl h1⟩
  by_cases h2:a=b
  ·subst h2
   exact ⟨fun h => by rcases h with h | h; · omega
                      ·omega,fun h => .inr ⟨rfl,by omega⟩⟩
  have h3:b.toNat<a.toNat:=by have:a.toNat≠b.toNat:=fun e=>h2 (UInt8.toNat_inj.1 e); omega
  have:=Nat.mul_le_mul_right (10 ^ y.length) (show b.toNat-48+1≤a.toNat-48 by omega)
  rw [Nat.add_mul,Nat.one_mul] at this
  exact ⟨fun h => by rcases h with h | h; · omega
                     ·exact (h2 h.1).elim,fun h=>by omega⟩
theorem qKX:∀ (x y:List UInt8),x.length=y.length→x.all qH=true→y.all qH=true→qE x=qE y→x=y
 | [],[],_,_,_,_=>rfl
 | [],_::_,h,_,_,_=>by simp at h
 | _::_,[],h,_,_,_=>by simp at h
 | a::x,b::y,h,hx,hy,he=>by
  simp only [List.all_cons,Bool.and_eq_true] at hx hy
  have hl:x.length=y.length:=by simpa using h
  have da:=(zK a).1 hx.1
  have db:=(zK b).1 hy.1
  have lx:=wB hx.2
  have ly:=wB hy.2
  rw [wY,wY,hl] at he
  rw [hl] at lx
  have hab:a.toNat=b.toNat:=by
   by_cases h1:a.toNat<b.toNat
   ·have:=Nat.mul_le_mul_right (10 ^ y.length) (show a.toNat-48+1≤b.toNat-48 by omega)
    rw [Nat.add_mul,Nat.one_mul] at this; omega
   by_cases h3:b.toNat<a.toNat
   ·have:=Nat.mul_le_mul_right (10 ^ y.length) (show b.toNat-48+1≤a.toNat-48 by omega)
    rw [Nat.add_mul,Nat.one_mul] at this; omega
   omega
  rw [hab] at he
  rw [UInt8.toNat_inj.1 hab,qKX x y hl hx.2 hy.2 (by omega)]
theorem qZU {x y:List UInt8} (hx:x.all qH=true) (hy:y.all qH=true) (lx:0<x.length) (ly:0<y.length) (h1:qW x 0≠48) (h2:qW y 0≠48) (h:qE x=qE y):x.length=y.length:=by
 have a1:=uN hx lx h1
 have a2:=uN hy ly h2
 have b1:=wB hx
 have b2:=wB hy
 by_cases h3:x.length<y.length
 ·have:=Nat.pow_le_pow_right (show 0<10 by omega) (show x.length≤y.length-1 by omega); omega
 by_cases h4:y.length<x.length
 ·have:=Nat.pow_le_pow_right (show 0<10 by omega) (show y.length≤x.length-1 by omega); omega
 omega
theorem qDB {d:Dc} (h:zO d=true):(d.digits=[48]∧d.scale=0∧d.neg=false)∨(qW d.digits 0≠48∧(d.scale=0∨qW d.digits (d.digits.length-1)≠48)):=by
 unfold zO at h
 simp only [Bool.and_eq_true] at h
 obtain ⟨_,h3⟩:=h
 split at h3
 ·rename_i h4; simp at h3; exact .inl ⟨h4,h3.1,h3.2⟩
 simp at h3; exact .inr h3
theorem zNC {s:List UInt8} (h:0<s.length) (hd:s.all qH=true):((qE s % 10:Nat):Int)=qW s (s.length-1)-48:=by
 obtain ⟨t,b,rfl⟩:∃ t b,s=t++[b]:=⟨s.dropLast,s.getLast (List.length_pos_iff.1 h),(List.dropLast_concat_getLast (List.length_pos_iff.1 h)).symm⟩
 rw [List.all_append] at hd
 simp at hd
 have db:=(zK b).1 hd.2
 rw [kN]
 have:qW (t++[b]) ((t++[b]).length-1)=(b.toNat:Int):=by simp [qW]
 rw [this]; omega
theorem zTK {a b:Dc} (ha:zO a=true) (hb:zO b=true) (hq:qN a=qN b):a.digits=b.digits∧a.scale=b.scale:=by
 obtain ⟨⟨a1,a2,a3,a4⟩,a5,a6⟩:=zF ha
 obtain ⟨⟨b1,b2,b3,b4⟩,b5,b6⟩:=zF hb
 have la:0<a.digits.length:=by unfold zO at ha; simp at ha; omega
 have lb:0<b.digits.length:=by unfold zO at hb; simp at hb; omega
 have key:∀ a b:Dc,zO a=true→zO b=true→qN a=qN b→a.scale<b.scale→False:=by
  intro a b ha hb hq hlt
  obtain ⟨⟨a1,a2,a3,a4⟩,a5,a6⟩:=zF ha
  obtain ⟨⟨b1,b2,b3,b4⟩,b5,b6⟩:=zF hb
  have lb:0<b.digits.length:=by unfold zO at hb; simp at hb; omega
  rcases qDB hb with h | h
  ·omega
  have hl:=h.2.resolve_left (by omega)
  unfold qN at hq
  have e:60-a.scale.toNat=((b.scale-a.scale).toNat-1)+1+(60-b.scale.toNat):=by omega
  rw [e,Nat.pow_add,← Nat.mul_assoc] at hq
  have hq':=Nat.eq_of_mul_eq_mul_right (Nat.pow_pos (n:=60-b.scale.toNat) (show 0<10 by omega)) hq
  have h10:qE b.digits % 10=0:=by rw [← hq',Nat.pow_succ,← Nat.mul_assoc]; exact Nat.mul_mod_left _ _
  have h11:=zNC lb b4
  rw [h10] at h11
  have hb':48≤qW b.digits (b.digits.length-1):=by
   obtain ⟨t,c,e⟩:∃ t c,b.digits=t++[c]:=⟨b.digits.dropLast,b.digits.getLast (List.length_pos_iff.1 lb),(List.dropLast_concat_getLast (List.length_pos_iff.1 lb)).symm⟩
   rw [e] at b4 ⊢
   rw [List.all_append] at b4
   simp at b4
   have:=(zK c).1 b4.2
   simp [qW]; omega
  omega
 have hs:a.scale=b.scale:=by
  by_cases h1:a.scale<b.scale
  ·exact (key a b ha hb hq h1).elim
  by_cases h2:b.scale<a.scale
  ·exact (key b a hb ha hq.symm h2).elim
  omega
 refine ⟨?_,hs⟩
 unfold qN at hq
 rw [hs] at hq
 have hv:=Nat.eq_of_mul_eq_mul_right (Nat.pow_pos (n:=60-b.scale.toNat) (show 0<10 by omega)) hq
 have hz:∀ d:Dc,zO d=true→0<d.digits.length→qW d.digits 0≠48→qE d.digits≠0:=fun d hd hl h0 h=>by
  have:=uN (zF hd).1.2.2.2 hl h0
  have:=Nat.pow_pos (n:=d.digits.length-1) (show 0<10 by omega)
  omega
 have v0:qE [48]=0:=by simp [qE]
 rcases qDB ha with h1 | h1 <;> rcases qDB hb with h2 | h2
 ·rw [h1.1,h2.1]
 ·rw [h1.1,v0] at hv; exact (hz b hb lb h2.1 hv.symm).elim
 ·rw [h2.1,v0] at hv; exact (hz a ha la h1.1 hv).elim
 exact qKX _ _ (qZU a4 b4 la lb h1.1 h2.1 hv) a4 b4 hv
def yV (a b:Dc):List UInt8:=a.digits++qL (qX a b-a.scale).toNat
def yU (a b:Dc):List UInt8:=b.digits++qL (qX a b-b.scale).toNat
def alX (p q:List UInt8):List UInt8:=qL ((if p.length<q.length then (q.length:Int) else (p.length:Int))-p.length).toNat++p
def alY (p q:List UInt8):List UInt8:=qL ((if p.length<q.length then (q.length:Int) else (p.length:Int))-q.length).toNat++q
theorem qWU (p q:List UInt8):(alX p q).length=(alY p q).length:=by
 unfold alX alY qL; simp only [List.length_append,List.length_replicate]; split <;> omega
theorem zEC {p q:List UInt8} (hp:p.all qH=true) (hq:q.all qH=true):(alX p q).all qH=true∧(alY p q).all qH=true:=by
 unfold alX alY; rw [List.all_append,List.all_append,hp,hq,zerosM_all',zerosM_all']; exact ⟨rfl,rfl⟩
where zerosM_all' (n:Nat):(qL n).all qH=true:=List.all_eq_true.2 fun b hb=>by rw [(List.mem_replicate.1 hb).2]; rfl
theorem zEB (p q:List UInt8):qE (alX p q)=qE p∧qE (alY p q)=qE q:=by
 unfold alX alY qL; rw [wP,wP,jL,jL]; simp
theorem zIW {a b:Dc} (ha:zO a=true) (hb:zO b=true):(Op.bytesLess (alX (yV a b) (yU a b)) (alY (yV a b) (yU a b))=true↔qN a<qN b)∧(Op.bytesLess (alY (yV a b) (yU a b)) (alX (yV a b) (yU a b))=true↔qN b<qN a):=by
 obtain ⟨⟨a1,a2,a3,a4⟩,a5,a6⟩:=zF ha
 obtain ⟨⟨b1,b2,b3,b4⟩,b5,b6⟩:=zF hb
 have hm1:a.scale≤qX a b:=by unfold qX; split <;> omega
 have hm2:b.scale≤qX a b:=by unfold qX; split <;> omega
 have hm3:qX a b≤60:=by unfold qX; split <;> omega
 have dx:(yV a b).all qH=true:=wX a4 _
 have dy:(yU a b).all qH=true:=wX b4 _
 have hal:=zEC dx dy
 have hv:=zEB (yV a b) (yU a b)
 have ea:qN a=qE (yV a b) * 10 ^ (60-(qX a b).toNat):=by
  unfold yV qL; rw [jA,Nat.mul_assoc,← Nat.pow_add,show (qX a b-a.scale).toNat+(60-(qX a b).toNat)=60-a.scale.toNat by omega]; rfl
 have eb:qN b=qE (yU a b) * 10 ^ (60-(qX a b).toNat):=by
  unfold yU qL; rw [jA,Nat.mul_assoc,← Nat.pow_add,show (qX a b-b.scale).toNat+(60-(qX a b).toNat)=60-b.scale.toNat by omega]; rfl
 have hp:=Nat.pow_pos (n:=60-(qX a b).toNat) (show 0<10 by omega)
 rw [qJJ _ _ (qWU _ _) hal.1 hal.2,qJJ _ _ (qWU _ _).symm hal.2 hal.1,hv.1,hv.2,ea,eb]
 exact ⟨(Nat.mul_lt_mul_right hp).symm,(Nat.mul_lt_mul_right hp).symm⟩
theorem qYM {a b : Dc} (ha : zO a = true) (hb : zO b = true) (hne : a ≠ b) :
  qBN a b=if (if a.neg=b.neg then (if a.neg=true then Op.bytesLess (alY (yV a b) (yU a b)) (alX (yV a b) (yU a b)) else Op.bytesLess (alX (yV a b) (yU a b)) (alY (yV a b) (yU a b))) else a.neg)=true then -1 else 1:=by
 obtain ⟨l1,l2⟩:=zIW ha hb
 by_cases hn:a.neg=b.neg
 ·have hq:qN a≠qN b:=fun h=>by
   obtain ⟨h1,h2⟩:=zTK ha hb h
   exact hne (Dc.ext' hn h1 h2)
  rw [qTZ ha hb,if_pos hn]
  unfold qD
  rw [← hn]
  cases a.neg with
  | true =>
   simp only [if_true]
   by_cases h:qN b<qN a
   ·rw [if_pos (l2.2 h)]; unfold sgn; rw [if_pos (by omega)]
   rw [if_neg (fun e=>h (l2.1 e))]; unfold sgn; rw [if_neg (by omega),if_neg (by omega)]
  | false =>
   simp only [Bool.false_eq_true,if_false]
   by_cases h:qN a<qN b
   ·rw [if_pos (l1.2 h)]; unfold sgn; rw [if_pos (by omega)]
   rw [if_neg (fun e=>h (l1.1 e))]; unfold sgn; rw [if_neg (by omega),if_neg (by omega)]
 unfold qBN
 rw [if_neg hn,if_neg hn]
theorem zJU {a:Dc} (ha:zO a=true):qBN a a=0:=by rw [qTZ ha ha]; unfold sgn; rw [if_neg (by omega),if_pos (by omega)]
theorem qFF (a b:Dc) (ha:okD a) (hb:okD b):AFn Tryz.prog G 117 [a.enc,b.enc] (.tup [.str (alX (yV a b) (yU a b)),.str (alY (yV a b) (yU a b)),.int .i64 (qX a b)]):=by
 refine AFn.introU tok Tryz.func117 (by kernel_rfl) rfl rfl ?_
 simp only [Tryz.f117,qI,List.map_cons,List.map_nil]
 obtain ⟨a1,a2,a3,a4⟩:=ha
 obtain ⟨b1,b2,b3,b4⟩:=hb
 have hm:0≤qX a b∧qX a b≤1000:=by unfold qX; split <;> omega
 have hz1:=qCN (G:=G) (qX a b-a.scale) (by omega)
 have hz2:=qCN (G:=G) (qX a b-b.scale) (by omega)
 have hl1:(yV a b).length≤2000:=by unfold yV qL; simp; omega
 have hl2:(yU a b).length≤2000:=by unfold yU qL; simp; omega
 have f1:(if a.scale<b.scale then b.scale else a.scale)=qX a b:=rfl
 have f2:a.digits++qL (qX a b-a.scale).toNat=yV a b:=rfl
 have f3:b.digits++qL (qX a b-b.scale).toNat=yU a b:=rfl
 generalize hnn:(if (yV a b).length<(yU a b).length then ((yU a b).length:Int) else ((yV a b).length:Int))=n
 have hn1:0≤n∧n≤2000:=by rw [← hnn]; split <;> omega
 have hz3:=qCN (G:=G) (n-(yV a b).length) (by omega)
 have hz4:=qCN (G:=G) (n-(yU a b).length) (by omega)
 have e1:alX (yV a b) (yU a b)=qL (n-(yV a b).length).toNat++yV a b:=by unfold alX; rw [hnn]
 have e2:alY (yV a b) (yU a b)=qL (n-(yU a b).length).toNat++yU a b:=by unfold alY; rw [hnn]
 rw [e1,e2]
 have g1:(qL (qX a b-a.scale).toNat).length≤1000:=by unfold qL; simp; omega
 have g2:(qL (qX a b-b.scale).toNat).length≤1000:=by unfold qL; simp; omega
 have g3:(qL (n-(yV a b).length).toNat).length≤2000:=by unfold qL; simp; omega
 have g4:(qL (n-(yU a b).length).toNat).length≤2000:=by unfold qL; simp; omega
 generalize qL (n-(yV a b).length).toNat=Z3 at *
 generalize qL (n-(yU a b).length).toNat=Z4 at *
 have hmx:a.scale≤qX a b∧b.scale≤qX a b:=by unfold qX; split <;> omega
 refine rgn [] [[],[],[],[2,3],[2,3]] ?_
 iterate 5 refine op1 tok ?_
 refine qA (rgn [] [[],[],[],[],[2,3,15],[2,3,7]] ?_)
 iterate 6 refine op1 tok ?_ (h:=by intro C; conv=>lhs; simp [f1])
 refine qA ?_
 refine AW.seqDrawS tok mixed 8 [[2],[16],[7],[2],[19],[18,20],[21],[17,22]] [.nilp,.str (qL (qX a b-a.scale).toNat)] [] (by kernel_rfl) ?_
 iterate 8 refine dq1 hz1 ?_ (h:=by intro C; conv=>lhs; simp [f2])
 refine DGo.nil (by kernel_rfl) ⟨by kernel_rfl, ?_⟩
 refine qC.run [[3,7,8]] ?_
 refine op1 tok ?_ (h:=by intro C; conv=>lhs; simp [f2])
 refine qA ?_
 refine AW.seqDrawS tok mixed 8 [[3],[24],[7],[3],[27],[26,28],[29],[25,30]] [.nilp,.str (qL (qX a b-b.scale).toNat)] [] (by kernel_rfl) ?_
 iterate 8 refine dq1 hz2 ?_ (h:=by intro C; conv=>lhs; simp [f3])
 refine DGo.nil (by kernel_rfl) ⟨by kernel_rfl, ?_⟩
 refine qC.run [[7,8,9]] ?_
 refine op1 tok ?_ (h:=by intro C; conv=>lhs; simp [f3])
 refine qA (rgn [] [[],[],[],[],[7,8,9,36],[7,8,9,10]] ?_)
 iterate 6 refine op1 tok ?_ (h:=by intro C; conv=>lhs; simp [hnn])
 refine qA (rgn [.nilp,.str Z3,.nilp,.str Z4] [[],[],[],[],[7,8,9,10,41],[],[],[7,9,43,44],[],[],[],[7,9,43,48],[],[],[43,50,51],[],[],[4,5,6]] ?_)
 iterate 18 refine oq1 tok (ai hz3 hz4) ?_
 exact qA (AW.ret qG)
theorem zCM (a b:Dc) (ha:zO a=true) (hb:zO b=true):AFn Tryz.prog G 54 [a.enc,b.enc] (.int .i64 (qBN a b)):=by
 refine AFn.introU tok Tryz.func54 (by kernel_rfl) rfl rfl ?_
 simp only [Tryz.f54,qI,List.map_cons,List.map_nil]
 have hal:=qFF (G:=G) a b (zF ha).1 (zF hb).1
 have hlaw:=fun h=>qYM ha hb h
 have hself:=fun h:a=b=>(show qBN a b=0 by rw [← h]; exact zJU ha)
 generalize alX (yV a b) (yU a b)=X at *
 generalize alY (yV a b) (yU a b)=Y at *
 generalize hls:(if a.neg=b.neg then (if a.neg=true then Op.bytesLess Y X else Op.bytesLess X Y) else a.neg)=ls at *
 generalize qBN a b=R at *
 refine rgn [] [[],[],[2,3]] ?_
 iterate 3 refine op1 tok ?_
 refine qA (AW.seq (rgn [] [[],[],[2,3,11]] ?_))
 iterate 3 refine op1 tok ?_
 refine qA (cnd ?_ ?_)
 ·intro h11
  try simp at h11
  have hR:R=0:=hself (Dc.ext' h11.1 h11.2.1 h11.2.2)
  refine rgn [] [[]] ?_
  refine op1 tok ?_
  refine qA ?_
  exact AW.ret (qG (k:=by simp [hR]))
 intro h11
 try simp at h11
 have hR:R=if ls=true then -1 else 1:=hlaw fun h=>by subst h; simp at h11
 refine AW.skip (rgn [.nilp,.tup [.str X,.str Y,.int .i64 (qX a b)]] [[],[],[],[],[],[],[2,3,16,17,18],[],[],[2,3,5,6]] ?_)
 iterate 10 refine op1 tok ?_ (hv:=by first | with_reducible exact True.intro | ((simp at hal ⊢; exact hal); done) | omega | simp | (simp +contextual; omega))
 refine qA (rgn [] [[],[],[],[2,3,5,6,8]] ?_)
 iterate 4 refine op1 tok ?_
 refine qA ?_
 refine AW.join (α:=Unit) (fun _=>True) (fun a=>⟨qV 35 [(8,.p (.bool ls))],[],[],0⟩) ?_ ?_
 ·
  refine rgn [] [[],[],[],[],[2,5,6,8,26]] ?_
  iterate 5 refine op1 tok ?_
  refine qA (cnd ?_ ?_)
  ·intro h26
   try simp at h26
   have e8:a.neg=ls:=by rw [← hls,if_neg (by simpa using h26)]
   refine rgz [] [[],[],[8]] ?_
   iterate 3 refine op1 tok ?_
   refine qA ?_
   exact ⟨(),trivial,qB (by simp [e8]),rfl,by simp [e8],by simp [e8]⟩
  intro h26
  try simp at h26
  have e9:a.neg=b.neg:=by simpa using h26
  refine rgn [] [[],[5,6,8,30]] ?_
  iterate 2 refine op1 tok ?_
  refine qA (cnd ?_ ?_)
  ·intro h30
   try simp at h30
   have e8:Op.bytesLess Y X=ls:=by rw [← hls,if_pos e9,if_pos h30]
   refine rgz [] [[],[],[33],[8]] ?_
   iterate 4 refine op1 tok ?_
   refine qA ?_
   exact ⟨(),trivial,qB (by simp [e8]),rfl,by simp [e8],by simp [e8]⟩
  intro h30
  try simp at h30
  have e8:Op.bytesLess X Y=ls:=by rw [← hls,if_pos e9,if_neg (by simp [h30])]
  refine AW.skip ?_
  exact ⟨(),trivial,qB (by simp [e8]),rfl,by simp [e8],by simp [e8]⟩
 ·
  rintro a hI
  refine AW.seq (rgn [] [[34]] ?_)
  refine op1 tok ?_
  refine qA (cnd ?_ ?_)
  ·intro h34
   try simp at h34
   rw [h34] at hR
   refine rgn [] [[]] ?_
   refine op1 tok ?_
   refine qA ?_
   exact AW.ret (qG (k:=by simp [hR]))
  intro h34
  try simp at h34
  rw [h34] at hR
  refine AW.skip (rgn [] [[]] ?_)
  refine op1 tok ?_
  refine qA ?_
  exact AW.ret (qG (k:=by simp [hR]))
def qJY (s:List UInt8):Val := .mk 5 0 dc0 s [] [] 0
theorem zCN {α:Type} {p:α→α→Int} {l m:List α} {k:Nat} {x y:α} (hx:l[k]?=some x) (hy:m[k]?=some y):zX p (l.drop k) (m.drop k)=if p x y≠0 then p x y else zX p (l.drop (k+1)) (m.drop (k+1)):=by
 obtain ⟨h1,rfl⟩:=List.getElem?_eq_some_iff.1 hx
 obtain ⟨h2,rfl⟩:=List.getElem?_eq_some_iff.1 hy
 rw [List.drop_eq_getElem_cons h1,List.drop_eq_getElem_cons h2]; rfl
theorem zJR {α:Type} {p:α→α→Int} {m:List α}:zX p [] m=if 0<m.length then -1 else 0:=by cases m <;> simp [zX]
theorem zJQ {α:Type} {p:α→α→Int} {l:List α}:zX p l []=if 0<l.length then 1 else 0:=by cases l <;> simp [zX]
theorem zHW {α:Type} {p:α→α→Int} {l m:List α} {k:Nat} (h:l.length≤k∨m.length≤k) (h1:k≤l.length) (h2:k≤m.length):zX p (l.drop k) (m.drop k)=if l.length<m.length then -1 else if m.length<l.length then 1 else 0:=by
 by_cases h3:l.length=k
 ·rw [List.drop_eq_nil_of_le (by omega),zJR,List.length_drop]; (repeat' split) <;> omega
 rw [show m.drop k=[] from List.drop_eq_nil_of_le (by omega),zJQ,List.length_drop]; (repeat' split) <;> omega
theorem qPC (l m:List Val) (p:Val→Val→Int) (hlm:l.length≤1000000) (hg:∀ x∈l, ∀ y∈m,AFn Tryz.prog G 22 [x.enc,y.enc] (.int .i64 (p x y))):AFn Tryz.prog G 55 [.sl 9 (l.map Val.enc),.sl 9 (m.map Val.enc)] (.int .i64 (zX p l m)):=by
 refine AFn.introU tok Tryz.func55 (by kernel_rfl) rfl rfl ?_
 simp only [Tryz.f55,qI,List.map_cons,List.map_nil]
 refine rgn [] [[0,1]] ?_
 refine op1 tok ?_
 refine qA (AW.seq (rgn [] [[]] ?_))
 refine op1 tok ?_
 refine qA (AW.block ?_)
 refine AW.loop (α:=Nat) (fun k=>k≤l.length∧k≤m.length∧zX p l m=zX p (l.drop k) (m.drop k)) (fun k=>⟨qV 41 [(0,.p (.sl 9 (l.map Val.enc))),(1,.p (.sl 9 (m.map Val.enc))),(5,.p (.int .i64 k))],[],[],0⟩) (fun k=>l.length-k) (0) ⟨by omega,by omega,rfl⟩ ⟨qB (by simp),rfl,by simp,by simp⟩ ?_
 rintro k ⟨hk,hk2,hall⟩
 refine AW.seq (rgn [] [[],[],[],[],[0,1,5,11],[],[],[],[],[0,1,5,16]] ?_)
 iterate 5 refine op1 tok ?_
 iterate 4 refine op2 tok ?_
 refine op1 tok ?_
 refine qA (cnd ?_ ?_)
 ·intro h16
  try simp at h16
  obtain ⟨x,hx⟩:∃ x,l[k]?=some x:=⟨l[k]'(by omega),by simp <;> omega⟩
  obtain ⟨y,hy⟩:∃ y,m[k]?=some y:=⟨m[k]'(by omega),by simp <;> omega⟩
  have hst:=zCN (p:=p) hx hy
  have hgv:=hg x (List.mem_of_getElem? hx) y (List.mem_of_getElem? hy)
  simp only [Val.enc_def] at hgv
  refine AW.skip (AW.seq (AW.block ?_))
  refine AW.seqDrawS tok mixed 9 [[0],[5],[19,20],[21],[1],[5],[23,24],[25],[22,26]] [x.enc,y.enc,.nilp,.int .i64 (p x y)] [] (by kernel_rfl) ?_
  iterate 9 refine d1 ?_ (hv:=by first | with_reducible exact True.intro | (first | (simp [hx]; done) | (simp [hy]; done) | exact hgv; done) | omega | simp | (simp +contextual; omega))
  refine DGo.nil (by kernel_rfl) ⟨by kernel_rfl, ?_⟩
  refine qC.run [[0,1,5,6]] ?_
  refine op1 tok ?_
  refine qA (rgn [] [[],[0,1,5,6,29]] ?_)
  iterate 2 refine op1 tok ?_
  refine qA (cnd ?_ ?_)
  ·intro h29
   try simp at h29
   have hR:zX p l m=p x y:=by rw [hall,hst,if_pos h29]
   refine rgn [] [[],[4]] ?_
   iterate 2 refine op1 tok ?_
   refine qA ?_
   exact AW.ret (qG (k:=by simp [hR]))
  intro h29
  try simp at h29
  have hnx:zX p l m=zX p (l.drop (k+1)) (m.drop (k+1)):=by rw [hall,hst,if_neg (by simp [h29])]
  refine AW.skip (rgz [] [[],[],[0,1,5]] ?_)
  iterate 3 refine op1 tok ?_
  refine qA ?_
  exact ⟨k+1,⟨by omega,by omega,hnx⟩,by omega,qB (by simp),rfl,by simp,by simp⟩
 intro h16
 try simp at h16
 have hR:zX p l m=if l.length<m.length then -1 else if m.length<l.length then 1 else 0:=by rw [hall]; exact zHW (by omega) hk hk2
 refine AW.exit ?_
 simp
 refine AW.seq (rgn [] [[],[],[],[],[0,1,35]] ?_)
 iterate 5 refine op1 tok ?_
 refine qA (cnd ?_ ?_)
 ·intro h35
  try simp at h35
  rw [if_pos h35] at hR
  refine rgn [] [[]] ?_
  refine op1 tok ?_
  refine qA ?_
  exact AW.ret (qG (k:=by simp [hR]))
 intro h35
 try simp at h35
 rw [if_neg (by omega)] at hR
 refine AW.skip (AW.seq (rgn [] [[],[],[],[37,39],[40]] ?_))
 iterate 5 refine op1 tok ?_
 refine qA (cnd ?_ ?_)
 ·intro h40
  try simp at h40
  rw [if_pos h40] at hR
  refine rgn [] [[]] ?_
  refine op1 tok ?_
  refine qA ?_
  exact AW.ret (qG (k:=by simp [hR]))
 intro h40
 try simp at h40
 rw [if_neg (by omega)] at hR
 refine AW.skip (rgn [] [[]] ?_)
 refine op1 tok ?_
 refine qA ?_
 exact AW.ret (qG (k:=by simp [hR]))
theorem qXI (l:List (List UInt8)) (hlm:l.length≤1000000):AFn Tryz.prog G 57 [.sl 1 (l.map PD.str)] (.sl 9 ((l.map qJY).map Val.enc)):=by
 refine AFn.introU tok Tryz.func57 (by kernel_rfl) rfl rfl ?_
 simp only [Tryz.f57,qI,List.map_cons,List.map_nil]
 refine rgn [] [[0]] ?_
 refine op1 tok ?_
 refine qA (rgn [] [[],[0,3]] ?_)
 iterate 2 refine op1 tok ?_
 refine qA (AW.seq (rgn [] [[]] ?_))
 refine op1 tok ?_
 refine qA (AW.block ?_)
 refine AW.loop (α:=Nat) (fun k=>k≤l.length) (fun k=>⟨qV 21 [(0,.p (.sl 1 (l.map PD.str))),(3,.ms 5),(4,.p (.int .i64 k))],[],[(5,.row 31 9 (((l.take k).map qJY).map Val.enc))],0⟩) (fun k=>l.length-k) (0) (by omega) ⟨qB (by simp),rfl,by simp,by simp⟩ ?_
 rintro k hk
 refine AW.seq (rgn [] [[],[],[],[0,3,4,9]] ?_)
 iterate 4 refine op1 tok ?_
 refine qA (cnd ?_ ?_)
 ·intro h9
  try simp at h9
  obtain ⟨x,hx⟩:∃ x,l[k]?=some x:=⟨l[k],by simp [h9]⟩
  refine AW.skip (AW.seq (AW.block (rgz [.str x,(qJY x).enc] [[],[],[],[],[0,4,12,16],[],[],[0,4,19],[0,3,4]] ?_)))
  iterate 9 refine op1 tok ?_ (hv:=by first | with_reducible exact True.intro | (first | (simp [hx]; done) | (simp [qJY,dc0]; done) | (simp; omega); done) | omega | simp | (simp +contextual; omega))
  refine qA (rgz [] [[],[],[0,3,4]] ?_)
  iterate 3 refine op1 tok ?_
  refine qA ?_
  exact ⟨k+1,by omega,by omega,qB (by simp [List.take_add_one,hx]),rfl,by simp [List.take_add_one,hx],by simp [List.take_add_one,hx]⟩
 intro h9
 try simp at h9
 refine AW.exit ?_
 simp
 refine rgn [] [[],[2]] ?_
 iterate 2 refine op1 tok ?_
 refine qA ?_
 exact AW.ret (qG (k:=by simp; exact List.take_of_length_le (by simpa using h9)))
def leB (a b:List UInt8):Bool:=Op.bytesLess a b || decide (a=b)
theorem qIZ (a b:List UInt8):leB a b=true↔wW a b≤0:=by
 unfold leB wW
 by_cases h1:Op.bytesLess a b=true
 ·simp [h1]
 rw [if_neg h1]
 by_cases h2:a=b
 ·rw [if_pos h2]; simp [h2]
 rw [if_neg h2]; simp [h1,h2]
theorem qJP:∀ a b:List UInt8,Op.bytesLess a b=true↔a<b
 | [],[]=>by simp [Op.bytesLess]
 | [],b::bs=>by simp [Op.bytesLess]
 | a::al,[]=>by simp [Op.bytesLess]
 | a::al,b::bs=>by simp [Op.bytesLess,List.cons_lt_cons_iff,qJP al bs]
theorem zUB (a b:List UInt8):leB a b=decide (a≤b):=by
 rw [Bool.eq_iff_iff,qIZ,decide_eq_true_eq,← List.not_lt,← qJP]
 have h:=qJN.anti a b trivial trivial
 rw [h]
 unfold wW
 by_cases h1:Op.bytesLess b a=true
 ·simp [h1]
 rw [if_neg h1]
 by_cases h2:b=a
 ·rw [if_pos h2]; simpa using h1
 rw [if_neg h2]; simpa using h1
theorem zFM (a b:List UInt8):leB a b=true∨leB b a=true:=by
 rw [qIZ,qIZ]; have:=qJN.anti a b trivial trivial; omega
theorem zMY {a b c:List UInt8} (h1:leB a b=true) (h2:leB b c=true):leB a c=true:=by
 rw [qIZ] at *; exact qJN.tr a b c trivial trivial trivial h1 h2
theorem zMZ {a b:List UInt8} (h1:leB a b=true) (h2:leB b a=true):a=b:=by
 rw [qIZ] at *
 have h:=qJN.anti a b trivial trivial
 have h0:wW a b=0:=by omega
 unfold wW at h0
 split at h0
 ·omega
 split at h0
 ·assumption
 omega
def qAW (s:List UInt8) (l:List (List UInt8)):Nat:=(l.takeWhile fun x=>leB x s).length
def qKP (l:List (List UInt8)) (s:List UInt8):List (List UInt8):=l.take (qAW s l)++[s]++l.drop (qAW s l)
theorem zQJ (s:List UInt8) (l:List (List UInt8)):qAW s l≤l.length:=(List.takeWhile_sublist _).length_le
theorem zIA (s:List UInt8) (l:List (List UInt8)):l.take (qAW s l)=l.takeWhile fun x=>leB x s:=by
 unfold qAW
 induction l with
 | nil=>rfl
 | cons a l ih => rw [List.takeWhile_cons]; split
                  ·simp [ih]
                  rfl
theorem zIB (s:List UInt8) (l:List (List UInt8)):l.drop (qAW s l)=l.dropWhile fun x=>leB x s:=by
 unfold qAW
 induction l with
 | nil=>rfl
 | cons a l ih => rw [List.takeWhile_cons, List.dropWhile_cons]; split
                  ·simp [ih]
                  rfl
theorem zET {s x:List UInt8} {l:List (List UInt8)} {k:Nat} (hk:k≤qAW s l) (hx:l[k]?=some x):leB x s=true↔k<qAW s l:=by
 induction l generalizing k with
 | nil=>simp at hx
 | cons a l ih =>
  unfold qAW at hk ⊢
  rw [List.takeWhile_cons] at hk ⊢
  cases k with
  | zero=>simp at hx; subst hx; split <;> simp_all
  | succ k =>
   split at hk
   ·rename_i h
    rw [if_pos h]
    simp at hx hk
    have:=ih (k:=k) hk hx
    unfold qAW at this
    simpa using this
   simp at hk
theorem zJD (l:List (List UInt8)) (s:List UInt8):(qKP l s).Perm (s::l):=by
 unfold qKP
 have:(l.take (qAW s l)++[s]++l.drop (qAW s l)).Perm (s::(l.take (qAW s l)++l.drop (qAW s l))):=by
  rw [List.append_assoc]; exact List.perm_middle
 rwa [List.take_append_drop] at this
theorem zHH {p:List UInt8→Bool} {l:List (List UInt8)} {x:List UInt8} (h:x∈l.takeWhile p):p x=true:=by
 induction l with
 | nil=>simp at h
 | cons a l ih =>
  rw [List.takeWhile_cons] at h
  split at h
  ·rename_i ha
   rcases List.mem_cons.1 h with rfl | h
   ·exact ha
   exact ih h
  simp at h
theorem qZY {l:List (List UInt8)} {s:List UInt8} (h:l.Pairwise fun a b=>leB a b=true):(qKP l s).Pairwise fun a b=>leB a b=true:=by
 have h0:=h
 rw [← List.take_append_drop (qAW s l) l,List.pairwise_append] at h
 obtain ⟨h1,h2,h3⟩:=h
 have hd:∀ x∈l.drop (qAW s l),leB s x=true:=by
  rw [zIB] at h2 ⊢
  cases hq:l.dropWhile fun x=>leB x s with
  | nil=>simp
  | cons y m =>
   have hy:leB y s=false:=by
    have:=List.head?_dropWhile_not (fun x=>leB x s) l
    rw [hq] at this; simpa using this
   have hsy:leB s y=true:=(zFM s y).resolve_right (by simp [hy])
   rw [hq] at h2
   rw [List.pairwise_cons] at h2
   intro x hx
   rcases List.mem_cons.1 hx with rfl | hx
   ·exact hsy
   exact zMY hsy (h2.1 x hx)
 unfold qKP
 rw [List.append_assoc,List.pairwise_append]
 refine ⟨h1, ?_,fun a ha b hb => ?_⟩
 ·show (s::l.drop (qAW s l)).Pairwise _
  rw [List.pairwise_cons]; exact ⟨hd,h2⟩
 rcases List.mem_cons.1 hb with rfl | hb
 ·rw [zIA] at ha; exact zHH (p:=fun x=>leB x b) ha
 exact h3 a ha b hb
def qKO (l:List (List UInt8)):List (List UInt8):=l.foldl qKP []
theorem zJC (l:List (List UInt8)) (s:List UInt8):qKO (l++[s])=qKP (qKO l) s:=by unfold qKO; rw [List.foldl_append]; rfl
theorem zJB {l:List (List UInt8)} {k:Nat} {s:List UInt8} (h:l[k]?=some s):qKO (l.take (k+1))=qKP (qKO (l.take k)) s:=by rw [List.take_add_one,h]; exact zJC _ _
theorem qTK (l:List (List UInt8)):(qKO l).Perm l∧(qKO l).Pairwise fun a b=>leB a b=true:=by
 have:∀ (l m:List (List UInt8)),m.Pairwise (fun a b=>leB a b=true)→(l.foldl qKP m).Perm (l++m)∧(l.foldl qKP m).Pairwise fun a b=>leB a b=true:=by
  intro l
  induction l with
  | nil=>exact fun m h=>⟨.refl _,h⟩
  | cons s l ih =>
   intro m h
   obtain ⟨h1,h2⟩:=ih (qKP m s) (qZY h)
   refine ⟨h1.trans ?_,h2⟩
   exact ((zJD m s).append_left l).trans List.perm_middle
 have h:=this l [] List.Pairwise.nil
 simpa [qKO] using h
theorem zQW (l:List (List UInt8)):qKO l=zL l:=by
 obtain ⟨h1,h2⟩:=qTK l
 refine List.Perm.eq_of_pairwise (le:=fun a b=>leB a b=true) (fun a b _ _=>zMZ) h2 ?_ (h1.trans (List.mergeSort_perm _ _).symm)
 have e:(fun x y:List UInt8=>decide (x≤y))=leB:=funext fun a=>funext fun b=>(zUB a b).symm
 unfold zL
 rw [e]
 exact List.pairwise_mergeSort (le:=leB) (fun a b c=>zMY) (fun a b=>by rw [Bool.or_eq_true]; exact zFM _ _) l
theorem zNH (l:List (List UInt8)):(qKO l).length=l.length:=(qTK l).1.length_eq
theorem qNO (l:List (List UInt8)) (hlm:l.length≤1000000):AFn Tryz.prog G 56 [.sl 1 (l.map PD.str)] (.sl 1 ((zL l).map PD.str)):=by
 refine AFn.introU tok Tryz.func56 (by kernel_rfl) rfl rfl ?_
 simp only [Tryz.f56,qI,List.map_cons,List.map_nil]
 rw [← zQW]
 refine rgn [] [[0]] ?_
 refine op1 tok ?_
 refine qA (rgn [] [[],[0,3]] ?_)
 iterate 2 refine op1 tok ?_
 refine qA (AW.seq (rgn [] [[]] ?_))
 refine op1 tok ?_
 refine qA (AW.block ?_)
 refine AW.loop (α:=Nat) (fun k=>k≤l.length) (fun k=>⟨qV 51 [(0,.p (.sl 1 (l.map PD.str))),(3,.ms 7),(4,.p (.int .i64 k))],[],[(7,.row 9 1 ((qKO (l.take k)).map PD.str))],0⟩) (fun k=>l.length-k) (0) (by omega) ⟨qB (by simp),rfl,by simp [qKO],by simp⟩ ?_
 rintro k hk
 have hil:=zNH (l.take k)
 rw [List.length_take,Nat.min_eq_left hk] at hil
 refine AW.seq (rgn [] [[],[],[],[0,3,4,11]] ?_)
 iterate 4 refine op1 tok ?_
 refine qA (cnd ?_ ?_)
 ·intro h11
  try simp at h11
  obtain ⟨s,hs⟩:∃ s,l[k]?=some s:=⟨l[k],by simp [h11]⟩
  have hnx:=zJB hs
  generalize qKO (l.take k)=o at *
  have hpl:=zQJ s o
  refine AW.skip (AW.seq (AW.block (rgn [] [[]] ?_)))
  refine op1 tok ?_
  refine qA (AW.seq (AW.block ?_))
  refine AW.freezeE 7 (by conv=>lhs; simp) ?_
  refine AW.loop (α:=Nat) (fun j=>j≤qAW s o) (fun j=>⟨qV 51 [(0,.p (.sl 1 (l.map PD.str))),(3,.p (.sl 1 (o.map PD.str))),(4,.p (.int .i64 k)),(5,.p (.int .i64 j))],[],[],0⟩) (fun j=>qAW s o-j) (0) (by omega) ⟨qB (by simp),rfl,by simp,by simp⟩ ?_
  rintro j hj
  refine AW.seq ?_
  refine AW.seqDrawS tok mixed 15 [[5],[3],[15],[14,16],[17],[3,18],[5,18],[19,20,18],[21,18],[0,18],[4,18],[23,24,18],[25,18],[22,26,18],[18,27]] [.str (o.getD j []),.str s] [] (by kernel_rfl) ?_
  iterate 5 refine d1 ?_ (hv:=by first | with_reducible exact True.intro | (first | (simp [hs]; done) | (simp +contextual; done) | (simp; intros; omega) | (simp [List.getD_eq_getElem?_getD]; intros; simp [*]); done) | omega | simp | (simp +contextual; omega))
  iterate 9 refine d2 18 rfl rfl ?_ (hv:=by first | with_reducible exact True.intro | (first | (simp [hs]; done) | (simp +contextual; done) | (simp; intros; omega) | (simp [List.getD_eq_getElem?_getD]; intros; simp [*]); done) | omega | simp | (simp +contextual; omega))
  refine d1 ?_ (hv:=by first | with_reducible exact True.intro | (first | (simp [hs]; done) | (simp +contextual; done) | (simp; intros; omega) | (simp [List.getD_eq_getElem?_getD]; intros; simp [*]); done) | omega | simp | (simp +contextual; omega))
  refine DGo.nil (by kernel_rfl) ⟨by kernel_rfl, ?_⟩
  refine qC.nil ?_
  refine cnd ?_ ?_
  ·intro h28
   try simp at h28
   have hjl:j<o.length:=h28.1
   have hjp:j<qAW s o:=by
    refine (zET hj (x:=o[j]) (by simp [hjl])).1 ?_
    simp [hjl] at h28
    simpa [leB] using h28
   refine AW.skip (AW.block (rgz [] [[],[],[0,3,4,5]] ?_))
   iterate 3 refine op1 tok ?_
   refine qA ?_
   exact ⟨j+1,by omega,by omega,qB (by simp),rfl,by simp,by simp⟩
  intro h28
  try simp at h28
  have hjp:j=qAW s o:=by
   by_cases h:j<qAW s o
   ·have hjl:j<o.length:=by omega
    have:=(zET hj (x:=o[j]) (by simp [hjl])).2 h
    simp [hjl] at h28
    simp [leB,h28] at this
   omega
  subst hjp
  refine AW.exit ?_
  simp
  refine rgn [] [[],[],[],[],[0,3,4,5,35],[0,3,4,5,6]] ?_
  iterate 6 refine op1 tok ?_
  refine qA ?_
  refine AW.seqDrawS tok mixed 11 [[],[3],[5],[37,38],[36,39],[0],[4],[41,42],[43],[44],[40,45]] [.str s,.str s] [] (by kernel_rfl) ?_
  iterate 11 refine d1 ?_ (hv:=by first | with_reducible exact True.intro | (first | (simp [hs]; done) | (simp; omega); done) | omega | simp | (simp +contextual; omega))
  refine DGo.nil (by kernel_rfl) ⟨by kernel_rfl, ?_⟩
  refine qC.run [[0,3,4,6]] ?_
  refine op1 tok ?_
  refine qA (rgz [] [[],[],[0,4,49],[0,3,4]] ?_)
  iterate 4 refine op1 tok ?_
  refine qA ?_
  refine AW.renE 46 7 (by simp) (by conv=>lhs; simp) ?_
  refine rgz [] [[],[],[0,3,4]] ?_
  iterate 3 refine op1 tok ?_
  refine qA ?_
  exact ⟨k+1,by omega,by omega,qB (by simp [hnx,qKP,show List.take o.length (List.map PD.str o)=List.map PD.str o from List.take_of_length_le (by simp)]),rfl,by simp [hnx,qKP,show List.take o.length (List.map PD.str o)=List.map PD.str o from List.take_of_length_le (by simp)],by simp [hnx,qKP,show List.take o.length (List.map PD.str o)=List.map PD.str o from List.take_of_length_le (by simp)]⟩
 intro h11
 try simp at h11
 refine AW.exit ?_
 simp
 refine rgn [] [[],[2]] ?_
 iterate 2 refine op1 tok ?_
 refine qA ?_
 exact AW.ret (qG (k:=by simp; rw [List.take_of_length_le h11]))
theorem qQG:∀ {l m:List (List UInt8)},zX wW l m=0→l=m
 | [],[],_=>rfl
 | [],_::_,h=>by simp [zX] at h
 | _::_,[],h=>by simp [zX] at h
 | x::l,y::m,h=>by
  simp only [zX] at h
  split at h
  ·omega
  rename_i h0
  have e:x=y:=by
   have h1:wW x y=0:=by omega
   unfold wW at h1
   split at h1
   ·omega
   split at h1
   ·assumption
   omega
  rw [e,qQG h]
theorem zCL (s t:List UInt8):AFn Tryz.prog G 22 [(qJY s).enc,(qJY t).enc] (.int .i64 (wW s t)):=by
 refine AFn.introU tok Tryz.func22 (by kernel_rfl) rfl rfl ?_
 simp only [Tryz.f22,qI,List.map_cons,List.map_nil]
 simp only [Val.enc_def,qJY,Val.kind_mk,Val.mask_mk,Val.num_mk,Val.text_mk,Val.keys_mk,Val.kids_mk,Val.code_mk,dc0,List.map_nil]
 refine rgn [] [[],[],[2,3]] ?_
 iterate 3 refine op1 tok ?_
 refine qA (AW.seq (rgn [] [[],[],[],[],[2,3,19]] ?_))
 iterate 5 refine op1 tok ?_
 refine qA (cnd ?_ ?_)
 ·intro h19
  try simp at h19
 intro h19
 try simp at h19
 refine AW.skip (AW.seq (rgn [] [[],[2,3,26]] ?_))
 iterate 2 refine op1 tok ?_
 refine qA (AW.block (rgn [] [[],[2,3,26,27]] ?_))
 iterate 2 refine op1 tok ?_
 refine qA (cnd ?_ ?_)
 ·intro h27
  try simp at h27
 intro h27
 try simp at h27
 refine rgn [] [[],[2,3,26,34]] ?_
 iterate 2 refine op1 tok ?_
 refine qA (cnd ?_ ?_)
 ·intro h34
  try simp at h34
  have hx:True:=trivial
  refine AW.seq (rgn [] [[],[],[],[],[2,3,40]] ?_)
  iterate 5 refine op1 tok ?_
  refine qA (cnd ?_ ?_)
  ·intro h40
   try simp at h40
   have hR:wW s t = -1:=by unfold wW; rw [if_pos h40]
   refine rgn [] [[]] ?_
   refine op1 tok ?_
   refine qA ?_
   exact AW.ret (qG (k:=by simp [hR]))
  intro h40
  try simp at h40
  refine AW.skip (AW.seq (rgn [] [[],[],[],[42,44],[45]] ?_))
  iterate 5 refine op1 tok ?_
  refine qA (cnd ?_ ?_)
  ·intro h45
   try simp at h45
   have hR:wW s t=1:=by unfold wW; rw [if_neg (by simp [h45.1]),if_neg h45.2]
   refine rgn [] [[]] ?_
   refine op1 tok ?_
   refine qA ?_
   exact AW.ret (qG (k:=by simp [hR]))
  intro h45
  try simp at h45
  have hR:wW s t=0:=by
   unfold wW; rw [if_neg (by simp [h40]),if_pos (h45 h40)]
  refine AW.skip (rgn [] [[]] ?_)
  refine op1 tok ?_
  refine qA ?_
  exact AW.ret (qG (k:=by simp [hR]))
 intro h34
 try simp at h34
theorem qLR (f:Nat) (a b:Val) (ha:qS a=true) (hb:qS b=true) (ih:∀ x∈a.kids, ∀ y∈b.kids,AFn Tryz.prog G 22 [x.enc,y.enc] (.int .i64 (kT f x y))):AFn Tryz.prog G 22 [a.enc,b.enc] (.int .i64 (kT (f+1) a b)):=by
 refine AFn.introU tok Tryz.func22 (by kernel_rfl) rfl rfl ?_
 simp only [Tryz.f22,qI,List.map_cons,List.map_nil]
 have hsa:=wZ ha
 have hsb:=wZ hb
 have hR:=zJT f a b
 refine rgn [] [[],[],[2,3]] ?_
 iterate 3 refine op1 tok ?_
 refine qA (AW.seq (rgn [] [[],[],[],[],[2,3,19]] ?_))
 iterate 5 refine op1 tok ?_
 refine qA (cnd ?_ ?_)
 ·intro h19
  try simp at h19
  have hR:kT (f+1) a b=xG a.kind b.kind:=by rw [hR,if_pos]; intro e; exact h19 (zJS e)
  refine AW.seq (rgn [] [[],[],[],[21,23],[24]] ?_)
  iterate 5 refine op1 tok ?_
  refine qA (cnd ?_ ?_)
  ·intro h24
   try simp at h24
   rw [qMX h24] at hR
   refine rgn [] [[]] ?_
   refine op1 tok ?_
   refine qA ?_
   exact AW.ret (qG (k:=by simp [hR]))
  intro h24
  try simp at h24
  rw [qMY (by omega)] at hR
  refine AW.skip (rgn [] [[]] ?_)
  refine op1 tok ?_
  refine qA ?_
  exact AW.ret (qG (k:=by simp [hR]))
 intro h19
 try simp at h19
 have hkd:a.kind=b.kind:=by simpa using h19
 rw [← hkd,qDJ,if_neg (by simp),zOQ] at hR
 refine AW.skip (AW.seq (rgn [] [[],[2,3,26]] ?_))
 iterate 2 refine op1 tok ?_
 refine qA (AW.block (rgn [] [[],[2,3,26,27]] ?_))
 iterate 2 refine op1 tok ?_
 refine qA (cnd ?_ ?_)
 ·intro h27
  try simp at h27
  have hnum:=zCM (G:=G) a.num b.num (yW ha h27) (yW hb (by omega))
  rw [if_pos h27] at hR
  refine rgn [.nilp,.int .i64 (qBN a.num b.num)] [[],[],[],[30,32],[],[4]] ?_
  iterate 6 refine op1 tok ?_ (hv:=by first | with_reducible exact True.intro | ((simp at hnum ⊢; exact hnum); done) | omega | simp | (simp +contextual; omega))
  refine qA ?_
  exact AW.ret (qG (k:=by simp [hR]))
 intro h27
 try simp at h27
 rw [if_neg h27] at hR
 refine rgn [] [[],[2,3,26,34]] ?_
 iterate 2 refine op1 tok ?_
 refine qA (cnd ?_ ?_)
 ·intro h34
  try simp at h34
  rw [if_pos h34,qEV,← qWK] at hR
  refine AW.seq (rgn [] [[],[],[],[],[2,3,40]] ?_)
  iterate 5 refine op1 tok ?_
  refine qA (cnd ?_ ?_)
  ·intro h40
   try simp at h40
   rw [show wW a.text b.text = -1 by unfold wW; rw [if_pos h40]] at hR
   refine rgn [] [[]] ?_
   refine op1 tok ?_
   refine qA ?_
   exact AW.ret (qG (k:=by simp [hR]))
  intro h40
  try simp at h40
  refine AW.skip (AW.seq (rgn [] [[],[],[],[42,44],[45]] ?_))
  iterate 5 refine op1 tok ?_
  refine qA (cnd ?_ ?_)
  ·intro h45
   try simp at h45
   rw [show wW a.text b.text=1 by unfold wW; rw [if_neg (by simp [h45.1]),if_neg h45.2]] at hR
   refine rgn [] [[]] ?_
   refine op1 tok ?_
   refine qA ?_
   exact AW.ret (qG (k:=by simp [hR]))
  intro h45
  try simp at h45
  rw [show wW a.text b.text=0 by unfold wW; rw [if_neg (by simp [h40]),if_pos (h45 h40)]] at hR
  refine AW.skip (rgn [] [[]] ?_)
  refine op1 tok ?_
  refine qA ?_
  exact AW.ret (qG (k:=by simp [hR]))
 intro h34
 try simp at h34
 rw [if_neg h34] at hR
 refine rgn [] [[],[2,3,26,46]] ?_
 iterate 2 refine op1 tok ?_
 refine qA (cnd ?_ ?_)
 ·intro h46
  try simp at h46
  rw [if_pos h46] at hR
  have hcl:=qPC (G:=G) a.kids b.kids (kT f) (by omega) ih
  refine rgn [.nilp,.int .i64 (zX (kT f) a.kids b.kids)] [[],[],[],[49,51],[],[4]] ?_
  iterate 6 refine oq1 tok hcl ?_
  refine qA ?_
  exact AW.ret (qG (k:=by simp [hR]))
 intro h46
 try simp at h46
 rw [if_neg h46] at hR
 refine rgn [] [[],[2,3,26,53]] ?_
 iterate 2 refine op1 tok ?_
 refine qA (cnd ?_ ?_)
 ·intro h53
  try simp at h53
  rw [if_pos h53] at hR
  refine AW.seq (rgn [] [[],[],[],[],[2,3,59]] ?_)
  iterate 5 refine op1 tok ?_
  refine qA (cnd ?_ ?_)
  ·intro h59
   try simp at h59
   rw [qMX h59] at hR
   refine rgn [] [[]] ?_
   refine op1 tok ?_
   refine qA ?_
   exact AW.ret (qG (k:=by simp [hR]))
  intro h59
  try simp at h59
  refine AW.skip (AW.seq (rgn [] [[],[],[],[61,63],[64]] ?_))
  iterate 5 refine op1 tok ?_
  refine qA (cnd ?_ ?_)
  ·intro h64
   try simp at h64
   rw [qMY h64] at hR
   refine rgn [] [[]] ?_
   refine op1 tok ?_
   refine qA ?_
   exact AW.ret (qG (k:=by simp [hR]))
  intro h64
  try simp at h64
  rw [show xG a.code b.code=0 by rw [show a.code=b.code by omega,qDJ]] at hR
  refine AW.skip (rgn [] [[]] ?_)
  refine op1 tok ?_
  refine qA ?_
  exact AW.ret (qG (k:=by simp [hR]))
 intro h53
 try simp at h53
 rw [if_neg h53] at hR
 refine rgn [] [[],[2,3,65]] ?_
 iterate 2 refine op1 tok ?_
 refine qA (cnd ?_ ?_)
 ·intro h65
  try simp at h65
  rw [if_pos h65] at hR
  obtain ⟨oa1,oa2,oa3⟩:=jW ha h65
  obtain ⟨ob1,ob2,ob3⟩:=jW hb (by omega)
  have q1:=qNO (G:=G) a.keys (by omega)
  have q2:=qNO (G:=G) b.keys (by omega)
  have w1:=qXI (G:=G) (zL a.keys) (by rw [uF]; omega)
  have w2:=qXI (G:=G) (zL b.keys) (by rw [uF]; omega)
  have hc:=qPC (G:=G) ((zL a.keys).map qJY) ((zL b.keys).map qJY) (fun x y=>wW x.text y.text) (by rw [List.length_map,uF]; omega) (fun x hx y hy=>by
   obtain ⟨s,_,rfl⟩:=List.mem_map.1 hx
   obtain ⟨t,_,rfl⟩:=List.mem_map.1 hy
   exact zCL s t)
  have hcm:zX (fun x y:Val=>wW x.text y.text) ((zL a.keys).map qJY) ((zL b.keys).map qJY)=zX wW (zL a.keys) (zL b.keys):=by rw [zAW]; rfl
  rw [hcm] at hc
  have hco:(zX wW (zL a.keys) (zL b.keys)=0)→zL a.keys=zL b.keys:=qQG
  have hma:∀ s∈zL a.keys,s∈a.keys:=fun s h=>qGJ.1 h
  have hmb:∀ s∈zL b.keys,s∈b.keys:=fun s h=>qGJ.1 h
  have hcl:=qPC (G:=G) (kC a) (kC b) (kT f) (by unfold kC; rw [List.length_map,uF]; omega) (fun x hx y hy=>ih x (qGS (by omega) hx) y (qGS (by omega) hy))
  have hka:kC a=(zL a.keys).map (qBW a):=rfl
  have hkb:kC b=(zL b.keys).map (qBW b):=rfl
  have hxl:(zL a.keys).length≤200:=by rw [uF]; omega
  generalize zX wW (zL a.keys) (zL b.keys)=c at *
  generalize zL a.keys=xs at *
  generalize zL b.keys=ys at *
  refine rgn [.nilp,.sl 1 (xs.map PD.str)] [[],[],[],[2,3,5]] ?_
  iterate 4 refine oq1 tok q1 ?_
  refine qA (rgn [.nilp,.sl 1 (ys.map PD.str)] [[],[],[],[2,3,5,6]] ?_)
  iterate 4 refine oq1 tok q2 ?_
  refine qA (rgn [.nilp,.sl 9 ((xs.map qJY).map Val.enc),.nilp,.sl 9 ((ys.map qJY).map Val.enc),.nilp,.int .i64 c] [[],[],[],[],[2,3,5,77],[2,3,5,7]] ?_)
  iterate 6 refine op1 tok ?_ (hv:=by first | with_reducible exact True.intro | (first | exact w1 | exact w2 | exact hc | (simp at w1 ⊢; exact w1) | (simp at w2 ⊢; exact w2) | (simp at hc ⊢; exact hc); done) | omega | simp | (simp +contextual; omega))
  refine qA (rgn [] [[],[2,3,5,7,8]] ?_)
  iterate 2 refine op1 tok ?_
  refine qA (rgn [] [[],[2,3,5,7,8,9]] ?_)
  iterate 2 refine op1 tok ?_
  refine qA (AW.seq (rgn [] [[]] ?_))
  refine op1 tok ?_
  refine qA (AW.block ?_)
  refine AW.loop (α:=Nat) (fun k=>k≤xs.length∧(c≠0→k=0)) (fun k=>⟨qV 122 [(2,.ptr 2 0),(3,.ptr 3 0),(5,.p (.sl 1 (xs.map PD.str))),(7,.p (.int .i64 c)),(8,.ms 78),(9,.ms 79),(10,.p (.int .i64 k))],[],[(2,.vars 31 a.cells),(3,.vars 31 b.cells),(78,.row 31 9 (((xs.take k).map (qBW a)).map Val.enc)),(79,.row 31 9 (((xs.take k).map (qBW b)).map Val.enc))],0⟩) (fun k=>xs.length-k) (0) ⟨by omega,fun _=>rfl⟩ ⟨qB (by simp),rfl,by simp,by simp⟩ ?_
  rintro k ⟨hk,hz⟩
  refine AW.seq (rgn [] [[],[],[],[],[2,3,5,7,8,9,10,84],[],[],[2,3,5,7,8,9,10,87]] ?_)
  iterate 5 refine op1 tok ?_
  iterate 2 refine op2 tok ?_
  refine op1 tok ?_
  refine qA (cnd ?_ ?_)
  ·intro h87
   try simp at h87
   have hc0:c=0:=by omega
   have hkl:k<xs.length:=by omega
   obtain ⟨s,hs⟩:∃ s,xs[k]?=some s:=⟨xs[k],by simp [hkl]⟩
   have k1:=qSJ (G:=G) a s (by omega) (by omega)
   have k2:=qSJ (G:=G) b s (by omega) (by omega)
   have i1:s∈a.keys:=hma s (List.mem_of_getElem? hs)
   have i2:s∈b.keys:=hmb s (by rw [← hco hc0]; exact List.mem_of_getElem? hs)
   rw [if_pos i1,decide_eq_true i1] at k1
   rw [if_pos i2,decide_eq_true i2] at k2
   generalize hu:qBW a s=u at k1
   generalize hw:qBW b s=w at k2
   simp only [Val.enc_def] at k1 k2
   refine AW.skip (AW.seq (AW.block ?_))
   refine AW.seqDrawS tok mixed 11 [[2],[5],[10],[92,93],[94],[91,95],[96],[90],[90],[],[11,97]] [.str s,.nilp,.tup [u.enc,.bool true]] [] (by kernel_rfl) ?_
   iterate 11 refine d1 ?_ (hv:=by first | with_reducible exact True.intro | (first | (simp [hs]; done) | exact k1; done) | omega | simp | (simp +contextual; omega))
   refine DGo.nil (by kernel_rfl) ⟨by kernel_rfl, ?_⟩
   refine qC.run [[2,3,5,7,8,9,10,11]] ?_
   refine op1 tok ?_
   refine qA ?_
   refine AW.seqDrawS tok mixed 11 [[3],[5],[10],[101,102],[103],[100,104],[105],[99],[99],[],[13,106]] [.str s,.nilp,.tup [w.enc,.bool true]] [] (by kernel_rfl) ?_
   iterate 11 refine d1 ?_ (hv:=by first | with_reducible exact True.intro | (first | (simp [hs]; done) | exact k2; done) | omega | simp | (simp +contextual; omega))
   refine DGo.nil (by kernel_rfl) ⟨by kernel_rfl, ?_⟩
   refine qC.run [[2,3,5,7,8,9,10,11,13]] ?_
   refine op1 tok ?_
   refine qA (rgn [u.enc] [[],[],[],[2,3,5,7,9,10,13,111],[2,3,5,7,8,9,10,13]] ?_)
   iterate 5 refine op1 tok ?_ (hv:=by first | with_reducible exact True.intro | ((simp; omega); done) | omega | simp | (simp +contextual; omega))
   refine qA (rgz [w.enc] [[],[],[],[2,3,5,7,8,10,115],[2,3,5,7,8,9,10]] ?_)
   iterate 5 refine op1 tok ?_ (hv:=by first | with_reducible exact True.intro | ((simp; omega); done) | omega | simp | (simp +contextual; omega))
   refine qA (rgz [] [[],[],[2,3,5,7,8,9,10]] ?_)
   iterate 3 refine op1 tok ?_
   refine qA ?_
   exact ⟨k+1,⟨by omega,fun h=>(h hc0).elim⟩,by omega,qB (by simp [List.take_add_one,hs,hu,hw]),rfl,by simp [List.take_add_one,hs,hu,hw],by simp [List.take_add_one,hs,hu,hw]⟩
  intro h87
  try simp at h87
  refine AW.exit ?_
  simp
  refine AW.seq (rgn [] [[],[7,8,9,117]] ?_)
  iterate 2 refine op1 tok ?_
  refine qA (cnd ?_ ?_)
  ·intro h117
   try simp at h117
   rw [if_pos h117] at hR
   refine rgn [] [[],[4]] ?_
   iterate 2 refine op1 tok ?_
   refine qA ?_
   exact AW.ret (qG (k:=by simp [hR]))
  intro h117
  try simp at h117
  rw [if_neg (by simp [h117])] at hR
  have hkx:k=xs.length:=by omega
  have hxy:=hco h117
  subst hkx
  subst hxy
  refine AW.skip ?_
  refine AW.seqRegionO [.nilp,.int .i64 (zX (kT f) (kC a) (kC b))] ?_
  refine qC.freeze 78 (by conv=>lhs; simp) ?_
  refine qC.freeze 79 (by conv=>lhs; simp) ?_
  refine qC.run [[],[],[121],[4]] ?_
  iterate 4 refine op1 tok ?_ (hv:=by first | with_reducible exact True.intro | ((rw [hka,hkb] at hcl ⊢; simp at hcl ⊢; rw [List.take_of_length_le (by simp),List.take_of_length_le (by simp)]; exact hcl); done) | omega | simp | (simp +contextual; omega))
  refine qA ?_
  exact AW.ret (qG (k:=by simp [hR]))
 intro h65
 try simp at h65
 rw [if_neg h65] at hR
 refine AW.skip (rgn [] [[]] ?_)
 refine op1 tok ?_
 refine qA ?_
 exact AW.ret (qG (k:=by simp [hR]))
theorem qOB:∀ (f:Nat) (a b:Val),qS a=true→qS b=true→Val.sz a≤f→AFn Tryz.prog G 22 [a.enc,b.enc] (.int .i64 (kT (f+1) a b))
 | 0,a,b,ha,hb,h=>qLR 0 a b ha hb fun x hx=>by have:=Val.sz_kid hx; omega
 | f+1,a,b,ha,hb,h=>qLR (f+1) a b ha hb fun x hx y hy=>qOB f x y (yG ha hx) (yG hb hy) (by have:=Val.sz_kid hx; omega)
theorem qSK (a b:Val) (ha:qS a=true) (hb:qS b=true):AFn Tryz.prog G 22 [a.enc,b.enc] (.int .i64 (vL a b)):=qOB _ a b ha hb (Nat.le_refl _)
end Go.Proofs.YtdojfdaglbphlaaGreatDoor
namespace Go.Proofs.YtdojfdaglbphlaaGreatDoor.Sy
open Go
section
variable {P:Program} {T:Tab} {G:qR} {Q:Exit→St→Prop} {st st':St}
theorem Turned.refl (w:World) (b:Nat):Turned w w b:=⟨rfl,rfl,rfl,rfl,fun _ _=>rfl⟩
theorem Rel.beginBox {c : Ctx} {M : zG} {μ : Mu} {st : St} {tmps : Array Value} {w : World} (r : Rel c M μ st tmps w) {id k j : Nat} {e : TypeId} {cells : List V} (hb : wE id st.H = some (.vars e cells)) (hj : cells[j]? = some .nilsl)
  (hf:st.fresh k=true) (e':TypeId) (sz:Nat):∃ μ',Rel c M μ' { st with H:=wF id (.vars e (cells.set j (.ms k))) ((k,.row e' sz [])::st.H) } tmps w:=by
 have hm:=zJ hb
 have hk:qO id st.H=true:=qJ.2 ⟨_,hm⟩
 have hne:id≠k:=by
  rintro rfl
  have:=(St.fresh_spec hf).2.2.2
  rw [hk] at this; cases this
 have r1:=r.adopt (l:=⟨none,.slice none 0 0⟩) hf (fun b hb=>by cases hb) (bx := .row e' sz []) (.rowN (by rw [qT]) (by rw [qT]))
 have hbx:=r1.box id _ (List.mem_cons_of_mem _ hm)
 cases hbx with
 | @vars _ _ b arr h0 hh hs ho hc =>
 refine ⟨_,r1.write (id:=id) (b:=b) (w':=w) (bx := .vars e (cells.set j (.ms k))) (by simp [qO,hk]) h0 (Turned.refl w b) (.vars h0 hh (by simpa using hs) ho fun i u x hu hx => ?_)⟩
 rw [List.getElem?_set] at hx
 split at hx
 ·rename_i hji
  subst hji
  split at hx
  ·cases hx
   have:=hc j u .nilsl hu hj
   cases this
   exact .ms (by rw [qT]) rfl
  cases hx
 exact hc i u x hu hx
theorem AW.beginBox {c : Code} (id k j : Nat) (e' : TypeId) (sz : Nat) {e : TypeId} {cells : List V} (hb : wE id st.H = some (.vars e cells)) (hj : cells[j]? = some .nilsl) (hf : st.fresh k = true)
  (h:({ st with H:=wF id (.vars e (cells.set j (.ms k))) ((k,.row e' sz [])::st.H) }:St)=st') (k:AW P G c Q st'):AW P G c Q st:=fun x M μ tmps w hg r=>by
 obtain ⟨μ',r'⟩:=r.beginBox hb hj hf e' sz
 exact k x M μ' tmps w hg (h ▸ r')
theorem qC.beginBox {ops : Array Oper} {l : List Oper} {orc : List PD} (id k j : Nat) (e' : TypeId) (sz : Nat) {e : TypeId} {cells : List V} (hb : wE id st.H = some (.vars e cells)) (hj : cells[j]? = some .nilsl) (hf : st.fresh k = true)
  (h:({ st with H:=wF id (.vars e (cells.set j (.ms k))) ((k,.row e' sz [])::st.H) }:St)=st') (k:qC P G ops Q l st' orc):qC P G ops Q l st orc:=fun x M μ tmps w hg r=>by
 obtain ⟨μ',r'⟩:=r.beginBox hb hj hf e' sz
 exact k x M μ' tmps w hg (h ▸ r')
theorem AW.pinsTo {c:Code} (ps:List Nat) (hs:∀ i∈ps,i∈st.pins) (h:({ st with pins:=ps }:St)=st') (k:AW P G c Q st'):AW P G c Q st:=fun x M μ tmps w hg r =>
 k x M μ tmps w hg (h ▸ ⟨r.mem,r.ext,r.old,r.slots,fun i hi=>r.pins i (hs i hi),r.box,r.nodup,r.inj,r.own,r.size,r.below⟩)
theorem qC.stepKIf (ks : List Nat) (d : Nat) {orc : List PD} {ops : Array Oper} {o : Oper} {rest : List Oper} {x : V} {st1 : St} {j : Nat} {pol : Bool} (hgd : o.guard = some (j, pol)) (hd : (ops[j]?).bind (·.dst) = some d)
  (h:zH P G o st x st1) (hb:decide (d<st.tmps.length)=true∧V.guards pol (st.tmps.getD d .dead)=some true) (hk:(st1.put o.dst (.when true x)).keep ks=st') (k:qC P G ops Q rest st' orc):qC P G ops Q (o::rest) st orc :=
 zI.stepIfT hgd hd (of_decide_eq_true hb.1) hb.2 h (zI.keep ks (hk ▸ k))
theorem AW.fillE {c:Code} (id:Nat) (ns:List (Option Nat)) (h:st.fill id ns=st') (k:AW P G c Q st'):AW P G c Q st:=fun x M μ tmps w hg r=>k x M μ tmps w hg (h ▸ r.fill id ns)
end
set_option linter.unusedSimpArgs false
section
variable {P:Program} {T:Tab} {G:qR} {Q:Exit→St→Prop} {st st':St}
def qAY (ks:List (List UInt8)) (vs:List V) (s:List UInt8) (v:V):List V:=if s∈ks then vs.set (ks.idxOf s) v else vs++[v]
theorem qXF (hT : TOK P T) {o : Oper} {t el : TypeId} {x y : Operand} (ho : o.op = .slice t x none (some y) none) (ht : wJ T t = some (.sl el)) {p q : Prop} {id : Nat} {kd : IntKind} {z : Int} (n : Nat)
  (h1:st.arg G x=(p,.ms id)) (hp:p) (h2:st.arg G y=(q,.p (.int kd z))) (hq:q) {e sz:Nat} {es:List PD} {ti:TI} (hti:T el=some ti) (hb:wE id st.H=some (.row e sz es)) (hn:n≤es.length) (hz:z=(n:Int)) :
  zH P G o st (.ms id) { st.kill id with H:=(id,.row e sz (es.take n))::(st.kill id).H }:=by
 subst hz
 intro c M μ tmps w hg r
 have hd:=hT.sl ht
 obtain ⟨i,de,hi',_,_,hsz,_⟩:=hT.get hti
 have hso:(sizeOf el).run P w = .ok ti.size w:=by simp [sizeOf,typeInfo,hi',hsz]
 have e1:=qF hg r h1 hp
 have e2:=(qF hg r h2 hq).p_inv
 generalize hu1:Act.eval ⟨tmps,[]⟩ x=u1 at e1
 generalize hu2:Act.eval ⟨tmps,[]⟩ y=u2 at e2
 cases e1 with
 | ms hval hone =>
 cases e2 with
 | int _ _ =>
 have hm:=zJ hb
 have hk:qO id st.H=true:=qJ.2 ⟨_,hm⟩
 have rk:=r.kill id
 have hbx:=r.box id _ hm
 cases hbx with
 | rowN h0 hv =>
  rw [hv] at hval
  subst hval
  obtain rfl:n=0:=by simpa using hn
  have hbd:=yB (P:=P) (isSlice:=true) (len:=0) (cap:=0) (lo:=none) (hi:=some (.int kd 0)) (l:=0) (h:=0) (.inl ⟨rfl,rfl⟩) (.inr ⟨kd,rfl⟩) (by omega) (by omega) (by omega) w
  have er:(execOp (Act.eval ⟨tmps,[]⟩) o).run P w = .ok (.value (.slice none 0 0)) w:=by
   simp at hbd
   simp [execOp,ho,hu1,hu2,Instr.sliceAt,Instr.slice,run_underlying hd,hbd,hso]
  rw [er]
  exact ⟨M,upd μ id ⟨none,.slice none 0 0⟩,rk.adopt (l:=⟨none,.slice none 0 0⟩) (qBD st id) (fun b hb=>by cases hb) (.rowN (by rw [qT]) (by rw [qT])),.ms (by rw [qT]) rfl⟩
 | @row _ _ _ b cap arr h0 hv hh has hlc hcm hone' hz hcc =>
  rw [hv] at hval
  subst hval
  have hbd:=yB (P:=P) (isSlice:=true) (len:=es.length) (cap:=cap) (lo:=none) (hi:=some (.int kd n)) (l:=0) (h:=n) (.inl ⟨rfl,rfl⟩) (.inr ⟨kd,rfl⟩) (by omega) (by omega) (by omega) w
  have er:(execOp (Act.eval ⟨tmps,[]⟩) o).run P w = .ok (.value (.slice (some ⟨b,0,none⟩) n cap)) w:=by
   simp at hbd
   have ha:(if cap=0 then (some (⟨b,0,none⟩:Addr)) else (some (⟨b,0,none⟩:Addr)).map (·.add (0 * ti.size)))=some ⟨b,0,none⟩:=by
    split
    ·rfl
    simp [Addr.add]
   simp [execOp,ho,hu1,hu2,Instr.sliceAt,Instr.slice,run_underlying hd,hbd,hso]
   try simpa using ha
  rw [er]
  have hown:=r.own id b hk h0
  refine ⟨M,upd μ id ⟨some b,.slice (some ⟨b,0,none⟩) n cap⟩,rk.adopt (l:=⟨some b,.slice (some ⟨b,0,none⟩) n cap⟩) (qBD st id) (fun b' hb' => ?_) (.row (cap:=cap) (by rw [qT]) (by rw [qT]; simp [Nat.min_eq_left hn]) hh has (by simp; omega) hcm hone' (fun i e' he=>hz i e' ?_) fun i e' j d u he hd hu=>hcc i e' j d u ?_ hd hu),.ms (by rw [qT]) rfl⟩
  ·cases hb'; exact ⟨hown.1,hown.2.1,hown.2.2,qPG r hk h0⟩
  ·rw [List.getElem?_take] at he; split at he
   ·exact he
   cases he
  rw [List.getElem?_take] at he; split at he
  ·exact he
  cases he
theorem qFD {id:Nat} {b:Box}:∀ {H:List (Nat × Box)},wE id H=some b→wF id b H=H
 | [],_=>rfl
 | (i,c)::r,h=>by
  simp only [wE] at h
  simp only [wF]
  split at h
  ·rename_i e; cases h; rw [if_pos e]
  rename_i e; rw [if_neg e,qFD h]
theorem qRP (z:Array Value) (n:Nat):Builtin.zeroCells z n=madeCells z (n * z.size):=rfl
theorem qC.clearFrom {ops : Array Oper} {o1 o2 : Oper} {rest : List Oper} {orc : List PD} (hT : TOK P T) (ks : List Nat) {t el d : Nat} {x y : Operand} {p q : Prop} {id : Nat} {kd : IntKind} {z : Int} (n : Nat) (ho1 : o1.op = .slice t x (some y) none none) (hd1 : o1.dst = some d) (hg1 : o1.guard = none)
  (ho2:o2.op = .call { callee := .builtin .clear,args := #[.tmp d],argTypes := #[t] }) (hd2:o2.dst=none) (hg2:o2.guard=none) (ht:wJ T t=some (.sl el)) {ti:TI} (hti:T el=some ti) {zs:List V} (hzs:ti.zero.cells=some zs) (hzl:zs.length=ti.size) {e0:PD} (hfit:V.fitsL [] zs e0.cells)
  (h1:st.arg G x=(p,.ms id)) (hp:p) (h2:st.arg G y=(q,.p (.int kd z))) (hq:q) {e sz:Nat} {es:List PD} (hb:wE id st.H=some (.row e sz es)) (hsz:sz=ti.size) (hn:n≤es.length) (hz:z=(n:Int)) (hdl:d<st.tmps.length)
  (k:qC P G ops Q rest ((({ st with H:=wF id (.row e sz (es.take n++List.replicate (es.length-n) e0)) st.H }:St).put (some d) .dead).keep ks) orc):qC P G ops Q (o1::o2::rest) st orc:=by
 subst hz; subst hsz
 intro c M μ tmps w hg r
 have hd:=hT.sl ht
 obtain ⟨i,de,hi',_,_,hszi,_⟩:=hT.get hti
 have hso:(sizeOf el).run P w = .ok ti.size w:=by simp [sizeOf,typeInfo,hi',hszi]
 have e1:=qF hg r h1 hp
 have e2:=(qF hg r h2 hq).p_inv
 generalize hu1:Act.eval ⟨tmps,[]⟩ x=u1 at e1
 generalize hu2:Act.eval ⟨tmps,[]⟩ y=u2 at e2
 have hts:d<tmps.size:=by rw [r.slots.1]; exact hdl
 cases e1 with
 | ms hval hone =>
 cases e2 with
 | int _ _ =>
 have hm:=zJ hb
 have hk:qO id st.H=true:=qJ.2 ⟨_,hm⟩
 have key : ∀ (v1 : Value) (w1 : World), (execOp (Act.eval ⟨tmps, []⟩) o1).run P w = .ok (.value v1) w → (Builtin.clear_ #[t] o2.type #[v1]).run P w = .ok (.tuple #[]) w1 →
   Rel c M μ { st with H:=wF id (.row e ti.size (es.take n++List.replicate (es.length-n) e0)) st.H } tmps w1→wpList P ops (zPC c Q) (o1::o2::rest) ⟨tmps,[]⟩ w:=by
  intro v1 w1 er1 er2 r1
  refine wpList_plain hg1 fun K hK=>jK (next:=fun v w'=>v=v1∧w'=w) (by rw [er1]; exact ⟨rfl,rfl⟩) ?_
  rintro u w' ⟨rfl,rfl⟩
  apply hK
  rw [Act.put_tmps,hd1]
  simp only
  have hev:Act.eval ⟨tmps.setIfInBounds d u,[]⟩ (.tmp d)=u:=by simp [Act.eval,hts]
  have er:(execOp (Act.eval ⟨tmps.setIfInBounds d u,[]⟩) o2).run P w' = .ok (.value (.tuple #[])) w1:=by
   simp [execOp,ho2,resolve,invoke,builtin,hev,er2]
  refine wpList_plain hg2 fun K hK=>jK (next:=fun v w''=>v = .tuple #[]∧w''=w1) (by rw [er]; exact ⟨rfl,rfl⟩) ?_
  rintro u2 w'' ⟨rfl,rfl⟩
  apply hK
  rw [Act.put_tmps,hd2]
  simp only
  exact zI.keep ks k c M μ _ _ hg (r1.put (.dead) (some d))
 have hbx:=r.box id _ hm
 cases hbx with
 | rowN h0 hv =>
  rw [hv] at hval
  subst hval
  obtain rfl:n=0:=by simpa using hn
  have hbd:=yB (P:=P) (isSlice:=true) (len:=0) (cap:=0) (lo:=some (.int kd 0)) (hi:=none) (l:=0) (h:=0) (.inr ⟨kd,rfl⟩) (.inl ⟨rfl,rfl⟩) (by omega) (by omega) (by omega) w
  refine key (.slice none 0 0) w ?_ (by simp [Builtin.clear_,run_underlying hd]) ?_
  ·simp at hbd
   simp [execOp,ho1,hu1,hu2,Instr.sliceAt,Instr.slice,run_underlying hd,hbd,hso]
  rw [show (List.take 0 ([]:List PD)++List.replicate (([]:List PD).length-0) e0)=[] by rfl]
  have hsame:wF id (.row e ti.size []) st.H=st.H:=qFD hb
  rw [hsame]
  exact r
 | @row _ _ _ b cap arr h0 hv hh has hlc hcm hone' hz hcc =>
  rw [hv] at hval
  subst hval
  have hbd:=yB (P:=P) (isSlice:=true) (len:=es.length) (cap:=cap) (lo:=some (.int kd n)) (hi:=none) (l:=n) (h:=es.length) (.inr ⟨kd,rfl⟩) (.inl ⟨rfl,rfl⟩) (by omega) (by omega) (by omega) w
  obtain ⟨zv,hzr,hzc,_⟩:=qCT hT hti hzs M μ w
  by_cases hne:n=es.length
  ·subst hne
   refine key (.slice (if cap=es.length then some ⟨b,0,none⟩ else (some (⟨b,0,none⟩:Addr)).map (·.add (es.length * ti.size))) 0 (cap-es.length)) w ?_ ?_ ?_
   ·simp at hbd
    simp [execOp,ho1,hu1,hu2,Instr.sliceAt,Instr.slice,run_underlying hd,hbd,hso]
   ·split <;> simp [Builtin.clear_,run_underlying hd]
   rw [List.take_length,Nat.sub_self,List.replicate_zero,List.append_nil]
   have:=r.write (w':=w) (bx := .row e ti.size es) hk h0 (Turned.refl w b) (.row h0 hv hh has hlc hcm hone' hz hcc)
   exact this
  have hlt:n<es.length:=by omega
  have hzs':zv.cells.size=ti.size:=by rw [hzc.size,hzl]
  have hmr:=qPA hzc hzl hfit (es.length-n)
  have hsum:n * ti.size+(es.length-n) * ti.size=es.length * ti.size:=by rw [← Nat.add_mul]; congr 1; omega
  have hcap:es.length * ti.size≤cap * ti.size:=Nat.mul_le_mul_right _ hlc
  have hml:(madeCells zv.cells ((es.length-n) * ti.size)).toList.length=(es.length-n) * ti.size:=by rw [hmr.len,List.length_replicate]
  have hst:=run_storeCells_at P b (n * ti.size) e (madeCells zv.cells ((es.length-n) * ti.size)).toList 0 arr w hh (by simp only [Nat.add_zero,hml]; omega) hmr.one
  simp only [Nat.add_zero] at hst
  generalize hnew:(arr.toList.take (n * ti.size)++(madeCells zv.cells ((es.length-n) * ti.size)).toList++arr.toList.drop (n * ti.size+(madeCells zv.cells ((es.length-n) * ti.size)).toList.length)).toArray=arr' at hst
  have hrow:RowOf M ti.size es (arr.toList.take (es.length * ti.size)):=by
   rcases (r.box id _ hm).cells with ⟨rfl,h,_⟩ | ⟨b',cap',arr2,g0,gv,gh,_,_,_,_,gr⟩
   ·rw [h0] at h; cases h
   rw [h0] at g0; cases g0
   rw [hh] at gh; cases gh
   exact gr
  refine key (.slice (some ⟨b,n * ti.size,none⟩) (es.length-n) (cap-n)) (w.setRow b arr') ?_ ?_ ?_
  ·simp at hbd
   have hne2:¬ cap=n:=by omega
   have hadd:(⟨b,0,none⟩:Addr).add (n * ti.size)=⟨b,n * ti.size,none⟩:=by rw [xH]; simp
   simp [execOp,ho1,hu1,hu2,Instr.sliceAt,Instr.slice,run_underlying hd,hbd,hso,hne2,hadd]
  ·obtain ⟨m,hm'⟩:∃ m,es.length-n=m+1:=⟨es.length-n-1,by omega⟩
   rw [hm'] at hst ⊢
   have hzm:=qRP zv.cells (m+1)
   rw [hzs'] at hzm
   simp only [Builtin.clear_,Sem.run_bind]
   simp [run_underlying hd,hzr,hzm,hst,Result.andThen]
  refine r.write (w':=w.setRow b arr') hk h0 (xK w b _) ?_
  have hsz':arr'.size=arr.size:=by rw [← hnew]; simp [hml]; omega
  have hR:RowOf M ti.size (es.take n++List.replicate (es.length-n) e0) (arr.toList.take (n * ti.size)++(madeCells zv.cells ((es.length-n) * ti.size)).toList):=by
   refine RowOf.append ?_ hmr
   refine ⟨by rw [List.length_take,List.length_take,Nat.min_eq_left hn,Nat.min_eq_left (by rw [Array.length_toList,has]; exact Nat.mul_le_mul_right _ (by omega))],fun u hu=>hrow.one u ?_,fun j e' he=>hrow.elem j e' ?_,fun j e' l d' u he hd' hu=>hrow.get j e' l d' u ?_ hd' ?_⟩
   ·have:arr.toList.take (n * ti.size)=(arr.toList.take (es.length * ti.size)).take (n * ti.size):=by rw [List.take_take,Nat.min_eq_left (by omega)]
    rw [this] at hu; exact List.mem_of_mem_take hu
   ·rw [List.getElem?_take] at he; split at he
    ·exact he
    cases he
   ·rw [List.getElem?_take] at he; split at he
    ·exact he
    cases he
   rw [List.getElem?_take] at hu ⊢
   split at hu
   ·rw [if_pos (by omega)]; exact hu
   cases hu
  have hll:(es.take n++List.replicate (es.length-n) e0).length=es.length:=by simp; omega
  refine hR.box (cap:=cap) h0 (by rw [hll]; exact hv) (setRow_heap w b arr _ e (0,0) hh) (by rw [hsz']; exact has) (by rw [hll]; exact hlc) hcm (fun j u hu => ?_) ?_
  ·rw [← hnew,List.getElem?_toArray] at hu
   have hmem:=List.mem_of_getElem? hu
   rw [List.append_assoc,List.mem_append,List.mem_append] at hmem
   rcases hmem with h | h | h
   ·obtain ⟨j',hj'⟩:=List.mem_iff_getElem?.1 (List.mem_of_mem_take h)
    exact hone' j' u (by simpa using hj')
   ·exact hmr.one u h
   obtain ⟨j',hj'⟩:=List.mem_iff_getElem?.1 (List.mem_of_mem_drop h)
   exact hone' j' u (by simpa using hj')
  rw [← hnew,hll]
  simp only [List.append_assoc]
  rw [← List.append_assoc,List.take_append_of_le_length (by simp [hml]; omega),List.take_of_length_le (by simp [hml]; omega)]
end
end Go.Proofs.YtdojfdaglbphlaaGreatDoor.Sy
namespace Go.Proofs.YtdojfdaglbphlaaGreatDoor
open Sy Go
set_option maxRecDepth 100000
set_option maxHeartbeats 4000000
set_option linter.unusedSimpArgs false
set_option linter.unusedVariables false
variable {G:qR}
theorem zJX (ks:List (List UInt8)) (hn:ks.length≤1000000):AX Tryz.prog G 187 [.p (.sl 1 (ks.map PD.str))] [] (.ms 905) [] [(905,.row 9 1 (ks.map PD.str))]:=by
 refine AX.introU tok 900 Tryz.func187 (by kernel_rfl) rfl rfl ?_
 simp only [Tryz.f187,qI,List.map_cons,List.map_nil]
 refine rgn [] [[0]] ?_
 refine op1 tok ?_
 refine qA (AW.seq (rgn [] [[]] ?_))
 refine op1 tok ?_
 refine qZ ?_
 refine qC.nilEq tok [0,4] rfl rfl (by conv=>lhs; simp) trivial rfl ?_
 intro bn1 hbn1
 refine qC.same (by conv=>lhs; simp) ?_
 refine qC.nil ?_
 refine cnd ?_ ?_
 ·intro h4
  try simp at h4
  have hks:ks=[]:=by
   by_cases h:ks=[]
   ·exact h
   rw [hbn1 (by simpa using h)] at h4; cases h4
  subst hks
  refine rgn [] [[]] ?_
  refine op1 tok ?_
  refine qA ?_
  refine AW.beginE 2 905 9 1 (by simp) (by simp) (by conv=>lhs; simp) ?_
  exact AW.ret wD
 intro h4
 try simp at h4
 refine AW.skip (rgn [] [[],[],[],[2]] ?_)
 iterate 4 refine op1 tok ?_
 refine qA ?_
 exact AW.ret wD
theorem qUC (ks:List (List UInt8)) (hn:ks.length≤1000000):AR Tryz.prog G 187 [.sl 1 (ks.map PD.str)] 9 1 (ks.map PD.str):=AR.of_AX (k:=905) (by simpa using zJX ks hn)
theorem zJV (vs:List Val) (hn:vs.length≤1000000):AX Tryz.prog G 188 [.p (.sl 9 (vs.map Val.enc))] [] (.ms 905) [] [(905,.row 31 9 (vs.map Val.enc))]:=by
 refine AX.introU tok 900 Tryz.func188 (by kernel_rfl) rfl rfl ?_
 simp only [Tryz.f188,qI,List.map_cons,List.map_nil]
 refine rgn [] [[0]] ?_
 refine op1 tok ?_
 refine qA (AW.seq (rgn [] [[]] ?_))
 refine op1 tok ?_
 refine qZ ?_
 refine qC.nilEq tok [0,4] rfl rfl (by conv=>lhs; simp) trivial rfl ?_
 intro bn1 hbn1
 refine qC.same (by conv=>lhs; simp) ?_
 refine qC.nil ?_
 refine cnd ?_ ?_
 ·intro h4
  try simp at h4
  have hks:vs=[]:=by
   by_cases h:vs=[]
   ·exact h
   rw [hbn1 (by simpa using h)] at h4; cases h4
  subst hks
  refine rgn [] [[]] ?_
  refine op1 tok ?_
  refine qA ?_
  refine AW.beginE 2 905 31 9 (by simp) (by simp) (by conv=>lhs; simp) ?_
  exact AW.ret wD
 intro h4
 try simp at h4
 refine AW.skip (rgn [] [[],[],[],[2]] ?_)
 iterate 4 refine op1 tok ?_
 refine qA ?_
 exact AW.ret wD
theorem qUA (vs:List Val) (hn:vs.length≤1000000):AR Tryz.prog G 188 [.sl 9 (vs.map Val.enc)] 31 9 (vs.map Val.enc):=AR.of_AX (k:=905) (by simpa using zJV vs hn)
@[simp] theorem zUT (u:Val):(qJS u).kind=u.kind:=rfl
@[simp] theorem zUS (u:Val):(qJS u).mask=0:=rfl
@[simp] theorem zVZ (u:Val):(qJS u).num=u.num:=rfl
@[simp] theorem zUR (u:Val):(qJS u).text=u.text:=rfl
@[simp] theorem zUV (u:Val):(qJS u).keys=u.keys:=rfl
@[simp] theorem zUU (u:Val):(qJS u).kids=u.kids:=rfl
@[simp] theorem zUW (u:Val):(qJS u).code=u.code:=rfl
def xF (ch:Val→Val) (v:Val) (k:Nat):List PD:=(v.kids.take k).map (fun u=>(qAY ch u).enc)++(v.kids.drop k).map Val.enc
theorem qPI (ch:Val→Val) (v:Val) (k:Nat):(xF ch v k).length=v.kids.length:=by
 simp only [xF,List.length_append,List.length_map,List.length_take,List.length_drop]; omega
@[simp] theorem zSF (ch:Val→Val) (v:Val):xF ch v 0=v.kids.map Val.enc:=by simp only [xF,List.take_zero,List.map_nil,List.nil_append,List.drop_zero]
theorem qPJ {ch:Val→Val} {v x:Val} {k:Nat} (hx:v.kids[k]?=some x):(xF ch v k)[k]?=some x.enc:=by
 have hk:=(List.getElem?_eq_some_iff.1 hx).1
 have h0:((v.kids.take k).map (fun u=>(qAY ch u).enc)).length=k:=by simp only [List.length_map,List.length_take]; omega
 rw [xF,List.getElem?_append_right (by omega),h0,Nat.sub_self,List.getElem?_map,List.getElem?_drop,Nat.add_zero,hx]; rfl
theorem qPH {ch:Val→Val} {v x:Val} {k:Nat} (hx:v.kids[k]?=some x):(xF ch v k).set k (qAY ch x).enc=xF ch v (k+1):=by
 have hk:=(List.getElem?_eq_some_iff.1 hx).1
 have hxk:=(List.getElem?_eq_some_iff.1 hx).2
 have h0:((v.kids.take k).map (fun u=>(qAY ch u).enc)).length=k:=by simp only [List.length_map,List.length_take]; omega
 rw [xF,List.set_append_right _ _ (by omega),h0,Nat.sub_self,List.drop_eq_getElem_cons hk,xF,List.take_succ_eq_append_getElem hk,hxk]
 simp only [List.map_cons,List.set_cons_zero,List.map_append,List.map_nil,List.append_assoc,List.cons_append,List.nil_append]
theorem qZL (g:FuncId) (ch:Val→Val) (v:Val) (hg:∀ u:Val,AX Tryz.prog G g [.ptr 2 0] [(2,.vars 31 u.cells)] (.tuple []) [2] [(2,.vars 31 (ch u).cells)]) (hsm:v.keys.length≤1000000∧v.kids.length≤1000000) (ih:∀ k∈v.kids,AFn Tryz.prog G 134 [k.enc,.fn g] (qAY ch k).enc):AFn Tryz.prog G 134 [v.enc,.fn g] ((qAY ch v).enc):=by
 refine AFn.introU tok Tryz.func134 (by kernel_rfl) rfl rfl ?_
 simp only [Tryz.f134,qI,List.map_cons,List.map_nil]
 have hck:=qUC (G:=G) v.keys (by omega)
 have hcv:=qUA (G:=G) v.kids (by omega)
 refine rgn [] [[],[1,2,4]] ?_
 iterate 2 refine op1 tok ?_
 refine qA ?_
 refine AW.seqRunDrawK tok mixed [1,2,4] 8 [[2],[7],[8],[2],[10],[11],[2],[13,9]] [.nilf,.sl 1 (v.keys.map PD.str),.clo 9 [],.nilf,.sl 9 (v.kids.map Val.enc),.clo 31 []] [] (by kernel_rfl) (by intro C; conv=>lhs; simp) (by first | exact hck | exact hcv | ((repeat' (first | with_reducible apply And.intro | intro _)) <;> first | exact (hck) | exact (hcv) | assumption | omega | contradiction | simp_all)) (by simp [Sm.sum,Sm.foot,Sm.tch,Sm.refs]; kernel_rfl) (by intro C; conv=>lhs; simp) (by first | with_reducible exact True.intro | omega | simp | (simp +contextual; omega)) ?_
 refine AW.seq (rgn [] [[],[],[],[1,2,4,16,17,18]] ?_)
 iterate 4 refine op1 tok ?_
 refine qA (AW.block ?_)
 refine AW.loop (α:=Nat) (fun k=>k≤v.kids.length) (fun k=>⟨qV 34 [(1,.p (.fn g)),(2,.ptr 2 0),(4,.ptr 4 0),(16,.ms 12),(17,.p (.int .i64 v.kids.length)),(18,.p (.int .i64 k))],[],[(2,.vars 31 [.p (.int .i64 v.kind),.p (.int .u64 v.mask),.p (.bool v.num.neg),.p (.str v.num.digits),.p (.int .i64 v.num.scale),.p (.str v.text),.ms 9,.ms 12,.p (.int .i64 v.code)]),(4,.vars 31 [.p (.int .i64 0),.p (.int .u64 0),.p (.bool false),.p (.str []),.p (.int .i64 0),.p (.str []),.nilsl,.nilsl,.p (.int .i64 0)]),(9,.row 9 1 (v.keys.map PD.str)),(12,.row 31 9 (xF ch v k))],0⟩) (fun k=>v.kids.length-k) (0) (by simp) ⟨qB (by simp),rfl,by simp,by simp⟩ ?_
 rintro k hk
 refine rgn [] [[]] ?_
 refine op1 tok ?_
 refine qA (AW.seq (cnd ?_ ?_))
 ·intro h19
  try simp at h19
  obtain ⟨x,hx⟩:∃ x,v.kids[k]?=some x:=⟨v.kids[k],by simp [h19]⟩
  have hx':=qPJ (ch:=ch) hx
  have hkl:=qPI ch v k
  have hix:=ih x (List.mem_of_getElem? hx)
  have hset:=qPH (ch:=ch) hx
  simp only [Val.enc_def] at hx' hix hset
  refine AW.skip (AW.seq (AW.block (rgn [x.enc] [[],[],[],[],[],[1,2,4,5,6,16,17,18]] ?_)))
  iterate 6 refine oq1 tok hx' ?_
  refine qA ?_
  refine AW.runDrawK tok mixed [1,2,4,16,17,18] 6 [[2],[23],[5],[6],[1],[26,27]] [.nilp,(qAY ch x).enc] [x.enc,(qAY ch x).enc] (by kernel_rfl) (by intro C; conv=>lhs; simp) (by first | exact hix | ((repeat' (first | with_reducible apply And.intro | intro _)) <;> first | exact (hix) | exact (hx') | assumption | omega | contradiction | simp_all)) (by simp [Sm.sum,Sm.foot,Sm.tch,Sm.refs]; kernel_rfl) (by intro C; conv=>lhs; simp) (by exact ⟨by omega,hx'⟩) ?_
  refine rgz [] [[],[1,2,4,16,17,18]] ?_
  iterate 2 refine op1 tok ?_
  refine qA ?_
  exact ⟨k+1,(by omega),(by omega),qB (by simp [hset]),rfl,by simp [hset],by simp [hset]⟩
 intro h19
 try simp at h19
 obtain rfl:k=v.kids.length:=by omega
 have hfull:xF ch v v.kids.length=(v.kids.map (qAY ch)).map Val.enc:=by simp only [xF,List.take_length,List.drop_length,List.map_nil,List.append_nil,List.map_map]; rfl
 rw [hfull]
 refine AW.exit ?_
 simp
 refine rgn [] [[]] ?_
 refine op1 tok ?_
 refine qZ ?_
 refine qC.freeze 9 (by conv=>lhs; simp) ?_
 refine qC.freeze 12 (by conv=>lhs; simp) ?_
 refine qC.stepK [2,4] (yS rfl (hg (.mk v.kind v.mask v.num v.text v.keys (v.kids.map (qAY ch)) v.code)) (by simp)) (by conv=>lhs; simp) rfl ?_
 refine qC.nil ?_
 refine rgn [] [[],[4]] ?_
 iterate 2 refine op1 tok ?_
 refine qA ?_
 exact AW.ret (qG (k:=by simp [qVV ch v]))
inductive Few:Val→Prop
 | mk {v:Val} (h1:v.keys.length≤1000000) (h2:v.kids.length≤1000000) (h3:∀ k∈v.kids,Few k):Few v
theorem qMU (v:Val) (h:qS v=true):Few v :=
 Val.induct (p:=fun v=>qS v=true→Few v) (fun v ih hv=>by
  have hsm:=wZ hv
  exact .mk (by omega) (by omega) fun k hk=>ih k hk (yG hv hk)) v h
theorem qOZ (g:FuncId) (ch:Val→Val) (hg:∀ u:Val,AX Tryz.prog G g [.ptr 2 0] [(2,.vars 31 u.cells)] (.tuple []) [2] [(2,.vars 31 (ch u).cells)]) (v:Val) (hv:Few v):AFn Tryz.prog G 134 [v.enc,.fn g] (qAY ch v).enc:=by
 induction hv with
 | mk h1 h2 h3 ih=>exact qZL g ch _ hg ⟨h1,h2⟩ ih
theorem zIR (g:FuncId) (ch:Val→Val) (hg:∀ u:Val,AX Tryz.prog G g [.ptr 2 0] [(2,.vars 31 u.cells)] (.tuple []) [2] [(2,.vars 31 (ch u).cells)]) (v:Val) (hv:qS v=true):AFn Tryz.prog G 134 [v.enc,.fn g] (qAY ch v).enc :=
 qOZ g ch hg v (qMU v hv)
theorem qUE (u:Val):AX Tryz.prog G 135 [.ptr 2 0] [(2,.vars 31 u.cells)] (.tuple []) [2] [(2,.vars 31 (id u).cells)]:=by
 refine AX.introU tok 900 Tryz.func135 (by kernel_rfl) rfl rfl ?_
 simp only [Tryz.f135,qI,List.map_cons,List.map_nil]
 refine AW.skip ?_
 exact zFP
theorem qUD (v:Val) (hv:Few v):AFn Tryz.prog G 78 [v.enc] (v.enc):=by
 refine AFn.introU tok Tryz.func78 (by kernel_rfl) rfl rfl ?_
 simp only [Tryz.f78,qI,List.map_cons,List.map_nil]
 have hm:=qOZ (G:=G) 135 id qUE v hv
 rw [qVU] at hm
 simp only [Val.enc_def] at hm
 refine rgn [] [[],[1,2]] ?_
 iterate 2 refine op1 tok ?_
 refine qA (rgn [.nilp,v.enc] [[],[],[2]] ?_)
 iterate 3 refine oq1 tok hm ?_
 exact qA (AW.ret qG)
theorem zAY (v:Val) (hv:qS v=true):AFn Tryz.prog G 78 [v.enc] v.enc:=qUD v (qMU v hv)
theorem zJM (v:Val) (ih:∀ k∈v.kids,AFn Tryz.prog G 31 [k.enc] (.int .u64 (qU k))):AFn Tryz.prog G 31 [v.enc] (.int .u64 (qU v)):=by
 refine AFn.introU tok Tryz.func31 (by kernel_rfl) rfl rfl ?_
 simp only [Tryz.f31,qI,List.map_cons,List.map_nil]
 refine rgn [] [[],[1]] ?_
 iterate 2 refine op1 tok ?_
 refine qA (rgn [] [[],[],[1,3]] ?_)
 iterate 3 refine op1 tok ?_
 refine qA (AW.seq (rgn [] [[],[],[],[3,9,10,11]] ?_))
 iterate 4 refine op1 tok ?_
 refine qA (AW.block ?_)
 refine AW.intFactU (i:=10) rfl (by decide) ?_; intro hlen; simp at hlen
 refine AW.loop (α:=Nat) (fun k=>k≤v.kids.length) (fun k=>⟨qV 21 [(3,.p (.int .u64 (qBF v.mask (v.kids.take k)))),(9,.p (.sl 9 (v.kids.map Val.enc))),(10,.p (.int .i64 v.kids.length)),(11,.p (.int .i64 k))],[],[],0⟩) (fun k=>v.kids.length-k) (0) (by omega) ⟨qB (by simp),rfl,by simp,by simp⟩ ?_
 rintro k hk
 refine rgn [] [[]] ?_
 refine op1 tok ?_
 refine qA (AW.seq (cnd ?_ ?_))
 ·intro h12
  try simp at h12
  obtain ⟨x,hx⟩:∃ x,v.kids[k]?=some x:=⟨v.kids[k],by simp [h12]⟩
  have hix:=ih x (List.mem_of_getElem? hx)
  simp only [Val.enc_def] at hix
  refine AW.skip (AW.seq (AW.block (rgn [x.enc] [[],[],[],[3,5,9,10,11]] ?_)))
  iterate 4 refine op1 tok ?_ (hv:=by first | with_reducible exact True.intro | (simp [hx]; done) | omega | simp | (simp +contextual; omega))
  refine qA (rgz [.nilp,.int .u64 (qU x)] [[],[],[],[9,10,11,18],[3,9,10,11]] ?_)
  iterate 5 refine oq1 tok hix ?_ (h:=by intro C; conv=>lhs; simp [zB])
  refine qA (rgz [] [[],[3,9,10,11]] ?_)
  iterate 2 refine op1 tok ?_
  refine qA ?_
  exact ⟨k+1,by omega,by omega,qB (by simp [uJ hx]),rfl,by simp [uJ hx],by simp [uJ hx]⟩
 intro h12
 try simp at h12
 rw [List.take_of_length_le h12]
 refine AW.exit ?_
 simp
 refine rgn [] [[],[2]] ?_
 iterate 2 refine op1 tok ?_
 refine qA ?_
 exact AW.ret (qG (k:=by simp [qQA v]))
theorem yN (v:Val):AFn Tryz.prog G 31 [v.enc] (.int .u64 (qU v)):=Val.induct (fun v ih=>zJM v ih) v
theorem zEH (v:Val) (m:Int) (hv:qS v=true):AFn Tryz.prog G 76 [v.enc,.int .u64 m] ((vD v m).enc):=by
 refine AFn.introU tok Tryz.func76 (by kernel_rfl) rfl rfl ?_
 simp only [Tryz.f76,qI,List.map_cons,List.map_nil]
 have hm:=zAY (G:=G) v hv
 simp only [Val.enc_def] at hm
 refine rgn [] [[],[1,2,4]] ?_
 iterate 2 refine op1 tok ?_
 refine qA (rgn [.nilp,v.enc] [[],[],[1,2,4]] ?_)
 iterate 3 refine oq1 tok hm ?_
 refine qA (rgn [] [[],[],[],[2,4,10],[],[2,4]] ?_)
 iterate 6 refine op1 tok ?_ (h:=by intro C; conv=>lhs; simp [zB])
 refine qA (rgn [] [[],[4]] ?_)
 iterate 2 refine op1 tok ?_
 exact qA (AW.ret qG)
open Go
open Go.Lib
def qRF (n:Nat):UInt8:=if n<10 then UInt8.ofNat (48+n) else UInt8.ofNat (87+n)
def qb (b:UInt8):List UInt8 :=
 if b=34∨b=92 then [92,b] else if b=10 then [92,110] else if b=13 then [92,114] else if b=9 then [92,116]
 else if b<32∨b=127 then [92,117,48,48,qRF (b.toNat / 16),qRF (b.toNat % 16)] else [b]
def uS (s:List UInt8):List UInt8:=s.flatMap qb
def jD (s:List UInt8):List UInt8:=34::(uS s++[34])
def wAG (c:UInt8):Option Nat:=if 48≤c∧c≤57 then some (c.toNat-48) else if 97≤c∧c≤102 then some (c.toNat-87) else if 65≤c∧c≤70 then some (c.toNat-55) else none
def zYR:List UInt8→Nat→Option Nat
 | [],x=>some x
 | c::l,x=>match wAG c with
  | none=>none
  | some k=>zYR l (16 * x+k)
def qRW (s:List UInt8):Option Nat:=if s.length<6∨s.take 2≠[92,117] then none else zYR ((s.drop 2).take 4) 0
def zYV (c:UInt8):Option Nat:=if c=34 then some 34 else if c=92 then some 92 else if c=47 then some 47 else if c=98 then some 8 else if c=102 then some 12 else if c=110 then some 10 else if c=114 then some 13 else if c=116 then some 9 else none
def zYU (u w:Option Nat):Nat × Nat × Bool :=
 if u.isSome=false∨u.getD 0 / 1024≠54 then (u.getD 0,6,u.isSome && decide (u.getD 0 / 1024≠55)) else (65536+u.getD 0 % 1024 * 1024+w.getD 0 % 1024,12,w.isSome && decide (w.getD 0 / 1024=55))
def zAD (s:List UInt8):Nat × Nat × Bool:=match s with
 | _::c::_=>match zYV c with
  | some v=>(v,2,true)
  | none=>zYU (qRW s) (qRW (s.drop 6))
 | _=>(0,0,false)
def zNT (s:List UInt8):Option (Nat × Nat):=if (zAD s).2.2=true then some ((zAD s).1,(zAD s).2.1) else none
def uB:Nat→List UInt8→Nat→List UInt8→List UInt8 × Nat × Int
 | 0,_,_,_=>([],0,6)
 | f+1,s,at',out=>if s=[] then ([],0,6)
  else if (decodeL s).1=34 then (if 4096<out.length then ([],0,3) else (out,at'+1,0))
  else if (decodeL s).1<32∨((decodeL s).1=65533∧(decodeL s).2=1) then ([],0,6)
  else if (decodeL s).1=92 then (match zNT s with
   | none=>([],0,6)
   | some (c,n)=>uB f (s.drop n) (at'+n) (out++encodeRune c))
  else uB f (s.drop (decodeL s).2) (at'+(decodeL s).2) (out++encodeRune (decodeL s).1)
def zN (s:List UInt8):List UInt8 × Nat × Int:=if s.head?=some 34 then uB s.length (s.drop 1) 1 [] else ([],0,6)
theorem qQB {b:UInt8} {t:List UInt8} (h:b.toNat<128):decodeL (b::t)=(b.toNat,1):=by
 unfold decodeL
 rw [decode_at]
 have e:(⟨(b::t).toArray⟩:ByteArray).get! 0=b:=rfl
 rw [e]
 unfold decodeN
 rw [if_pos h]
theorem zMM {b:UInt8} (h:b.toNat<128):encodeRune (b.toNat:Int)=[b]:=by
 simp only [encodeRune,encodeRuneZ_one (r:=(b.toNat:Int)) (by omega) (by omega),List.map_cons,List.map_nil]
 congr 1
 simp
theorem zAN (l:List UInt8):decodeL l=decodeN l.length (l.getD 0 0).toNat (l.getD 1 0).toNat (l.getD 2 0).toNat (l.getD 3 0).toNat:=by
 unfold decodeL
 rw [decode_at]
 have e:∀ k,(⟨l.toArray⟩:ByteArray).get! k=l.getD k 0:=by
  intro k
  show l.toArray[k]! = _
  simp [List.getD_eq_getElem?_getD]
  rfl
 simp only [e]
 rfl
theorem zKB (l:List UInt8) (hne:l≠[]) (hv:¬ ((decodeL l).1=65533∧(decodeL l).2=1)) (hb:128≤(l.getD 0 0).toNat):(∀ b∈l.take (decodeL l).2,128≤b.toNat)∧128≤(decodeL l).1:=by
 have hr:=zAN l
 have hle:=decodeL_le l hne
 have hlen:0<l.length:=by cases l with
  | nil=>exact absurd rfl hne
  | cons a l=>simp
 unfold decodeN at hr
 rw [if_neg (by omega)] at hr
 split at hr
 ·rename_i c
  split at hr
  ·rw [hr] at hv hle ⊢
   simp only at hle ⊢
   rw [takeB l (by omega)]
   refine ⟨fun b hb' => ?_,by omega⟩
   simp at hb'
   rcases hb' with h | h <;> (subst h; simp at hb c; omega)
  rw [hr] at hv; exact absurd ⟨rfl,rfl⟩ hv
 split at hr
 ·rename_i c
  split at hr
  ·rw [hr] at hv hle ⊢
   simp only at hle ⊢
   rw [takeC l (by omega)]
   refine ⟨fun b hb' => ?_,by omega⟩
   simp at hb'
   rcases hb' with h | h | h <;> (subst h; simp at hb c; omega)
  rw [hr] at hv; exact absurd ⟨rfl,rfl⟩ hv
 split at hr
 ·rename_i c
  split at hr
  ·rw [hr] at hv hle ⊢
   simp only at hle ⊢
   rw [takeD l (by omega)]
   refine ⟨fun b hb' => ?_,by omega⟩
   simp at hb'
   rcases hb' with h | h | h | h <;> (subst h; simp at hb c; omega)
  rw [hr] at hv; exact absurd ⟨rfl,rfl⟩ hv
 rw [hr] at hv; exact absurd ⟨rfl,rfl⟩ hv
theorem qVI (a b:List UInt8):uS (a++b)=uS a++uS b:=by simp [uS]
def qCW (d:Dc):List UInt8:=qL (d.scale.toNat+1-d.digits.length)++d.digits
def qEP (d:Dc):List UInt8:=(if d.neg=true then [45] else [])++(if d.scale=0 then qCW d else (qCW d).take ((qCW d).length-d.scale.toNat)++46::(qCW d).drop ((qCW d).length-d.scale.toNat))
def xB (t:List UInt8):List UInt8:=if t.head?=some 45∨t.head?=some 43 then t.drop 1 else t
def qJI (s:List UInt8):Option Int:=match s with
 | []=>some 0
 | b::t=>if b≠101∧b≠69 then none
  else if (xB t).dropWhile qH≠[]∨((xB t).takeWhile qH).length<1∨2<((xB t).takeWhile qH).length then none
  else some (if t.head?=some 45 then-(qGV ((xB t).takeWhile qH):Int) else qGV ((xB t).takeWhile qH))
def qVP (s:List UInt8):Bool:=decide (s.head?=some 45)
def qAG (s:List UInt8):List UInt8:=if s.head?=some 45 then s.drop 1 else s
def qJG (r:List UInt8):Option (List UInt8 × List UInt8) :=
 if r.head?=some 46 then (if (r.drop 1).takeWhile qH=[] then none else some ((r.drop 1).takeWhile qH,(r.drop 1).dropWhile qH)) else some ([],r)
def zAG (neg:Bool) (W P:List UInt8):Option Int→Dc × Int
 | none=>xO
 | some up=>if W=[]∨(1<W.length∧W.head?=some 48) then xO else vW neg (W++P) (P.length-up)
def wO (s:List UInt8):Dc × Int:=match qJG ((qAG s).dropWhile qH) with
 | none=>xO
 | some (P,r)=>zAG (qVP s) ((qAG s).takeWhile qH) P (qJI r)
theorem zKV {W F:List UInt8} (hW:W.all qH=true) (hF:∀ b,F.head?=some b→qH b=false):(W++F).takeWhile qH=W∧(W++F).dropWhile qH=F:=by
 induction W with
 | nil =>
  cases F with
  | nil=>exact ⟨rfl,rfl⟩
  | cons b F=>have:=hF b rfl; simp [List.takeWhile_cons,List.dropWhile_cons,this]
 | cons b W ih =>
  simp only [List.all_cons,Bool.and_eq_true] at hW
  obtain ⟨h1,h2⟩:=ih hW.2
  simp [List.takeWhile_cons,List.dropWhile_cons,hW.1,h1,h2]
theorem qYW (ng : Bool) (W R : List UInt8) (hW : W.all qH = true) (hR : R.all qH = true) (h0 : W ≠ []) (h1 : W.length = 1 ∨ qW W 0 ≠ 48) :
  wO ((if ng=true then [45] else [])++(W++if R=[] then [] else 46::R))=yX ng (W++R) R.length:=by
 generalize hF:(if R=[] then [] else 46::R)=F
 generalize hs:((if ng=true then [45] else [])++(W++F))=s
 obtain ⟨w0,W',rfl⟩:∃ w0 W',W=w0::W':=by cases W with
  | nil=>exact absurd rfl h0
  | cons a W=>exact ⟨a,W,rfl⟩
 have hw0:qH w0=true:=by simp only [List.all_cons,Bool.and_eq_true] at hW; exact hW.1
 have hw1:w0≠45:=by rintro rfl; revert hw0; decide
 have hb:qAG s=(w0::W')++F∧qVP s=ng:=by
  rw [← hs]
  cases ng with
  | true=>simp [qAG,qVP]
  | false=>simp [qAG,qVP,hw1]
 have hFh:∀ b,F.head?=some b→qH b=false:=by
  rw [← hF]; split
  ·simp
  intro b hb; simp at hb; subst hb; decide
 obtain ⟨t1,t2⟩:=zKV hW hFh
 have hfr:qJG F=some (R,[]):=by
  rw [← hF]
  split
  ·rename_i hR0; subst hR0; rfl
  rename_i hR0
  obtain ⟨t3,t4⟩:=zKV (W:=R) (F:=[]) hR (by simp)
  rw [List.append_nil] at t3 t4
  unfold qJG
  simp only [List.head?_cons,if_true,List.drop_succ_cons,List.drop_zero,t3,t4]
  rw [if_neg hR0]
 unfold wO
 rw [hb.1,hb.2,t1,t2,hfr]
 simp only [qJI,zAG]
 rw [if_neg (by
  rintro (h | ⟨h,h'⟩)
  ·cases h
  rcases h1 with h1 | h1
  ·omega
  simp at h'; subst h'; exact h1 rfl)]
 unfold vW
 rw [if_neg (by omega)]
 simp
structure RS where
 left:List UInt8
 nodes:Nat
 bad:Bool
 deep:Bool
 big:Bool
 deriving DecidableEq
def wM (st:RS) (k:Nat):RS:={ st with left:=st.left.drop k }
def qPL (b:UInt8):Bool:=b == 32 || b == 9 || b == 13 || b == 10
def kO (s:List UInt8):List UInt8:=s.dropWhile qPL
def kH (b:UInt8):Bool:=qH b || b == 45 || b == 43 || b == 46 || b == 101 || b == 69
def tk (w:List UInt8) (st:RS):Bool × RS :=
 if w.isPrefixOf (kO st.left) then (true,{ st with left:=(kO st.left).drop w.length }) else (false,{ st with left:=kO st.left })
def vP:List UInt8→Nat
 | []=>0
 | b::t=>if b=34 then 1 else if b=92 then (match t with
  | []=>1
  | _::u=>2+vP u) else 1+vP t
def qFC (s:List UInt8):Nat:=if s=[] then 0 else 1+vP (s.drop 1)
def qBS (l:List UInt8) (st:RS) (u:List UInt8 × Nat × Int):RS × List UInt8 :=
 if u.2.2=0 then ({ st with left:=l.drop u.2.1 },u.1) else if u.2.2=3 then ({ st with left:=l.drop (qFC l),big:=true },u.1) else ({ st with left:=l.drop u.2.1,bad:=true },u.1)
def qY (st:RS):RS × List UInt8:=qBS (kO st.left) st (zN (kO st.left))
def jI (st:RS):RS × Val :=
 ({ st with left:=st.left.dropWhile kH,big:=st.big || decide ((wO (st.left.takeWhile kH)).2=3),bad:=st.bad || decide ((wO (st.left.takeWhile kH)).2=4) },.mk 4 0 (wO (st.left.takeWhile kH)).1 [] [] [] 0)
def uO (c:UInt8) (many:Nat) (st:RS):Bool × RS :=
 let st1:RS:={ st with big:=st.big || decide (200<many) }
 if st1.bad=true then (true,st1) else
 let a:=tk [c] st1
 if a.1=true then (true,a.2) else let b:=tk [44] a.2
  (false,{ b.2 with bad := !b.1 })
def xE (ks:List (List UInt8)) (vs:List Val) (key:List UInt8) (v:Val):List (List UInt8) × List Val:=if key∈ks then (ks,vs.set (ks.idxOf key) v) else (ks++[key],vs++[v])
def yL (st:RS):RS:=if st.bad=true then st else { (tk [58] st).2 with bad := !(tk [58] st).1 }
def qAS:List UInt8:=[110,117,108,108]
def qAR:List UInt8:=[116,114,117,101]
def xR:List UInt8:=[102,97,108,115,101]
def zY (st:RS) (d:Nat):RS:=⟨kO st.left,st.nodes+1,st.bad,st.deep || decide (12<d),st.big || decide (400<st.nodes+1)⟩
def vK (st:RS):RS × Val :=
 if qAS.isPrefixOf st.left then (wM st 4,.mk 1 0 dc0 [] [] [] 0)
 else if qAR.isPrefixOf st.left then (wM st 4,.mk 3 0 dc0 [] [] [] 0)
 else if xR.isPrefixOf st.left then (wM st 5,.mk 2 0 dc0 [] [] [] 0)
 else if ([34]:List UInt8).isPrefixOf st.left then ((qY st).1,.mk 5 0 dc0 (qY st).2 [] [] 0)
 else if st.left≠[]∧(qW st.left 0=45∨kX (qW st.left 0)=true) then jI st
 else ({ st with bad:=true },yR)
mutual
def kM:Nat→RS→Nat→RS × Val
 | 0,st,_=>({ st with bad:=true },yR)
 | n+1,st,d =>
  if ([91]:List UInt8).isPrefixOf (zY st d).left then
   (let a:=tk [93] (wM (zY st d) 1)
    let r:=if a.1=true then (a.2,[]) else qBM n a.2 (d+1) 1 []
    (r.1,.mk 6 0 dc0 [] [] r.2 0))
  else if ([123]:List UInt8).isPrefixOf (zY st d).left then
   (let a:=tk [125] (wM (zY st d) 1)
    let r:=if a.1=true then (a.2,[],[]) else qBL n a.2 (d+1) 1 [] []
    (r.1,.mk 7 0 dc0 [] r.2.1 r.2.2 0))
  else vK (zY st d)
def qBM:Nat→RS→Nat→Nat→List Val→RS × List Val
 | 0,st,_,_,vs=>({ st with bad:=true },vs)
 | n+1,st,d,many,vs =>
  if st.bad=true then (st,vs) else
  let a:=kM n st d
  let b:=uO 93 many a.1
  if b.1=true then (b.2,vs++[a.2]) else qBM n b.2 d (many+1) (vs++[a.2])
def qBL:Nat→RS→Nat→Nat→List (List UInt8)→List Val→RS × List (List UInt8) × List Val
 | 0,st,_,_,ks,vs=>({ st with bad:=true },ks,vs)
 | n+1,st,d,many,ks,vs =>
  if st.bad=true then (st,ks,vs) else
  let q:=qY st
  let c:=yL q.1
  let a:=if c.bad=true then (c,ks,vs) else let v:=kM n c d
   (v.1,xE ks vs q.2 v.2)
  let b:=uO 125 many a.1
  if b.1=true then (b.2,a.2) else qBL n b.2 d (many+1) a.2.1 a.2.2
end
theorem qII (s:List UInt8):(kO s).length≤s.length:=(List.dropWhile_sublist _).length_le
theorem qLM (w:List UInt8) (st:RS):(tk w st).2.left.length≤st.left.length∧((tk w st).1=true→(tk w st).2.left.length+w.length≤st.left.length):=by
 have h:=qII st.left
 unfold tk
 split
 ·rename_i hp
  have:=(List.isPrefixOf_iff_prefix.1 hp).length_le
  simp only [List.length_drop]
  exact ⟨by omega,fun _=>by omega⟩
 exact ⟨h,fun h=>by cases h⟩
@[simp] theorem zLA (w:List UInt8) (st:RS):(tk w st).2.bad=st.bad:=by unfold tk; split <;> rfl
@[simp] theorem qXV (w:List UInt8) (st:RS):(tk w st).2.nodes=st.nodes:=by unfold tk; split <;> rfl
@[simp] theorem zZC (w:List UInt8) (st:RS):(tk w st).2.deep=st.deep:=by unfold tk; split <;> rfl
@[simp] theorem zKZ (w:List UInt8) (st:RS):(tk w st).2.big=st.big:=by unfold tk; split <;> rfl
theorem qKH (st:RS):(qY st).1.left.length≤st.left.length:=by
 have h:=qII st.left
 unfold qY qBS
 split
 ·simp only [List.length_drop]; omega
 split <;> (simp only [List.length_drop]; omega)
theorem qVA (c:UInt8) (many:Nat) (st:RS):(uO c many st).2.left.length≤st.left.length:=by
 unfold uO
 simp only
 split
 ·exact Nat.le_refl _
 split
 ·exact (qLM _ _).1
 exact Nat.le_trans (qLM _ _).1 (qLM _ _).1
theorem zAQ (st:RS):(yL st).left.length≤st.left.length:=by
 unfold yL; split
 ·exact Nat.le_refl _
 exact (qLM _ _).1
theorem zAF (st:RS) (d:Nat):(zY st d).left.length≤st.left.length:=qII _
theorem qWE (p:UInt8→Bool) (l:List UInt8):(l.dropWhile p).length≤l.length:=(List.dropWhile_sublist _).length_le
theorem qNI:∀ (f:Nat) (s:List UInt8) (k:Nat) (out:List UInt8),(uB f s k out).2.2=0→k+1≤(uB f s k out).2.1
 | 0,s,k,out,h=>by simp [uB] at h
 | f+1,s,k,out,h=>by
  simp only [uB] at h ⊢
  split at h
  ·simp at h
  rename_i h1
  rw [if_neg h1]
  split at h
  ·rename_i h2
   rw [if_pos h2]
   split at h
   ·simp at h
   rename_i h3; rw [if_neg h3]; exact Nat.le_refl _
  rename_i h2
  rw [if_neg h2]
  split at h
  ·simp at h
  rename_i h3
  rw [if_neg h3]
  split at h
  ·rename_i h4
   rw [if_pos h4]
   cases he:zNT s with
   | none=>rw [he] at h; simp at h
   | some cn =>
    obtain ⟨c,n⟩:=cn
    rw [he] at h
    simp only at h ⊢
    have:=qNI f _ _ _ h
    omega
  rename_i h4
  rw [if_neg h4]
  have:=qNI f _ _ _ h
  omega
theorem zHX {st:RS} (h:([34]:List UInt8).isPrefixOf (kO st.left)=true):(qY st).1.bad=false→(qY st).1.left.length<st.left.length:=by
 have h1:=qII st.left
 obtain ⟨t,ht⟩:=List.isPrefixOf_iff_prefix.1 h
 unfold qY qBS
 generalize kO st.left=l at *
 subst ht
 have hu:zN ([34]++t)=uB (t.length+1) t 1 []:=by
  unfold zN
  simp
 rw [hu]
 split
 ·rename_i h0
  intro _
  have:=qNI _ _ _ _ h0
  simp only [List.length_drop]
  simp at h1 ⊢; omega
 split
 ·intro _
  simp only [List.length_drop,qFC]
  simp at h1 ⊢; omega
 intro hb; simp at hb
theorem zIE:(wO []).2=4:=by decide +kernel
theorem zIG {st:RS} (h:(jI st).1.bad=false):(jI st).1.left.length<st.left.length:=by
 unfold jI at h ⊢
 simp only [Bool.or_eq_false_iff,decide_eq_false_iff_not] at h
 have hs:=List.takeWhile_append_dropWhile (p:=kH) (l:=st.left)
 generalize hA:st.left.takeWhile kH=A at *
 simp only
 have hl:=congrArg List.length hs
 rw [List.length_append] at hl
 have:A≠[]:=by rintro rfl; exact h.2 zIE
 have:=List.length_pos_iff.2 this
 omega
theorem qAT (s:List UInt8):kO (kO s)=kO s:=by
 unfold kO
 induction s with
 | nil=>rfl
 | cons b s ih =>
  rw [List.dropWhile_cons]
  split
  ·exact ih
  rename_i h; rw [List.dropWhile_cons,if_neg h]
theorem yE {w l:List UInt8} (h:w.isPrefixOf l=true):w.length≤l.length:=(List.isPrefixOf_iff_prefix.1 h).length_le
theorem zGG (st:RS) (ht:kO st.left=st.left):(vK st).1.left.length≤st.left.length∧((vK st).1.bad=false→(vK st).1.left.length<st.left.length):=by
 unfold vK
 split
 ·rename_i h; have:=yE h; simp [qAS,wM] at this ⊢; omega
 split
 ·rename_i h; have:=yE h; simp [qAR,wM] at this ⊢; omega
 split
 ·rename_i h; have:=yE h; simp [xR,wM] at this ⊢; omega
 split
 ·rename_i h; exact ⟨qKH st,zHX (by rw [ht]; exact h)⟩
 split
 ·exact ⟨qWE _ _,zIG⟩
 exact ⟨Nat.le_refl _,fun h=>by simp at h⟩
theorem zYO : ∀ n : Nat, (∀ st d, (kM n st d).1.left.length ≤ st.left.length ∧ ((kM n st d).1.bad = false → (kM n st d).1.left.length < st.left.length)) ∧
  (∀ st d many vs,(qBM n st d many vs).1.left.length≤st.left.length)∧(∀ st d many ks vs,(qBL n st d many ks vs).1.left.length≤st.left.length)
 | 0=>⟨fun st d=>⟨by simp [kM],fun h=>by simp [kM] at h⟩,fun st d many vs=>by simp [qBM],fun st d many ks vs=>by simp [qBL]⟩
 | n+1=>by
  obtain ⟨ih1,ih2,ih3⟩:=zYO n
  refine ⟨fun st d => ?_,fun st d many vs => ?_,fun st d many ks vs => ?_⟩
  ·have he:=zAF st d
   have ht:kO (zY st d).left=(zY st d).left:=qAT _
   simp only [kM]
   split
   ·rename_i h
    have h1:=yE h
    have h2:=qLM [93] (wM (zY st d) 1)
    simp only [wM,List.length_drop,List.length_cons,List.length_nil] at h1 h2
    split
    ·simp only [wM]; exact ⟨by omega,fun _=>by omega⟩
    have h3:=ih2 (tk [93] (wM (zY st d) 1)).2 (d+1) 1 []
    simp only [wM] at h3 ⊢
    exact ⟨by omega,fun _=>by omega⟩
   split
   ·rename_i h
    have h1:=yE h
    have h2:=qLM [125] (wM (zY st d) 1)
    simp only [wM,List.length_drop,List.length_cons,List.length_nil] at h1 h2
    split
    ·simp only [wM]; exact ⟨by omega,fun _=>by omega⟩
    have h3:=ih3 (tk [125] (wM (zY st d) 1)).2 (d+1) 1 [] []
    simp only [wM] at h3 ⊢
    exact ⟨by omega,fun _=>by omega⟩
   have h1:=zGG (zY st d) ht
   exact ⟨by omega,fun hb=>by have:=h1.2 hb; omega⟩
  ·simp only [qBM]
   split
   ·exact Nat.le_refl _
   have h1:=(ih1 st d).1
   have h2:=qVA 93 many (kM n st d).1
   split
   ·simp only; omega
   have:=ih2 (uO 93 many (kM n st d).1).2 d (many+1) (vs++[(kM n st d).2]); omega
  simp only [qBL]
  split
  ·exact Nat.le_refl _
  have h1:=qKH st
  have h2:=zAQ (qY st).1
  have h3:=(ih1 (yL (qY st).1) d).1
  generalize hA:(if (yL (qY st).1).bad=true then (yL (qY st).1,ks,vs) else ((kM n (yL (qY st).1) d).1,xE ks vs (qY st).2 (kM n (yL (qY st).1) d).2))=A
  have h4:A.1.left.length≤st.left.length:=by
   rw [← hA]; split
   ·simp only; omega
   simp only; omega
  have h5:=qVA 125 many A.1
  split
  ·simp only; omega
  have:=ih3 (uO 125 many A.1).2 d (many+1) A.2.1 A.2.2; omega
@[simp] def prC (a b:Val) (top deep:Int):List PD:=[.int .i64 a.kind,.int .u64 a.mask,.bool a.num.neg,.str a.num.digits,.int .i64 a.num.scale,.str a.text,.sl 1 (a.keys.map PD.str),.sl 9 (a.kids.map Val.enc),.int .i64 a.code,
 .int .i64 b.kind,.int .u64 b.mask,.bool b.num.neg,.str b.num.digits,.int .i64 b.num.scale,.str b.text,.sl 1 (b.keys.map PD.str),.sl 9 (b.kids.map Val.enc),.int .i64 b.code,.int .u64 top,.int .u64 deep]
def wQ (code m:Int):Val := .mk 8 m dc0 [] [] [] code
def kG (b:Bool) (m:Int):Val := .mk (if b=true then 3 else 2) m dc0 [] [] [] 0
def wU (b:Val):Nat→List (List UInt8)→List Val→List (List UInt8) × List Val
 | 0,ks,vs=>(ks,vs)
 | k+1,ks,vs=>xE (wU b k ks vs).1 (wU b k ks vs).2 (b.keys.getD k []) (b.kids.getD k yR)
def kV (a b:Val) (m:Int):Val := .mk a.kind m a.num a.text (wU b b.keys.length a.keys a.kids).1 (wU b b.keys.length a.keys a.kids).2 a.code
def qES (a b:Val) (m:Int):Val := .mk a.kind m a.num a.text a.keys (a.kids.filter fun v => !(b.kids.any fun w=>decide (vL v w=0))) a.code
def uP (op:List UInt8) (c:Int):Bool :=
 (decide (c=0) && (decide (op=[61,61]) || decide (op=[60,61]) || decide (op=[62,61]))) || ((!decide (c=0)) && decide (op=[33,61])) || (decide (c<0) && (decide (op=[60]) || decide (op=[60,61]))) || (decide (0<c) && (decide (op=[62]) || decide (op=[62,61])))
def zYP (op:List UInt8):Prop:=op≠[43]∧op≠[45]∧op≠[42]∧op≠[47]∧op≠[37]∧op≠[97,110,100]∧op≠[111,114]
theorem qOV (b:Val) (k:Nat) {ks:List (List UInt8)} {vs:List Val} (h:ks.length=vs.length):(wU b k ks vs).1.length=(wU b k ks vs).2.length∧(wU b k ks vs).2.length≤vs.length+k:=by
 induction k with
 | zero=>exact ⟨h,by simp [wU]⟩
 | succ k ih =>
  simp only [wU]
  unfold xE
  split
  ·simp; omega
  simp; omega
theorem zDJ (l:List Val) (g:FuncId) (cs:List PD) (p:Val→Bool) (hg:∀ v∈l,AFn Tryz.prog G g [v.enc,.ref cs] (.bool (p v))):AFn Tryz.prog G 143 [.sl 9 (l.map Val.enc),.clo g [.ref cs]] (.int .i64 (match l.findIdx? p with | some i=>(i:Int) | none => -1)):=by
 refine AFn.introU tok Tryz.func143 (by kernel_rfl) rfl rfl ?_
 simp only [Tryz.f143,qI,List.map_cons,List.map_nil]
 refine rgn [] [[0,1]] ?_
 refine op1 tok ?_
 refine qA (AW.seq (rgn [] [[],[],[0,1,7,8]] ?_))
 iterate 3 refine op1 tok ?_
 refine qA (AW.block ?_)
 refine AW.intFactU (i:=7) rfl (by decide) ?_; intro hlen; simp at hlen
 refine AW.loop (α:=Nat) (fun k=>k≤l.length∧(l.take k).all (fun v => !p v)=true) (fun k=>⟨qV 19 [(0,.p (.sl 9 (l.map Val.enc))),(1,.p (.clo g [.ref cs])),(7,.p (.int .i64 l.length)),(8,.p (.int .i64 k))],[],[],0⟩) (fun k=>l.length-k) (0) ⟨by omega,rfl⟩ ⟨qB (by simp),rfl,by simp,by simp⟩ ?_
 rintro k ⟨hk,hall⟩
 refine rgn [] [[]] ?_
 refine op1 tok ?_
 refine qA (AW.seq (cnd ?_ ?_))
 ·intro h9
  try simp at h9
  obtain ⟨v,hv⟩:∃ v,l[k]?=some v:=⟨l[k],by simp [h9]⟩
  have hgv:=hg v (List.mem_of_getElem? hv)
  refine AW.skip (AW.seq (AW.block (rgn [] [[],[0,1,5,7,8]] ?_)))
  iterate 2 refine op1 tok ?_
  refine qA (rgn [v.enc,.nilp,.bool (p v)] [[],[],[],[],[],[0,1,5,7,8,16]] ?_)
  iterate 6 refine op1 tok ?_ (hv:=by first | with_reducible exact True.intro | (first | (simp [hv]; done) | (simp at hgv ⊢; exact hgv); done) | omega | simp | (simp +contextual; omega))
  refine qA (cnd ?_ ?_)
  ·intro h16
   try simp at h16
   have hf:l.findIdx? p=some k:=by
    rw [List.findIdx?_eq_some_iff_getElem]
    have h9':=h9
    refine ⟨h9, ?_,fun j hj => ?_⟩
    ·rw [List.getElem?_eq_getElem h9] at hv; cases hv; exact h16
    have:=List.all_eq_true.1 hall (l[j]'(by omega)) (List.mem_iff_getElem.2 ⟨j,by simp; omega,by simp⟩)
    simpa using this
   refine rgn [] [[],[4]] ?_
   iterate 2 refine op1 tok ?_
   refine qA ?_
   exact AW.ret (qG (k:=by simp [hf]))
  intro h16
  try simp at h16
  refine AW.skip (rgz [] [[],[0,1,7,8]] ?_)
  iterate 2 refine op1 tok ?_
  refine qA ?_
  exact ⟨k+1,⟨by omega,by rw [List.take_add_one,hv,List.all_append,hall]; simpa using h16⟩,by omega,qB (by simp),rfl,by simp,by simp⟩
 intro h9
 try simp at h9
 rw [List.take_of_length_le h9] at hall
 have hf:l.findIdx? p=none:=by
  rw [List.findIdx?_eq_none_iff]; intro x hx; simpa using List.all_eq_true.1 hall x hx
 refine AW.exit ?_
 simp
 refine rgn [] [[]] ?_
 refine op1 tok ?_
 refine qA ?_
 exact AW.ret (qG (k:=by simp [hf]))
theorem qRJ (l:List Val) (g:FuncId) (cs:List PD) (p:Val→Bool) (hg:∀ v∈l,AFn Tryz.prog G g [v.enc,.ref cs] (.bool (p v))):AFn Tryz.prog G 86 [.sl 9 (l.map Val.enc),.clo g [.ref cs]] (.bool (l.any p)):=by
 refine AFn.introU tok Tryz.func86 (by kernel_rfl) rfl rfl ?_
 simp only [Tryz.f86,qI,List.map_cons,List.map_nil]
 have hi:=zDJ l g cs p hg
 have ha:l.any p=decide (0≤(match l.findIdx? p with | some i=>(i:Int) | none => -1)):=by
  cases h:l.findIdx? p with
  | none=>simp; intro x hx; simpa using List.findIdx?_eq_none_iff.1 h x hx
  | some i =>
   obtain ⟨h1,h2,_⟩:=List.findIdx?_eq_some_iff_getElem.1 h
   simp; exact ⟨_,List.getElem_mem h1,h2⟩
 rw [ha]
 generalize (match l.findIdx? p with | some i=>(i:Int) | none => -1)=n at *
 refine rgn [] [[0,1]] ?_
 refine op1 tok ?_
 refine qA (rgn [.nilp,.int .i64 n] [[],[],[7],[],[4]] ?_)
 iterate 5 refine oq1 tok hi ?_
 exact qA (AW.ret qG)
def qHD (p:Val→Bool) (l:List Val):Int:=match l.findIdx? p with
 | none => -1
 | some i=>i
theorem zNM {p:Val→Bool} {l:List Val} {k:Nat} {s:Val} (hs:l[k]?=some s) (hall:((l.take k).all fun s => !p s)=true) (hp:p s=true):qHD p l=k:=by
 have h:l.findIdx? p=some k:=by
  rw [List.findIdx?_eq_some_iff_getElem]
  obtain ⟨hk,rfl⟩:=List.getElem?_eq_some_iff.1 hs
  refine ⟨hk,hp,fun j hj => ?_⟩
  have:=List.all_eq_true.1 hall l[j] (List.mem_of_getElem? (i:=j) (by rw [List.getElem?_take,if_pos hj]; simp [show j<l.length by omega]))
  simpa using this
 unfold qHD; rw [h]
theorem zNL {p:Val→Bool} {l:List Val} (hall:(l.all fun s => !p s)=true):qHD p l = -1:=by
 have h:l.findIdx? p=none:=by
  rw [List.findIdx?_eq_none_iff]
  intro x hx
  have:=List.all_eq_true.1 hall x hx
  simpa using this
 unfold qHD; rw [h]
theorem zDK {p:Val→Bool} {l:List Val} (h:qHD p l ≠ -1):∃ (k:Nat) (s:Val),qHD p l=k∧l[k]?=some s∧((l.take k).all fun s => !p s)=true∧p s=true:=by
 unfold qHD at h ⊢
 cases e:l.findIdx? p with
 | none=>rw [e] at h; exact absurd rfl h
 | some k =>
  rw [List.findIdx?_eq_some_iff_getElem] at e
  obtain ⟨hk,hp,hn⟩:=e
  refine ⟨k,l[k],rfl,by simp [hk],List.all_eq_true.2 fun x hx => ?_,hp⟩
  obtain ⟨j,hj⟩:=List.mem_iff_getElem?.1 hx
  rw [List.getElem?_take] at hj
  split at hj
  ·rename_i hjk
   obtain ⟨_,rfl⟩:=List.getElem?_eq_some_iff.1 hj
   simpa using hn j hjk
  cases hj
theorem zDL {p:Val→Bool} {l:List Val} (h:qHD p l = -1):(l.all fun s => !p s)=true:=by
 unfold qHD at h
 cases e:l.findIdx? p with
 | none =>
  rw [List.findIdx?_eq_none_iff] at e
  exact List.all_eq_true.2 fun x hx=>by simpa using e x hx
 | some k=>rw [e] at h; simp only at h; omega
theorem zNK (g:FuncId) (cs:List PD) (p:Val→Bool) (l:List Val) (hg:∀ s∈l,AFn Tryz.prog G g [s.enc,.ref cs] (.bool (p s))) (hl:l.length≤1000000000):AX Tryz.prog G 143 [.ms 930,.func (.func g) [] [.cptr cs]] [(930,.row 31 9 (l.map Val.enc))] (.p (.int .i64 (qHD p l))) [930] [(930,.row 31 9 (l.map Val.enc))]:=by
 refine AX.introU tok 300 Tryz.func143 (by kernel_rfl) rfl rfl ?_
 simp only [Tryz.f143,qI,List.map_cons,List.map_nil]
 refine rgn [] [[0,1]] ?_
 refine op1 tok ?_
 refine qA (AW.seq (rgn [] [[],[],[0,1,7,8]] ?_))
 iterate 3 refine op1 tok ?_
 refine qA (AW.block ?_)
 refine AW.loop (α:=Nat) (fun k=>k≤l.length∧((l.take k).all fun s => !p s)=true) (fun k=>⟨qV 19 [(0,.ms 930),(1,.func (.func g) [] [.cptr cs]),(7,.p (.int .i64 l.length)),(8,.p (.int .i64 k))],[930],[(930,.row 31 9 (l.map Val.enc))],300⟩) (fun k=>l.length-k) (0) ⟨by omega,rfl⟩ ⟨qB (by simp),rfl,by simp,by simp⟩ ?_
 rintro k ⟨hk,hall⟩
 refine rgn [] [[]] ?_
 refine op1 tok ?_
 refine qA (AW.seq (cnd ?_ ?_))
 ·intro h9
  try simp at h9
  obtain ⟨s,hs⟩:∃ s,l[k]?=some s:=⟨l[k],by simp [h9]⟩
  have hgs:=hg s (List.mem_of_getElem? hs)
  simp only [Val.enc_def] at hgs
  refine AW.skip (AW.seq (AW.block (rgn [] [[],[0,1,5,7,8]] ?_)))
  iterate 2 refine op1 tok ?_
  refine qA (rgn [s.enc,.nilp,.bool (p s)] [[],[],[],[],[],[0,1,5,7,8,16]] ?_)
  iterate 6 refine op1 tok ?_ (hv:=by first | with_reducible exact True.intro | (first | exact hgs | (simp [hs]; done) | (simp [hs]; omega); done) | omega | simp | (simp +contextual; omega))
  refine qA (cnd ?_ ?_)
  ·intro h16
   try simp at h16
   have hi:=zNM hs hall h16
   refine rgn [] [[],[4]] ?_
   iterate 2 refine op1 tok ?_
   refine qA ?_
   exact AW.ret (wD (k:=by simp [hi]))
  intro h16
  try simp at h16
  refine AW.skip (rgz [] [[],[0,1,7,8]] ?_)
  iterate 2 refine op1 tok ?_
  refine qA ?_
  exact ⟨k+1,⟨by omega,by rw [List.take_add_one,hs,List.all_append,hall]; simp [h16]⟩,by omega,qB (by simp),rfl,by simp,by simp⟩
 intro h9
 try simp at h9
 rw [List.take_of_length_le h9] at hall
 have hi:=zNL hall
 refine AW.exit ?_
 simp
 refine rgn [] [[]] ?_
 refine op1 tok ?_
 refine qA ?_
 exact AW.ret (wD (k:=by simp [hi]))
def uR (F J C:List Val):List PD:=F.map Val.enc++(J.map Val.enc++C.map Val.enc)
@[simp] theorem zVT (F J C:List Val):(uR F J C).length=F.length+(J.length+C.length):=by simp [uR]
theorem zHU {F J C:List Val} {j:Nat} {v:Val} (h:F.length+J.length=j):(uR F J (v::C))[j]?=some v.enc:=by
 unfold uR
 rw [List.getElem?_append_right (by simp; omega),List.getElem?_append_right (by simp; omega)]
 simp only [List.length_map]
 rw [show j-F.length-J.length=0 by omega]; simp
theorem zCJ {F J C:List Val} {x:Val}:(uR F (x::J) C)[F.length]?=some x.enc:=by
 unfold uR
 rw [List.getElem?_append_right (by simp)]; simp
theorem zHT {F J C:List Val} {x v:Val}:(uR F (x::J) (v::C)).set F.length v.enc=uR (F++[v]) (J++[v]) C:=by
 unfold uR
 rw [List.set_append_right _ _ (by simp)]; simp
theorem qHL {F J C:List Val} {v:Val}:uR F J (v::C)=uR F (J++[v]) C:=by simp [uR]
theorem zHV (F J C:List Val) (r:List PD):((uR F J C).take F.length++r).take F.length=F.map Val.enc:=by
 unfold uR
 rw [List.take_append_of_le_length (by simp),List.take_of_length_le (by simp),List.take_append_of_le_length (by simp),List.take_of_length_le (by simp)]
theorem zRF (g:FuncId) (cs:List PD) (p:Val→Bool) (l:List Val) (hg:∀ s∈l,AFn Tryz.prog G g [s.enc,.ref cs] (.bool (p s))) (hl:l.length≤1000000000):AX Tryz.prog G 84 [.ms 930,.func (.func g) [] [.cptr cs]] [(930,.row 31 9 (l.map Val.enc))] (.ms 930) [] [(930,.row 31 9 ((l.filter fun s => !p s).map Val.enc))]:=by
 refine AX.introU tok 400 Tryz.func84 (by kernel_rfl) rfl rfl ?_
 simp only [Tryz.f84,qI,List.map_cons,List.map_nil]
 refine rgn [] [[0,1]] ?_
 refine op1 tok ?_
 refine qA (rgn [] [[],[]] ?_)
 iterate 2 refine op1 tok ?_
 refine qZ ?_
 refine qC.stepK [0,1,10] (yS rfl (zNK g cs p l hg hl) (by simp)) (by conv=>lhs; simp) rfl ?_
 refine qC.run [[0,1,5]] ?_
 refine op1 tok ?_
 refine qA (AW.seq (rgn [] [[],[0,1,5,12]] ?_))
 iterate 2 refine op1 tok ?_
 refine qA (cnd ?_ ?_)
 ·intro h12
  try simp at h12
  have hall:=zDL h12
  have hf:(l.filter fun s => !p s)=l:=List.filter_eq_self.2 fun x hx=>List.all_eq_true.1 hall x hx
  rw [hf]
  refine rgn [] [[],[4]] ?_
  iterate 2 refine op1 tok ?_
  refine qA ?_
  exact AW.ret wD
 intro h12
 try simp at h12
 obtain ⟨i0,s0,hi0,hs0,hall0,hp0⟩:=zDK h12
 rw [hi0]
 have hi0l:=(List.getElem?_eq_some_iff.1 hs0).1
 have hf0:((l.take (i0+1)).filter fun s => !p s)=l.take i0:=by
  rw [List.take_add_one,hs0,List.filter_append,List.filter_eq_self.2 fun x hx=>List.all_eq_true.1 hall0 x hx]
  simp [hp0]
 have hrow0:l.map Val.enc=uR ((l.take (i0+1)).filter fun s => !p s) [s0] (l.drop (i0+1)):=by
  have e:l=l.take i0++s0::l.drop (i0+1):=by
   obtain ⟨h,rfl⟩:=List.getElem?_eq_some_iff.1 hs0
   rw [← List.drop_eq_getElem_cons h,List.take_append_drop]
  rw [hf0]
  conv=>lhs; rw [e]
  simp [uR]
 have hfl0:((l.take (i0+1)).filter fun s => !p s).length=i0:=by rw [hf0]; simp; omega
 refine AW.skip (AW.seq (rgn [] [[],[],[0,1,5,6]] ?_))
 iterate 3 refine op1 tok ?_
 refine qA (AW.block ?_)
 refine AW.loop (α:=Nat × List Val) (fun a=>a.1≤l.length∧((l.take a.1).filter fun s => !p s).length+a.2.length=a.1∧1≤a.2.length) (fun a=>⟨qV 42 [(0,.ms 930),(1,.func (.func g) [] [.cptr cs]),(5,.p (.int .i64 ((l.take a.1).filter fun s => !p s).length)),(6,.p (.int .i64 a.1))],[930],[(930,.row 31 9 (uR ((l.take a.1).filter fun s => !p s) a.2 (l.drop a.1)))],400⟩) (fun a=>l.length-a.1) ((i0+1,[s0])) ⟨by simp only []; omega,by simp only [hfl0]; simp,by simp⟩ ⟨qB (by simp [hfl0]),rfl,by simp [← hrow0],by simp⟩ ?_
 rintro ⟨j,J⟩ ⟨hj,hlen,hJ⟩
 simp only at hj hlen hJ
 have hdl:(l.drop j).length=l.length-j:=by simp
 generalize hF:((l.take j).filter fun s => !p s)=F at *
 generalize hD:l.drop j=D at *
 refine AW.seq (rgn [] [[],[],[],[0,1,5,6,19]] ?_)
 iterate 4 refine op1 tok ?_
 refine qA (cnd ?_ ?_)
 ·intro h19
  try simp at h19
  obtain ⟨v,C,rfl⟩:∃ v C,D=v::C:=by
   cases D with
   | nil=>simp only [List.length_nil] at hdl h19; omega
   | cons v C=>exact ⟨v,C,rfl⟩
  obtain ⟨x,J,rfl⟩:∃ x J',J=x::J':=by
   cases J with
   | nil=>simp at hJ
   | cons x J=>exact ⟨x,J,rfl⟩
  have hv:l[j]?=some v:=by
   have:=congrArg List.head? hD
   rwa [List.head?_drop] at this
  have hC:l.drop (j+1)=C:=by
   rw [← List.drop_drop,hD]; rfl
  have hgv:=hg v (List.mem_of_getElem? hv)
  have hget:=zHU (C:=C) (v:=v) hlen
  have hset:=zHT (F:=F) (J:=J) (C:=C) (x:=x) (v:=v)
  have hget0:=zCJ (F:=F) (J:=J) (C:=v::C) (x:=x)
  have hF1:((l.take (j+1)).filter fun s => !p s)=F++(if p v=true then [] else [v]):=by
   rw [List.take_add_one,hv,List.filter_append,hF]
   by_cases hp:p v=true <;> simp [hp]
  simp only [List.length_cons] at hdl hlen hJ
  simp only [Val.enc_def] at hgv hget hset hget0
  refine AW.skip (AW.seq (AW.block (rgn [v.enc] [[],[],[],[],[],[0,1,5,6,7]] ?_)))
  iterate 6 refine op1 tok ?_ (hv:=by first | with_reducible exact True.intro | (first | exact ⟨_,hget,rfl⟩ | (simp [hget]; done) | (simp; omega); done) | omega | simp | (simp +contextual; omega))
  refine qA (rgn [.nilp,.bool (p v)] [[],[],[],[0,1,5,6,7,29]] ?_)
  iterate 4 refine oq1 tok hgv ?_
  refine qA (cnd ?_ ?_)
  ·intro h29
   try simp at h29
   refine rgn [x.enc,v.enc] [[],[],[],[],[0,1,5,6]] ?_
   iterate 5 refine op1 tok ?_ (hv:=by first | with_reducible exact True.intro | (first | (simp [hget0]; done) | (simp [hget0]; omega); done) | omega | simp | (simp +contextual; omega))
   refine qA (rgz [] [[],[],[0,1,5,6]] ?_)
   iterate 3 refine op1 tok ?_
   refine qA (rgz [] [[],[],[0,1,5,6]] ?_)
   iterate 3 refine op1 tok ?_
   refine qA ?_
   exact ⟨(j+1,J++[v]),⟨by simp only []; omega,by simp [hF1,h29]; omega,by simp⟩,by simp only []; omega,qB (by simp [hF1,h29,hC,hset]),rfl,by simp [hF1,h29,hC,hset],by simp [hF1,h29,hC,hset]⟩
  intro h29
  try simp at h29
  refine AW.skip (rgz [] [[],[],[0,1,5,6]] ?_)
  iterate 3 refine op1 tok ?_
  refine qA ?_
  exact ⟨(j+1,(x::J)++[v]),⟨by simp only []; omega,by simp [hF1,h29]; omega,by simp⟩,by simp only []; omega,qB (by simp [hF1,h29,hC,qHL]),rfl,by simp [hF1,h29,hC,qHL],by simp [hF1,h29,hC,qHL]⟩
 intro h19
 try simp at h19
 have hjl:j=l.length:=by omega
 subst hjl
 rw [List.take_length] at hF
 rw [hF]
 have hcut:=zHV F J D
 refine AW.exit ?_
 simp
 refine rgn [] [[],[]] ?_
 iterate 2 refine op1 tok ?_
 refine qZ ?_
 refine qC.clearFrom tok [0,5,38] (e0:=yR.enc) F.length rfl rfl rfl rfl rfl rfl rfl rfl rfl rfl (by simp) (by conv=>lhs; simp) trivial (by conv=>lhs; simp) trivial (by conv=>lhs; simp) rfl (by first | (simp; done) | (simp; omega)) (by omega) (by simp) ?_
 simp only [St.put,zKP,zDI,St.keep,zGP,qLZ,wF]
 refine qC.nil ?_
 refine rgn [] [[],[]] ?_
 iterate 2 refine op1 tok ?_
 refine qZ ?_
 refine qC.stepK [41] (qXF tok rfl rfl F.length (by conv=>lhs; simp) trivial (by conv=>lhs; simp) trivial rfl (by conv=>lhs; simp) (by first | (simp; done) | (simp; omega)) (by omega)) (by conv=>lhs; simp [hcut]) rfl ?_
 refine qC.run [[4]] ?_
 refine op1 tok ?_
 refine qA ?_
 exact AW.ret wD
structure Item where
 kind:Int
 many:Int
 mask:Int
 num:List UInt8
 text:List UInt8
 keys:List (List UInt8)
@[simp] def Item.enc (x:Item):PD := .agg [.int .i64 x.kind,.int .i64 x.many,.int .u64 x.mask,.str x.num,.str x.text,.sl 1 (x.keys.map PD.str)]
def yD (a:Int):Nat:=(a % 2 ^ 64).toNat &&& 7
theorem qIX (a:Int):yD a<8:=Nat.and_lt_two_pow _ (n:=3) (by decide)
theorem qSW (a:Int):IntKind.i64.wrap (((a % 2 ^ IntKind.i64.bits).toNat &&& 7 % 2 ^ IntKind.i64.bits:Nat):Int)=(yD a:Int):=by
 have h:=qIX a
 have e:((a % 2 ^ IntKind.i64.bits).toNat &&& 7 % 2 ^ IntKind.i64.bits:Nat)=yD a:=rfl
 rw [e]
 simp [IntKind.wrap,IntKind.bits,IntKind.signed]; omega
def qCD (s:List UInt8):Dc:=if (vC (xD s)).2=0 then (vC (xD s)).1 else ⟨false,[55],0⟩
def qZW (alone:List Val) (x:Item):Nat:=min (yD x.many) alone.length
def zM (alone:List Val) (x:Item):List Val:=if yD x.kind=5∨yD x.kind=6 then alone.drop (alone.length-qZW alone x) else []
def wA (alone:List Val) (x:Item):List Val:=if yD x.kind=5∨yD x.kind=6 then alone.take (alone.length-qZW alone x) else alone
def wS (alone:List Val) (x:Item):Val :=
 .mk (yD x.kind+1) x.mask (if yD x.kind=3 then qCD x.num else dc0) (if yD x.kind=4 then qCP x.text else [])
  (if yD x.kind=6 then qFN x.keys (zM alone x).length else []) (zM alone x) (if yD x.kind=7 then 40 else 0)
def qHC (alone:List Val) (x:Item):List Val:=wA alone x++[wS alone x]
def qWS (l:List Item):List Val:=(l.take 80).foldl qHC []
def qCK (l:List Item):Val:=(qWS l).getLastD zEY
def uK (l:List Item) (k:Nat):List Val:=(l.take k).foldl qHC []
theorem qBY {l:List Item} {k:Nat} {x:Item} (h:l[k]?=some x):uK l (k+1)=qHC (uK l k) x:=by
 unfold uK; rw [List.take_add_one,h]; simp
theorem zJA (a:List Val) (x:Item):(qHC a x).length≤a.length+1:=by
 unfold qHC wA; split <;> simp <;> omega
theorem qIB (l:List Item):∀ k,(uK l k).length≤k
 | 0=>by simp [uK]
 | k+1=>by
  cases h:l[k]? with
  | none =>
   have h1:uK l (k+1)=uK l k:=by unfold uK; rw [List.take_add_one,h]; simp
   have:=qIB l k
   rw [h1]; omega
  | some x =>
   rw [qBY h]
   have:=zJA (uK l k) x
   have:=qIB l k
   omega
theorem zBO (l:List Item) (hl:∀ x∈l,x.keys.length≤140737488351232):AFn Tryz.prog G 10 [.sl 6 (l.map Item.enc)] ((qCK l).enc):=by
 refine AFn.introU tok Tryz.func10 (by kernel_rfl) rfl rfl ?_
 simp only [Tryz.f10,qI,List.map_cons,List.map_nil]
 refine rgn [] [[]] ?_
 refine op1 tok ?_
 refine qA (rgn [] [[],[0,2,3]] ?_)
 iterate 2 refine op1 tok ?_
 refine qA (AW.seq (rgn [] [[]] ?_))
 refine op1 tok ?_
 refine qA (AW.block ?_)
 refine AW.loop (α:=Nat) (fun k=>k≤l.length∧k≤80) (fun k=>⟨qV 121 [(0,.p (.sl 6 (l.map Item.enc))),(2,.ptr 2 0),(3,.ms 11),(4,.p (.int .i64 k))],[],[(11,.row 31 9 ((uK l k).map Val.enc)),(2,.vars 31 [.p (.int .i64 0),.p (.int .u64 0),.p (.bool false),.p (.str []),.p (.int .i64 0),.p (.str []),.nilsl,.nilsl,.p (.int .i64 0)])],0⟩) (fun k=>l.length-k) (0) ⟨by omega,by omega⟩ ⟨qB (by simp),rfl,by simp [uK],by simp⟩ ?_
 rintro k ⟨hk,hk8⟩
 have hal:=qIB l k
 generalize haa:uK l k=alone at *
 refine AW.seq (rgn [] [[],[],[],[],[0,2,3,4,16],[],[],[0,2,3,4,19]] ?_)
 iterate 5 refine op1 tok ?_
 iterate 2 refine op2 tok ?_
 refine op1 tok ?_
 refine qA (cnd ?_ ?_)
 ·intro h19
  try simp at h19
  obtain ⟨x,hx⟩:∃ x,l[k]?=some x:=⟨l[k],by simp [h19.1]⟩
  have hsh:=qYH (G:=G) x.num
  have hpa:=zBL (G:=G) (xD x.num) (by have:=qHK x.num; omega)
  have hwo:=zEG (G:=G) x.text
  have h3k:=qIX x.kind
  have hxl:=hl x (List.mem_of_getElem? hx)
  refine AW.skip (AW.seq (AW.block (rgn [x.enc] [[],[],[],[],[0,2,3,4,26],[],[0,2,3,4,5]] ?_)))
  iterate 7 refine op1 tok ?_ (h:=by intro C; conv=>lhs; simp [qSW]) (hv:=by first | with_reducible exact True.intro | (simp [hx]; done) | omega | simp | (simp +contextual; omega))
  refine qA (rgn [x.enc] [[],[],[],[],[0,2,3,4,29,32],[],[],[0,2,3,4,35],[],[0,2,3,4,6]] ?_)
  iterate 10 refine op1 tok ?_ (hv:=by first | with_reducible exact True.intro | (simp [hx]; done) | omega | simp | (simp +contextual; omega))
  refine qA ?_
  refine AW.join (α:=Unit) (fun _=>True) (fun a=>⟨qV 121 [(0,.p (.sl 6 (l.map Item.enc))),(2,.ptr 2 0),(3,.ms 11),(4,.p (.int .i64 k)),(6,.ptr 6 0)],[],[(11,.row 31 9 ((wA alone x).map Val.enc)),(2,.vars 31 [.p (.int .i64 0),.p (.int .u64 0),.p (.bool false),.p (.str []),.p (.int .i64 0),.p (.str []),.nilsl,.nilsl,.p (.int .i64 0)]),(6,.vars 31 [.p (.int .i64 (yD x.kind+1)),.p (.int .u64 x.mask),.p (.bool (wS alone x).num.neg),.p (.str (wS alone x).num.digits),.p (.int .i64 (wS alone x).num.scale),.p (.str (wS alone x).text),.p (.sl 1 []),.p (.sl 9 ((zM alone x).map Val.enc)),.p (.int .i64 (wS alone x).code)])],0⟩) ?_ ?_
  ·
   refine AW.seqRegionO [] ?_
   refine qC.fill 6 [none,none,none,none,none,none,some 1,some 9] (by conv=>lhs; simp) ?_
   refine qC.run [[],[0,2,3,4,6,37]] ?_
   iterate 2 refine op1 tok ?_
   refine qA (AW.block (rgn [] [[],[0,2,3,4,6,37,38]] ?_))
   iterate 2 refine op1 tok ?_
   refine qA (cnd ?_ ?_)
   ·intro h38
    try simp at h38
    have hq:yD x.kind=3:=by omega
    refine rgn [x.enc,.nilp,.str (xD x.num),.nilp,.tup [(vC (xD x.num)).1.enc,.int .i64 (vC (xD x.num)).2]] [[],[],[],[],[0,2,3,4,6,45],[],[],[],[],[0,2,3,4,6,48,49],[],[],[0,2,3,4,6,7,8]] ?_
    iterate 13 refine op1 tok ?_ (hv:=by first | with_reducible exact True.intro | (first | exact hsh | exact hpa | simp [hx]; done) | omega | simp | (simp +contextual; omega))
    refine qA (AW.seq (rgn [] [[],[0,2,3,4,6,7,51]] ?_))
    iterate 2 refine op1 tok ?_
    refine qA (cnd ?_ ?_)
    ·intro h51
     try simp at h51
     refine rgz [] [[],[0,2,3,4,6,7]] ?_
     iterate 2 refine op1 tok ?_
     refine qA (rgz [] [[],[],[0,2,3,4,6]] ?_)
     iterate 3 refine op1 tok ?_
     refine qA ?_
     exact ⟨(),trivial,qB (by simp [wA,wS,zM,qCD,dc0,Val.num,Val.text,Val.code,Val.keys,Val.kids,hq,h51]),rfl,by simp [wA,wS,zM,qCD,dc0,Val.num,Val.text,Val.code,Val.keys,Val.kids,hq,h51],by simp [wA,wS,zM,qCD,dc0,Val.num,Val.text,Val.code,Val.keys,Val.kids,hq,h51]⟩
    intro h51
    try simp at h51
    refine AW.skip (rgz [] [[],[],[0,2,3,4,6]] ?_)
    iterate 3 refine op1 tok ?_
    refine qA ?_
    exact ⟨(),trivial,qB (by simp [wA,wS,zM,qCD,dc0,Val.num,Val.text,Val.code,Val.keys,Val.kids,hq,h51]),rfl,by simp [wA,wS,zM,qCD,dc0,Val.num,Val.text,Val.code,Val.keys,Val.kids,hq,h51],by simp [wA,wS,zM,qCD,dc0,Val.num,Val.text,Val.code,Val.keys,Val.kids,hq,h51]⟩
   intro h38
   try simp at h38
   refine rgn [] [[],[0,2,3,4,6,37,55]] ?_
   iterate 2 refine op1 tok ?_
   refine qA (cnd ?_ ?_)
   ·intro h55
    try simp at h55
    have hq:yD x.kind=4:=by omega
    refine rgz [x.enc,.nilp,.str (qCP x.text)] [[],[],[],[],[0,2,3,4,6,61],[],[],[0,2,3,4,6]] ?_
    iterate 8 refine op1 tok ?_ (hv:=by first | with_reducible exact True.intro | (first | exact hwo | simp [hx]; done) | omega | simp | (simp +contextual; omega))
    refine qA ?_
    exact ⟨(),trivial,qB (by simp [wA,wS,zM,qCD,dc0,Val.num,Val.text,Val.code,Val.keys,Val.kids,hq]),rfl,by simp [wA,wS,zM,qCD,dc0,Val.num,Val.text,Val.code,Val.keys,Val.kids,hq],by simp [wA,wS,zM,qCD,dc0,Val.num,Val.text,Val.code,Val.keys,Val.kids,hq]⟩
   intro h55
   try simp at h55
   refine rgn [] [[],[0,2,3,4,6,37,64]] ?_
   iterate 2 refine op1 tok ?_
   refine qA (cnd ?_ ?_)
   ·intro h64
    try simp at h64
    have hq:yD x.kind=7:=by omega
    refine rgz [] [[],[0,2,3,4,6]] ?_
    iterate 2 refine op1 tok ?_
    refine qA ?_
    exact ⟨(),trivial,qB (by simp [wA,wS,zM,qCD,dc0,Val.num,Val.text,Val.code,Val.keys,Val.kids,hq]),rfl,by simp [wA,wS,zM,qCD,dc0,Val.num,Val.text,Val.code,Val.keys,Val.kids,hq],by simp [wA,wS,zM,qCD,dc0,Val.num,Val.text,Val.code,Val.keys,Val.kids,hq]⟩
   intro h64
   try simp at h64
   refine AW.join (α:=Unit) (fun _=>True) (fun a=>⟨qV 121 [(0,.p (.sl 6 (l.map Item.enc))),(2,.ptr 2 0),(3,.ms 11),(4,.p (.int .i64 k)),(6,.ptr 6 0),(67,.p (.bool (decide (yD x.kind=5∨yD x.kind=6))))],[],[(11,.row 31 9 (alone.map Val.enc)),(2,.vars 31 [.p (.int .i64 0),.p (.int .u64 0),.p (.bool false),.p (.str []),.p (.int .i64 0),.p (.str []),.nilsl,.nilsl,.p (.int .i64 0)]),(6,.vars 31 [.p (.int .i64 (yD x.kind+1)),.p (.int .u64 x.mask),.p (.bool false),.p (.str []),.p (.int .i64 0),.p (.str []),.p (.sl 1 []),.p (.sl 9 []),.p (.int .i64 0)])],0⟩) ?_ ?_
   ·
    refine rgn [] [[],[0,2,3,4,6,37,67]] ?_
    iterate 2 refine op1 tok ?_
    refine qA (cnd ?_ ?_)
    ·intro h67
     try simp at h67
     refine AW.skip ?_
     exact ⟨(),trivial,qB (by simp [show (yD x.kind=5∨yD x.kind=6)=True from eq_true (by omega),h67]),rfl,by simp [show (yD x.kind=5∨yD x.kind=6)=True from eq_true (by omega),h67],by simp [show (yD x.kind=5∨yD x.kind=6)=True from eq_true (by omega),h67]⟩
    intro h67
    try simp at h67
    refine rgz [] [[],[0,2,3,4,6,67]] ?_
    iterate 2 refine op1 tok ?_
    refine qA ?_
    exact ⟨(),trivial,qB (by simp [show (yD x.kind=5∨yD x.kind=6)=(yD x.kind=6) from propext (by omega),show ((yD x.kind:Int)+1=7)=(yD x.kind=6) from propext (by omega)]),rfl,by simp [show (yD x.kind=5∨yD x.kind=6)=(yD x.kind=6) from propext (by omega),show ((yD x.kind:Int)+1=7)=(yD x.kind=6) from propext (by omega)],by simp [show (yD x.kind=5∨yD x.kind=6)=(yD x.kind=6) from propext (by omega),show ((yD x.kind:Int)+1=7)=(yD x.kind=6) from propext (by omega)]⟩
   ·
    rintro a hI
    refine cnd ?_ ?_
    ·intro h67
     try simp at h67
     have hmany:=qIX x.many
     have hkn:((alone.length:Int)-if alone.length<yD x.many then (alone.length:Int) else (yD x.many:Int)).toNat=alone.length-qZW alone x:=by unfold qZW; split <;> omega
     have hq3:¬ yD x.kind=3:=by omega
     have hq4:¬ yD x.kind=4:=by omega
     have hq7:¬ yD x.kind=7:=by omega
     refine rgn [x.enc] [[],[],[],[],[0,2,3,4,6,74],[],[],[],[0,2,3,4,6,78],[0,2,3,4,6,9]] ?_
     iterate 10 refine op1 tok ?_ (h:=by intro C; conv=>lhs; simp [qSW]) (hv:=by first | with_reducible exact True.intro | (simp [hx]; done) | omega | simp | (simp +contextual; omega))
     refine qA (rgn [] [[],[],[],[0,2,3,4,6,82],[0,2,3,4,6,10]] ?_)
     iterate 5 refine op1 tok ?_
     refine qA ?_
     refine AW.seqRegionO [] ?_
     refine qC.freeze 11 (by conv=>lhs; simp) ?_
     refine qC.run [[],[],[],[],[0,2,3,4,6,10,87],[],[0,2,3,4,6,10]] ?_
     iterate 7 refine op1 tok ?_
     refine qA (rgz [] [[],[],[],[0,2,4,6,89,92],[]] ?_)
     iterate 5 refine op1 tok ?_
     refine qZ ?_
     refine qC.take 89 11 (by conv=>lhs; simp) ?_
     refine qC.freeze 83 (by conv=>lhs; simp) ?_
     refine qC.run [[0,2,3,4,6]] ?_
     refine op1 tok ?_
     refine qA ?_
     exact ⟨(),trivial,qB (by simp [wA,wS,zM,qCD,dc0,Val.num,Val.text,Val.code,Val.keys,Val.kids,hq3,hq4,hq7,hkn,h67,show List.take alone.length (alone.map Val.enc)=alone.map Val.enc from List.take_of_length_le (by simp)]),rfl,by simp [wA,wS,zM,qCD,dc0,Val.num,Val.text,Val.code,Val.keys,Val.kids,hq3,hq4,hq7,hkn,h67,show List.take alone.length (alone.map Val.enc)=alone.map Val.enc from List.take_of_length_le (by simp)],by simp [wA,wS,zM,qCD,dc0,Val.num,Val.text,Val.code,Val.keys,Val.kids,hq3,hq4,hq7,hkn,h67,show List.take alone.length (alone.map Val.enc)=alone.map Val.enc from List.take_of_length_le (by simp)]⟩
    intro h67
    try simp at h67
    have hq3:¬ yD x.kind=3:=by omega
    have hq4:¬ yD x.kind=4:=by omega
    have hq7:¬ yD x.kind=7:=by omega
    refine AW.skip ?_
    exact ⟨(),trivial,qB (by simp [wA,wS,zM,qCD,dc0,Val.num,Val.text,Val.code,Val.keys,Val.kids,hq3,hq4,hq7,h67]),rfl,by simp [wA,wS,zM,qCD,dc0,Val.num,Val.text,Val.code,Val.keys,Val.kids,hq3,hq4,hq7,h67],by simp [wA,wS,zM,qCD,dc0,Val.num,Val.text,Val.code,Val.keys,Val.kids,hq3,hq4,hq7,h67]⟩
  ·
   rintro a hI
   refine AW.join (α:=Unit) (fun _=>True) (fun a=>⟨qV 121 [(0,.p (.sl 6 (l.map Item.enc))),(2,.ptr 2 0),(3,.ms 11),(4,.p (.int .i64 k)),(6,.ptr 6 0)],[],[(11,.row 31 9 ((wA alone x).map Val.enc)),(2,.vars 31 [.p (.int .i64 0),.p (.int .u64 0),.p (.bool false),.p (.str []),.p (.int .i64 0),.p (.str []),.nilsl,.nilsl,.p (.int .i64 0)]),(6,.vars 31 [.p (.int .i64 (wS alone x).kind),.p (.int .u64 (wS alone x).mask),.p (.bool (wS alone x).num.neg),.p (.str (wS alone x).num.digits),.p (.int .i64 (wS alone x).num.scale),.p (.str (wS alone x).text),.p (.sl 1 ((wS alone x).keys.map PD.str)),.p (.sl 9 ((wS alone x).kids.map Val.enc)),.p (.int .i64 (wS alone x).code)])],0⟩) ?_ ?_
   ·
    refine rgn [] [[],[],[0,2,3,4,6,96]] ?_
    iterate 3 refine op1 tok ?_
    refine qA (cnd ?_ ?_)
    ·intro h96
     try simp at h96
     have hq:yD x.kind=6:=by omega
     have hkl:(zM alone x).length≤100000:=by unfold zM; split <;> simp <;> omega
     have hna:=zMP (G:=G) x.keys (zM alone x).length hxl hkl
     refine AW.runDrawK tok mixed [0,2,3,4,6] 9 [[0],[4],[97,98],[99],[100],[6],[102],[103],[101,104]] [x.enc,.nilp,.sl 1 ((qFN x.keys (zM alone x).length).map PD.str)] [] (by kernel_rfl) (by intro C; conv=>lhs; simp) (by first | (simp [hx]; done) | (simp [hx]; exact hna)) (by simp [Sm.sum,Sm.foot,Sm.tch,Sm.refs]; kernel_rfl) (by intro C; conv=>lhs; simp) (by first | with_reducible exact True.intro | omega | simp | (simp +contextual; omega)) ?_
     exact ⟨(),trivial,qB (by simp [wS,Val.kind,Val.mask,Val.keys,Val.kids,hq]),rfl,by simp [wS,Val.kind,Val.mask,Val.keys,Val.kids,hq],by simp [wS,Val.kind,Val.mask,Val.keys,Val.kids,hq]⟩
    intro h96
    try simp at h96
    have hq:¬ yD x.kind=6:=by omega
    refine AW.skip ?_
    exact ⟨(),trivial,qB (by simp [wS,Val.kind,Val.mask,Val.keys,Val.kids,hq]),rfl,by simp [wS,Val.kind,Val.mask,Val.keys,Val.kids,hq],by simp [wS,Val.kind,Val.mask,Val.keys,Val.kids,hq]⟩
   ·
    rintro a hI
    have hrl:(wA alone x).length≤alone.length:=by unfold wA; split <;> simp <;> omega
    refine rgz [(wS alone x).enc] [[],[],[],[0,2,4,110],[0,2,3,4]] ?_
    iterate 5 refine op1 tok ?_ (hv:=by first | with_reducible exact True.intro | (first | (simp; done) | (simp; omega) | omega; done) | omega | simp | (simp +contextual; omega))
    refine qA (rgz [] [[],[],[0,2,3,4]] ?_)
    iterate 3 refine op1 tok ?_
    refine qA ?_
    exact ⟨k+1,⟨by omega,by omega⟩,by omega,qB (by simp [haa,qBY hx,qHC]),rfl,by simp [haa,qBY hx,qHC],by simp [haa,qBY hx,qHC]⟩
 intro h19
 try simp at h19
 have hfin:qWS l=alone:=by
  rw [← haa]; unfold qWS uK
  congr 1
  by_cases h:k=80
  ·rw [h]
  have hkl:k=l.length:=by omega
  rw [hkl,List.take_length,List.take_of_length_le (by omega)]
 refine AW.exit ?_
 simp
 refine AW.seq (rgn [] [[],[],[2,3,113]] ?_)
 iterate 3 refine op1 tok ?_
 refine qA (cnd ?_ ?_)
 ·intro h113
  try simp at h113
  have hB:qCK l=zEY:=by simp [qCK,hfin,h113]
  refine rgn [] [[],[2]] ?_
  iterate 2 refine op1 tok ?_
  refine qA ?_
  exact AW.ret (qG (k:=by simp [hB,zEY,dc0,Val.kind,Val.mask,Val.num,Val.text,Val.keys,Val.kids,Val.code]))
 intro h113
 try simp at h113
 have hlast:alone[alone.length-1]?=some (qCK l):=by
  rw [qCK,hfin,List.getLastD_eq_getLast?,List.getLast?_eq_getElem?]
  have:alone.length-1<alone.length:=by
   have:alone≠[]:=h113
   have:=List.length_pos_iff.2 this; omega
  simp [this]
 have hpos:0<alone.length:=List.length_pos_iff.2 h113
 refine AW.skip (rgn [(qCK l).enc] [[],[],[],[],[2,119],[],[2]] ?_)
 iterate 7 refine op1 tok ?_ (hv:=by first | with_reducible exact True.intro | (simp [hlast]; done) | omega | simp | (simp +contextual; omega))
 exact qA (AW.ret qG)
theorem jO {v : Val} (h1 : 1 ≤ v.kind ∧ v.kind ≤ 8 ∧ v.kids.length ≤ 200) (h2 : v.kind = 8 ↔ v.code ≠ 0) (h3 : v.kind = 4 → zO v.num = true) (h3' : v.kind ≠ 4 → v.num = dc0)
  (h4:v.kind=5→xA v.text=true) (h4':v.kind≠5→v.text=[]) (h5:v.kind=7→v.keys.length=v.kids.length∧qBX v.keys=true) (h5':v.kind≠7→v.keys=[]) (h6:v.kids=[]∨v.kind=6∨v.kind=7)
  (h7:∀ k∈v.kids,qS k=true):qS v=true:=by
 rw [jX]
 simp only [Bool.and_eq_true,qAA]
 refine ⟨⟨by simp [qAM]; omega,⟨⟨⟨⟨?_, ?_⟩, ?_⟩, ?_⟩, ?_⟩⟩,List.all_eq_true.2 h7⟩
 ·unfold qTW
  by_cases h:v.kind=8
  ·simp [h,h2.1 h]
  ·have : v.code = 0 := by by_cases hc : v.code = 0; · exact hc
                           ·exact (h (h2.2 hc)).elim
   simp [h,this]
 ·unfold zCV
  by_cases h:v.kind=4
  ·rw [if_pos h]; exact h3 h
  rw [if_neg h,h3' h]; simp [dc0]
 ·unfold qLO
  by_cases h:v.kind=5
  ·rw [if_pos h]; exact h4 h
  rw [if_neg h,h4' h]; simp
 ·unfold qFM
  by_cases h:v.kind=7
  ·rw [if_pos h,(h5 h).1,(h5 h).2]; simp
  rw [if_neg h,h5' h]; simp
 unfold qTG
 rcases h6 with h | h | h <;> simp [h]
theorem qXK (s:List UInt8):xA (qCP s)=true:=by
 have hl:=qRQ s
 unfold xA
 rw [qXN]
 have:qFA (qCP s)=true:=by
  unfold qCP
  split
  ·assumption
  decide +kernel
 rw [this]; simp; omega
theorem zBV {n:Nat} (h:n≤4096) (hv:qFA (qBB n)=true):xA (qBB n)=true:=by
 unfold xA; rw [qXN,hv]; simp [qBB]; omega
theorem zDG:∀ n,n≤9→qFA (qBB n)=true:=by decide +kernel
theorem zCW {l:List (List UInt8)} {i many:Nat} (hi:i≤l.length+many) (hm:many≤8):xA (xV l i)=true:=by
 unfold xV
 split
 ·exact qXK _
 exact zBV (by omega) (zDG _ (by omega))
theorem qDY {l : List (List UInt8)} {many : Nat} (hm : many ≤ 8) : ∀ (f i : Nat) (out : List (List UInt8)), i + f = l.length + many + 1 → out.Nodup → (∀ s ∈ out, xA s = true) → out.length ≤ many → (∀ t, 1 ≤ t → t + l.length ≤ i → qBB t ∈ out) →
  (vV l many f i out).Nodup∧(∀ s∈vV l many f i out,xA s=true)∧(vV l many f i out).length=many
 | 0,i,out,hf,_,_,h3,h4=>by
  have:=zFO (out:=out) (n:=many+1) fun t h1 h2=>h4 t h1 (by omega)
  omega
 | f+1,i,out,hf,h1,h2,h3,h4=>by
  simp only [vV]
  split
  ·rename_i hlt
   have hw:=zCW (l:=l) (i:=i) (many:=many) (by omega) hm
   have hk:∀ t,1≤t→t+l.length≤i+1→qBB t∈qLE out (xV l i):=by
    intro t h5 h6
    by_cases h7:t+l.length≤i
    ·have:=h4 t h5 h7
     unfold qLE; split
     ·exact this
     simp [this]
    have:qBB t=xV l i:=by simp only [xV]; rw [dif_neg (by omega)]; congr 1; omega
    rw [this]; unfold qLE; split
    ·assumption
    simp
   unfold qLE at hk ⊢
   split at hk
   ·rename_i hin
    rw [if_pos hin]
    exact qDY hm f (i+1) out (by omega) h1 h2 h3 hk
   rename_i hin
   rw [if_neg hin]
   refine qDY hm f (i+1) (out++[xV l i]) (by omega) ?_ (fun s hs => ?_) (by simp; omega) hk
   ·rw [List.nodup_append]
    exact ⟨h1,by simp,by intro a ha b hb; simp at hb; subst hb; rintro rfl; exact hin ha⟩
   rcases List.mem_append.1 hs with h | h
   ·exact h2 s h
   simp at h; rw [h]; exact hw
  exact ⟨h1,h2,by omega⟩
theorem zCX {l:List (List UInt8)} {many:Nat} (hm:many≤8):qBX (qFN l many)=true∧(qFN l many).length=many:=by
 obtain ⟨h1,h2,h3⟩:=qDY (l:=l) hm (l.length+many+1) 0 [] (by omega) List.nodup_nil (by simp) (by simp) (by intro t h1 h2; omega)
 exact ⟨by unfold qBX; simp only [Bool.and_eq_true,List.all_eq_true,decide_eq_true_eq]; exact ⟨h2,h1⟩,h3⟩
theorem zCC {s:List UInt8} (h:s.all qH=true):(qQ s).all qH=true:=by
 rw [List.all_eq_true] at h ⊢
 exact fun b hb=>h b ((List.dropWhile_sublist _).subset hb)
theorem qYE {s:List UInt8} (h:qQ s≠[]):qW (qQ s) 0≠48:=by
 induction s with
 | nil=>exact (h rfl).elim
 | cons b s ih =>
  by_cases hb:b=48
  ·have e:qQ (b::s)=qQ s:=by simp [qQ,hb]
   rw [e] at h ⊢; exact ih h
  have e:qQ (b::s)=b::s:=by simp [qQ,hb]
  rw [e]
  intro h2
  simp [qW] at h2
  exact hb (UInt8.toNat_inj.1 (by show b.toNat=48; omega))
theorem qNJ:∀ (k:Nat) (d:List UInt8),(∃ r,d=(kP d k).1++r)∧((kP d k).2=0∨(kP d k).1.getLast?≠some 48)
 | 0,d=>⟨⟨[],by simp [kP]⟩,.inl rfl⟩
 | k+1,d=>by
  simp only [kP]
  split
  ·obtain ⟨⟨r,hr⟩,h2⟩:=qNJ k d.dropLast
   refine ⟨⟨r++d.drop (d.length-1), ?_⟩,h2⟩
   have e:d.dropLast++d.drop (d.length-1)=d:=by rw [List.dropLast_eq_take,List.take_append_drop]
   rw [← List.append_assoc,← hr,e]
  rename_i h; exact ⟨⟨[],by simp⟩,.inr h⟩
theorem qLG {neg:Bool} {digits:List UInt8} {scale:Nat} (hd:digits.all qH=true) (h:(yX neg digits scale).2=0):zO (yX neg digits scale).1=true:=by
 unfold yX at h ⊢
 simp only at h ⊢
 obtain ⟨⟨r,hr⟩,hl⟩:=qNJ scale (qQ digits)
 generalize kP (qQ digits) scale=x at *
 split
 ·decide +kernel
 rename_i hne
 rw [if_neg hne] at h
 split
 ·rename_i hb; rw [if_pos hb] at h; simp at h
 rename_i hb
 have hpos:0<x.1.length:=List.length_pos_iff.2 hne
 have hall:x.1.all qH=true:=by
  have:=zCC hd
  rw [hr,List.all_append,Bool.and_eq_true] at this; exact this.1
 have hh:qW x.1 0≠48:=by
  have h1:=qYE (s:=digits) (by rw [hr]; simp [hne])
  rw [hr] at h1
  obtain ⟨c,d,hx⟩:∃ c d,x.1=c::d:=by
   cases hx:x.1 with
   | nil=>exact (hne hx).elim
   | cons c d=>exact ⟨c,d,rfl⟩
  rw [hx] at h1 ⊢
  simpa [qW] using h1
 rw [zJN (by simp only []; omega) hall]
 simp only
 rw [if_neg (by intro e; rw [e] at hh; exact hh rfl)]
 have hlast:x.2=0∨qW x.1 (x.1.length-1)≠48:=hl.imp id fun h h2=>h ((qGA hpos).1 h2)
 simp [hh]
 exact hlast
theorem zBP (n:Nat):(qL n).all qH=true:=List.all_eq_true.2 fun b hb=>by rw [(List.mem_replicate.1 hb).2]; rfl
theorem zIY {neg:Bool} {digits:List UInt8} {sc:Int} (hd:digits.all qH=true) (h:(vW neg digits sc).2=0):zO (vW neg digits sc).1=true:=by
 unfold vW at h ⊢
 split
 ·rename_i hs; rw [if_pos hs] at h; exact qLG (by rw [List.all_append,hd,zBP]; rfl) h
 rename_i hs; rw [if_neg hs] at h; exact qLG hd h
theorem zER (s:List UInt8) (k:Nat):((s.take (k+wR s k)).drop k).all qH=true:=by
 have e:(s.take (k+wR s k)).drop k=(s.drop k).takeWhile fun b=>kX b.toNat:=by
  rw [List.drop_take,show k+wR s k-k=wR s k by omega]
  unfold wR
  have:∀ (l:List UInt8) (p:UInt8→Bool),l.take (l.takeWhile p).length=l.takeWhile p:=by
   intro l p
   induction l with
   | nil=>rfl
   | cons a l ih => rw [List.takeWhile_cons]; split
                    ·simp [ih]
                    rfl
  exact this _ _
 rw [e,List.all_eq_true]
 have:∀ (l:List UInt8) (p:UInt8→Bool) (b:UInt8),b∈l.takeWhile p→p b=true:=by
  intro l p b
  induction l with
  | nil=>intro h; simp at h
  | cons a l ih =>
   intro h
   rw [List.takeWhile_cons] at h
   split at h
   ·rename_i ha
    rcases List.mem_cons.1 h with rfl | h
    ·exact ha
    exact ih h
   simp at h
 exact fun b hb=>this _ _ b hb
theorem qSH {s:List UInt8} {neg:Bool} {digits:List UInt8} {scale:Nat} (hd:digits.all qH=true):∀ o,(qFE s neg digits scale o).2=0→zO (qFE s neg digits scale o).1=true
 | none,h=>by simp [qFE,xO] at h
 | some (k,up),h=>by
  simp only [qFE] at h ⊢
  split
  ·rename_i hk; rw [if_pos hk] at h; exact zIY hd h
  rename_i hk; rw [if_neg hk] at h; simp [xO] at h
theorem zED {s:List UInt8} (h:(vC s).2=0):zO (vC s).1=true:=by
 unfold vC at h ⊢
 split
 ·rename_i hb; rw [if_pos hb] at h; simp [xO] at h
 rename_i hb
 rw [if_neg hb] at h
 have hd:=zER s (a0M s)
 revert h
 generalize (s.take (a0M s+wR s (a0M s))).drop (a0M s)=d0 at *
 generalize a0M s+wR s (a0M s)=k
 intro h
 unfold qIQ at h ⊢
 split
 ·rename_i hp
  rw [if_pos hp] at h
  split
  ·rename_i hz; rw [if_pos hz] at h; simp [qXX,xO] at h
  rename_i hz
  rw [if_neg hz] at h
  exact qSH (by rw [List.all_append,hd,zER]; rfl) _ h
 rename_i hp
 rw [if_neg hp] at h
 exact qSH hd _ h
theorem zMN (s:List UInt8):zO (qCD s)=true:=by
 unfold qCD
 split
 ·rename_i h; exact zED h
 decide +kernel
theorem qJC (alone:List Val) (x:Item):(zM alone x).length≤8:=by
 have:=qIX x.many
 unfold zM qZW; split
 ·simp; omega
 simp
theorem qVZ {alone:List Val} {x:Item} {k:Val} (h:k∈zM alone x):k∈alone:=by
 unfold zM at h; split at h
 ·exact List.mem_of_mem_drop h
 cases h
theorem zIZ {alone:List Val} (x:Item) (ha:∀ v∈alone,qS v=true):qS (wS alone x)=true:=by
 have hk:=qIX x.kind
 have hn:=zCX (l:=x.keys) (qJC alone x)
 have hl:=qJC alone x
 have hkid:¬ (yD x.kind=5∨yD x.kind=6)→zM alone x=[]:=fun h=>by unfold zM; rw [if_neg h]
 have hmem:=fun k (hk:k∈zM alone x)=>ha k (qVZ hk)
 unfold wS
 generalize zM alone x=kids at *
 refine jO ?_ ?_ ?_ ?_ ?_ ?_ ?_ ?_ ?_ ?_ <;> simp only [Val.kind_mk,Val.num_mk,Val.text_mk,Val.keys_mk,Val.kids_mk,Val.code_mk]
 ·omega
 ·by_cases h:yD x.kind=7
  ·simp [h]
  simp [h]; omega
 ·intro h; rw [if_pos (by omega)]; exact zMN _
 ·intro h; rw [if_neg (by omega)]
 ·intro h; rw [if_pos (by omega)]; exact qXK _
 ·intro h; rw [if_neg (by omega)]
 ·intro h; rw [if_pos (by omega)]; exact ⟨hn.2,hn.1⟩
 ·intro h; rw [if_neg (by omega)]
 ·by_cases h:yD x.kind=5∨yD x.kind=6
  ·right; omega
  left; exact hkid h
 exact hmem
theorem qUF (l:List Item):qS (qCK l)=true:=by
 have key:∀ (l:List Item) (alone:List Val),(∀ v∈alone,qS v=true)→∀ v∈l.foldl qHC alone,qS v=true:=by
  intro l
  induction l with
  | nil=>exact fun alone h=>h
  | cons x l ih =>
   intro alone h
   refine ih _ fun v hv => ?_
   unfold qHC at hv
   rcases List.mem_append.1 hv with hv | hv
   ·unfold wA at hv; split at hv
    ·exact h v (List.mem_of_mem_take hv)
    exact h v hv
   simp at hv; rw [hv]; exact zIZ x h
 unfold qCK
 rw [List.getLastD_eq_getLast?]
 cases hx:(qWS l).getLast? with
 | none=>decide +kernel
 | some v=>exact key _ [] (by simp) v (List.mem_of_getLast? hx)
end Go.Proofs.YtdojfdaglbphlaaGreatDoor
