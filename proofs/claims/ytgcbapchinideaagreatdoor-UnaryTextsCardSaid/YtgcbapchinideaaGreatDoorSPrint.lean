import Derived.Test.YtgcbapchinideaaGreatDoorSOne
import Derived.Test.YtgcbapchinideaaGreatDoorSJoin
namespace Go.Proofs.YtgcbapchinideaaGreatDoor
open Sy Go
set_option maxRecDepth 100000
set_option maxHeartbeats 4000000
set_option linter.unusedSimpArgs false
set_option linter.unusedVariables false
variable {G:qJ}
theorem qHQ (f:FuncId) (v:Val) (ps:List (List UInt8)) (hl:ps.length=v.kids.length) (hn:ps.length≤1000000) (hj:(Lib.join ps [44]).length≤100000000000) (hf:∀ (i:Nat) (s:List UInt8),ps[i]?=some s→AX Tryz.prog G f [.p (.int .i64 i),.ptr 2 0] [(2,.vars 31 v.cells)] (.p (.str s)) [2] [(2,.vars 31 v.cells)]):AX Tryz.prog G 117 [.p v.enc,.func (.func f) [] [.ptr 2 0]] [(2,.vars 31 v.cells)] (.p (.str (Lib.join ps [44]))) [2] [(2,.vars 31 v.cells)]:=by
 refine AX.introU tok 900 Tryz.func117 (by kernel_rfl) rfl rfl ?_
 simp only [Tryz.f117,qK,List.map_cons,List.map_nil]
 refine rgn [] [[],[1,2]] ?_
 iterate 2 refine op1 tok ?_
 refine qA (rgn [] [[]] ?_)
 refine op1 tok ?_
 refine qA (AW.seq (rgn [] [[],[],[],[1,5,9,10]] ?_))
 iterate 4 refine op1 tok ?_
 refine qA (AW.block ?_)
 refine AW.beginE 5 3 9 1 (by simp) (by simp) (by conv=>lhs; simp) ?_
 refine AW.loop (α:=Nat) (fun k=>k≤ps.length) (fun k=>⟨zA 22 [(1,.func (.func f) [] [.ptr 2 0]),(5,.ms 3),(9,.p (.int .i64 ps.length)),(10,.p (.int .i64 k))],[2],[(2,.vars 31 v.cells),(3,.row 9 1 ((ps.take k).map PD.str))],900⟩) (fun k=>ps.length-k) (0) (by omega) ⟨qG (by simp [hl]),rfl,by simp,by simp⟩ ?_
 rintro k hk
 refine rgn [] [[]] ?_
 refine op1 tok ?_
 refine qA (AW.seq (cnd ?_ ?_))
 ·intro h11
  try simp at h11
  obtain ⟨x,hx⟩:∃ x,ps[k]?=some x:=⟨ps[k],by simp [h11]⟩
  have hfx:=hf k x hx
  refine AW.skip (AW.seq (AW.block (rgn [] [[],[1,5,6,9,10]] ?_)))
  iterate 2 refine op1 tok ?_
  refine qA (rgz [.str x] [[],[],[]] ?_)
  iterate 3 refine op1 tok ?_
  refine zG ?_
  refine qF.stepK [1,9,10,13,16] (yC rfl hfx (by simp)) (by conv=>lhs; simp) rfl ?_
  refine qF.run [[],[],[1,5,9,10]] ?_
  iterate 3 refine op1 tok ?_
  refine qA (rgz [] [[],[1,5,9,10]] ?_)
  iterate 2 refine op1 tok ?_
  refine qA ?_
  exact ⟨k+1,by omega,by omega,qG (by simp [hx,List.take_add_one]),rfl,by simp [hx,List.take_add_one],by simp [hx,List.take_add_one]⟩
 intro h11
 try simp at h11
 obtain rfl:k=ps.length:=by omega
 have hjn:=qPX (G:=G) ps [44] (by omega) (by omega)
 try simp only [List.take_length]
 refine AW.exit ?_
 simp
 refine rgn [.nilp,.str (Lib.join ps [44])] [[],[],[4]] ?_
 iterate 3 refine op1 tok ?_ (hv:=by first | with_reducible exact True.intro | ((rw [List.take_of_length_le (by simp)]; exact hjn); done) | omega | simp | (simp +contextual; omega))
 refine qA ?_
 exact AW.ret wD
def uW (c:Int):List UInt8:=if c<10 then [UInt8.ofNat (48+c.toNat)] else [UInt8.ofNat (48+c.toNat / 10),UInt8.ofNat (48+c.toNat % 10)]
def uT:List (List UInt8)→List (List UInt8)→List (List UInt8):=List.zipWith fun k p=>zM k++[58]++p
mutual
def qS:Val→List UInt8
 | .mk k _ n t ks vs c=>if k=1 then qJW else if k=2 then qDY else if k=3 then qJV else if k=4 then vE n else if k=5 then zM t else if k=8 then 33::uW c else if k=7 then [123]++Lib.join (uT ks (uM vs)) [44]++[125] else [91]++Lib.join (uM vs) [44]++[93]
def uM:List Val→List (List UInt8)
 | []=>[]
 | v::vs=>qS v::uM vs
end
theorem qDE:∀ l,uM l=l.map qS
 | []=>by simp only [uM,List.map_nil]
 | v::vs=>by simp only [uM,List.map_cons,qDE vs]
theorem wW (v:Val):qS v=if v.kind=1 then qJW else if v.kind=2 then qDY else if v.kind=3 then qJV else if v.kind=4 then vE v.num else if v.kind=5 then zM v.text else if v.kind=8 then 33::uW v.code else if v.kind=7 then [123]++Lib.join (uT v.keys (v.kids.map qS)) [44]++[125] else [91]++Lib.join (v.kids.map qS) [44]++[93]:=by
 cases v; rw [qS,qDE]; rfl
theorem zAX (v x:Val) (i:Nat) (hx:v.kids[i]?=some x) (hp:AFn Tryz.prog G 81 [x.enc] (.str (qS x))):AX Tryz.prog G 119 [.p (.int .i64 i),.ptr 2 0] [(2,.vars 31 v.cells)] (.p (.str (qS x))) [2] [(2,.vars 31 v.cells)]:=by
 refine AX.introU tok 900 Tryz.func119 (by kernel_rfl) rfl rfl ?_
 simp only [Tryz.f119,qK,List.map_cons,List.map_nil]
 simp only [Val.enc_def] at hp
 have hi:=(List.getElem?_eq_some_iff.1 hx).1
 refine rgn [] [[0,1]] ?_
 refine op1 tok ?_
 refine qA (rgn [x.enc,.nilp,.str (qS x)] [[],[],[],[7],[],[],[3]] ?_)
 iterate 7 refine op1 tok ?_ (hv:=by first | with_reducible exact True.intro | (first | exact hp | (simp [hx]; done) | (simp; omega); done) | omega | simp | (simp +contextual; omega))
 refine qA ?_
 exact AW.ret wD
theorem zAY (v x:Val) (key:List UInt8) (i:Nat) (hb:(zM key).length+(qS x).length≤100000000000) (hk:v.keys[i]?=some key) (hx:v.kids[i]?=some x) (hq:AFn Tryz.prog G 115 [.str key] (.str (zM key))) (hp:AFn Tryz.prog G 81 [x.enc] (.str (qS x))):AX Tryz.prog G 118 [.p (.int .i64 i),.ptr 2 0] [(2,.vars 31 v.cells)] (.p (.str (zM key++[58]++qS x))) [2] [(2,.vars 31 v.cells)]:=by
 refine AX.introU tok 900 Tryz.func118 (by kernel_rfl) rfl rfl ?_
 simp only [Tryz.f118,qK,List.map_cons,List.map_nil]
 simp only [Val.enc_def] at hp
 have hi:=(List.getElem?_eq_some_iff.1 hx).1
 have hi2:=(List.getElem?_eq_some_iff.1 hk).1
 refine rgn [] [[0,1]] ?_
 refine op1 tok ?_
 refine qA ?_
 refine AW.seqDrawS tok mixed 14 [[1],[4],[0],[5,6],[7],[8],[9],[1],[11],[0],[12,13],[14],[15],[10,16]] [.str key,.nilp,.str (zM key),x.enc,.nilp,.str (qS x)] [] (by kernel_rfl) ?_
 iterate 14 refine d1 ?_ (hv:=by first | with_reducible exact True.intro | (first | exact hp | exact hq | (simp [hx]; done) | (simp [hk]; done) | (simp; omega); done) | omega | simp | (simp +contextual; omega))
 refine DGo.nil (by kernel_rfl) ⟨by kernel_rfl, ?_⟩
 refine qF.run [[3]] ?_
 refine op1 tok ?_
 refine qA ?_
 exact AW.ret wD
theorem qFG (x y:List UInt8) (r:List (List UInt8)) (sep:List UInt8):Lib.join (x::y::r) sep=x++sep++Lib.join (y::r) sep:=by
 simp [Lib.join,List.intercalate,List.intersperse]
theorem qLO {s:List UInt8} {sep:List UInt8}:∀ {l:List (List UInt8)},s∈l→s.length≤(Lib.join l sep).length
 | [],h=>by cases h
 | [x],h=>by rw [List.mem_singleton.1 h,Lib.join_one]; exact Nat.le_refl _
 | x::y::r,h=>by
  rw [qFG]
  rcases List.mem_cons.1 h with h | h
  ·subst h; simp only [List.length_append]; omega
  have:=qLO (sep:=sep) h; simp only [List.length_append]; omega
theorem qTX {ks ps:List (List UInt8)} {i:Nat} {k p:List UInt8} (h1:ks[i]?=some k) (h2:ps[i]?=some p):(uT ks ps)[i]?=some (zM k++[58]++p):=by
 simp [uT,List.getElem?_zipWith,h1,h2]
theorem qNF (v:Val) (hq8:v.kind=8→AFn Tryz.prog G 116 [.int .i64 v.code] (.str (uW v.code)) ∧ -9223372036854775808≤v.code∧v.code≤9223372036854775807) (hq4:v.kind=4→AFn Tryz.prog G 114 [v.num.enc] (.str (vE v.num))) (hq5:v.kind=5→AFn Tryz.prog G 115 [.str v.text] (.str (zM v.text))) (hq7:v.kind=7→v.keys.length=v.kids.length∧∀ key∈v.keys,AFn Tryz.prog G 115 [.str key] (.str (zM key))) (hn:v.kids.length≤1000000) (hb:(qS v).length≤1000000000) (ih:∀ k∈v.kids,AFn Tryz.prog G 81 [k.enc] (.str (qS k))):AFn Tryz.prog G 81 [v.enc] (.str (qS v)):=by
 refine AFn.introU tok Tryz.func81 (by kernel_rfl) rfl rfl ?_
 simp only [Tryz.f81,qK,List.map_cons,List.map_nil]
 rw [wW v] at hb ⊢
 simp only [Dc.enc] at hq4
 refine rgn [] [[],[1]] ?_
 iterate 2 refine op1 tok ?_
 refine qA (AW.seq (rgn [] [[],[1,4]] ?_))
 iterate 2 refine op1 tok ?_
 refine qA (AW.block (rgn [] [[],[1,4,5]] ?_))
 iterate 2 refine op1 tok ?_
 refine qA (cnd ?_ ?_)
 ·intro h5
  try simp at h5
  rw [if_pos h5]
  refine rgn [] [[]] ?_
  refine op1 tok ?_
  refine qA ?_
  exact AW.ret (qO (k:=by simp [qJW]))
 intro h5
 try simp at h5
 rw [if_neg h5] at hb ⊢
 refine rgn [] [[],[1,4,7]] ?_
 iterate 2 refine op1 tok ?_
 refine qA (cnd ?_ ?_)
 ·intro h7
  try simp at h7
  rw [if_pos h7]
  refine rgn [] [[]] ?_
  refine op1 tok ?_
  refine qA ?_
  exact AW.ret (qO (k:=by simp [qDY]))
 intro h7
 try simp at h7
 rw [if_neg h7] at hb ⊢
 refine rgn [] [[],[1,4,9]] ?_
 iterate 2 refine op1 tok ?_
 refine qA (cnd ?_ ?_)
 ·intro h9
  try simp at h9
  rw [if_pos h9]
  refine rgn [] [[]] ?_
  refine op1 tok ?_
  refine qA ?_
  exact AW.ret (qO (k:=by simp [qJV]))
 intro h9
 try simp at h9
 rw [if_neg h9] at hb ⊢
 refine rgn [] [[],[1,4,11]] ?_
 iterate 2 refine op1 tok ?_
 refine qA (cnd ?_ ?_)
 ·intro h11
  try simp at h11
  rw [if_pos h11]
  have h4:=hq4 h11
  refine rgn [.nilp,.str (vE v.num)] [[],[],[],[2]] ?_
  iterate 4 refine oq1 tok h4 ?_
  exact qA (AW.ret qO)
 intro h11
 try simp at h11
 rw [if_neg h11] at hb ⊢
 refine rgn [] [[],[1,4,16]] ?_
 iterate 2 refine op1 tok ?_
 refine qA (cnd ?_ ?_)
 ·intro h16
  try simp at h16
  rw [if_pos h16]
  have h5q:=hq5 h16
  refine rgn [.nilp,.str (zM v.text)] [[],[],[],[2]] ?_
  iterate 4 refine oq1 tok h5q ?_
  exact qA (AW.ret qO)
 intro h16
 try simp at h16
 rw [if_neg h16] at hb ⊢
 refine rgn [] [[],[1,4,21]] ?_
 iterate 2 refine op1 tok ?_
 refine qA (cnd ?_ ?_)
 ·intro h21
  try simp at h21
  rw [if_pos h21] at hb ⊢
  obtain ⟨h8,h8a,h8b⟩:=hq8 h21
  have hil:(uW v.code).length≤2:=by unfold uW; split <;> simp
  refine rgn [.nilp,.str (uW v.code)] [[],[],[],[26],[2]] ?_
  iterate 5 refine oq1 tok h8 ?_
  exact qA (AW.ret qO)
 intro h21
 try simp at h21
 rw [if_neg h21] at hb ⊢
 refine rgn [] [[],[1,27]] ?_
 iterate 2 refine op1 tok ?_
 refine qA (cnd ?_ ?_)
 ·intro h27
  try simp at h27
  rw [if_pos h27] at hb ⊢
  obtain ⟨hkl,hqk⟩:=hq7 h27
  have hel:(uT v.keys (v.kids.map qS)).length=v.kids.length:=by simp [uT,hkl]
  have hJ:=qHQ (G:=G) 118 v (uT v.keys (v.kids.map qS)) hel (by omega) (by simp only [List.length_append] at hb; omega) (fun i s hs=>by
   have hi:=(List.getElem?_eq_some_iff.1 hs).1
   have hk:v.keys[i]?=some (v.keys[i]'(by omega)):=by simp
   have hx:v.kids[i]?=some (v.kids[i]'(by omega)):=by simp
   have hg:=qTX (ks:=v.keys) (ps:=v.kids.map qS) hk (by rw [List.getElem?_map,hx]; rfl)
   rw [hs] at hg
   cases hg
   have hm:=qLO (sep:=[44]) (List.mem_of_getElem? hs)
   exact zAY v _ _ i (by simp only [List.length_append] at hb hm; omega) hk hx (hqk _ (List.getElem_mem _)) (ih _ (List.getElem_mem _)))
  have hjl:(Lib.join (uT v.keys (v.kids.map qS)) [44]).length≤1000000000:=by simp only [List.length_append] at hb; omega
  refine AW.renE 1 2 (by simp) (by conv=>lhs; simp) ?_
  refine rgn [] [[],[]] ?_
  iterate 2 refine op1 tok ?_ (hv:=by first | with_reducible exact True.intro | (first | omega | (simp; omega); done) | omega | simp | (simp +contextual; omega))
  refine zG ?_
  refine qF.stepK [31] (yC rfl hJ (by simp)) (by conv=>lhs; simp) rfl ?_
  refine qF.run [[],[],[2]] ?_
  iterate 3 refine op1 tok ?_ (hv:=by first | with_reducible exact True.intro | (first | omega | (simp; omega); done) | omega | simp | (simp +contextual; omega))
  exact qA (AW.ret qO)
 intro h27
 try simp at h27
 rw [if_neg h27] at hb ⊢
 have hJ:=qHQ (G:=G) 119 v (v.kids.map qS) (by simp) (by simpa using hn) (by simp only [List.length_append] at hb; omega) (fun i s hs=>by
  rw [List.getElem?_map,Option.map_eq_some_iff] at hs
  obtain ⟨x,hx,rfl⟩:=hs
  exact zAX v x i hx (ih x (List.mem_of_getElem? hx)))
 have hjl:(Lib.join (v.kids.map qS) [44]).length≤1000000000:=by simp only [List.length_append] at hb; omega
 refine AW.skip ?_
 refine AW.renE 1 2 (by simp) (by conv=>lhs; simp) ?_
 refine rgn [] [[],[]] ?_
 iterate 2 refine op1 tok ?_ (hv:=by first | with_reducible exact True.intro | (first | omega | (simp; omega); done) | omega | simp | (simp +contextual; omega))
 refine zG ?_
 refine qF.stepK [36] (yC rfl hJ (by simp)) (by conv=>lhs; simp) rfl ?_
 refine qF.run [[],[],[2]] ?_
 iterate 3 refine op1 tok ?_ (hv:=by first | with_reducible exact True.intro | (first | omega | (simp; omega); done) | omega | simp | (simp +contextual; omega))
 exact qA (AW.ret qO)
end Go.Proofs.YtgcbapchinideaaGreatDoor
