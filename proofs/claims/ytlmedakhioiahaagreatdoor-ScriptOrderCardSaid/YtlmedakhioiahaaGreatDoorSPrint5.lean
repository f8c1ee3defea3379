import Derived.Test.YtlmedakhioiahaaGreatDoorSPrintLen
import Derived.Test.YtlmedakhioiahaaGreatDoorSQuote3
namespace Go.Proofs.YtlmedakhioiahaaGreatDoor
open Sy Go
set_option maxRecDepth 100000
set_option maxHeartbeats 4000000
set_option linter.unusedSimpArgs false
set_option linter.unusedVariables false
variable {G:qR}
theorem qOP:∀ (l:List (List UInt8)) (p:List UInt8),l≠[]→Lib.join (l++[p]) [44]=Lib.join l [44]++([44]++p)
 | [],_,h=>absurd rfl h
 | [x],p,_=>by rw [List.singleton_append,kZ,Lib.join_one,Lib.join_one]; simp
 | x::y::r,p,_=>by
  have:=qOP (y::r) p (by simp)
  rw [List.cons_append,List.cons_append,kZ,kZ,← List.cons_append,this]; simp
theorem qOO {ps:List (List UInt8)} {k:Nat} {p:List UInt8} (h:ps[k]?=some p):Lib.join (ps.take (k+1)) [44]=Lib.join (ps.take k) [44]++((if 0<k then [44] else [])++p):=by
 have hk:=(List.getElem?_eq_some_iff.1 h).1
 rw [List.take_add_one,h,Option.toList_some]
 by_cases h0:0<k
 ·rw [if_pos h0,qOP _ _ (by intro e; have:=congrArg List.length e; rw [List.length_take,List.length_nil] at this; omega)]
 obtain rfl:k=0:=by omega
 simp only [List.take_zero,List.nil_append,Nat.lt_irrefl,if_false,Lib.join_one]
 rfl
theorem qQO (ps:List (List UInt8)):∀ k,(Lib.join (ps.take k) [44]).length≤(Lib.join ps [44]).length:=by
 have up:∀ k,(Lib.join (ps.take k) [44]).length≤(Lib.join (ps.take (k+1)) [44]).length:=fun k=>by
  cases h:ps[k]? with
  | none=>rw [List.take_add_one,h]; simp
  | some p=>rw [qOO h]; simp
 intro k
 have:∀ j,(Lib.join (ps.take k) [44]).length≤(Lib.join (ps.take (k+j)) [44]).length:=fun j=>by
  induction j with
  | zero=>exact Nat.le_refl _
  | succ j ih=>exact Nat.le_trans ih (up (k+j))
 have h:=this ps.length
 rw [List.take_of_length_le (show ps.length≤k+ps.length by omega)] at h
 exact h
def xU (v:Val):List (List UInt8):=if v.kind=7 then kM v.keys (v.kids.map qI) else v.kids.map qI
def vR (v:Val):List UInt8:=if v.kind=7 then [123] else [91]
theorem qTI (v:Val) (hq8:v.kind=8→AFn Tryz.prog G 34 [.int .i64 v.code] (.str (uV v.code)) ∧ -9223372036854775808≤v.code∧v.code≤9223372036854775807) (hq4:v.kind=4→AFn Tryz.prog G 32 [v.num.enc] (.str (yI v.num))) (hq5:v.kind=5→AFn Tryz.prog G 33 [.str v.text] (.str (zQ v.text))) (hq7:v.kind=7→v.keys.length=v.kids.length∧∀ key∈v.keys,AFn Tryz.prog G 33 [.str key] (.str (zQ key))) (hn:v.kids.length≤1000000) (hb:(qI v).length≤1000000000) (ih:∀ k∈v.kids,AFn Tryz.prog G 17 [k.enc] (.str (qI k))):AFn Tryz.prog G 17 [v.enc] (.str (qI v)):=by
 refine AFn.introU tok Tryz.func17 (by kernel_rfl) rfl rfl ?_
 simp only [Tryz.f17,qO,List.map_cons,List.map_nil]
 rw [yS v] at hb ⊢
 simp only [Dc.enc] at hq4
 refine rgn [] [[],[1]] ?_
 iterate 2 refine op1 tok ?_
 refine qA (AW.seq (rgn [] [[],[1,6]] ?_))
 iterate 2 refine op1 tok ?_
 refine qA (AW.block (rgn [] [[],[1,6,7]] ?_))
 iterate 2 refine op1 tok ?_
 refine qA (cnd ?_ ?_)
 ·intro h7
  try simp at h7
  rw [if_pos h7]
  refine rgn [] [[]] ?_
  refine op1 tok ?_
  refine qA ?_
  exact AW.ret (qP (k:=by simp [yY]))
 intro h7
 try simp at h7
 rw [if_neg h7] at hb ⊢
 refine rgn [] [[],[1,6,9]] ?_
 iterate 2 refine op1 tok ?_
 refine qA (cnd ?_ ?_)
 ·intro h9
  try simp at h9
  rw [if_pos h9]
  refine rgn [] [[]] ?_
  refine op1 tok ?_
  refine qA ?_
  exact AW.ret (qP (k:=by simp [wZ]))
 intro h9
 try simp at h9
 rw [if_neg h9] at hb ⊢
 refine rgn [] [[],[1,6,11]] ?_
 iterate 2 refine op1 tok ?_
 refine qA (cnd ?_ ?_)
 ·intro h11
  try simp at h11
  rw [if_pos h11]
  refine rgn [] [[]] ?_
  refine op1 tok ?_
  refine qA ?_
  exact AW.ret (qP (k:=by simp [kE]))
 intro h11
 try simp at h11
 rw [if_neg h11] at hb ⊢
 refine rgn [] [[],[1,6,13]] ?_
 iterate 2 refine op1 tok ?_
 refine qA (cnd ?_ ?_)
 ·intro h13
  try simp at h13
  rw [if_pos h13]
  have h4:=hq4 h13
  refine rgn [.nilp,.str (yI v.num)] [[],[],[],[2]] ?_
  iterate 4 refine oq1 tok h4 ?_
  exact qA (AW.ret qP)
 intro h13
 try simp at h13
 rw [if_neg h13] at hb ⊢
 refine rgn [] [[],[1,6,18]] ?_
 iterate 2 refine op1 tok ?_
 refine qA (cnd ?_ ?_)
 ·intro h18
  try simp at h18
  rw [if_pos h18]
  have h5q:=hq5 h18
  refine rgn [.nilp,.str (zQ v.text)] [[],[],[],[2]] ?_
  iterate 4 refine oq1 tok h5q ?_
  exact qA (AW.ret qP)
 intro h18
 try simp at h18
 rw [if_neg h18] at hb ⊢
 refine rgn [] [[],[1,23]] ?_
 iterate 2 refine op1 tok ?_
 refine qA (cnd ?_ ?_)
 ·intro h23
  try simp at h23
  rw [if_pos h23] at hb ⊢
  obtain ⟨h8,h8a,h8b⟩:=hq8 h23
  have hil:(uV v.code).length≤2:=by unfold uV; split <;> simp
  refine rgn [.nilp,.str (uV v.code)] [[],[],[],[28],[2]] ?_
  iterate 5 refine oq1 tok h8 ?_
  exact qA (AW.ret qP)
 intro h23
 try simp at h23
 rw [if_neg h23] at hb ⊢
 have hP:(if v.kind=7 then [123]++Lib.join (kM v.keys (v.kids.map qI)) [44]++[125] else [91]++Lib.join (v.kids.map qI) [44]++[93])=vR v++Lib.join (xU v) [44]++(if v.kind=7 then [125] else [93]):=by
  unfold vR xU; split <;> rfl
 rw [hP] at hb ⊢
 have hpl:(xU v).length=v.kids.length:=by
  unfold xU; split
  ·rename_i h; simp [kM,(hq7 h).1]
  simp
 have hol:(vR v).length=1:=by unfold vR; split <;> rfl
 have hjl:(Lib.join (xU v) [44]).length≤1000000000:=by simp only [List.length_append] at hb; omega
 have hjt:=qQO (xU v)
 have hpk:∀ k x,v.kids[k]?=some x→(xU v)[k]?=some ((if v.kind=7 then zQ (v.keys.getD k [])++[58] else [])++qI x):=fun k x hx=>by
  have hkl:=(List.getElem?_eq_some_iff.1 hx).1
  unfold xU; split
  ·rename_i h
   have hk:v.keys[k]?=some (v.keys.getD k []):=by rw [List.getD_eq_getElem?_getD,List.getElem?_eq_getElem (by have:=(hq7 h).1; omega)]; rfl
   exact qUS hk (by rw [List.getElem?_map,hx]; rfl)
  rw [List.getElem?_map,hx]; rfl
 refine AW.skip (rgn [] [[]] ?_)
 refine op1 tok ?_
 refine qA ?_
 refine AW.join (α:=Unit) (fun _=>True) (fun a=>⟨zI 70 [(1,.ptr 1 0),(3,.p (.str (vR v)))],[],[(1,.vars 42 v.cells)],0⟩) ?_ ?_
 ·
  refine rgn [] [[],[],[1,3,31]] ?_
  iterate 3 refine op1 tok ?_
  refine qA (cnd ?_ ?_)
  ·intro h31
   try simp at h31
   refine rgz [] [[]] ?_
   refine op1 tok ?_
   refine qA ?_
   exact ⟨(),trivial,qE (by simp [vR,h31]),rfl,by simp [vR,h31],by simp [vR,h31]⟩
  intro h31
  try simp at h31
  refine AW.skip ?_
  exact ⟨(),trivial,qE (by simp [vR,h31]),rfl,by simp [vR,h31],by simp [vR,h31]⟩
 ·
  rintro a hI
  refine AW.seq (rgn [] [[]] ?_)
  refine op1 tok ?_
  refine qA (AW.block ?_)
  refine AW.loop (α:=Nat) (fun k=>k≤v.kids.length) (fun k=>⟨zI 70 [(1,.ptr 1 0),(3,.p (.str (vR v++Lib.join ((xU v).take k) [44]))),(4,.p (.int .i64 k))],[],[(1,.vars 42 v.cells)],0⟩) (fun k=>v.kids.length-k) (0) (by omega) ⟨qE (by simp [show Lib.join [] [44]=[] from rfl]),rfl,by simp,by simp⟩ ?_
  rintro k hk
  have hjk:=hjt k
  refine AW.seq (rgn [] [[],[],[],[],[1,3,4,36]] ?_)
  iterate 5 refine op1 tok ?_
  refine qA (cnd ?_ ?_)
  ·intro h36
   try simp at h36
   obtain ⟨x,hx⟩:∃ x,v.kids[k]?=some x:=⟨v.kids[k],by simp [h36]⟩
   have hp:=hpk k x hx
   have hj2:=qOO hp
   have hjk1:=hjt (k+1)
   have hix:=ih x (List.mem_of_getElem? hx)
   simp only [Val.enc_def] at hix
   have hx2:(qI x).length≤1000000000:=by rw [hj2] at hjk1; simp only [List.length_append] at hjk1; omega
   refine AW.skip (AW.seq (AW.block ?_))
   refine AW.join (α:=List UInt8) (fun t=>t=vR v++Lib.join ((xU v).take k) [44]++(if 0<k then [44] else [])∧t.length≤1000000010) (fun t=>⟨zI 70 [(1,.ptr 1 0),(3,.p (.str t)),(4,.p (.int .i64 k))],[],[(1,.vars 42 v.cells)],0⟩) ?_ ?_
   ·
    refine rgn [] [[],[1,3,4,40]] ?_
    iterate 2 refine op1 tok ?_
    refine qA (cnd ?_ ?_)
    ·intro h40
     try simp at h40
     refine rgz [] [[],[],[1,3,4]] ?_
     iterate 3 refine op1 tok ?_
     refine qA ?_
     exact ⟨vR v++Lib.join ((xU v).take k) [44]++[44],⟨by rw [if_pos (by omega)],by simp; omega⟩,qE (by simp),rfl,by simp,by simp⟩
    intro h40
    try simp at h40
    refine AW.skip ?_
    exact ⟨vR v++Lib.join ((xU v).take k) [44],⟨by rw [if_neg (by omega)]; simp,by simp; omega⟩,qE (by simp),rfl,by simp,by simp⟩
   ·
    rintro t ⟨ht,htl⟩
    refine AW.join (α:=List UInt8) (fun t=>t++qI x=vR v++Lib.join ((xU v).take (k+1)) [44]∧t.length≤3000000010) (fun t=>⟨zI 70 [(1,.ptr 1 0),(3,.p (.str t)),(4,.p (.int .i64 k))],[],[(1,.vars 42 v.cells)],0⟩) ?_ ?_
    ·
     refine rgn [] [[],[],[1,3,4,45]] ?_
     iterate 3 refine op1 tok ?_
     refine qA (cnd ?_ ?_)
     ·intro h45
      try simp at h45
      obtain ⟨hkl,hqk⟩:=hq7 h45
      have hk:v.keys[k]?=some (v.keys.getD k []):=by rw [List.getD_eq_getElem?_getD,List.getElem?_eq_getElem (by omega)]; rfl
      have hqq:=hqk _ (List.mem_of_getElem? hk)
      have hql:(zQ (v.keys.getD k [])).length≤1000000000:=by rw [hj2,if_pos h45] at hjk1; simp only [List.length_append] at hjk1; omega
      rw [if_pos h45] at hp hj2
      generalize v.keys.getD k []=key at *
      refine rgz [.str key,.nilp,.str (zQ key)] [[],[],[],[],[1,4,46,50],[],[],[1,4,53],[],[1,3,4]] ?_
      iterate 10 refine op1 tok ?_ (hv:=by first | with_reducible exact True.intro | (first | exact hqq | (simp [hk]; done) | (simp; omega) | omega; done) | omega | simp | (simp +contextual; omega))
      refine qA ?_
      exact ⟨t++zQ key++[58],⟨by rw [hj2,ht]; simp,by simp; omega⟩,qE (by simp),rfl,by simp,by simp⟩
     intro h45
     try simp at h45
     rw [if_neg h45] at hp hj2
     refine AW.skip ?_
     exact ⟨t,⟨by rw [hj2,ht]; simp,by omega⟩,qE (by simp),rfl,by simp,by simp⟩
    ·
     rintro t2 ⟨ht2,htl2⟩
     refine rgz [x.enc,.nilp,.str (qI x)] [[],[],[],[],[1,4,55,59],[],[],[1,4,62],[1,3,4]] ?_
     iterate 9 refine op1 tok ?_ (hv:=by first | with_reducible exact True.intro | (first | exact hix | (simp [hx]; done) | (simp; omega) | omega; done) | omega | simp | (simp +contextual; omega))
     refine qA (rgz [] [[],[],[1,3,4]] ?_)
     iterate 3 refine op1 tok ?_
     refine qA ?_
     exact ⟨k+1,by omega,by omega,qE (by simp [ht2]),rfl,by simp [ht2],by simp [ht2]⟩
  intro h36
  try simp at h36
  rw [List.take_of_length_le (by omega)]
  refine AW.exit ?_
  simp
  refine AW.seq (rgn [] [[],[],[3,65]] ?_)
  iterate 3 refine op1 tok ?_
  refine qA (cnd ?_ ?_)
  ·intro h65
   try simp at h65
   rw [if_pos h65]
   refine rgn [] [[],[],[2]] ?_
   iterate 3 refine op1 tok ?_
   exact qA (AW.ret qP)
  intro h65
  try simp at h65
  rw [if_neg h65]
  refine AW.skip (rgn [] [[],[],[2]] ?_)
  iterate 3 refine op1 tok ?_
  exact qA (AW.ret qP)
theorem qLJ (v:Val) (hm:wC v=true):Val.sz v≤10000→uZ 40 v→(uL v=true→qFJ G 40)→AFn Tryz.prog G 17 [v.enc] (.str (qI v)):=by
 intro hs hc hI
 have hp:=qTH (G:=G) v hm hs hc hI
 clear hs hc hI hm
 induction hp with
 | mk h8 h4 h5 h7 hn hb _ ih=>exact qTI _ (fun h=>⟨(h8 h).1,by have:=h8 h; unfold qFJ at this; omega,by have:=h8 h; unfold qFJ at this; omega⟩) (fun h=>qVF _ (h4 h)) (fun h=>qPK _ (h5 h).2) (fun h=>⟨(h7 h).1,fun key hk=>qPK key ((h7 h).2 key hk).2⟩) hn hb ih
end Go.Proofs.YtlmedakhioiahaaGreatDoor
