import Derived.Test.YtlmedakhioiahaaGreatDoorSScrW
import Derived.Test.YtlmedakhioiahaaGreatDoorK3
import Derived.Test.YtlmedakhioiahaaGreatDoorK1
import Derived.Test.YtlmedakhioiahaaGreatDoorSAllL
namespace Go.Proofs.YtlmedakhioiahaaGreatDoor
open Sy Go
set_option maxRecDepth 100000
set_option maxHeartbeats 4000000
set_option linter.unusedSimpArgs false
set_option linter.unusedVariables false
variable {G:qR}
def jb0:Jb:=⟨[],[],[],[],0,0,0,0⟩
def Jb.setW (j:Jb) (i:Nat) (s:List UInt8):Jb:=match i with
 | 0=>{ j with p:=s }
 | 1=>{ j with f:=s }
 | 2=>{ j with i:=s }
 | _=>{ j with n:=s }
def Jb.setN (j:Jb) (i:Nat) (n:Int):Jb:=match i with
 | 0=>{ j with a:=n }
 | 1=>{ j with b:=n }
 | 2=>{ j with c:=n }
 | _=>{ j with d:=n }
theorem qVV (j:Jb) {i:Nat} (h:i<4) (s:List UInt8):j.cells.set i (.p (.str s))=(j.setW i s).cells:=by
 match i,h with
 | 0,_=>rfl
 | 1,_=>rfl
 | 2,_=>rfl
 | 3,_=>rfl
theorem qVW (j:Jb) {i:Nat} (h:i<4) (n:Int):j.cells.set (i+4) (.p (.int .i64 n))=(j.setN i n).cells:=by
 match i,h with
 | 0,_=>rfl
 | 1,_=>rfl
 | 2,_=>rfl
 | 3,_=>rfl
def qLI (j:Jb) (key:List UInt8) (x:Val):Option Jb :=
 if key∈wD then (if x.kind=5 then some (j.setW (wD.idxOf key) x.text) else none)
 else if key∈yQ then (if (kA x).2=true then some (j.setN (yQ.idxOf key) (kA x).1) else none) else none
def xA (v:Val):Nat→Option Jb
 | 0=>some jb0
 | k+1=>(xA v k).bind fun j=>qLI j (v.keys.getD k []) (v.kids.getD k zK)
theorem qHR {v:Val} {k:Nat} (h:xA v k=none):∀ m,k≤m→xA v m=none:=by
 intro m hm
 induction m with
 | zero => have : k = 0 := by omega
           subst this; exact h
 | succ m ih =>
  rcases Nat.lt_or_ge m k with h1 | h1
  ·have:k=m+1:=by omega
   rw [← this]; exact h
  simp only [xA]; rw [ih h1]; rfl
def zIG:List UInt8:=[32,9,10,13]
def qCG (s:List UInt8):Jb × Int :=
 if (kF s).2.2≠0∨qIF (s.drop (kF s).2.1.toNat) zIG≠[]∨(kF s).1.kind≠7∨(kF s).1.keys.length≠8 then (jb0,240)
 else match xA (kF s).1 8 with
  | some j=>(j,0)
  | none=>(jb0,240)
theorem qJX {l:List (List UInt8)} {key:List UInt8} (h:key∈l):l[l.idxOf key]?=some key:=by
 rw [List.getElem?_eq_getElem (List.idxOf_lt_length_iff.2 h),List.getElem_idxOf]
theorem qAJ (key:List UInt8) (h:key∈wD):key ∉ yQ:=by
 have hd:wD.all (fun k => !yQ.contains k)=true:=by decide
 have:=List.all_eq_true.1 hd key h
 simpa using this
theorem zGY (hG:U8 G) (hE:PE G) (s:List UInt8) (hs:s.length≤1000000) (hv:(kF s).2.2=0→(kF s).1.kind=7→(kF s).1.keys.length=(kF s).1.kids.length∧∀ x∈(kF s).1.kids,x.kind=4→wH x.num=true):AFn Tryz.prog G 10 [.str s] (.tup [(qCG s).1.enc,.int .i64 (qCG s).2]):=by
 refine AFn.introU tok Tryz.func10 (by kernel_rfl) rfl rfl ?_
 simp only [Tryz.f10,qO,List.map_cons,List.map_nil]
 have ho:=zJZ (G:=G) hG s (by omega)
 have hkeys:=qPM (G:=G)
 have hrg:=zAL (s:=s)
 have htr:=zIL (G:=G) (s.drop (kF s).2.1.toNat) [32,9,10,13] (by simp) (by decide)
 have hR:qCG s=if (kF s).2.2≠0∨qIF (s.drop (kF s).2.1.toNat) zIG≠[]∨(kF s).1.kind≠7∨(kF s).1.keys.length≠8 then ((jb0,240):Jb × Int) else match xA (kF s).1 8 with
  | some j=>((j,0):Jb × Int)
  | none=>(jb0,240):=rfl
 rw [hR]
 rw [show zIG=[32,9,10,13] from rfl]
 generalize kF s=r at *
 obtain ⟨v,n,e⟩:=r
 simp only at ho hv hrg htr ⊢
 generalize qIF (s.drop n.toNat) [32,9,10,13]=T at *
 have hjl:yD.length=8:=rfl
 simp only [Val.enc_def] at ho
 refine rgn [] [[],[0,2]] ?_
 iterate 2 refine op1 tok ?_
 refine qA (rgn [.nilp,.tup [v.enc,.int .i64 n,.int .i64 e]] [[],[],[],[],[],[],[],[0,2,4,20,21],[],[0,2,4,5,6]] ?_)
 iterate 10 refine oq1 tok ho ?_
 refine qA (AW.seq ?_)
 by_cases hs2:e=0
 ·
  subst hs2
  obtain ⟨hr1,hr2⟩:=hrg rfl
  refine AW.seqDrawS tok mixed 22 [[6],[22],[23],[0,24],[5,24],[25,26,24],[27,24],[28,24],[24,29],[30],[4,31],[32,31],[33,31],[31,34],[35],[4,36],[37,36],[38,36],[36],[40,36],[39,41,36],[36,42]] [.nilp,.str T,.nilp,.sl 1 (yD.map PD.str)] [] (by kernel_rfl) ?_
  iterate 3 refine d1 ?_ (hv:=by first | with_reducible exact True.intro | (first | exact htr | exact fun _=>hkeys | exact fun _ _=>hkeys | exact fun h=>⟨h,hkeys⟩ | exact fun h1 h2=>⟨⟨h1,h2⟩,hkeys⟩ | (simp; omega); done) | omega | simp | (simp +contextual; omega))
  iterate 5 refine d2 24 rfl rfl ?_ (hv:=by first | with_reducible exact True.intro | (first | exact htr | exact fun _=>hkeys | exact fun _ _=>hkeys | exact fun h=>⟨h,hkeys⟩ | exact fun h1 h2=>⟨⟨h1,h2⟩,hkeys⟩ | (simp; omega); done) | omega | simp | (simp +contextual; omega))
  iterate 2 refine d1 ?_ (hv:=by first | with_reducible exact True.intro | (first | exact htr | exact fun _=>hkeys | exact fun _ _=>hkeys | exact fun h=>⟨h,hkeys⟩ | exact fun h1 h2=>⟨⟨h1,h2⟩,hkeys⟩ | (simp; omega); done) | omega | simp | (simp +contextual; omega))
  iterate 3 refine d2 31 rfl rfl ?_ (hv:=by first | with_reducible exact True.intro | (first | exact htr | exact fun _=>hkeys | exact fun _ _=>hkeys | exact fun h=>⟨h,hkeys⟩ | exact fun h1 h2=>⟨⟨h1,h2⟩,hkeys⟩ | (simp; omega); done) | omega | simp | (simp +contextual; omega))
  iterate 2 refine d1 ?_ (hv:=by first | with_reducible exact True.intro | (first | exact htr | exact fun _=>hkeys | exact fun _ _=>hkeys | exact fun h=>⟨h,hkeys⟩ | exact fun h1 h2=>⟨⟨h1,h2⟩,hkeys⟩ | (simp; omega); done) | omega | simp | (simp +contextual; omega))
  iterate 6 refine d2 36 rfl rfl ?_ (hv:=by first | with_reducible exact True.intro | (first | exact htr | exact fun _=>hkeys | exact fun _ _=>hkeys | exact fun h=>⟨h,hkeys⟩ | exact fun h1 h2=>⟨⟨h1,h2⟩,hkeys⟩ | (simp; omega); done) | omega | simp | (simp +contextual; omega))
  refine d1 ?_ (hv:=by first | with_reducible exact True.intro | (first | exact htr | exact fun _=>hkeys | exact fun _ _=>hkeys | exact fun h=>⟨h,hkeys⟩ | exact fun h1 h2=>⟨⟨h1,h2⟩,hkeys⟩ | (simp; omega); done) | omega | simp | (simp +contextual; omega))
  refine DGo.nil (by kernel_rfl) ⟨by kernel_rfl, ?_⟩
  refine qB.nil ?_
  refine cnd ?_ ?_
  ·intro h43
   try simp at h43
   rw [if_pos (show (0:Int)≠0∨T≠[]∨v.kind≠7∨v.keys.length≠8 by
    rcases h43 with (h | h) | h
    ·exact .inr (.inl h)
    ·exact .inr (.inr (.inl h))
    exact .inr (.inr (.inr (by rw [hjl] at h; omega))))]
   refine rgn [] [[],[],[2,3]] ?_
   iterate 3 refine op1 tok ?_
   refine qA ?_
   exact AW.ret (qP (k:=by simp [jb0]))
  intro h43
  try simp at h43
  have h43':T=[]∧v.kind=7∧v.keys.length=8:=⟨h43.1.1,h43.1.2,by have:=h43.2; rw [hjl] at this; omega⟩
  rw [if_neg (show ¬ ((0:Int)≠0∨T≠[]∨v.kind≠7∨v.keys.length≠8) by
   obtain ⟨q1,q2,q3⟩:=h43'
   rintro (h | h | h | h)
   ·exact h rfl
   ·exact h q1
   ·exact h q2
   exact h q3)]
  obtain ⟨-, hk7,hk8⟩:=h43'
  obtain ⟨hv1,hv2⟩:=hv rfl hk7
  refine AW.skip (rgn [] [[]] ?_)
  refine op1 tok ?_
  refine qA (AW.seq (rgn [] [[],[],[],[2,4,7,46,47,48]] ?_))
  iterate 4 refine op1 tok ?_
  refine qA (AW.block ?_)
  refine AW.loop (α:=Nat × Jb) (fun a=>a.1≤8∧xA v a.1=some a.2) (fun a=>⟨zI 93 [(2,.ptr 2 0),(4,.ptr 4 0),(7,.ptr 7 0),(46,.p (.sl 1 (v.keys.map PD.str))),(47,.p (.int .i64 8)),(48,.p (.int .i64 a.1))],[],[(2,.vars 23 jb0.cells),(4,.vars 42 v.cells),(7,.vars 23 a.2.cells)],0⟩) (fun a=>8-a.1) ((0,jb0)) ⟨by simp,rfl⟩ ⟨qE (by simp [hk8]),rfl,by simp [jb0],by simp⟩ ?_
  rintro ⟨k,j⟩ ⟨hk,hfl⟩
  simp only at hk hfl
  refine rgn [] [[]] ?_
  refine op1 tok ?_
  refine qA (AW.seq (cnd ?_ ?_))
  ·intro h49
   try simp at h49
   have hk':k<8:=by omega
   obtain ⟨key,hkey⟩:∃ x,v.keys[k]?=some x:=⟨v.keys[k]'(by omega),List.getElem?_eq_getElem _⟩
   obtain ⟨x,hx⟩:∃ x,v.kids[k]?=some x:=⟨v.kids[k]'(by omega),List.getElem?_eq_getElem _⟩
   have hxm:=hv2 x (List.mem_of_getElem? hx)
   have hst:xA v (k+1)=qLI j key x:=by
    simp only [xA,hfl,List.getD_eq_getElem?_getD,hkey,hx]; rfl
   have hw:=qRX (G:=G) 7 j.cells (by decide) (by simp [V.noRefL,V.noRef])
   have hn:=qLO (G:=G) 7 j.cells (by decide) (by simp [V.noRefL,V.noRef])
   have hwh:=zCC (G:=G) hE x hxm
   have hcl:j.cells.length=8:=rfl
   refine AW.skip (AW.seq (AW.block (rgn [.str key] [[],[],[],[],[2,4,7,8,9,46,47,48]] ?_)))
   iterate 5 refine op1 tok ?_ (hv:=by first | with_reducible exact True.intro | (first | (simp [hkey]; done) | (simp [hkey,hk8]; omega); done) | omega | simp | (simp +contextual; omega))
   refine qA (rgn [x.enc] [[],[],[],[2,4,7,9,46,47,48,56],[],[],[2,4,7,9,10,46,47,48]] ?_)
   iterate 7 refine op1 tok ?_ (hv:=by first | with_reducible exact True.intro | (first | (simp [hx]; done) | (simp [hx]; omega); done) | omega | simp | (simp +contextual; omega))
   refine qA ?_
   by_cases hs9:key∈wD
   ·
    have hi4:wD.idxOf key<4:=List.idxOf_lt_length_iff.2 hs9
    obtain ⟨_,_,_,_,w5⟩:=qXT j hi4
    have hnn:=qAJ key hs9
    have hpu:qLI j key x=if x.kind=5 then some (j.setW (wD.idxOf key) x.text) else none:=by unfold qLI; rw [if_pos hs9]
    rw [hpu] at hst
    have hsc:=qVV j hi4 x.text
    have hix:=qJX hs9
    generalize wD.idxOf key=i at *
    refine AW.seqRegionO [] ?_
    refine qB.stepK [2,4,7,9,10,46,47,48,59] (zA rfl hw (by simp)) (by conv=>lhs; simp) rfl ?_
    refine qB.run [[]] ?_
    refine op1 tok ?_
    refine qK ?_
    refine qB.stepK [2,4,7,9,10,46,47,48,61] (qDH tok rfl rfl rfl (by conv=>lhs; simp) trivial (by conv=>lhs; simp) trivial rfl (by decide) i hix (w5 7)) (by conv=>lhs; simp) rfl ?_
    refine qB.run [[],[],[],[],[2,4,7,9,10,11,12,46,47,48]] ?_
    iterate 5 refine op1 tok ?_
    refine qA ?_
    refine AW.seqRegionO [] ?_
    refine qB.stepK [2,4,7,9,10,11,12,46,47,48,65] (zA rfl hn (by simp)) (by conv=>lhs; simp) rfl ?_
    refine qB.run [[]] ?_
    refine op1 tok ?_
    refine qK ?_
    refine qB.stepK [2,4,7,10,11,12,46,47,48,67] (qDI tok rfl rfl rfl rfl rfl (by conv=>lhs; simp) trivial (by conv=>lhs; simp) trivial rfl hnn) (by conv=>lhs; simp) rfl ?_
    refine qB.run [[],[],[],[],[2,4,7,10,11,12,13,14,46,47,48]] ?_
    iterate 5 refine op1 tok ?_
    refine qA (rgn [] [[]] ?_)
    refine op1 tok ?_
    refine qA (AW.seq (AW.block (rgn [] [[],[2,4,7,10,11,13,14,15,46,47,48,70]] ?_)))
    iterate 2 refine op1 tok ?_
    refine qA (cnd ?_ ?_)
    ·intro h70
     try simp at h70
     refine AW.drawR mixed 8 [[11],[10],[73],[10],[75],[76],[72],[78,74]] [] (by kernel_rfl) ?_
     iterate 7 refine xD.one tok (orc:=[]) (by intro C; conv=>lhs; simp) (by first | with_reducible exact True.intro | omega | simp | (simp +contextual; omega)) rfl (by kernel_rfl) ?_
     refine xD.y [(7,.vars 23 j.cells)] [(7,.vars 23 (j.setW i x.text).cells)] .dead false rfl (qID tok rfl rfl rfl (by conv=>lhs; simp) trivial (by conv=>lhs; simp) trivial rfl rfl (by rw [hcl]; omega) hsc rfl) (by simp) (by simp) (by simp [xL,Box.ids,V.idsL,V.ids]) (by kernel_rfl) (by kernel_rfl) (by conv=>lhs; simp) ?_
     refine xD.nil (by kernel_rfl) ⟨by kernel_rfl, ?_⟩
     refine qB.run [[2,4,7,15,46,47,48]] ?_
     refine op1 tok ?_
     refine qA (rgn [] [[],[2,4,7,46,47,48,89]] ?_)
     iterate 2 refine op1 tok ?_
     refine qA (cnd ?_ ?_)
     ·intro h89
      try simp at h89
      have hk5:¬ x.kind=5:=by simpa using h89
      rw [if_neg hk5] at hst
      rw [qHR hst 8 (by omega)]
      refine rgn [] [[],[],[2,3]] ?_
      iterate 3 refine op1 tok ?_
      refine qA ?_
      exact AW.ret (qP (k:=by simp [jb0]))
     intro h89
     try simp at h89
     have hk5:x.kind=5:=by simpa using h89
     rw [if_pos hk5] at hst
     refine AW.skip (rgz [] [[],[2,4,7,46,47,48]] ?_)
     iterate 2 refine op1 tok ?_
     refine qA ?_
     exact ⟨(k+1,j.setW i x.text),⟨by simp only; omega,hst⟩,by simp only; omega,qE (by simp),rfl,by simp,by simp⟩
    intro h70
    try simp at h70
   ·
    refine AW.seqRegionO [] ?_
    refine qB.stepK [2,4,7,9,10,46,47,48,59] (zA rfl hw (by simp)) (by conv=>lhs; simp) rfl ?_
    refine qB.run [[]] ?_
    refine op1 tok ?_
    refine qK ?_
    refine qB.stepK [2,4,7,9,10,46,47,48,61] (qDI tok rfl rfl rfl rfl rfl (by conv=>lhs; simp) trivial (by conv=>lhs; simp) trivial rfl hs9) (by conv=>lhs; simp) rfl ?_
    refine qB.run [[],[],[],[],[2,4,7,9,10,11,12,46,47,48]] ?_
    iterate 5 refine op1 tok ?_
    refine qA ?_
    by_cases hs10:key∈yQ
    ·
     have hi4:yQ.idxOf key<4:=List.idxOf_lt_length_iff.2 hs10
     obtain ⟨_,_,_,_,w5⟩:=qTU j hi4
     have hpu:qLI j key x=if (kA x).2=true then some (j.setN (yQ.idxOf key) (kA x).1) else none:=by unfold qLI; rw [if_neg hs9,if_pos hs10]
     rw [hpu] at hst
     have hsc:=qVW j hi4 (kA x).1
     have hix:=qJX hs10
     generalize yQ.idxOf key=i at *
     generalize kA x=wx at *
     obtain ⟨wn,wb⟩:=wx
     simp only at hst hsc hwh
     simp only [Val.enc_def] at hwh
     refine AW.seqRegionO [] ?_
     refine qB.stepK [2,4,7,9,10,11,12,46,47,48,65] (zA rfl hn (by simp)) (by conv=>lhs; simp) rfl ?_
     refine qB.run [[]] ?_
     refine op1 tok ?_
     refine qK ?_
     refine qB.stepK [2,4,7,10,11,12,46,47,48,67] (qDH tok rfl rfl rfl (by conv=>lhs; simp) trivial (by conv=>lhs; simp) trivial rfl (by decide) i hix (w5 7)) (by conv=>lhs; simp) rfl ?_
     refine qB.run [[],[],[],[],[2,4,7,10,11,12,13,14,46,47,48]] ?_
     iterate 5 refine op1 tok ?_
     refine qA (rgn [] [[]] ?_)
     refine op1 tok ?_
     refine qA (AW.seq (AW.block (rgn [] [[],[2,4,7,10,11,13,14,15,46,47,48,70]] ?_)))
     iterate 2 refine op1 tok ?_
     refine qA (cnd ?_ ?_)
     ·intro h70
      try simp at h70
     intro h70
     try simp at h70
     refine rgn [] [[],[2,4,7,10,13,15,46,47,48,79]] ?_
     iterate 2 refine op1 tok ?_
     refine qA (cnd ?_ ?_)
     ·intro h79
      try simp at h79
      refine rgz [.nilp,.tup [.int .i64 wn,.bool wb]] [[],[],[],[2,4,7,46,47,48,81,82],[],[],[]] ?_
      iterate 7 refine oq1 tok hwh ?_
      refine qK ?_
      refine qB.stepK [2,4,7,46,47,48,86] (qID tok rfl rfl rfl (by conv=>lhs; simp) trivial (by conv=>lhs; simp) trivial rfl rfl (by rw [hcl]; omega) hsc rfl) (by conv=>lhs; simp) rfl ?_
      refine qB.run [[2,4,7,15,46,47,48]] ?_
      refine oq1 tok hwh ?_
      refine qA (rgn [] [[],[2,4,7,46,47,48,89]] ?_)
      iterate 2 refine op1 tok ?_
      refine qA (cnd ?_ ?_)
      ·intro h89
       try simp at h89
       rw [if_neg (by simpa using h89)] at hst
       rw [qHR hst 8 (by omega)]
       refine rgn [] [[],[],[2,3]] ?_
       iterate 3 refine op1 tok ?_
       refine qA ?_
       exact AW.ret (qP (k:=by simp [jb0]))
      intro h89
      try simp at h89
      rw [if_pos (by simpa using h89)] at hst
      refine AW.skip (rgz [] [[],[2,4,7,46,47,48]] ?_)
      iterate 2 refine op1 tok ?_
      refine qA ?_
      exact ⟨(k+1,j.setN i wn),⟨by simp only; omega,hst⟩,by simp only; omega,qE (by simp),rfl,by simp,by simp⟩
     intro h79
     try simp at h79
    ·
     have hpu:qLI j key x=none:=by unfold qLI; rw [if_neg hs9,if_neg hs10]
     rw [hpu] at hst
     rw [qHR hst 8 (by omega)]
     refine AW.seqRegionO [] ?_
     refine qB.stepK [2,4,7,9,10,11,12,46,47,48,65] (zA rfl hn (by simp)) (by conv=>lhs; simp) rfl ?_
     refine qB.run [[]] ?_
     refine op1 tok ?_
     refine qK ?_
     refine qB.stepK [2,4,7,10,11,12,46,47,48,67] (qDI tok rfl rfl rfl rfl rfl (by conv=>lhs; simp) trivial (by conv=>lhs; simp) trivial rfl hs10) (by conv=>lhs; simp) rfl ?_
     refine qB.run [[],[],[],[],[2,4,7,10,11,12,13,14,46,47,48]] ?_
     iterate 5 refine op1 tok ?_
     refine qA (rgn [] [[]] ?_)
     refine op1 tok ?_
     refine qA (AW.seq (AW.block (rgn [] [[],[2,4,7,10,11,13,14,15,46,47,48,70]] ?_)))
     iterate 2 refine op1 tok ?_
     refine qA (cnd ?_ ?_)
     ·intro h70
      try simp at h70
     intro h70
     try simp at h70
     refine rgn [] [[],[2,4,7,10,13,15,46,47,48,79]] ?_
     iterate 2 refine op1 tok ?_
     refine qA (cnd ?_ ?_)
     ·intro h79
      try simp at h79
     intro h79
     try simp at h79
     refine AW.skip (rgn [] [[],[2,4,7,46,47,48,89]] ?_)
     iterate 2 refine op1 tok ?_
     refine qA (cnd ?_ ?_)
     ·intro h89
      try simp at h89
      refine rgn [] [[],[],[2,3]] ?_
      iterate 3 refine op1 tok ?_
      refine qA ?_
      exact AW.ret (qP (k:=by simp [jb0]))
     intro h89
     try simp at h89
  intro h49
  try simp at h49
  obtain rfl:k=8:=by omega
  rw [hfl]
  refine AW.exit ?_
  simp
  refine rgn [] [[],[],[2,3]] ?_
  iterate 3 refine op1 tok ?_
  exact qA (AW.ret qP)
 ·
  have hs2':¬ e=0:=hs2
  refine AW.seqDrawS tok mixed 22 [[6],[22],[23],[0,24],[5,24],[25,26,24],[27,24],[28,24],[24,29],[30],[4,31],[32,31],[33,31],[31,34],[35],[4,36],[37,36],[38,36],[36],[40,36],[39,41,36],[36,42]] [] [] (by kernel_rfl) ?_
  iterate 3 refine d1 ?_ (h:=by intro C; conv=>lhs; simp [hs2'])
  iterate 5 refine d2 24 rfl rfl ?_ (h:=by intro C; conv=>lhs; simp [hs2'])
  iterate 2 refine d1 ?_ (h:=by intro C; conv=>lhs; simp [hs2'])
  iterate 3 refine d2 31 rfl rfl ?_ (h:=by intro C; conv=>lhs; simp [hs2'])
  iterate 2 refine d1 ?_ (h:=by intro C; conv=>lhs; simp [hs2'])
  iterate 6 refine d2 36 rfl rfl ?_ (h:=by intro C; conv=>lhs; simp [hs2'])
  refine d1 ?_ (h:=by intro C; conv=>lhs; simp [hs2'])
  refine DGo.nil (by kernel_rfl) ⟨by kernel_rfl, ?_⟩
  refine qB.nil ?_
  refine cnd ?_ ?_
  ·intro h43
   try simp at h43
   rw [if_pos (.inl hs2)]
   refine rgn [] [[],[],[2,3]] ?_
   iterate 3 refine op1 tok ?_
   refine qA ?_
   exact AW.ret (qP (k:=by simp [jb0]))
  intro h43
  try simp at h43
end Go.Proofs.YtlmedakhioiahaaGreatDoor
