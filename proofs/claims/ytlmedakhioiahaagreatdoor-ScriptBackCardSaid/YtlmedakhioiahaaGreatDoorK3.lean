import Derived.Test.YtlmedakhioiahaaGreatDoorK2
import Derived.Test.YtlmedakhioiahaaGreatDoorK1
import Derived.Test.YtlmedakhioiahaaGreatDoorM3
import Derived.Shelf.Strings.OnBuilder
import Derived.Shelf.LaysC
import Derived.Shelf.Strconv.AtoiAll
import Derived.Test.YtlmedakhioiahaaGreatDoorProg
import Derived.Lib.AtoiTie
namespace Go.Proofs.YtlmedakhioiahaaGreatDoor
open Sy Go
set_option maxRecDepth 100000
set_option maxHeartbeats 4000000
set_option linter.unusedSimpArgs false
set_option linter.unusedVariables false
variable {G:qO}
def zFY (st:RS) (d:Nat):RS:=⟨st.left,st.nodes+1,st.bad,Bool.or st.deep (decide (12<d)),Bool.or st.big (decide (400<st.nodes+1))⟩
theorem zFR (w:List UInt8) (st:RS) (d:Nat):tk w (zFY st d)=if w.isPrefixOf (qQ st d).left=true then (true,qT (qQ st d) w.length) else (false,qQ st d):=rfl
theorem zCW (w:List UInt8) {E:RS} (h:zG E.left=E.left):tk w E=if w.isPrefixOf E.left=true then (true,qT E w.length) else (false,E):=by
 unfold tk; rw [h]; rfl
theorem qIH (w : List UInt8) (k : Nat) {S E : RS} (h : tk w S = if w.isPrefixOf E.left = true then (true, qT E w.length) else (false, E)) (hp : w.isPrefixOf E.left = true) (hk : w.length = k := by rfl) :
  AX Tryz.prog G 78 [.ptr 2 0,.p (.str w)] [(2,.vars 85 (rdC S))] (.p (.bool true)) [2] [(2,.vars 85 (rdC (qT E k)))]:=by
 have:=jC (G:=G) S w
 rw [h,if_pos hp] at this; exact hk ▸ this
theorem qII (w : List UInt8) {S E : RS} (h : tk w S = if w.isPrefixOf E.left = true then (true, qT E w.length) else (false, E)) (hp : ¬ w.isPrefixOf E.left = true) :
  AX Tryz.prog G 78 [.ptr 2 0,.p (.str w)] [(2,.vars 85 (rdC S))] (.p (.bool false)) [2] [(2,.vars 85 (rdC E))]:=by
 have:=jC (G:=G) S w
 rw [h,if_neg hp] at this; exact this
theorem qAP (n : Nat) (st : RS) (d : Nat) : qN (n + 1) st d = if ([91] : List UInt8).isPrefixOf (qQ st d).left = true then ((qOG n (qT (qQ st d) 1) (d + 1)).1, .mk 6 0 dc0 [] [] (qOG n (qT (qQ st d) 1) (d + 1)).2 0)
  else if ([123]:List UInt8).isPrefixOf (qQ st d).left=true then ((qEI n (qT (qQ st d) 1) (d+1)).1,.mk 7 0 dc0 [] (qEI n (qT (qQ st d) 1) (d+1)).2.1 (qEI n (qT (qQ st d) 1) (d+1)).2.2 0) else wK (qQ st d):=by
 rw [qN]; rfl
attribute [local simp] qT
theorem qKT (hG:U8 G) (n:Nat) (st:RS) (d:Nat) (hN:2 * st.left.length+2≤n+1) (hl:st.left.length≤1000000000) (hk:st.nodes+st.left.length≤10000000000) (hd:d+st.left.length≤10000000000) (ih:∀ e,qGF G n e):AX Tryz.prog G 47 [.ptr 2 0,.p (.int .i64 d)] [(2,.vars 85 (rdC st))] (.agg (qN (n+1) st d).2.cells) [2] [(2,.vars 85 (rdC (qN (n+1) st d).1))]:=by
 refine AX.introU tok 900 Tryz.func47 (by kernel_rfl) rfl rfl ?_
 simp only [Tryz.f47,qR,List.map_cons,List.map_nil]
 rw [qAP]
 have htp:=fun w=>zFR w st d
 have hEl:zG (qQ st d).left=(qQ st d).left:=xP _
 have hts:=fun w=>zCW w hEl
 have hle:=qJX st d
 have hen:(qQ st d).nodes=st.nodes+1:=rfl
 have hd1:decide ((12:Int)<(d:Int))=decide (12<d):=by rw [decide_eq_decide]; omega
 have hd2:decide ((400:Int)<(st.nodes:Int)+1)=decide (400<st.nodes+1):=by rw [decide_eq_decide]; omega
 refine rgn [] [[]] ?_
 refine op1 tok ?_
 refine qA (rgn [] [[],[],[],[],[],[0,1,4,9,10],[],[0,1,4]] ?_)
 iterate 8 refine op1 tok ?_
 refine qA (rgn [] [[],[],[],[],[],[0,1,4,12,17],[],[],[],[0,1,4,20,21],[],[0,1,4]] ?_)
 iterate 6 refine op1 tok ?_
 iterate 2 refine op2 tok ?_
 iterate 4 refine op1 tok ?_
 refine qA (rgn [] [[],[],[],[],[],[0,1,4,23,28],[],[],[],[],[0,1,4,23,28,33],[],[],[0,1,4,34,36],[0,1,4]] ?_)
 iterate 6 refine op1 tok ?_
 iterate 5 refine op2 tok ?_
 iterate 4 refine op1 tok ?_
 refine qA (AW.seq (AW.block ?_))
 by_cases hs4:([91]:List UInt8).isPrefixOf (qQ st d).left=true
 ·
  first | rw [if_pos hs4] | rw [if_neg hs4]
  generalize qQ st d=E at *; obtain ⟨el,en,eb,edp,ebg⟩:=E
  simp only at hs4 hle hen hEl
  have hpl:=wV hs4
  simp at hpl
  refine rgn [] [[]] ?_
  refine op1 tok ?_
  refine qP ?_
  refine qD.stepK [0,1,4,39] (zF rfl (qIH [91] 1 (htp _) hs4) (by simp [zFY,hd1,hd2])) (by conv=>lhs; simp) rfl ?_
  refine qD.run [[0,1,4,37]] ?_
  refine op1 tok ?_
  refine qA (cnd ?_ ?_)
  ·intro h37
   try simp at h37
   refine rgn [] [[],[],[]] ?_
   iterate 3 refine op1 tok ?_
   refine qP ?_
   refine qD.stepK [4,43] (zF rfl (zDU n (qT ⟨el,en,eb,edp,ebg⟩ 1) (d+1) (by simp [qT]; omega) (by simp [qT]; omega) (by simp [qT]; omega) (by simp [qT]; omega) (ih _)) (by simp [qT])) (by conv=>lhs; simp) rfl ?_
   refine qD.run [[4]] ?_
   refine op1 tok ?_
   refine qA ?_
   exact AW.ret (zI (k:=by simp [dc0]))
  intro h37
  try simp at h37
 ·
  first | rw [if_pos hs4] | rw [if_neg hs4]
  generalize qQ st d=E at *; obtain ⟨el,en,eb,edp,ebg⟩:=E
  simp only at hs4 hle hen hEl
  refine rgn [] [[]] ?_
  refine op1 tok ?_
  refine qP ?_
  refine qD.stepK [0,1,4,39] (zF rfl (qII [91] (htp _) hs4) (by simp [zFY,hd1,hd2])) (by conv=>lhs; simp) rfl ?_
  refine qD.run [[0,1,4,37]] ?_
  refine op1 tok ?_
  refine qA (cnd ?_ ?_)
  ·intro h37
   try simp at h37
  intro h37
  try simp at h37
  by_cases hs6:([123]:List UInt8).isPrefixOf el=true
  ·
   first | rw [if_pos hs6] | rw [if_neg hs6]
   have hpl:=wV hs6
   simp at hpl
   refine rgn [] [[]] ?_
   refine op1 tok ?_
   refine qP ?_
   refine qD.stepK [0,1,4,46] (zF rfl (qIH [123] 1 (hts _) hs6) (by simp)) (by conv=>lhs; simp) rfl ?_
   refine qD.run [[0,1,4,44]] ?_
   refine op1 tok ?_
   refine qA (cnd ?_ ?_)
   ·intro h44
    try simp at h44
    refine rgn [] [[],[],[]] ?_
    iterate 3 refine op1 tok ?_
    refine qP ?_
    refine qD.stepK [4,50] (zF rfl (qXH hG n (qT ⟨el,en,eb,edp,ebg⟩ 1) (d+1) (by simp [qT]; omega) (by simp [qT]; omega) (by simp [qT]; omega) (by simp [qT]; omega) (ih _)) (by simp [qT])) (by conv=>lhs; simp) rfl ?_
    refine qD.run [[4]] ?_
    refine op1 tok ?_
    refine qA ?_
    exact AW.ret (zI (k:=by simp [dc0]))
   intro h44
   try simp at h44
  ·
   first | rw [if_pos hs6] | rw [if_neg hs6]
   unfold wK
   simp only
   refine rgn [] [[]] ?_
   refine op1 tok ?_
   refine qP ?_
   refine qD.stepK [0,1,4,46] (zF rfl (qII [123] (hts _) hs6) (by simp)) (by conv=>lhs; simp) rfl ?_
   refine qD.run [[0,1,4,44]] ?_
   refine op1 tok ?_
   refine qA (cnd ?_ ?_)
   ·intro h44
    try simp at h44
   intro h44
   try simp at h44
   by_cases hs8:kC.isPrefixOf el=true
   ·
    first | rw [if_pos hs8] | rw [if_neg hs8]
    refine rgn [] [[]] ?_
    refine op1 tok ?_
    refine qP ?_
    refine qD.stepK [0,4,53] (zF rfl (qIH kC 4 (hts _) hs8) (by simp [kC])) (by conv=>lhs; simp) rfl ?_
    refine qD.run [[0,4,51]] ?_
    refine op1 tok ?_
    refine qA (cnd ?_ ?_)
    ·intro h51
     try simp at h51
     refine rgn [] [[],[4]] ?_
     iterate 2 refine op1 tok ?_
     refine qA ?_
     refine AW.fillE 904 [none,none,none,none,none,none,some 1,some 9,none] (by conv=>lhs; simp) ?_
     exact AW.ret (zI (k:=by simp [dc0]))
    intro h51
    try simp at h51
   ·
    first | rw [if_pos hs8] | rw [if_neg hs8]
    refine rgn [] [[]] ?_
    refine op1 tok ?_
    refine qP ?_
    refine qD.stepK [0,4,53] (zF rfl (qII kC (hts _) hs8) (by simp [kC])) (by conv=>lhs; simp) rfl ?_
    refine qD.run [[0,4,51]] ?_
    refine op1 tok ?_
    refine qA (cnd ?_ ?_)
    ·intro h51
     try simp at h51
    intro h51
    try simp at h51
    by_cases hs10:kM.isPrefixOf el=true
    ·
     first | rw [if_pos hs10] | rw [if_neg hs10]
     refine rgn [] [[]] ?_
     refine op1 tok ?_
     refine qP ?_
     refine qD.stepK [0,4,57] (zF rfl (qIH kM 4 (hts _) hs10) (by simp [kM])) (by conv=>lhs; simp) rfl ?_
     refine qD.run [[0,4,55]] ?_
     refine op1 tok ?_
     refine qA (cnd ?_ ?_)
     ·intro h55
      try simp at h55
      refine rgn [] [[],[4]] ?_
      iterate 2 refine op1 tok ?_
      refine qA ?_
      refine AW.fillE 904 [none,none,none,none,none,none,some 1,some 9,none] (by conv=>lhs; simp) ?_
      exact AW.ret (zI (k:=by simp [dc0]))
     intro h55
     try simp at h55
    ·
     first | rw [if_pos hs10] | rw [if_neg hs10]
     refine rgn [] [[]] ?_
     refine op1 tok ?_
     refine qP ?_
     refine qD.stepK [0,4,57] (zF rfl (qII kM (hts _) hs10) (by simp [kM])) (by conv=>lhs; simp) rfl ?_
     refine qD.run [[0,4,55]] ?_
     refine op1 tok ?_
     refine qA (cnd ?_ ?_)
     ·intro h55
      try simp at h55
     intro h55
     try simp at h55
     by_cases hs12:wU.isPrefixOf el=true
     ·
      first | rw [if_pos hs12] | rw [if_neg hs12]
      refine rgn [] [[]] ?_
      refine op1 tok ?_
      refine qP ?_
      refine qD.stepK [0,4,61] (zF rfl (qIH wU 5 (hts _) hs12) (by simp [wU])) (by conv=>lhs; simp) rfl ?_
      refine qD.run [[0,4,59]] ?_
      refine op1 tok ?_
      refine qA (cnd ?_ ?_)
      ·intro h59
       try simp at h59
       refine rgn [] [[],[4]] ?_
       iterate 2 refine op1 tok ?_
       refine qA ?_
       refine AW.fillE 904 [none,none,none,none,none,none,some 1,some 9,none] (by conv=>lhs; simp) ?_
       exact AW.ret (zI (k:=by simp [dc0]))
      intro h59
      try simp at h59
     ·
      first | rw [if_pos hs12] | rw [if_neg hs12]
      refine rgn [] [[]] ?_
      refine op1 tok ?_
      refine qP ?_
      refine qD.stepK [0,4,61] (zF rfl (qII wU (hts _) hs12) (by simp [wU])) (by conv=>lhs; simp) rfl ?_
      refine qD.run [[0,4,59]] ?_
      refine op1 tok ?_
      refine qA (cnd ?_ ?_)
      ·intro h59
       try simp at h59
      intro h59
      try simp at h59
      refine rgn [.nilp,.bool (([34]:List UInt8).isPrefixOf el)] [[],[],[],[],[0,4,68],[0,4,63]] ?_
      iterate 6 refine op1 tok ?_ (hv:=by first | with_reducible exact True.intro | ((rw [← qDG]; exact qPJ _ _); done) | omega | simp | (simp +contextual; omega))
      refine qA (cnd ?_ ?_)
      ·intro h63
       rw [if_pos h63]
       refine rgn [] [[]] ?_
       refine op1 tok ?_
       refine qP ?_
       refine qD.stepK [4,70] (zF rfl (qLR hG ⟨el,en,eb,edp,ebg⟩ (by simp only; omega)) (by simp)) (by conv=>lhs; simp) rfl ?_
       refine qD.run [[],[4]] ?_
       iterate 2 refine op1 tok ?_
       refine qA ?_
       refine AW.fillE 904 [none,none,none,none,none,none,some 1,some 9,none] (by conv=>lhs; simp) ?_
       exact AW.ret (zI (k:=by simp [dc0]))
      intro h63
      rw [if_neg (by rw [h63]; simp)]
      by_cases hs16:el=[]
      ·
       skip
       subst hs16
       refine rgn [.int .u8 0,.int .u8 0,.int .u8 0] [[],[],[],[],[0,4,77],[],[],[],[],[0,4,78,82],[],[],[],[],[0,4,78,85,87],[],[],[],[0,4,78,85,91],[],[],[],[],[0,4,78,85,92,96],[],[],[0,4,78,85,99],[],[0,4,101],[0,4,72]] ?_
       iterate 6 refine op1 tok ?_
       iterate 22 refine op2 tok ?_
       iterate 2 refine op1 tok ?_
       refine qA (cnd ?_ ?_)
       ·intro h72
        try simp at h72
       intro h72
       try simp at h72
       refine AW.skip ?_
       rw [if_neg (by simp)]
       refine rgn [] [[],[],[],[4]] ?_
       iterate 4 refine op1 tok ?_
       refine qA (rgn [] [[],[4]] ?_)
       iterate 2 refine op1 tok ?_
       refine qA ?_
       refine AW.fillE 904 [none,none,none,none,none,none,some 1,some 9,none] (by conv=>lhs; simp) ?_
       exact AW.ret (zI (k:=by simp [zM,dc0]))
      ·
       skip
       obtain ⟨c,t,rfl⟩:∃ c t,el=c::t:=by cases el with | nil=>exact (hs16 rfl).elim | cons c t=>exact ⟨c,t,rfl⟩
       refine rgn [.int .u8 c.toNat,.int .u8 c.toNat,.int .u8 c.toNat] [[],[],[],[],[0,4,77],[],[],[],[],[0,4,78,82],[],[],[],[],[0,4,78,85,87],[],[],[],[0,4,78,85,91],[],[],[],[],[0,4,78,85,92,96],[],[],[0,4,78,85,99],[],[0,4,101],[0,4,72]] ?_
       iterate 6 refine op1 tok ?_ (hv:=by first | with_reducible exact True.intro | (first | (simp; done) | (simp; omega) | (simp +contextual; done); done) | omega | simp | (simp +contextual; omega))
       iterate 22 refine op2 tok ?_ (hv:=by first | with_reducible exact True.intro | (first | (simp; done) | (simp; omega) | (simp +contextual; done); done) | omega | simp | (simp +contextual; omega))
       iterate 2 refine op1 tok ?_ (hv:=by first | with_reducible exact True.intro | (first | (simp; done) | (simp; omega) | (simp +contextual; done); done) | omega | simp | (simp +contextual; omega))
       refine qA (cnd ?_ ?_)
       ·intro h72
        have hb:qS (List.cons c t) 0=(c.toNat:Int):=rfl
        rw [if_pos (show List.cons c t≠[]∧(qS (List.cons c t) 0=45∨kG (qS (List.cons c t) 0)=true) by
         refine ⟨by simp, ?_⟩
         rw [hb]; unfold kG
         simp only [Bool.or_eq_true,Bool.and_eq_true,decide_eq_true_eq] at h72 ⊢
         exact h72)]
        refine rgn [] [[]] ?_
        refine op1 tok ?_
        refine qP ?_
        refine qD.stepK [4,103] (zF rfl (qXJ ⟨List.cons c t,en,eb,edp,ebg⟩ (by simp only; omega)) (by simp)) (by conv=>lhs; simp) rfl ?_
        refine qD.run [[4]] ?_
        refine op1 tok ?_
        refine qA ?_
        exact AW.ret (zI (k:=by simp [dc0]))
       intro h72
       have hb:qS (List.cons c t) 0=(c.toNat:Int):=rfl
       rw [if_neg (show ¬ (List.cons c t≠[]∧(qS (List.cons c t) 0=45∨kG (qS (List.cons c t) 0)=true)) by
        rintro ⟨_,h⟩
        rw [hb] at h; unfold kG at h
        simp only [Bool.or_eq_false_iff,Bool.and_eq_false_iff,decide_eq_false_iff_not] at h72
        simp only [Bool.and_eq_true,decide_eq_true_eq] at h
        omega)]
       refine AW.skip (rgn [] [[],[],[],[4]] ?_)
       iterate 4 refine op1 tok ?_
       refine qA (rgn [] [[],[4]] ?_)
       iterate 2 refine op1 tok ?_
       refine qA ?_
       refine AW.fillE 904 [none,none,none,none,none,none,some 1,some 9,none] (by conv=>lhs; simp) ?_
       exact AW.ret (zI (k:=by simp [zM,dc0]))
end Go.Proofs.YtlmedakhioiahaaGreatDoor
namespace Go.Proofs.YtlmedakhioiahaaGreatDoor
open Sy Go
set_option maxRecDepth 100000
set_option maxHeartbeats 4000000
set_option linter.unusedSimpArgs false
set_option linter.unusedVariables false
variable {G:qO}
theorem qYD (ks:List (List UInt8)) (hn:ks.length≤1000000):AX Tryz.prog G 119 [.p (.sl 1 (ks.map PD.str))] [] (.ms 905) [] [(905,.row 9 1 (ks.map PD.str))]:=by
 refine AX.introU tok 900 Tryz.func119 (by kernel_rfl) rfl rfl ?_
 simp only [Tryz.f119,qR,List.map_cons,List.map_nil]
 refine rgn [] [[0]] ?_
 refine op1 tok ?_
 refine qA (AW.seq (rgn [] [[]] ?_))
 refine op1 tok ?_
 refine qP ?_
 refine qD.nilEq tok [0,4] rfl rfl (by conv=>lhs; simp) trivial rfl ?_
 intro bn1 hbn1
 refine qD.same (by conv=>lhs; simp) ?_
 refine qD.nil ?_
 refine cnd ?_ ?_
 ·intro h4
  try simp at h4
  have hks:ks=[]:=by
   by_cases h:ks=[]
   ·exact h
   rw [hbn1 (by simpa using h)] at h4; cases h4
  subst hks
  refine rgn [] [[]] ?_
  refine op1 tok ?_
  refine qA ?_
  refine AW.beginE 2 905 9 1 (by simp) (by simp) (by conv=>lhs; simp) ?_
  exact AW.ret zI
 intro h4
 try simp at h4
 refine AW.skip (rgn [] [[],[],[],[2]] ?_)
 iterate 4 refine op1 tok ?_
 refine qA ?_
 exact AW.ret zI
theorem qYE (ks:List (List UInt8)) (hn:ks.length≤1000000):AR Tryz.prog G 119 [.sl 1 (ks.map PD.str)] 9 1 (ks.map PD.str):=AR.of_AX (k:=905) (by simpa using qYD ks hn)
theorem qYB (vs:List Val) (hn:vs.length≤1000000):AX Tryz.prog G 120 [.p (.sl 9 (vs.map Val.enc))] [] (.ms 905) [] [(905,.row 42 9 (vs.map Val.enc))]:=by
 refine AX.introU tok 900 Tryz.func120 (by kernel_rfl) rfl rfl ?_
 simp only [Tryz.f120,qR,List.map_cons,List.map_nil]
 refine rgn [] [[0]] ?_
 refine op1 tok ?_
 refine qA (AW.seq (rgn [] [[]] ?_))
 refine op1 tok ?_
 refine qP ?_
 refine qD.nilEq tok [0,4] rfl rfl (by conv=>lhs; simp) trivial rfl ?_
 intro bn1 hbn1
 refine qD.same (by conv=>lhs; simp) ?_
 refine qD.nil ?_
 refine cnd ?_ ?_
 ·intro h4
  try simp at h4
  have hks:vs=[]:=by
   by_cases h:vs=[]
   ·exact h
   rw [hbn1 (by simpa using h)] at h4; cases h4
  subst hks
  refine rgn [] [[]] ?_
  refine op1 tok ?_
  refine qA ?_
  refine AW.beginE 2 905 42 9 (by simp) (by simp) (by conv=>lhs; simp) ?_
  exact AW.ret zI
 intro h4
 try simp at h4
 refine AW.skip (rgn [] [[],[],[],[2]] ?_)
 iterate 4 refine op1 tok ?_
 refine qA ?_
 exact AW.ret zI
theorem qYC (vs:List Val) (hn:vs.length≤1000000):AR Tryz.prog G 120 [.sl 9 (vs.map Val.enc)] 42 9 (vs.map Val.enc):=AR.of_AX (k:=905) (by simpa using qYB vs hn)
@[simp] theorem zGY (u:Val):(qFA u).kind=u.kind:=rfl
@[simp] theorem zGX (u:Val):(qFA u).mask=0:=rfl
@[simp] theorem zIB (u:Val):(qFA u).num=u.num:=rfl
@[simp] theorem zGW (u:Val):(qFA u).text=u.text:=rfl
@[simp] theorem zHA (u:Val):(qFA u).keys=u.keys:=rfl
@[simp] theorem zGZ (u:Val):(qFA u).kids=u.kids:=rfl
@[simp] theorem zHB (u:Val):(qFA u).code=u.code:=rfl
def jP (ch:Val→Val) (v:Val) (k:Nat):List PD:=(v.kids.take k).map (fun u=>(vT ch u).enc)++(v.kids.drop k).map Val.enc
theorem qTU (ch:Val→Val) (v:Val) (k:Nat):(jP ch v k).length=v.kids.length:=by
 simp only [jP,List.length_append,List.length_map,List.length_take,List.length_drop]; omega
@[simp] theorem zFH (ch:Val→Val) (v:Val):jP ch v 0=v.kids.map Val.enc:=by simp only [jP,List.take_zero,List.map_nil,List.nil_append,List.drop_zero]
theorem qTV {ch:Val→Val} {v x:Val} {k:Nat} (hx:v.kids[k]?=some x):(jP ch v k)[k]?=some x.enc:=by
 have hk:=(List.getElem?_eq_some_iff.1 hx).1
 have h0:((v.kids.take k).map (fun u=>(vT ch u).enc)).length=k:=by simp only [List.length_map,List.length_take]; omega
 rw [jP,List.getElem?_append_right (by omega),h0,Nat.sub_self,List.getElem?_map,List.getElem?_drop,Nat.add_zero,hx]; rfl
theorem qTT {ch:Val→Val} {v x:Val} {k:Nat} (hx:v.kids[k]?=some x):(jP ch v k).set k (vT ch x).enc=jP ch v (k+1):=by
 have hk:=(List.getElem?_eq_some_iff.1 hx).1
 have hxk:=(List.getElem?_eq_some_iff.1 hx).2
 have h0:((v.kids.take k).map (fun u=>(vT ch u).enc)).length=k:=by simp only [List.length_map,List.length_take]; omega
 rw [jP,List.set_append_right _ _ (by omega),h0,Nat.sub_self,List.drop_eq_getElem_cons hk,jP,List.take_succ_eq_append_getElem hk,hxk]
 simp only [List.map_cons,List.set_cons_zero,List.map_append,List.map_nil,List.append_assoc,List.cons_append,List.nil_append]
theorem qRJ (g:FuncId) (ch:Val→Val) (v:Val) (hg:∀ u:Val,AX Tryz.prog G g [.ptr 2 0] [(2,.vars 42 u.cells)] (.tuple []) [2] [(2,.vars 42 (ch u).cells)]) (hsm:v.keys.length≤1000000∧v.kids.length≤1000000) (ih:∀ k∈v.kids,AFn Tryz.prog G 84 [k.enc,.fn g] (vT ch k).enc):AFn Tryz.prog G 84 [v.enc,.fn g] ((vT ch v).enc):=by
 refine AFn.introU tok Tryz.func84 (by kernel_rfl) rfl rfl ?_
 simp only [Tryz.f84,qR,List.map_cons,List.map_nil]
 have hck:=qYE (G:=G) v.keys (by omega)
 have hcv:=qYC (G:=G) v.kids (by omega)
 refine rgn [] [[],[1,2,4]] ?_
 iterate 2 refine op1 tok ?_
 refine qA ?_
 refine AW.seqRunDrawK tok mixed [1,2,4] 8 [[2],[7],[8],[2],[10],[11],[2],[13,9]] [.nilf,.sl 1 (v.keys.map PD.str),.clo 9 [],.nilf,.sl 9 (v.kids.map Val.enc),.clo 42 []] [] (by kernel_rfl) (by intro C; conv=>lhs; simp) (by first | exact hck | exact hcv | ((repeat' (first | with_reducible apply And.intro | intro _)) <;> first | exact (hck) | exact (hcv) | assumption | omega | contradiction | simp_all)) (by simp [Sm.sum,Sm.foot,Sm.tch,Sm.refs]; kernel_rfl) (by intro C; conv=>lhs; simp) (by first | with_reducible exact True.intro | omega | simp | (simp +contextual; omega)) ?_
 refine AW.seq (rgn [] [[],[],[],[1,2,4,16,17,18]] ?_)
 iterate 4 refine op1 tok ?_
 refine qA (AW.block ?_)
 refine AW.loop (α:=Nat) (fun k=>k≤v.kids.length) (fun k=>⟨zR 34 [(1,.p (.fn g)),(2,.ptr 2 0),(4,.ptr 4 0),(16,.ms 12),(17,.p (.int .i64 v.kids.length)),(18,.p (.int .i64 k))],[],[(2,.vars 42 [.p (.int .i64 v.kind),.p (.int .u64 v.mask),.p (.bool v.num.neg),.p (.str v.num.digits),.p (.int .i64 v.num.scale),.p (.str v.text),.ms 9,.ms 12,.p (.int .i64 v.code)]),(4,.vars 42 [.p (.int .i64 0),.p (.int .u64 0),.p (.bool false),.p (.str []),.p (.int .i64 0),.p (.str []),.nilsl,.nilsl,.p (.int .i64 0)]),(9,.row 9 1 (v.keys.map PD.str)),(12,.row 42 9 (jP ch v k))],0⟩) (fun k=>v.kids.length-k) (0) (by simp) ⟨qJ (by simp),rfl,by simp,by simp⟩ ?_
 rintro k hk
 refine rgn [] [[]] ?_
 refine op1 tok ?_
 refine qA (AW.seq (cnd ?_ ?_))
 ·intro h19
  try simp at h19
  obtain ⟨x,hx⟩:∃ x,v.kids[k]?=some x:=⟨v.kids[k],by simp [h19]⟩
  have hx':=qTV (ch:=ch) hx
  have hkl:=qTU ch v k
  have hix:=ih x (List.mem_of_getElem? hx)
  have hset:=qTT (ch:=ch) hx
  simp only [Val.enc_def] at hx' hix hset
  refine AW.skip (AW.seq (AW.block (rgn [x.enc] [[],[],[],[],[],[1,2,4,5,6,16,17,18]] ?_)))
  iterate 6 refine oq1 tok hx' ?_
  refine qA ?_
  refine AW.runDrawK tok mixed [1,2,4,16,17,18] 6 [[2],[23],[5],[6],[1],[26,27]] [.nilp,(vT ch x).enc] [x.enc,(vT ch x).enc] (by kernel_rfl) (by intro C; conv=>lhs; simp) (by first | exact hix | ((repeat' (first | with_reducible apply And.intro | intro _)) <;> first | exact (hix) | exact (hx') | assumption | omega | contradiction | simp_all)) (by simp [Sm.sum,Sm.foot,Sm.tch,Sm.refs]; kernel_rfl) (by intro C; conv=>lhs; simp) (by exact ⟨by omega,hx'⟩) ?_
  refine rgz [] [[],[1,2,4,16,17,18]] ?_
  iterate 2 refine op1 tok ?_
  refine qA ?_
  exact ⟨k+1,(by omega),(by omega),qJ (by simp [hset]),rfl,by simp [hset],by simp [hset]⟩
 intro h19
 try simp at h19
 obtain rfl:k=v.kids.length:=by omega
 have hfull:jP ch v v.kids.length=(v.kids.map (vT ch)).map Val.enc:=by simp only [jP,List.take_length,List.drop_length,List.map_nil,List.append_nil,List.map_map]; rfl
 rw [hfull]
 refine AW.exit ?_
 simp
 refine rgn [] [[]] ?_
 refine op1 tok ?_
 refine qP ?_
 refine qD.freeze 9 (by conv=>lhs; simp) ?_
 refine qD.freeze 12 (by conv=>lhs; simp) ?_
 refine qD.stepK [2,4] (zF rfl (hg (.mk v.kind v.mask v.num v.text v.keys (v.kids.map (vT ch)) v.code)) (by simp)) (by conv=>lhs; simp) rfl ?_
 refine qD.nil ?_
 refine rgn [] [[],[4]] ?_
 iterate 2 refine op1 tok ?_
 refine qA ?_
 exact AW.ret (qZ (k:=by simp [qOD ch v]))
inductive Few:Val→Prop
 | mk {v:Val} (h1:v.keys.length≤1000000) (h2:v.kids.length≤1000000) (h3:∀ k∈v.kids,Few k):Few v
theorem qTQ (g:FuncId) (ch:Val→Val) (hg:∀ u:Val,AX Tryz.prog G g [.ptr 2 0] [(2,.vars 42 u.cells)] (.tuple []) [2] [(2,.vars 42 (ch u).cells)]) (v:Val) (hv:Few v):AFn Tryz.prog G 84 [v.enc,.fn g] (vT ch v).enc:=by
 induction hv with
 | mk h1 h2 h3 ih=>exact qRJ g ch _ hg ⟨h1,h2⟩ ih
theorem qYG (u:Val):AX Tryz.prog G 85 [.ptr 2 0] [(2,.vars 42 u.cells)] (.tuple []) [2] [(2,.vars 42 (id u).cells)]:=by
 refine AX.introU tok 900 Tryz.func85 (by kernel_rfl) rfl rfl ?_
 simp only [Tryz.f85,qR,List.map_cons,List.map_nil]
 refine AW.skip ?_
 exact qJU
theorem qYF (v:Val) (hv:Few v):AFn Tryz.prog G 48 [v.enc] (v.enc):=by
 refine AFn.introU tok Tryz.func48 (by kernel_rfl) rfl rfl ?_
 simp only [Tryz.f48,qR,List.map_cons,List.map_nil]
 have hm:=qTQ (G:=G) 85 id qYG v hv
 rw [zDT] at hm
 simp only [Val.enc_def] at hm
 refine rgn [] [[],[1,2]] ?_
 iterate 2 refine op1 tok ?_
 refine qA (rgn [.nilp,v.enc] [[],[],[2]] ?_)
 iterate 3 refine oq1 tok hm ?_
 exact qA (AW.ret qZ)
theorem qOP {v:Val} (h1:v.keys=[]) (h2:v.kids=[]):Few v := .mk (by rw [h1]; simp) (by rw [h2]; simp) (by rw [h2]; simp)
theorem jT (c:UInt8) (many:Nat) (st:RS) (h:(wF c many st).2.big=false):st.big=false:=by
 unfold wF at h; simp only at h; split at h
 ·simp only [Bool.or_eq_false_iff] at h; exact h.1
 split at h
 ·rw [qIG] at h; simp only [Bool.or_eq_false_iff] at h; exact h.1
 simp only [qIG,Bool.or_eq_false_iff] at h; exact h.1
theorem qCT (st:RS) (h:(qB st).1.big=false):st.big=false:=by
 unfold qB yW at h; split at h
 ·exact h
 split at h
 ·cases h
 exact h
theorem qMW (st:RS) (h:(qK st).big=false):st.big=false:=by
 unfold qK at h; split at h
 ·exact h
 simpa using h
theorem qMT (st:RS) (d:Nat) (h:(qQ st d).big=false):st.big=false∧st.nodes+1≤400:=by
 simp only [qQ,Bool.or_eq_false_iff,decide_eq_false_iff_not] at h; exact ⟨h.1,by omega⟩
theorem qSF (st:RS) (h:(wK st).1.big=false):st.big=false∧Few (wK st).2:=by
 unfold wK at h ⊢
 split
 ·rename_i c; rw [if_pos c] at h; exact ⟨h,qOP rfl rfl⟩
 rename_i c; rw [if_neg c] at h
 split
 ·rename_i c; rw [if_pos c] at h; exact ⟨h,qOP rfl rfl⟩
 rename_i c; rw [if_neg c] at h
 split
 ·rename_i c; rw [if_pos c] at h; exact ⟨h,qOP rfl rfl⟩
 rename_i c; rw [if_neg c] at h
 split
 ·rename_i c; rw [if_pos c] at h; exact ⟨qCT st h,qOP rfl rfl⟩
 rename_i c; rw [if_neg c] at h
 split
 ·rename_i c; rw [if_pos c] at h
  simp only [wZ,Bool.or_eq_false_iff] at h; exact ⟨h.1,qOP rfl rfl⟩
 rename_i c; rw [if_neg c] at h; exact ⟨h,qOP rfl rfl⟩
theorem zEC {ks:List (List UInt8)} {vs:List Val} {key:List UInt8} {v:Val} (h:∀ u∈vs,Few u) (hv:Few v):∀ u∈(uQ ks vs key v).2,Few u:=by
 unfold uQ; split
 ·intro u hu
  rcases List.mem_or_eq_of_mem_set hu with h1 | h1
  ·exact h u h1
  exact h1 ▸ hv
 intro u hu
 rcases List.mem_append.1 hu with h1 | h1
 ·exact h u h1
 exact List.mem_singleton.1 h1 ▸ hv
theorem zBQ:∀ n:Nat,(∀ st d,(qN n st d).1.big=false→st.big=false∧(n≠0→(qQ st d).big=false))∧(∀ st d many vs,(wM n st d many vs).1.big=false→st.big=false)∧(∀ st d many ks vs,(zZ n st d many ks vs).1.big=false→st.big=false)
 | 0=>⟨fun st d h=>⟨by simpa [qN] using h,fun h=>(h rfl).elim⟩,fun st d many vs h=>by simpa [wM] using h,fun st d many ks vs h=>by simpa [zZ] using h⟩
 | n+1=>by
  obtain ⟨ih1,ih2,ih3⟩:=zBQ n
  refine ⟨fun st d hb => ?_,fun st d many vs hb => ?_,fun st d many ks vs hb => ?_⟩
  ·have key:(qQ st d).big=false→st.big=false∧(n+1≠0→(qQ st d).big=false):=fun h=>⟨(qMT st d h).1,fun _=>h⟩
   rw [qAP] at hb
   split at hb
   ·refine key ?_
    unfold qOG at hb
    split at hb
    ·simpa [qT] using hb
    have:=ih2 _ _ _ _ hb; simpa [qT] using this
   split at hb
   ·refine key ?_
    unfold qEI at hb
    split at hb
    ·simpa [qT] using hb
    have:=ih3 _ _ _ _ _ hb; simpa [qT] using this
   exact key (qSF _ hb).1
  ·rw [qEK] at hb
   split at hb
   ·exact hb
   split at hb
   ·exact (ih1 st d (jT _ _ _ hb)).1
   exact (ih1 st d (jT _ _ _ (ih2 _ _ _ _ hb))).1
  rw [qEH] at hb
  have he:(yI (qB st) ks vs (qN n (qK (qB st).1) d)).1.big=false→st.big=false:=by
   unfold yI
   split
   ·exact fun h=>qCT _ (qMW _ h)
   exact fun h=>qCT _ (qMW _ (ih1 _ _ h).1)
  split at hb
  ·exact hb
  split at hb
  ·exact he (jT _ _ _ hb)
  exact he (jT _ _ _ (ih3 _ _ _ _ _ hb))
theorem qRU : ∀ n : Nat, (∀ st d, st.nodes ≤ 400 → (qN n st d).1.big = false → st.nodes ≤ (qN n st d).1.nodes ∧ (qN n st d).1.nodes ≤ 400 ∧ Few (qN n st d).2 ∧ ((qN n st d).1.bad = false → st.nodes + 1 ≤ (qN n st d).1.nodes)) ∧
  (∀ st d many vs,st.nodes≤400→(∀ v∈vs,Few v)→(wM n st d many vs).1.big=false→st.nodes≤(wM n st d many vs).1.nodes∧(wM n st d many vs).1.nodes≤400∧(wM n st d many vs).2.length+st.nodes≤vs.length+(wM n st d many vs).1.nodes+1∧∀ v∈(wM n st d many vs).2,Few v) ∧
  (∀ st d many ks vs,st.nodes≤400→ks.length=vs.length→(∀ v∈vs,Few v)→(zZ n st d many ks vs).1.big=false→st.nodes≤(zZ n st d many ks vs).1.nodes∧(zZ n st d many ks vs).1.nodes≤400∧(zZ n st d many ks vs).2.1.length=(zZ n st d many ks vs).2.2.length∧(zZ n st d many ks vs).2.2.length+st.nodes≤vs.length+(zZ n st d many ks vs).1.nodes+1∧∀ v∈(zZ n st d many ks vs).2.2,Few v)
 | 0=>⟨fun st d hn h=>⟨by simp [qN],by simpa [qN] using hn,qOP (by simp [qN,zM,Val.keys]) (by simp [qN,zM,Val.kids]),fun h=>by simp [qN] at h⟩,fun st d many vs hn hf h=>⟨by simp [wM],by simpa [wM] using hn,by simp only [wM]; omega,by simpa [wM] using hf⟩,fun st d many ks vs hn hl hf h=>⟨by simp [zZ],by simpa [zZ] using hn,by simpa [zZ] using hl,by simp only [zZ]; omega,by simpa [zZ] using hf⟩⟩
 | n+1=>by
  obtain ⟨ih1,ih2,ih3⟩:=qRU n
  refine ⟨fun st d hn hb => ?_,fun st d many vs hn hf hb => ?_,fun st d many ks vs hn hl hf hb => ?_⟩
  ·have hen:(qQ st d).nodes=st.nodes+1:=rfl
   have heb:=((zBQ (n+1)).1 st d hb).2 (by omega)
   have h4:=(qMT st d heb).2
   rw [qAP] at hb ⊢
   have hdn:(qT (qQ st d) 1).nodes=st.nodes+1:=rfl
   generalize qT (qQ st d) 1=D at *
   split
   ·rename_i hp
    rw [if_pos hp] at hb
    unfold qOG at hb ⊢
    by_cases ht:(tk [93] D).1=true
    ·rw [if_pos ht]
     simp only [yA]
     exact ⟨by omega,by omega,qOP rfl rfl,fun _=>by omega⟩
    rw [if_neg ht] at hb ⊢
    obtain ⟨h2,h3,h5,h6⟩:=ih2 (tk [93] D).2 (d+1) 1 [] (by rw [yA]; omega) (fun v hv=>by cases hv) hb
    rw [yA] at h2 h5
    exact ⟨by simp only; omega,h3,.mk (by simp [Val.keys]) (by simp [Val.kids] at h5 ⊢; omega) (by simpa [Val.kids] using h6),fun _=>by simp only; omega⟩
   rename_i hp
   rw [if_neg hp] at hb
   split
   ·rename_i hp
    rw [if_pos hp] at hb
    unfold qEI at hb ⊢
    by_cases ht:(tk [125] D).1=true
    ·rw [if_pos ht]
     simp only [yA]
     exact ⟨by omega,by omega,qOP rfl rfl,fun _=>by omega⟩
    rw [if_neg ht] at hb ⊢
    obtain ⟨h2,h3,h7,h5,h6⟩:=ih3 (tk [125] D).2 (d+1) 1 [] [] (by rw [yA]; omega) rfl (fun v hv=>by cases hv) hb
    rw [yA] at h2 h5
    exact ⟨by simp only; omega,h3,.mk (by simp [Val.keys] at h5 h7 ⊢; omega) (by simp [Val.kids] at h5 ⊢; omega) (by simpa [Val.kids] using h6),fun _=>by simp only; omega⟩
   rename_i hp
   rw [if_neg hp] at hb
   have:=qKK (qQ st d)
   exact ⟨by omega,by omega,(qSF _ hb).2,fun _=>by omega⟩
  ·rw [qEK] at hb ⊢
   split
   ·exact ⟨Nat.le_refl _,hn,by simp only; omega,hf⟩
   rename_i hc
   rw [if_neg hc] at hb
   have hsn:=qBT 93 many (qN n st d).1
   split
   ·rename_i hs
    rw [if_pos hs] at hb
    obtain ⟨h1,h2,h3,h4⟩:=ih1 st d hn (jT _ _ _ hb)
    refine ⟨by simp only; omega,by simp only; omega,by simp only [List.length_append,List.length_cons,List.length_nil]; omega,fun v hv => ?_⟩
    rcases List.mem_append.1 hv with h | h
    ·exact hf v h
    exact List.mem_singleton.1 h ▸ h3
   rename_i hs
   rw [if_neg hs] at hb
   have hbb:=qQM 93 many (qN n st d).1 (by simpa using hs)
   obtain ⟨h1,h2,h3,h4⟩:=ih1 st d hn (jT _ _ _ ((zBQ n).2.1 _ _ _ _ hb))
   have h4:=h4 hbb
   obtain ⟨h5,h6,h7,h8⟩:=ih2 (wF 93 many (qN n st d).1).2 d (many+1) (vs++[(qN n st d).2]) (by omega) (fun v hv=>by
    rcases List.mem_append.1 hv with h | h
    ·exact hf v h
    exact List.mem_singleton.1 h ▸ h3) hb
   rw [List.length_append,List.length_cons,List.length_nil] at h7
   exact ⟨by omega,h6,by omega,h8⟩
  rw [qEH] at hb ⊢
  split
  ·exact ⟨Nat.le_refl _,hn,hl,by simp only; omega,hf⟩
  rename_i hc
  rw [if_neg hc] at hb
  have hE : (yI (qB st) ks vs (qN n (qK (qB st).1) d)).1.big = false → st.nodes ≤ (yI (qB st) ks vs (qN n (qK (qB st).1) d)).1.nodes ∧ (yI (qB st) ks vs (qN n (qK (qB st).1) d)).1.nodes ≤ 400 ∧
    (yI (qB st) ks vs (qN n (qK (qB st).1) d)).2.1.length=(yI (qB st) ks vs (qN n (qK (qB st).1) d)).2.2.length∧(yI (qB st) ks vs (qN n (qK (qB st).1) d)).2.2.length≤vs.length+1 ∧
    (∀ v∈(yI (qB st) ks vs (qN n (qK (qB st).1) d)).2.2,Few v)∧((yI (qB st) ks vs (qN n (qK (qB st).1) d)).1.bad=false→st.nodes+1≤(yI (qB st) ks vs (qN n (qK (qB st).1) d)).1.nodes):=by
   have hcn:(qK (qB st).1).nodes=st.nodes:=(vM _).trans (jF st)
   unfold yI
   split
   ·rename_i hcb
    exact fun _=>⟨by simp only; omega,by simp only; omega,hl,by simp only; omega,hf,fun h=>by simp only at h; rw [hcb] at h; cases h⟩
   intro h
   obtain ⟨h1,h2,h3,h4⟩:=ih1 (qK (qB st).1) d (by omega) h
   obtain ⟨p1,p2,p3⟩:=qVP hl (qB st).2 (qN n (qK (qB st).1) d).2
   exact ⟨by simp only; omega,h2,p1,p3,zEC hf h3,fun h=>by have:=h4 h; simp only; omega⟩
  generalize yI (qB st) ks vs (qN n (qK (qB st).1) d)=A at *
  have hsn:=qBT 125 many A.1
  split
  ·rename_i hs
   rw [if_pos hs] at hb
   obtain ⟨h1,h2,h3,h4,h5,h6⟩:=hE (jT _ _ _ hb)
   exact ⟨by simp only; omega,by simp only; omega,h3,by simp only; omega,h5⟩
  rename_i hs
  rw [if_neg hs] at hb
  have hbb:=qQM 125 many A.1 (by simpa using hs)
  obtain ⟨h1,h2,h3,h4,h5,h6⟩:=hE (jT _ _ _ ((zBQ n).2.2 _ _ _ _ _ hb))
  have h6:=h6 hbb
  obtain ⟨g1,g2,g3,g4,g5⟩:=ih3 (wF 125 many A.1).2 d (many+1) A.2.1 A.2.2 (by omega) h3 h5 hb
  exact ⟨by omega,g2,g3,by omega,g5⟩
theorem qFE (hG:U8 G):∀ N d,qGF G N d
 | 0,d=>fun m s h=>absurd h (by omega)
 | N+1,d=>fun m s hm h1 h2 h3 h4=>by
  by_cases h:m<N
  ·exact qFE hG N d m s h h1 h2 h3 h4
  obtain rfl:m=N:=by omega
  obtain ⟨n,rfl⟩:∃ n,m=n+1:=⟨m-1,by omega⟩
  exact qKT hG n s d h1 h2 h3 h4 fun e k t hk=>qFE hG (n+1) e k t (by omega)
theorem zGD (hG:U8 G) (s:List UInt8) (hs:s.length≤1000000000):AFn Tryz.prog G 25 [.str s] (.tup [(kI s).1.enc,.int .i64 (kI s).2.1,.int .i64 (kI s).2.2]):=by
 refine AFn.introU tok Tryz.func25 (by kernel_rfl) rfl rfl ?_
 simp only [Tryz.f25,qR,List.map_cons,List.map_nil]
 have hv:=qFE hG (2 * s.length+3) 1 (2 * s.length+2) ⟨s,0,false,false,false⟩ (by omega) (by simp only; omega) (by simp only; omega) (by simp only; omega) (by simp only; omega)
 have hfw:=(qRU (2 * s.length+2)).1 ⟨s,0,false,false,false⟩ 1 (by simp)
 have hle:=((zAF (2 * s.length+2)).1 ⟨s,0,false,false,false⟩ 1).1
 have hM:kI s=if (qN (2 * s.length+2) ⟨s,0,false,false,false⟩ 1).1.bad=true then (zM,0,10) else if (qN (2 * s.length+2) ⟨s,0,false,false,false⟩ 1).1.deep=true then (zM,0,11) else if (qN (2 * s.length+2) ⟨s,0,false,false,false⟩ 1).1.big=true then (zM,0,3) else ((qN (2 * s.length+2) ⟨s,0,false,false,false⟩ 1).2,(s.length:Int)-(qN (2 * s.length+2) ⟨s,0,false,false,false⟩ 1).1.left.length,0):=rfl
 rw [hM]
 generalize qN (2 * s.length+2) ⟨s,0,false,false,false⟩ 1=r at *
 obtain ⟨⟨l,nn,b,dp,bg⟩,v⟩:=r
 simp only at hle hfw ⊢
 refine rgn [] [[],[],[0,2]] ?_
 iterate 3 refine op1 tok ?_
 refine qA (rgn [] [[],[],[],[0,2,5]] ?_)
 iterate 4 refine op1 tok ?_
 refine qA ?_
 refine AW.renE 2 50 (by simp) (by conv=>lhs; simp) ?_
 refine AW.renE 9 2 (by simp) (by conv=>lhs; simp) ?_
 refine rgn [] [[]] ?_
 refine op1 tok ?_
 refine qP ?_
 refine qD.stepK [0,2,5,11] (zF rfl hv (by simp)) (by conv=>lhs; simp) rfl ?_
 refine qD.run [[],[0,2,5,6]] ?_
 iterate 2 refine op1 tok ?_
 refine qA (AW.seq (AW.block (rgn [] [[],[],[],[],[0,2,5,6,12]] ?_)))
 iterate 5 refine op1 tok ?_
 refine qA (cnd ?_ ?_)
 ·intro h12
  try simp at h12
  subst h12
  rw [if_pos rfl]
  refine rgn [] [[],[],[],[2,3,4]] ?_
  iterate 4 refine op1 tok ?_
  refine qA ?_
  exact AW.ret (qZ (k:=by simp [zM,dc0]))
 intro h12
 try simp at h12
 rw [if_neg (by rw [h12]; simp)]
 refine rgn [] [[],[],[],[],[0,2,5,6,18]] ?_
 iterate 5 refine op1 tok ?_
 refine qA (cnd ?_ ?_)
 ·intro h18
  try simp at h18
  subst h18
  rw [if_pos rfl]
  refine rgn [] [[],[],[],[2,3,4]] ?_
  iterate 4 refine op1 tok ?_
  refine qA ?_
  exact AW.ret (qZ (k:=by simp [zM,dc0]))
 intro h18
 try simp at h18
 rw [if_neg (by rw [h18]; simp)]
 refine rgn [] [[],[],[],[],[0,2,5,6,24]] ?_
 iterate 5 refine op1 tok ?_
 refine qA (cnd ?_ ?_)
 ·intro h24
  try simp at h24
  subst h24
  rw [if_pos rfl]
  refine rgn [] [[],[],[],[2,3,4]] ?_
  iterate 4 refine op1 tok ?_
  refine qA ?_
  exact AW.ret (qZ (k:=by simp [zM,dc0]))
 intro h24
 try simp at h24
 rw [if_neg (by rw [h24]; simp)]
 have hcl:=qYF (G:=G) v (hfw h24).2.2.1
 simp only [Val.enc_def] at hcl
 refine AW.skip ?_
 refine AW.seqDrawS tok mixed 11 [[6],[30],[0],[32],[5],[34],[35],[36],[37],[33,38],[2,31]] [.nilp,v.enc] [] (by kernel_rfl) ?_
 iterate 11 refine dq1 hcl ?_
 refine DGo.nil (by kernel_rfl) ⟨by kernel_rfl, ?_⟩
 refine qD.run [[],[2,3,4]] ?_
 iterate 2 refine op1 tok ?_
 exact qA (AW.ret qZ)
theorem qJQ:Builder.Extra Tryz.prog Tryz.lays156_ren where
 sizeBuilder:=by kernel_rfl
 liesBuilder:=by kernel_rfl
 t5:=Tryz.underlying5
 a5:=Tryz.isAgg5
 z5:=Tryz.sizeOf5
 v5:=Tryz.zeroValue5
 infoByte:=by kernel_rfl
 cellsByte:=by kernel_rfl
 sizeByte:=by kernel_rfl
 neB5:=by decide
def qYH (s:List UInt8):ByteArray:=⟨s.toArray⟩
theorem zES {ba:ByteArray} {s:List UInt8} (h:ba.data.toList=s):ba=qYH s:=by
 subst h; rfl
theorem qSE (l:List (List UInt8)):(l.map qYH).map (·.data.toList)=l:=by
 rw [List.map_map]; conv=>rhs; rw [← List.map_id l]
 exact List.map_congr_left fun s _=>by simp [qYH]
theorem zEV (l:List (List UInt8)) (sep:List UInt8) (hN:l.length≤140737488355328) (h:(Lib.join l sep).length≤140737488355328):AFn Tryz.prog G 77 [.sl 1 (l.map PD.str),.str sep] (.str (Lib.join l sep)):=by
 refine AFn.of_calls (kH Tryz.func77 (by kernel_rfl) rfl) fun M w vs hg hmem hsz hrd => ?_
 obtain ⟨vl⟩:=vs
 match vl,hsz with
 | [u,v],_ =>
 have h1:=hrd 0 u _ rfl rfl
 have h2:=hrd 1 v _ rfl rfl
 cases h2 with
 | @str sb _ hsb hsl =>
 subst hsb
 cases h1 with
 | @sl a n c _ _ b o hn hnc hcm ha h5 h6 h7 =>
 rw [List.length_map] at hn
 have hml:(Lib.join l sb.data.toList).length≤maxLen:=by simp only [maxLen]; omega
 by_cases hk:l=[]
 ·subst hk; simp at hn; subst hn
  refine (Any.strings_Join_none Tryz.lays156 qJQ a c sb w).mono ?_
  rintro e w' ⟨rfl,rfl⟩
  exact ⟨_,rfl,.str (by simp [Lib.join_nil]) (by simpa using hml),RowKit.Below.refl _ _⟩
 have hpos:0<l.length:=List.length_pos_iff.2 hk
 obtain rfl:=ha (by omega)
 have hcell:∀ j x,(l.map qYH)[j]?=some x→w.cell? ⟨b,o+j,none⟩=some (.string x):=fun j x hx=>by
  rw [List.getElem?_map,Option.map_eq_some_iff] at hx
  obtain ⟨s,hs,rfl⟩:=hx
  have hgt:(l.map PD.str)[j]?=some (.str s):=by rw [List.getElem?_map,hs]; rfl
  obtain ⟨u,hu,_⟩:=h6 j _ 0 hgt (by omega)
  have h8:=h7 j _ 0 _ u hgt rfl hu
  cases h8 with
  | @str ba _ hba hl =>
  have:=hmem _ _ _ hu
  simp only [Nat.mul_one,Nat.add_zero] at this
  rw [this,zES hba]
 have hlt:b<w.heap.size:=by
  obtain ⟨x,r,rfl⟩:∃ x r,l=x::r:=by
   cases l with
   | nil=>exact (hk rfl).elim
   | cons x r=>exact ⟨x,r,rfl⟩
  exact jO (hcell 0 (qYH x) rfl)
 have hc:=Any.strings_Join Tryz.lays156 qJQ b o c (l.map qYH) sb w hcell hlt (by rw [List.length_map]; exact hN) (by rw [List.length_map]; omega) (by rw [qSE]; exact h)
 rw [List.length_map,← hn] at hc
 refine hc.mono ?_
 rintro e w' ⟨rfl,hb⟩
 rw [qSE]
 exact ⟨_,rfl,.str (by simp) (by simpa using hml),hb⟩
theorem qMI (f:FuncId) (v:Val) (ps:List (List UInt8)) (hl:ps.length=v.kids.length) (hn:ps.length≤1000000) (hj:(Lib.join ps [44]).length≤100000000000) (hf:∀ (i:Nat) (s:List UInt8),ps[i]?=some s→AX Tryz.prog G f [.p (.int .i64 i),.ptr 2 0] [(2,.vars 42 v.cells)] (.p (.str s)) [2] [(2,.vars 42 v.cells)]):AX Tryz.prog G 42 [.p v.enc,.func (.func f) [] [.ptr 2 0]] [(2,.vars 42 v.cells)] (.p (.str (Lib.join ps [44]))) [2] [(2,.vars 42 v.cells)]:=by
 refine AX.introU tok 900 Tryz.func42 (by kernel_rfl) rfl rfl ?_
 simp only [Tryz.f42,qR,List.map_cons,List.map_nil]
 refine rgn [] [[],[1,2]] ?_
 iterate 2 refine op1 tok ?_
 refine qA (rgn [] [[]] ?_)
 refine op1 tok ?_
 refine qA (AW.seq (rgn [] [[],[],[],[1,5,9,10]] ?_))
 iterate 4 refine op1 tok ?_
 refine qA (AW.block ?_)
 refine AW.beginE 5 3 9 1 (by simp) (by simp) (by conv=>lhs; simp) ?_
 refine AW.loop (α:=Nat) (fun k=>k≤ps.length) (fun k=>⟨zR 22 [(1,.func (.func f) [] [.ptr 2 0]),(5,.ms 3),(9,.p (.int .i64 ps.length)),(10,.p (.int .i64 k))],[2],[(2,.vars 42 v.cells),(3,.row 9 1 ((ps.take k).map PD.str))],900⟩) (fun k=>ps.length-k) (0) (by omega) ⟨qJ (by simp [hl]),rfl,by simp,by simp⟩ ?_
 rintro k hk
 refine rgn [] [[]] ?_
 refine op1 tok ?_
 refine qA (AW.seq (cnd ?_ ?_))
 ·intro h11
  try simp at h11
  obtain ⟨x,hx⟩:∃ x,ps[k]?=some x:=⟨ps[k],by simp [h11]⟩
  have hfx:=hf k x hx
  refine AW.skip (AW.seq (AW.block (rgn [] [[],[1,5,6,9,10]] ?_)))
  iterate 2 refine op1 tok ?_
  refine qA (rgz [.str x] [[],[],[]] ?_)
  iterate 3 refine op1 tok ?_
  refine qP ?_
  refine qD.stepK [1,9,10,13,16] (zF rfl hfx (by simp)) (by conv=>lhs; simp) rfl ?_
  refine qD.run [[],[],[1,5,9,10]] ?_
  iterate 3 refine op1 tok ?_
  refine qA (rgz [] [[],[1,5,9,10]] ?_)
  iterate 2 refine op1 tok ?_
  refine qA ?_
  exact ⟨k+1,by omega,by omega,qJ (by simp [hx,List.take_add_one]),rfl,by simp [hx,List.take_add_one],by simp [hx,List.take_add_one]⟩
 intro h11
 try simp at h11
 obtain rfl:k=ps.length:=by omega
 have hjn:=zEV (G:=G) ps [44] (by omega) (by omega)
 try simp only [List.take_length]
 refine AW.exit ?_
 simp
 refine rgn [.nilp,.str (Lib.join ps [44])] [[],[],[4]] ?_
 iterate 3 refine op1 tok ?_ (hv:=by first | with_reducible exact True.intro | ((rw [List.take_of_length_le (by simp)]; exact hjn); done) | omega | simp | (simp +contextual; omega))
 refine qA ?_
 exact AW.ret zI
def qCN (c:Int):List UInt8:=if c<10 then [UInt8.ofNat (48+c.toNat)] else [UInt8.ofNat (48+c.toNat / 10),UInt8.ofNat (48+c.toNat % 10)]
def wI:List (List UInt8)→List (List UInt8)→List (List UInt8):=List.zipWith fun k p=>zK k++[58]++p
mutual
def qF:Val→List UInt8
 | .mk k _ n t ks vs c=>if k=1 then kC else if k=2 then wU else if k=3 then kM else if k=4 then yG n else if k=5 then zK t else if k=8 then 33::qCN c else if k=7 then [123]++Lib.join (wI ks (qBV vs)) [44]++[125] else [91]++Lib.join (qBV vs) [44]++[93]
def qBV:List Val→List (List UInt8)
 | []=>[]
 | v::vs=>qF v::qBV vs
end
theorem qGP:∀ l,qBV l=l.map qF
 | []=>by simp only [qBV,List.map_nil]
 | v::vs=>by simp only [qBV,List.map_cons,qGP vs]
theorem yS (v:Val):qF v=if v.kind=1 then kC else if v.kind=2 then wU else if v.kind=3 then kM else if v.kind=4 then yG v.num else if v.kind=5 then zK v.text else if v.kind=8 then 33::qCN v.code else if v.kind=7 then [123]++Lib.join (wI v.keys (v.kids.map qF)) [44]++[125] else [91]++Lib.join (v.kids.map qF) [44]++[93]:=by
 cases v; rw [qF,qGP]; rfl
theorem zJS (v x:Val) (i:Nat) (hx:v.kids[i]?=some x) (hp:AFn Tryz.prog G 22 [x.enc] (.str (qF x))):AX Tryz.prog G 44 [.p (.int .i64 i),.ptr 2 0] [(2,.vars 42 v.cells)] (.p (.str (qF x))) [2] [(2,.vars 42 v.cells)]:=by
 refine AX.introU tok 900 Tryz.func44 (by kernel_rfl) rfl rfl ?_
 simp only [Tryz.f44,qR,List.map_cons,List.map_nil]
 simp only [Val.enc_def] at hp
 have hi:=(List.getElem?_eq_some_iff.1 hx).1
 refine rgn [] [[0,1]] ?_
 refine op1 tok ?_
 refine qA (rgn [x.enc,.nilp,.str (qF x)] [[],[],[],[7],[],[],[3]] ?_)
 iterate 7 refine op1 tok ?_ (hv:=by first | with_reducible exact True.intro | (first | exact hp | (simp [hx]; done) | (simp; omega); done) | omega | simp | (simp +contextual; omega))
 refine qA ?_
 exact AW.ret zI
theorem zJT (v x:Val) (key:List UInt8) (i:Nat) (hb:(zK key).length+(qF x).length≤100000000000) (hk:v.keys[i]?=some key) (hx:v.kids[i]?=some x) (hq:AFn Tryz.prog G 41 [.str key] (.str (zK key))) (hp:AFn Tryz.prog G 22 [x.enc] (.str (qF x))):AX Tryz.prog G 43 [.p (.int .i64 i),.ptr 2 0] [(2,.vars 42 v.cells)] (.p (.str (zK key++[58]++qF x))) [2] [(2,.vars 42 v.cells)]:=by
 refine AX.introU tok 900 Tryz.func43 (by kernel_rfl) rfl rfl ?_
 simp only [Tryz.f43,qR,List.map_cons,List.map_nil]
 simp only [Val.enc_def] at hp
 have hi:=(List.getElem?_eq_some_iff.1 hx).1
 have hi2:=(List.getElem?_eq_some_iff.1 hk).1
 refine rgn [] [[0,1]] ?_
 refine op1 tok ?_
 refine qA ?_
 refine AW.seqDrawS tok mixed 14 [[1],[4],[0],[5,6],[7],[8],[9],[1],[11],[0],[12,13],[14],[15],[10,16]] [.str key,.nilp,.str (zK key),x.enc,.nilp,.str (qF x)] [] (by kernel_rfl) ?_
 iterate 14 refine d1 ?_ (hv:=by first | with_reducible exact True.intro | (first | exact hp | exact hq | (simp [hx]; done) | (simp [hk]; done) | (simp; omega); done) | omega | simp | (simp +contextual; omega))
 refine DGo.nil (by kernel_rfl) ⟨by kernel_rfl, ?_⟩
 refine qD.run [[3]] ?_
 refine op1 tok ?_
 refine qA ?_
 exact AW.ret zI
theorem kE (x y:List UInt8) (r:List (List UInt8)) (sep:List UInt8):Lib.join (x::y::r) sep=x++sep++Lib.join (y::r) sep:=by
 simp [Lib.join,List.intercalate,List.intersperse]
theorem qRO {s:List UInt8} {sep:List UInt8}:∀ {l:List (List UInt8)},s∈l→s.length≤(Lib.join l sep).length
 | [],h=>by cases h
 | [x],h=>by rw [List.mem_singleton.1 h,Lib.join_one]; exact Nat.le_refl _
 | x::y::r,h=>by
  rw [kE]
  rcases List.mem_cons.1 h with h | h
  ·subst h; simp only [List.length_append]; omega
  have:=qRO (sep:=sep) h; simp only [List.length_append]; omega
theorem zAX {ks ps:List (List UInt8)} {i:Nat} {k p:List UInt8} (h1:ks[i]?=some k) (h2:ps[i]?=some p):(wI ks ps)[i]?=some (zK k++[58]++p):=by
 simp [wI,List.getElem?_zipWith,h1,h2]
theorem qTA (v:Val) (hq8:v.kind=8→AFn Tryz.prog G 34 [.int .i64 v.code] (.str (qCN v.code)) ∧ -9223372036854775808≤v.code∧v.code≤9223372036854775807) (hq4:v.kind=4→AFn Tryz.prog G 40 [v.num.enc] (.str (yG v.num))) (hq5:v.kind=5→AFn Tryz.prog G 41 [.str v.text] (.str (zK v.text))) (hq7:v.kind=7→v.keys.length=v.kids.length∧∀ key∈v.keys,AFn Tryz.prog G 41 [.str key] (.str (zK key))) (hn:v.kids.length≤1000000) (hb:(qF v).length≤1000000000) (ih:∀ k∈v.kids,AFn Tryz.prog G 22 [k.enc] (.str (qF k))):AFn Tryz.prog G 22 [v.enc] (.str (qF v)):=by
 refine AFn.introU tok Tryz.func22 (by kernel_rfl) rfl rfl ?_
 simp only [Tryz.f22,qR,List.map_cons,List.map_nil]
 rw [yS v] at hb ⊢
 simp only [Dc.enc] at hq4
 refine rgn [] [[],[1]] ?_
 iterate 2 refine op1 tok ?_
 refine qA (AW.seq (rgn [] [[],[1,4]] ?_))
 iterate 2 refine op1 tok ?_
 refine qA (AW.block (rgn [] [[],[1,4,5]] ?_))
 iterate 2 refine op1 tok ?_
 refine qA (cnd ?_ ?_)
 ·intro h5
  try simp at h5
  rw [if_pos h5]
  refine rgn [] [[]] ?_
  refine op1 tok ?_
  refine qA ?_
  exact AW.ret (qZ (k:=by simp [kC]))
 intro h5
 try simp at h5
 rw [if_neg h5] at hb ⊢
 refine rgn [] [[],[1,4,7]] ?_
 iterate 2 refine op1 tok ?_
 refine qA (cnd ?_ ?_)
 ·intro h7
  try simp at h7
  rw [if_pos h7]
  refine rgn [] [[]] ?_
  refine op1 tok ?_
  refine qA ?_
  exact AW.ret (qZ (k:=by simp [wU]))
 intro h7
 try simp at h7
 rw [if_neg h7] at hb ⊢
 refine rgn [] [[],[1,4,9]] ?_
 iterate 2 refine op1 tok ?_
 refine qA (cnd ?_ ?_)
 ·intro h9
  try simp at h9
  rw [if_pos h9]
  refine rgn [] [[]] ?_
  refine op1 tok ?_
  refine qA ?_
  exact AW.ret (qZ (k:=by simp [kM]))
 intro h9
 try simp at h9
 rw [if_neg h9] at hb ⊢
 refine rgn [] [[],[1,4,11]] ?_
 iterate 2 refine op1 tok ?_
 refine qA (cnd ?_ ?_)
 ·intro h11
  try simp at h11
  rw [if_pos h11]
  have h4:=hq4 h11
  refine rgn [.nilp,.str (yG v.num)] [[],[],[],[2]] ?_
  iterate 4 refine oq1 tok h4 ?_
  exact qA (AW.ret qZ)
 intro h11
 try simp at h11
 rw [if_neg h11] at hb ⊢
 refine rgn [] [[],[1,4,16]] ?_
 iterate 2 refine op1 tok ?_
 refine qA (cnd ?_ ?_)
 ·intro h16
  try simp at h16
  rw [if_pos h16]
  have h5q:=hq5 h16
  refine rgn [.nilp,.str (zK v.text)] [[],[],[],[2]] ?_
  iterate 4 refine oq1 tok h5q ?_
  exact qA (AW.ret qZ)
 intro h16
 try simp at h16
 rw [if_neg h16] at hb ⊢
 refine rgn [] [[],[1,4,21]] ?_
 iterate 2 refine op1 tok ?_
 refine qA (cnd ?_ ?_)
 ·intro h21
  try simp at h21
  rw [if_pos h21] at hb ⊢
  obtain ⟨h8,h8a,h8b⟩:=hq8 h21
  have hil:(qCN v.code).length≤2:=by unfold qCN; split <;> simp
  refine rgn [.nilp,.str (qCN v.code)] [[],[],[],[26],[2]] ?_
  iterate 5 refine oq1 tok h8 ?_
  exact qA (AW.ret qZ)
 intro h21
 try simp at h21
 rw [if_neg h21] at hb ⊢
 refine rgn [] [[],[1,27]] ?_
 iterate 2 refine op1 tok ?_
 refine qA (cnd ?_ ?_)
 ·intro h27
  try simp at h27
  rw [if_pos h27] at hb ⊢
  obtain ⟨hkl,hqk⟩:=hq7 h27
  have hel:(wI v.keys (v.kids.map qF)).length=v.kids.length:=by simp [wI,hkl]
  have hJ:=qMI (G:=G) 43 v (wI v.keys (v.kids.map qF)) hel (by omega) (by simp only [List.length_append] at hb; omega) (fun i s hs=>by
   have hi:=(List.getElem?_eq_some_iff.1 hs).1
   have hk:v.keys[i]?=some (v.keys[i]'(by omega)):=by simp
   have hx:v.kids[i]?=some (v.kids[i]'(by omega)):=by simp
   have hg:=zAX (ks:=v.keys) (ps:=v.kids.map qF) hk (by rw [List.getElem?_map,hx]; rfl)
   rw [hs] at hg
   cases hg
   have hm:=qRO (sep:=[44]) (List.mem_of_getElem? hs)
   exact zJT v _ _ i (by simp only [List.length_append] at hb hm; omega) hk hx (hqk _ (List.getElem_mem _)) (ih _ (List.getElem_mem _)))
  have hjl:(Lib.join (wI v.keys (v.kids.map qF)) [44]).length≤1000000000:=by simp only [List.length_append] at hb; omega
  refine AW.renE 1 2 (by simp) (by conv=>lhs; simp) ?_
  refine rgn [] [[],[]] ?_
  iterate 2 refine op1 tok ?_ (hv:=by first | with_reducible exact True.intro | (first | omega | (simp; omega); done) | omega | simp | (simp +contextual; omega))
  refine qP ?_
  refine qD.stepK [31] (zF rfl hJ (by simp)) (by conv=>lhs; simp) rfl ?_
  refine qD.run [[],[],[2]] ?_
  iterate 3 refine op1 tok ?_ (hv:=by first | with_reducible exact True.intro | (first | omega | (simp; omega); done) | omega | simp | (simp +contextual; omega))
  exact qA (AW.ret qZ)
 intro h27
 try simp at h27
 rw [if_neg h27] at hb ⊢
 have hJ:=qMI (G:=G) 44 v (v.kids.map qF) (by simp) (by simpa using hn) (by simp only [List.length_append] at hb; omega) (fun i s hs=>by
  rw [List.getElem?_map,Option.map_eq_some_iff] at hs
  obtain ⟨x,hx,rfl⟩:=hs
  exact zJS v x i hx (ih x (List.mem_of_getElem? hx)))
 have hjl:(Lib.join (v.kids.map qF) [44]).length≤1000000000:=by simp only [List.length_append] at hb; omega
 refine AW.skip ?_
 refine AW.renE 1 2 (by simp) (by conv=>lhs; simp) ?_
 refine rgn [] [[],[]] ?_
 iterate 2 refine op1 tok ?_ (hv:=by first | with_reducible exact True.intro | (first | omega | (simp; omega); done) | omega | simp | (simp +contextual; omega))
 refine qP ?_
 refine qD.stepK [36] (zF rfl hJ (by simp)) (by conv=>lhs; simp) rfl ?_
 refine qD.run [[],[],[2]] ?_
 iterate 3 refine op1 tok ?_ (hv:=by first | with_reducible exact True.intro | (first | omega | (simp; omega); done) | omega | simp | (simp +contextual; omega))
 exact qA (AW.ret qZ)
def qPH (G:qO) (c:Int):Prop:=AFn Tryz.prog G 34 [.int .i64 c] (.str (qCN c))∧0≤c∧c≤99
inductive Prn (G:qO):Val→Prop
 | mk {v : Val} (h8 : v.kind = 8 → qPH G v.code) (h4 : v.kind = 4 → zY v.num = true) (h5 : v.kind = 5 → Lib.validD v.text = true ∧ v.text.length ≤ 1000000000) (h7 : v.kind = 7 → v.keys.length = v.kids.length ∧ ∀ key ∈ v.keys, Lib.validD key = true ∧ key.length ≤ 1000000000)
   (hn:v.kids.length≤1000000) (hb:(qF v).length≤1000000000) (ih:∀ k∈v.kids,Prn G k):Prn G v
theorem qWZ (v:Val) (h:Prn G v):AFn Tryz.prog G 22 [v.enc] (.str (qF v)):=by
 induction h with
 | mk h8 h4 h5 h7 hn hb _ ih=>exact qTA _ (fun h=>⟨(h8 h).1,by have:=h8 h; unfold qPH at this; omega,by have:=h8 h; unfold qPH at this; omega⟩) (fun h=>qHD _ (h4 h)) (fun h=>qSH _ (h5 h).1 (h5 h).2) (fun h=>⟨(h7 h).1,fun key hk=>qSH key ((h7 h).2 key hk).1 ((h7 h).2 key hk).2⟩) hn hb ih
theorem zJQ (b:UInt8):(qb b).length≤6:=by
 unfold qb; (repeat' split) <;> simp
theorem qQR (s:List UInt8):(zK s).length≤6 * s.length+2:=by
 have:∀ s:List UInt8,(yB s).length≤6 * s.length:=by
  intro s
  induction s with
  | nil=>simp [yB]
  | cons b s ih =>
   have h:=zJQ b
   show (qb b++yB s).length≤_
   rw [List.length_append,List.length_cons]; omega
 have:=this s
 unfold zK
 simp; omega
theorem qOH:∀ l:List (List UInt8),(Lib.join l [44]).length≤(l.map List.length).sum+l.length
 | []=>by simp [Lib.join,List.intercalate]
 | [x]=>by rw [Lib.join_one]; simp
 | x::y::r=>by
  rw [kE]
  have:=qOH (y::r)
  simp only [List.length_append,List.map_cons,List.sum_cons,List.length_cons,List.length_nil] at this ⊢
  omega
theorem qXA {d:Dc} (h:zY d=true):(yG d).length≤130:=by
 have hb:=qGC h
 unfold yG wL wB
 split <;> split <;> simp <;> omega
def qAM (s:List UInt8):Val := .mk 5 0 dc0 s [] [] 0
def xW (n:Int):Val := .mk 4 0 (vB n) [] [] [] 0
def zC (j:Jb):List Val:=[qAM j.p,qAM j.f,qAM j.i,qAM j.n,xW j.a,xW j.b,xW j.c,xW j.d]
def xV (j:Jb):Val := .mk 7 0 dc0 [] wR (zC j) 0
def qZL (j:Jb):List UInt8 × Int:=if (zC j).all zU=true then (qF (xV j),0) else ([],1)
def wG (j:Jb) (k:Nat):List UInt8:=[j.p,j.f,j.i,j.n].getD k []
def yP (j:Jb) (k:Nat):Int:=[j.a,j.b,j.c,j.d].getD k 0
theorem qUW (j:Jb) {k:Nat} (h:k<4):wR[k]?=zS[k]?∧(∃ s,zS[k]?=some s)∧j.cells[k]?=some (.p (.str (wG j k)))∧(zC j)[k]?=some (qAM (wG j k))∧∀ i,([V.ptr i 0,V.ptr i 1,V.ptr i 2,V.ptr i 3])[k]?=some (.ptr i k):=by
 match k,h with
 | 0,_=>exact ⟨rfl,⟨_,rfl⟩,rfl,rfl,fun _=>rfl⟩
 | 1,_=>exact ⟨rfl,⟨_,rfl⟩,rfl,rfl,fun _=>rfl⟩
 | 2,_=>exact ⟨rfl,⟨_,rfl⟩,rfl,rfl,fun _=>rfl⟩
 | 3,_=>exact ⟨rfl,⟨_,rfl⟩,rfl,rfl,fun _=>rfl⟩
theorem qRD (j:Jb) {k:Nat} (h:k<4):wR[k+4]?=wX[k]?∧(∃ s,wX[k]?=some s∧s ∉ zS)∧j.cells[k+4]?=some (.p (.int .i64 (yP j k)))∧(zC j)[k+4]?=some (xW (yP j k))∧∀ i,([V.ptr i 4,V.ptr i 5,V.ptr i 6,V.ptr i 7])[k]?=some (.ptr i (k+4)):=by
 match k,h with
 | 0,_=>exact ⟨rfl,⟨_,rfl,by decide⟩,rfl,rfl,fun _=>rfl⟩
 | 1,_=>exact ⟨rfl,⟨_,rfl,by decide⟩,rfl,rfl,fun _=>rfl⟩
 | 2,_=>exact ⟨rfl,⟨_,rfl,by decide⟩,rfl,rfl,fun _=>rfl⟩
 | 3,_=>exact ⟨rfl,⟨_,rfl,by decide⟩,rfl,rfl,fun _=>rfl⟩
def qRE (j:Jb):Prop:=∀ k,k<4 → -9223372036854775808≤yP j k∧yP j k≤9223372036854775807
theorem qVM (hG:U8 G) (j:Jb) (hb:qRE j) (hP:(zC j).all zU=true→AFn Tryz.prog G 22 [(xV j).enc] (.str (qF (xV j)))):AFn Tryz.prog G 7 [j.enc] (.tup [.str (qZL j).1,.int .i64 (qZL j).2]):=by
 refine AFn.introU tok Tryz.func7 (by kernel_rfl) rfl rfl ?_
 simp only [Tryz.f7,qR,List.map_cons,List.map_nil]
 have hkeys:=qNE (G:=G)
 have hM:qZL j=if (zC j).all zU=true then (qF (xV j),0) else ([],1):=rfl
 have hw:=qPN (G:=G) 1 j.cells (by decide) (by simp [V.noRefL,V.noRef])
 have hn:=qJF (G:=G) 1 j.cells (by decide) (by simp [V.noRefL,V.noRef])
 have hkl:(zC j).length=8:=rfl
 have hjl:wR.length=8:=rfl
 rw [hM]
 refine rgn [] [[],[],[1]] ?_
 iterate 3 refine op1 tok ?_
 refine qA (rgn [.nilp,.sl 1 (wR.map PD.str)] [[],[],[],[1,4]] ?_)
 iterate 4 refine oq1 tok hkeys ?_
 refine qA (AW.seq (rgn [] [[],[],[],[1,4,13,14,15]] ?_))
 iterate 4 refine op1 tok ?_
 refine qA (AW.block ?_)
 refine AW.beginBox 4 800 7 42 9 (by simp; exact ⟨rfl,rfl⟩) (by simp) (by simp) (by conv=>lhs; simp) ?_
 refine AW.loop (α:=Nat) (fun k=>k≤8∧((zC j).take k).all zU=true) (fun k=>⟨zR 50 [(1,.ptr 1 0),(4,.ptr 4 0),(13,.p (.sl 1 (wR.map PD.str))),(14,.p (.int .i64 8)),(15,.p (.int .i64 k))],[],[(1,.vars 23 j.cells),(4,.vars 42 [.p (.int .i64 7),.p (.int .u64 0),.p (.bool false),.p (.str []),.p (.int .i64 0),.p (.str []),.p (.sl 1 (wR.map PD.str)),.ms 800,.p (.int .i64 0)]),(800,.row 42 9 (((zC j).take k).map Val.enc))],0⟩) (fun k=>8-k) (0) ⟨by omega,by simp⟩ ⟨qJ (by simp [hjl]),rfl,by simp,by simp⟩ ?_
 rintro k ⟨hk,hall⟩
 refine rgn [] [[]] ?_
 refine op1 tok ?_
 refine qA (AW.seq (cnd ?_ ?_))
 ·intro h16
  try simp at h16
  obtain ⟨key,hkey⟩:∃ s,wR[k]?=some s:=⟨wR[k]'(by omega),List.getElem?_eq_getElem _⟩
  refine AW.skip (AW.seq (AW.block (rgn [.str key] [[],[],[1,4,6,13,14,15]] ?_)))
  iterate 3 refine op1 tok ?_ (hv:=by first | with_reducible exact True.intro | (first | (simp [hkey]; done) | (simp [hkey,hjl]; omega); done) | omega | simp | (simp +contextual; omega))
  refine qA (rgn [] [[],[],[1,4,6,7,13,14,15]] ?_)
  iterate 3 refine op1 tok ?_
  refine qA (AW.seq ?_)
  by_cases hs6:k<4
  ·
   obtain ⟨w1,⟨s1,w2⟩,w3,w4,w5⟩:=qUW j hs6
   have hkw:zS[k]?=some key:=by rw [← w1]; exact hkey
   have hmay:=qVV (G:=G) hG (qAM (wG j k))
   have hen:(qAM (wG j k)).enc = .agg [.int .i64 5,.int .u64 0,.bool false,.str [],.int .i64 0,.str (wG j k),.sl 1 [],.sl 9 [],.int .i64 0]:=by rw [Val.enc_def]; rfl
   rw [hen] at hmay
   have hte:((zC j).take (k+1)).map Val.enc=((zC j).take k).map Val.enc++[.agg [.int .i64 5,.int .u64 0,.bool false,.str [],.int .i64 0,.str (wG j k),.sl 1 [],.sl 9 [],.int .i64 0]]:=by rw [List.take_add_one,w4,List.map_append]; show _++[Val.enc _]=_; rw [hen]
   have hta:((zC j).take (k+1)).all zU=(((zC j).take k).all zU && zU (qAM (wG j k))):=by rw [List.take_add_one,w4,List.all_append]; simp
   have hno:zU (qAM (wG j k))=false→¬ (zC j).all zU=true:=fun h h'=>by
    have:=List.all_eq_true.1 h' _ (List.mem_of_getElem? w4)
    rw [h] at this; cases this
   generalize zU (qAM (wG j k))=mk at *
   refine AW.seqRegionO [] ?_
   refine qD.stepK [1,4,6,7,13,14,15,21] (zF rfl hw (by simp)) (by conv=>lhs; simp) rfl ?_
   refine qD.run [[]] ?_
   refine op1 tok ?_
   refine qP ?_
   refine qD.stepK [1,4,6,7,13,14,15,23] (qBN tok rfl rfl rfl (by conv=>lhs; simp) trivial (by conv=>lhs; simp) trivial rfl (by decide) k hkw (w5 1)) (by conv=>lhs; simp) rfl ?_
   refine qD.run [[],[],[],[],[1,4,6,7,8,9,13,14,15]] ?_
   iterate 5 refine op1 tok ?_
   refine qA (rgn [] [[1,4,6,7,8,13,14,15,26]] ?_)
   refine op1 tok ?_
   refine qA (cnd ?_ ?_)
   ·intro h26
    try simp at h26
    refine rgz [] [[],[]] ?_
    iterate 2 refine op1 tok ?_
    refine qP ?_
    refine qD.stepK [1,4,7,13,14,15,29] (qHT tok rfl rfl rfl (by conv=>lhs; simp) trivial rfl w3) (by conv=>lhs; simp) rfl ?_
    refine qD.run [[],[1,4,7,13,14,15]] ?_
    iterate 2 refine op1 tok ?_
    refine qA (AW.seq (rgn [.nilp,.bool mk] [[],[],[1,4,7,13,14,15,40]] ?_))
    iterate 3 refine oq1 tok hmay ?_
    refine qA (cnd ?_ ?_)
    ·intro h40
     try simp at h40
     rw [if_neg (hno (by simpa using h40))]
     refine rgn [] [[],[]] ?_
     iterate 2 refine op1 tok ?_
     exact qA (AW.ret qZ)
    intro h40
    try simp at h40
    have hmk:mk=true:=by simpa using h40
    refine AW.skip (rgz [.agg [.int .i64 5,.int .u64 0,.bool false,.str [],.int .i64 0,.str (wG j k),.sl 1 [],.sl 9 [],.int .i64 0]] [[],[],[],[],[1,4,13,14,15,45],[],[1,4,13,14,15]] ?_)
    iterate 7 refine op1 tok ?_ (hv:=by first | with_reducible exact True.intro | (first | (simp; done) | (simp; omega); done) | omega | simp | (simp +contextual; omega))
    refine qA (rgz [] [[],[1,4,13,14,15]] ?_)
    iterate 2 refine op1 tok ?_
    refine qA ?_
    exact ⟨k+1,⟨by omega,by rw [hta,hall,hmk]; rfl⟩,by omega,qJ (by simp [hte]),rfl,by simp [hte],by simp [hte]⟩
   intro h26
   try simp at h26
  ·
   obtain ⟨m,rfl⟩:∃ m,k=m+4:=⟨k-4,by omega⟩
   obtain ⟨w1,⟨s1,w2,wn⟩,w3,w4,w5⟩:=qRD j (k:=m) (by omega)
   have hkw:wX[m]?=some key:=by rw [← w1]; exact hkey
   have hnw:key ∉ zS:=by rw [w2] at hkw; cases hkw; exact wn
   obtain ⟨nb1,nb2⟩:=hb m (by omega)
   have hdi:=qYO (G:=G) (yP j m) nb1 nb2
   have hmay:=qVV (G:=G) hG (xW (yP j m))
   have hen:(xW (yP j m)).enc = .agg [.int .i64 4,.int .u64 0,.bool (vB (yP j m)).neg,.str (vB (yP j m)).digits,.int .i64 (vB (yP j m)).scale,.str [],.sl 1 [],.sl 9 [],.int .i64 0]:=by rw [Val.enc_def]; rfl
   rw [hen] at hmay
   have hte:((zC j).take (m+4+1)).map Val.enc=((zC j).take (m+4)).map Val.enc++[.agg [.int .i64 4,.int .u64 0,.bool (vB (yP j m)).neg,.str (vB (yP j m)).digits,.int .i64 (vB (yP j m)).scale,.str [],.sl 1 [],.sl 9 [],.int .i64 0]]:=by rw [List.take_add_one,w4,List.map_append]; show _++[Val.enc _]=_; rw [hen]
   have hta:((zC j).take (m+4+1)).all zU=(((zC j).take (m+4)).all zU && zU (xW (yP j m))):=by rw [List.take_add_one,w4,List.all_append]; simp
   have hno:zU (xW (yP j m))=false→¬ (zC j).all zU=true:=fun h h'=>by
    have:=List.all_eq_true.1 h' _ (List.mem_of_getElem? w4)
    rw [h] at this; cases this
   generalize zU (xW (yP j m))=mk at *
   generalize vB (yP j m)=q at *
   simp only [Dc.enc] at hdi
   refine AW.seqRegionO [] ?_
   refine qD.stepK [1,4,6,7,13,14,15,21] (zF rfl hw (by simp)) (by conv=>lhs; simp) rfl ?_
   refine qD.run [[]] ?_
   refine op1 tok ?_
   refine qP ?_
   refine qD.stepK [1,4,6,7,13,14,15,23] (qBO tok rfl rfl rfl rfl rfl (by conv=>lhs; simp) trivial (by conv=>lhs; simp) trivial rfl hnw) (by conv=>lhs; simp) rfl ?_
   refine qD.run [[],[],[],[],[1,4,6,7,8,9,13,14,15]] ?_
   iterate 5 refine op1 tok ?_
   refine qA (rgn [] [[1,4,6,7,8,13,14,15,26]] ?_)
   refine op1 tok ?_
   refine qA (cnd ?_ ?_)
   ·intro h26
    try simp at h26
   intro h26
   try simp at h26
   refine AW.regionO [.nilp,.agg [.bool q.neg,.str q.digits,.int .i64 q.scale]] ?_
   refine qD.stepK [1,4,6,7,13,14,15,31] (zF rfl hn (by simp)) (by conv=>lhs; simp) rfl ?_
   refine qD.run [[]] ?_
   refine oq1 tok hdi ?_
   refine qP ?_
   refine qD.stepK [1,4,7,13,14,15,33] (qBN tok rfl rfl rfl (by conv=>lhs; simp) trivial (by conv=>lhs; simp) trivial rfl (by decide) m hkw (w5 1)) (by conv=>lhs; simp) rfl ?_
   refine qD.run [[]] ?_
   refine oq1 tok hdi ?_
   refine qP ?_
   refine qD.stepK [1,4,7,13,14,15,35] (qHT tok rfl rfl rfl (by conv=>lhs; simp) trivial rfl w3) (by conv=>lhs; simp) rfl ?_
   refine qD.run [[],[],[1,4,7,13,14,15]] ?_
   iterate 3 refine oq1 tok hdi ?_
   refine qA (AW.seq (rgn [.nilp,.bool mk] [[],[],[1,4,7,13,14,15,40]] ?_))
   iterate 3 refine oq1 tok hmay ?_
   refine qA (cnd ?_ ?_)
   ·intro h40
    try simp at h40
    rw [if_neg (hno (by simpa using h40))]
    refine rgn [] [[],[]] ?_
    iterate 2 refine op1 tok ?_
    exact qA (AW.ret qZ)
   intro h40
   try simp at h40
   have hmk:mk=true:=by simpa using h40
   refine AW.skip (rgz [.agg [.int .i64 4,.int .u64 0,.bool q.neg,.str q.digits,.int .i64 q.scale,.str [],.sl 1 [],.sl 9 [],.int .i64 0]] [[],[],[],[],[1,4,13,14,15,45],[],[1,4,13,14,15]] ?_)
   iterate 7 refine op1 tok ?_ (hv:=by first | with_reducible exact True.intro | (first | (simp; done) | (simp; omega); done) | omega | simp | (simp +contextual; omega))
   refine qA (rgz [] [[],[1,4,13,14,15]] ?_)
   iterate 2 refine op1 tok ?_
   refine qA ?_
   exact ⟨m+4+1,⟨by omega,by rw [hta,hall,hmk]; rfl⟩,by omega,qJ (by simp [hte]),rfl,by simp [hte],by simp [hte]⟩
 intro h16
 try simp at h16
 obtain rfl:k=8:=by omega
 have ht8:(zC j).take 8=zC j:=rfl
 rw [ht8] at hall
 rw [if_pos hall]
 have ht9:List.take 8 ((zC j).map Val.enc)=(zC j).map Val.enc:=rfl
 try rw [ht8]
 try rw [ht9]
 have hP:=hP hall
 have hen:(xV j).enc = .agg [.int .i64 7,.int .u64 0,.bool false,.str [],.int .i64 0,.str [],.sl 1 (wR.map PD.str),.sl 9 ((zC j).map Val.enc),.int .i64 0]:=by rw [Val.enc_def]; rfl
 rw [hen] at hP
 generalize qF (xV j)=out at *
 generalize (zC j).map Val.enc=kk at *
 refine AW.exit ?_
 simp
 refine AW.freezeE 800 (by conv=>lhs; simp) ?_
 refine rgn [.nilp,.str out] [[],[],[],[2,3]] ?_
 iterate 4 refine oq1 tok hP ?_
 exact qA (AW.ret qZ)
end Go.Proofs.YtlmedakhioiahaaGreatDoor
namespace Go.Proofs
open Go.Shelf
def Tryz.laysC172_ren:Go.Shelf.Ren:=⟨fun | 172=>56 | 244=>90 | 245=>91 | 247=>124 | 279=>125 | 280=>126 | 281=>127 | 282=>128 | 287=>150 | 316=>151 | 171=>34 | 205=>152 | 321=>166 | 322=>167 | 243=>65 | 246=>99 | 283=>131 | 284=>132 | 285=>133 | 286=>134 | 129=>157 | 317=>156 | 318=>158 | 319=>159 | 320=>160 | 337=>168 | 338=>169 | n=>n,fun | 9=>9 | 3=>3 | 75=>95 | 76=>96 | 4=>4 | 5=>5 | 167=>146 | 37=>75 | 0=>0 | 85=>147 | 2=>2 | 168=>149 | 53=>37 | 175=>180 | 46=>114 | 210=>183 | 127=>139 | 145=>197 | 143=>195 | 21=>21 | 171=>155 | 173=>158 | 212=>186 | 51=>161 | 20=>20 | 213=>187 | 232=>199 | 233=>200 | 80=>101 | n=>n,fun | 15=>2 | 16=>3 | 17=>4 | 18=>6 | 19=>7 | n=>n⟩
theorem Tryz.laysC172:Go.Proofs.LaysC.n172 Tryz.prog Tryz.laysC172_ren:={
 mixed:=by kernel_rfl
 f129:=Tryz.func157.trans (congrArg some (by kernel_rfl))
 f171:=Tryz.func34.trans (congrArg some (by kernel_rfl))
 f172:=Tryz.func56.trans (congrArg some (by kernel_rfl))
 f205:=Tryz.func152.trans (congrArg some (by kernel_rfl))
 f243:=Tryz.func65.trans (congrArg some (by kernel_rfl))
 f244:=Tryz.func90.trans (congrArg some (by kernel_rfl))
 f245:=Tryz.func91.trans (congrArg some (by kernel_rfl))
 f246:=Tryz.func99.trans (congrArg some (by kernel_rfl))
 f247:=Tryz.func124.trans (congrArg some (by kernel_rfl))
 f279:=Tryz.func125.trans (congrArg some (by kernel_rfl))
 f280:=Tryz.func126.trans (congrArg some (by kernel_rfl))
 f281:=Tryz.func127.trans (congrArg some (by kernel_rfl))
 f282:=Tryz.func128.trans (congrArg some (by kernel_rfl))
 f283:=Tryz.func131.trans (congrArg some (by kernel_rfl))
 f284:=Tryz.func132.trans (congrArg some (by kernel_rfl))
 f285:=Tryz.func133.trans (congrArg some (by kernel_rfl))
 f286:=Tryz.func134.trans (congrArg some (by kernel_rfl))
 f287:=Tryz.func150.trans (congrArg some (by kernel_rfl))
 f316:=Tryz.func151.trans (congrArg some (by kernel_rfl))
 f317:=Tryz.func156.trans (congrArg some (by kernel_rfl))
 f318:=Tryz.func158.trans (congrArg some (by kernel_rfl))
 f319:=Tryz.func159.trans (congrArg some (by kernel_rfl))
 f320:=Tryz.func160.trans (congrArg some (by kernel_rfl))
 f321:=Tryz.func166.trans (congrArg some (by kernel_rfl))
 f322:=Tryz.func167.trans (congrArg some (by kernel_rfl))
 f337:=Tryz.func168.trans (congrArg some (by kernel_rfl))
 f338:=Tryz.func169.trans (congrArg some (by kernel_rfl))
 t0:=Tryz.underlying0
 a0:=Tryz.isAgg0
 z0:=Tryz.sizeOf0
 v0:=Tryz.zeroValue0
 t2:=Tryz.underlying2
 a2:=Tryz.isAgg2
 z2:=Tryz.sizeOf2
 v2:=Tryz.zeroValue2
 t3:=Tryz.underlying3
 a3:=Tryz.isAgg3
 z3:=Tryz.sizeOf3
 v3:=Tryz.zeroValue3
 t4:=Tryz.underlying4
 a4:=Tryz.isAgg4
 z4:=Tryz.sizeOf4
 v4:=Tryz.zeroValue4
 t5:=Tryz.underlying5
 a5:=Tryz.isAgg5
 z5:=Tryz.sizeOf5
 v5:=Tryz.zeroValue5
 t9:=Tryz.underlying9
 a9:=Tryz.isAgg9
 z9:=Tryz.sizeOf9
 v9:=Tryz.zeroValue9
 t20:=Tryz.underlying20
 a20:=Tryz.isAgg20
 z20:=Tryz.sizeOf20
 v20:=Tryz.zeroValue20
 t21:=Tryz.underlying21
 a21:=Tryz.isAgg21
 z21:=Tryz.sizeOf21
 v21:=Tryz.zeroValue21
 t37:=Tryz.underlying75
 a37:=Tryz.isAgg75
 z37:=Tryz.sizeOf75
 v37:=Tryz.zeroValue75
 t46:=Tryz.underlying114
 a46:=Tryz.isAgg114
 z46:=Tryz.sizeOf114
 v46:=Tryz.zeroValue114
 t51:=Tryz.underlying161
 a51:=Tryz.isAgg161
 z51:=Tryz.sizeOf161
 v51:=Tryz.zeroValue161
 t53:=Tryz.underlying37
 a53:=Tryz.isAgg37
 z53:=Tryz.sizeOf37
 v53:=Tryz.zeroValue37
 t75:=Tryz.underlying95
 a75:=Tryz.isAgg95
 z75:=Tryz.sizeOf95
 v75:=Tryz.zeroValue95
 t76:=Tryz.underlying96
 a76:=Tryz.isAgg96
 z76:=Tryz.sizeOf96
 v76:=Tryz.zeroValue96
 t85:=Tryz.underlying147
 a85:=Tryz.isAgg147
 z85:=Tryz.sizeOf147
 v85:=Tryz.zeroValue147
 t127:=Tryz.underlying139
 a127:=Tryz.isAgg139
 z127:=Tryz.sizeOf139
 v127:=Tryz.zeroValue139
 t143:=Tryz.underlying195
 a143:=Tryz.isAgg195
 z143:=Tryz.sizeOf195
 v143:=Tryz.zeroValue195
 t145:=Tryz.underlying197
 a145:=Tryz.isAgg197
 z145:=Tryz.sizeOf197
 v145:=Tryz.zeroValue197
 t167:=Tryz.underlying146
 a167:=Tryz.isAgg146
 z167:=Tryz.sizeOf146
 v167:=Tryz.zeroValue146
 t168:=Tryz.underlying149
 a168:=Tryz.isAgg149
 z168:=Tryz.sizeOf149
 v168:=Tryz.zeroValue149
 t171:=Tryz.underlying155
 a171:=Tryz.isAgg155
 z171:=Tryz.sizeOf155
 v171:=Tryz.zeroValue155
 t173:=Tryz.underlying158
 a173:=Tryz.isAgg158
 z173:=Tryz.sizeOf158
 v173:=Tryz.zeroValue158
 t175:=Tryz.underlying180
 a175:=Tryz.isAgg180
 z175:=Tryz.sizeOf180
 v175:=Tryz.zeroValue180
 t210:=Tryz.underlying183
 a210:=Tryz.isAgg183
 z210:=Tryz.sizeOf183
 v210:=Tryz.zeroValue183
 t212:=Tryz.underlying186
 a212:=Tryz.isAgg186
 z212:=Tryz.sizeOf186
 v212:=Tryz.zeroValue186
 t213:=Tryz.underlying187
 a213:=Tryz.isAgg187
 z213:=Tryz.sizeOf187
 t232:=Tryz.underlying199
 a232:=Tryz.isAgg199
 z232:=Tryz.sizeOf199
 v232:=Tryz.zeroValue199
 t233:=Tryz.underlying200
 a233:=Tryz.isAgg200
 z233:=Tryz.sizeOf200
 v233:=Tryz.zeroValue200
 g15:=by kernel_rfl
 g16:=by kernel_rfl
 g17:=by kernel_rfl
 g18:=by kernel_rfl
 g19:=by kernel_rfl
 t80:=Tryz.underlying101
 a80:=Tryz.isAgg101
 z80:=Tryz.sizeOf101
 v80:=Tryz.zeroValue101
 i0:=by kernel_rfl
 i2:=by kernel_rfl
 i3:=by kernel_rfl
 i4:=by kernel_rfl
 i5:=by kernel_rfl
 i9:=by kernel_rfl
 i20:=by kernel_rfl
 i21:=by kernel_rfl
 i37:=by kernel_rfl
 i46:=by kernel_rfl
 i51:=by kernel_rfl
 i53:=by kernel_rfl
 i75:=by kernel_rfl
 i76:=by kernel_rfl
 i80:=by kernel_rfl
 i85:=by kernel_rfl
 i127:=by kernel_rfl
 i143:=by kernel_rfl
 i145:=by kernel_rfl
 i167:=by kernel_rfl
 i168:=by kernel_rfl
 i171:=by kernel_rfl
 i173:=by kernel_rfl
 i175:=by kernel_rfl
 i210:=by kernel_rfl
 i212:=by kernel_rfl
 i232:=by kernel_rfl
 i233:=by kernel_rfl
 m15:=by kernel_rfl
 m16:=by kernel_rfl
 m17:=by kernel_rfl
 m18:=by kernel_rfl
 m19:=by kernel_rfl
 c0:=by kernel_rfl
 c2:=by kernel_rfl
 c3:=by kernel_rfl
 c4:=by kernel_rfl
 c5:=by kernel_rfl
 c9:=by kernel_rfl
 c20:=by kernel_rfl
 c21:=by kernel_rfl
 c37:=by kernel_rfl
 c46:=by kernel_rfl
 c51:=by kernel_rfl
 c53:=by kernel_rfl
 c75:=by kernel_rfl
 c76:=by kernel_rfl
 c80:=by kernel_rfl
 c85:=by kernel_rfl
 c127:=by kernel_rfl
 c143:=by kernel_rfl
 c145:=by kernel_rfl
 c167:=by kernel_rfl
 c168:=by kernel_rfl
 c171:=by kernel_rfl
 c173:=by kernel_rfl
 c175:=by kernel_rfl
 c210:=by kernel_rfl
 c212:=by kernel_rfl
 c213:=by kernel_rfl
 c232:=by kernel_rfl
 c233:=by kernel_rfl }
end Go.Proofs
namespace Go.Proofs.YtlmedakhioiahaaGreatDoor
open Sy Go
set_option linter.unusedVariables false
variable {G:qO}
def qUT (g1 g2:Nat) (G:qO):Prop:=G g1=some [.err]∧G g2=some [.err]
abbrev PE (G:qO):Prop:=qUT 2 3 G
def vQ (s:List UInt8):Int × PD:=match Lib.atoiAll s with
 | .ok v=>(v,.noerr)
 | .range=>(Lib.atoiSat s,.err)
 | _=>(0,.err)
theorem qRW {g:Nat} {M:qV} {w:World} (hG:G g=some [.err]) (hg:GOK G M w) (hmem:∀ b o v,M b o=some v→w.cell? ⟨b,o,none⟩=some v):∃ t p,w.cell? ⟨g,0,none⟩=some (.iface t p):=by
 obtain ⟨h1,h2⟩:=hg.1 g _ hG
 obtain ⟨u,hu,_⟩:=h1 0 .err rfl
 have:=h2 0 .err u rfl hu
 cases this
 exact ⟨_,_,hmem _ _ _ hu⟩
theorem zEZ (hE:PE G) (s:List UInt8) (hs:s.length≤281474976710656):AFn Tryz.prog G 56 [.str s] (.tup [.int .i64 (vQ s).1,(vQ s).2]):=by
 refine AFn.of_calls (kH Tryz.func56 (by kernel_rfl) rfl) fun M w vs hg hmem hsz hrd => ?_
 obtain ⟨b,rfl,hb,hm⟩:=qPC hsz hrd
 have hbs:b.size=s.length:=kD hb
 obtain ⟨t1,p1,hc1⟩:=qRW hE.1 hg hmem
 obtain ⟨t2,p2,hc2⟩:=qRW hE.2 hg hmem
 have two:∀ (u:Value) (v:Int) (d:PD),Rd M (.int .i64 v) (.int .i64 v)→Rd M u d→Rd M (.tuple #[.int .i64 v,u]) (.tup [.int .i64 v,d]):=by
  intro u v d h1 h2
  refine .tup rfl fun i x y hx hy => ?_
  match i with
  | 0=>simp at hx hy; subst hx; subst hy; exact h1
  | 1=>simp at hx hy; subst hx; subst hy; exact h2
  | i+2=>simp at hx
 have hsat:=Lib.atoiSat_bounds s
 rcases h:Lib.atoiAll s with v | _ | _
 ·have hv:=Lib.atoiAll_bounds h
  have ht:vQ s=(v,.noerr):=by unfold vQ; rw [h]
  rw [ht]
  refine (Any.strconv_Atoi_ok Tryz.laysC172 b (by omega) v (by rw [hb]; exact h) w).mono ?_
  rintro e w' ⟨rfl,hW⟩
  refine ⟨_,rfl,two _ _ _ (Rd.intOf (by simp only [yQ]; omega) (by simp only [yR]; omega)) .noerr, ?_⟩
  rcases hW with rfl | ⟨t,rfl⟩
  ·exact RowKit.Below.refl _ _
  exact Lib.bytesWorld_below _ _ _
 ·have ht:vQ s=(0,.err):=by unfold vQ; rw [h]
  rw [ht]
  refine (Any.strconv_Atoi_syntax Tryz.laysC172 b (by omega) (by rw [hb]; exact h) _ w hc1 (.inr ⟨_,_,rfl⟩)).mono ?_
  rintro e w' ⟨N,rfl,_,_,hB⟩
  exact ⟨_,rfl,two _ _ _ (Rd.intOf (by simp [yQ]) (by simp [yR])) .err,hB⟩
 have ht:vQ s=(Lib.atoiSat s,.err):=by unfold vQ; rw [h]
 rw [ht]
 refine (Any.strconv_Atoi_range Tryz.laysC172 b (by omega) (by rw [hb]; exact h) _ w hc2 (.inr ⟨_,_,rfl⟩)).mono ?_
 rintro e w' ⟨N,rfl,_,_,hB⟩
 rw [hb]
 exact ⟨_,rfl,two _ _ _ (Rd.intOf (by simp only [yQ]; omega) (by simp only [yR]; omega)) .err,hB⟩
set_option maxRecDepth 100000
set_option linter.unusedSimpArgs false
theorem qYA {d:Dc} (h:zY d=true):d.digits.all qI=true:=by unfold zY at h; simp only [Bool.and_eq_true] at h; exact h.1.1
theorem qOT {b:UInt8} (h:qI b=true):Lib.digitVal b=some (b.toNat-48):=by
 rw [qCA] at h
 cases hd:Lib.digitVal b with
 | none=>rcases Lib.digitVal_none hd with h1 | h1 <;> omega
 | some d=>rw [(Lib.digitVal_eq hd).2.2]
theorem qGY:∀ (s:List UInt8) (acc:Nat),s.all qI=true→Lib.decFrom acc s=some (acc * 10 ^ s.length+kN s)
 | [],acc,_=>by simp [Lib.decFrom,kN]
 | b::s,acc,h=>by
  simp only [List.all_cons,Bool.and_eq_true] at h
  simp only [Lib.decFrom,qOT h.1]
  rw [qGY s _ h.2,qBQ,List.length_cons,Nat.pow_succ,Nat.add_mul]
  congr 1
  rw [Nat.mul_comm (10 ^ s.length) 10,Nat.mul_assoc]; omega
theorem zBU {s:List UInt8} (h:s.all qI=true) (h0:s≠[]) (hl:s.length≤17):vQ s=(((kN s:Nat):Int),.noerr)∧vQ (45::s)=(-((kN s:Nat):Int),.noerr):=by
 have hd:Lib.decNat s=some (kN s):=by
  unfold Lib.decNat
  rw [if_neg (by simpa using h0),qGY s 0 h]; simp
 constructor
 ·obtain ⟨b,r,rfl⟩:∃ b r,s=b::r:=by cases s with
   | nil=>exact absurd rfl h0
   | cons b r=>exact ⟨b,r,rfl⟩
  have hb:qI b=true:=by simp only [List.all_cons,Bool.and_eq_true] at h; exact h.1
  rw [qCA] at hb
  have e:Lib.atoiAll (b::r) = .ok ((kN (b::r):Nat):Int):=by
   rw [Lib.atoiAll_short _ (by omega)]
   unfold Lib.atoi
   have h1:(b == 45)=false:=by rw [beq_eq_false_iff_ne]; rintro rfl; revert hb; decide
   have h2:(b == 43)=false:=by rw [beq_eq_false_iff_ne]; rintro rfl; revert hb; decide
   simp only [h1,h2,hd]; rfl
  unfold vQ; rw [e]
 have e:Lib.atoiAll (45::s) = .ok (-((kN s:Nat):Int)):=by
  rw [Lib.atoiAll_short _ (by simp; omega)]
  unfold Lib.atoi
  simp only [beq_self_eq_true,if_true,hd]; rfl
 unfold vQ; rw [e]
def kB (d:Dc):Int:=if d.neg=true then -((kN d.digits:Nat):Int) else (kN d.digits:Nat)
theorem qWN {d:Dc} (h:d.digits.all qI=true) (hl:d.digits.length≤15) : -1000000000000000<kB d∧kB d<1000000000000000:=by
 have h1:=zCQ h
 have h2:=Nat.pow_le_pow_right (n:=10) (by decide) hl
 unfold kB
 split <;> omega
def inB (n:Int):Bool:=decide (-1099511627776≤n) && decide (n≤1099511627776)
def yK (v:Val):Int × Bool:=if v.kind=4∧v.num.scale=0∧v.num.digits.length≤15 then (kB v.num,inB (kB v.num)) else (0,false)
theorem qUL {d:Dc} (h:zY d=true) (hs:d.scale=0) (hl:d.digits.length≤15):vQ (yG d)=(kB d,.noerr)∧vQ d.digits=(((kN d.digits:Nat):Int),.noerr):=by
 have hm:=h
 unfold zY at hm
 simp only [Bool.and_eq_true,decide_eq_true_eq] at hm
 obtain ⟨⟨h1,h2⟩,_⟩:=hm
 have h0:d.digits≠[]:=fun e=>by rw [e] at h2; simp at h2
 have hpos:0<d.digits.length:=List.length_pos_iff.2 h0
 obtain ⟨a1,a2⟩:=zBU h1 h0 (by omega)
 refine ⟨?_,a1⟩
 have hp:yG d=(if d.neg=true then [45] else [])++d.digits:=by
  unfold yG wL wB
  rw [hs,show (0:Int).toNat+1-d.digits.length=0 by simp; omega]
  simp
 rw [hp]
 unfold kB
 split
 ·exact a2
 exact a1
end Go.Proofs.YtlmedakhioiahaaGreatDoor
