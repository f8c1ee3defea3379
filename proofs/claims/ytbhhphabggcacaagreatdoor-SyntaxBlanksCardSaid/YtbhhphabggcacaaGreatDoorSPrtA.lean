import Derived.Test.YtbhhphabggcacaaGreatDoorSPrtL
import Derived.Test.YtbhhphabggcacaaGreatDoorK1
import Derived.Test.YtbhhphabggcacaaGreatDoorK3
import Derived.Test.YtbhhphabggcacaaGreatDoorK2
import Derived.Test.YtbhhphabggcacaaGreatDoorSJoin
namespace Go.Proofs.YtbhhphabggcacaaGreatDoor
open Sy Go
set_option maxRecDepth 100000
set_option maxHeartbeats 4000000
set_option linter.unusedSimpArgs false
set_option linter.unusedVariables false
variable {G:qS}
theorem qQC (x:Nd) (hd:x.n=4→yO x.num=true) (hv:Lib.validD x.text=true) (hl:x.text.length≤100000):AFn Tryz.prog G 23 [x.enc] (.str (qBB x)):=by
 refine AFn.introU tok Tryz.func23 (by kernel_rfl) rfl rfl ?_
 simp only [Tryz.f23,qN,List.map_cons,List.map_nil]
 have hC:qBB x=if x.n=1 then [110,117,108,108] else if x.n=3 then [116,114,117,101] else if x.n=2 then [102,97,108,115,101] else if x.n=4 then kU x.num else zL x.text:=rfl
 rw [hC]
 have h1:=fun h=>qVX (G:=G) x.num (hd h)
 have h2:=qDZ (G:=G) x.text hv (by omega)
 generalize kU x.num=A at *
 generalize zL x.text=B at *
 simp only [Dc.enc] at h1
 refine rgn [] [[],[1]] ?_
 iterate 2 refine op1 tok ?_
 refine qA (AW.seq (rgn [] [[],[1,4]] ?_))
 iterate 2 refine op1 tok ?_
 refine qA (AW.block (rgn [] [[],[1,4,5]] ?_))
 iterate 2 refine op1 tok ?_
 refine qA (cnd ?_ ?_)
 ·intro h5
  try simp at h5
  rw [if_pos h5]
  refine rgn [] [[]] ?_
  refine op1 tok ?_
  exact qA (AW.ret qX)
 intro h5
 try simp at h5
 rw [if_neg h5]
 refine rgn [] [[],[1,4,7]] ?_
 iterate 2 refine op1 tok ?_
 refine qA (cnd ?_ ?_)
 ·intro h7
  try simp at h7
  rw [if_pos h7]
  refine rgn [] [[]] ?_
  refine op1 tok ?_
  exact qA (AW.ret qX)
 intro h7
 try simp at h7
 rw [if_neg h7]
 refine rgn [] [[],[1,4,9]] ?_
 iterate 2 refine op1 tok ?_
 refine qA (cnd ?_ ?_)
 ·intro h9
  try simp at h9
  rw [if_pos h9]
  refine rgn [] [[]] ?_
  refine op1 tok ?_
  exact qA (AW.ret qX)
 intro h9
 try simp at h9
 rw [if_neg h9]
 refine rgn [] [[],[1,11]] ?_
 iterate 2 refine op1 tok ?_
 refine qA (cnd ?_ ?_)
 ·intro h11
  try simp at h11
  rw [if_pos h11]
  have h1:=h1 h11
  refine rgn [.nilp,.str A] [[],[],[],[2]] ?_
  iterate 4 refine op1 tok ?_ (hv:=by first | with_reducible exact True.intro | (first | exact h1 | (simp; exact h1); done) | omega | simp | (simp +contextual; omega))
  exact qA (AW.ret qX)
 intro h11
 try simp at h11
 rw [if_neg h11]
 refine AW.skip (rgn [.nilp,.str B] [[],[],[],[2]] ?_)
 iterate 4 refine oq1 tok h2 ?_
 exact qA (AW.ret qX)
theorem qQZ (x:Nd) (hI:∀ n:Int,AFn Tryz.prog G 29 [.int .i64 n] (.str (Lib.itoa n))) (hl:x.text.length≤100000) (h0 : -9223372036854775808≤x.n) (h1:x.n≤9223372036854775807):AFn Tryz.prog G 28 [x.enc] (.str (yQ x)):=by
 refine AFn.introU tok Tryz.func28 (by kernel_rfl) rfl rfl ?_
 simp only [Tryz.f28,qN,List.map_cons,List.map_nil]
 have hi:=hI x.n
 have hil:=Lib.itoa_length_le x.n h0 h1
 unfold yQ
 generalize Lib.itoa x.n=A at *
 refine rgn [] [[],[1]] ?_
 iterate 2 refine op1 tok ?_
 refine qA (AW.seq (rgn [] [[],[1,4]] ?_))
 iterate 2 refine op1 tok ?_
 refine qA (AW.block (rgn [] [[],[1,4,5]] ?_))
 iterate 2 refine op1 tok ?_
 refine qA (cnd ?_ ?_)
 ·intro h5
  try simp at h5
  rw [if_pos h5]
  refine rgn [] [[]] ?_
  refine op1 tok ?_
  exact qA (AW.ret qX)
 intro h5
 try simp at h5
 rw [if_neg h5]
 refine rgn [] [[],[1,4,7]] ?_
 iterate 2 refine op1 tok ?_
 refine qA (cnd ?_ ?_)
 ·intro h7
  try simp at h7
  rw [if_pos h7]
  refine rgn [] [[]] ?_
  refine op1 tok ?_
  exact qA (AW.ret qX)
 intro h7
 try simp at h7
 rw [if_neg h7]
 refine rgn [] [[],[1,4,9]] ?_
 iterate 2 refine op1 tok ?_
 refine qA (cnd ?_ ?_)
 ·intro h9
  try simp at h9
  rw [if_pos h9]
  refine rgn [] [[]] ?_
  refine op1 tok ?_
  exact qA (AW.ret qX)
 intro h9
 try simp at h9
 rw [if_neg h9]
 refine rgn [] [[],[1,4,11]] ?_
 iterate 2 refine op1 tok ?_
 refine qA (cnd ?_ ?_)
 ·intro h11
  try simp at h11
  rw [if_pos h11]
  refine rgn [] [[]] ?_
  refine op1 tok ?_
  exact qA (AW.ret qX)
 intro h11
 try simp at h11
 rw [if_neg h11]
 refine rgn [] [[],[1,4,13]] ?_
 iterate 2 refine op1 tok ?_
 refine qA (cnd ?_ ?_)
 ·intro h13
  try simp at h13
  rw [if_pos h13]
  refine rgn [] [[]] ?_
  refine op1 tok ?_
  exact qA (AW.ret qX)
 intro h13
 try simp at h13
 rw [if_neg h13]
 refine rgn [] [[],[1,4,15]] ?_
 iterate 2 refine op1 tok ?_
 refine qA (cnd ?_ ?_)
 ·intro h15
  try simp at h15
  rw [if_pos h15]
  refine rgn [] [[],[],[],[20],[2]] ?_
  iterate 5 refine op1 tok ?_
  exact qA (AW.ret qX)
 intro h15
 try simp at h15
 rw [if_neg h15]
 refine rgn [] [[],[1,4,21]] ?_
 iterate 2 refine op1 tok ?_
 refine qA (cnd ?_ ?_)
 ·intro h21
  try simp at h21
  rw [if_pos h21]
  refine rgn [] [[]] ?_
  refine op1 tok ?_
  exact qA (AW.ret qX)
 intro h21
 try simp at h21
 rw [if_neg h21]
 refine rgn [] [[],[1,4,23]] ?_
 iterate 2 refine op1 tok ?_
 refine qA (cnd ?_ ?_)
 ·intro h23
  try simp at h23
  rw [if_pos h23]
  refine rgn [] [[]] ?_
  refine op1 tok ?_
  exact qA (AW.ret qX)
 intro h23
 try simp at h23
 rw [if_neg h23]
 refine rgn [] [[],[1,4,25]] ?_
 iterate 2 refine op1 tok ?_
 refine qA (cnd ?_ ?_)
 ·intro h25
  try simp at h25
  rw [if_pos h25]
  refine rgn [] [[]] ?_
  refine op1 tok ?_
  exact qA (AW.ret qX)
 intro h25
 try simp at h25
 rw [if_neg h25]
 refine rgn [] [[],[1,4,27]] ?_
 iterate 2 refine op1 tok ?_
 refine qA (cnd ?_ ?_)
 ·intro h27
  try simp at h27
  rw [if_pos h27]
  refine rgn [] [[]] ?_
  refine op1 tok ?_
  exact qA (AW.ret qX)
 intro h27
 try simp at h27
 rw [if_neg h27]
 refine rgn [] [[],[1,4,29]] ?_
 iterate 2 refine op1 tok ?_
 refine qA (cnd ?_ ?_)
 ·intro h29
  try simp at h29
  rw [if_pos h29]
  refine rgn [] [[],[],[],[34],[2]] ?_
  iterate 5 refine op1 tok ?_
  exact qA (AW.ret qX)
 intro h29
 try simp at h29
 rw [if_neg h29]
 refine rgn [] [[],[1,4,35]] ?_
 iterate 2 refine op1 tok ?_
 refine qA (cnd ?_ ?_)
 ·intro h35
  try simp at h35
  rw [if_pos h35]
  refine rgn [] [[],[],[],[40],[2]] ?_
  iterate 5 refine op1 tok ?_
  exact qA (AW.ret qX)
 intro h35
 try simp at h35
 rw [if_neg h35]
 refine rgn [] [[],[1,4,41]] ?_
 iterate 2 refine op1 tok ?_
 refine qA (cnd ?_ ?_)
 ·intro h41
  try simp at h41
  rw [if_pos h41]
  refine rgn [.nilp,.str A] [[],[],[],[46],[],[2]] ?_
  iterate 6 refine oq1 tok hi ?_
  exact qA (AW.ret qX)
 intro h41
 try simp at h41
 rw [if_neg h41]
 refine rgn [] [[],[48]] ?_
 iterate 2 refine op1 tok ?_
 refine qA (cnd ?_ ?_)
 ·intro h48
  try simp at h48
  rw [if_pos h48]
  refine rgn [] [[]] ?_
  refine op1 tok ?_
  exact qA (AW.ret qX)
 intro h48
 try simp at h48
 rw [if_neg h48]
 refine AW.skip (rgn [] [[]] ?_)
 refine op1 tok ?_
 exact qA (AW.ret qX)
theorem qNA (pat:List UInt8) (ks:List (List UInt8)) (hn:(zR 80 pat).length≤ks.length+1) (hp:pat.length≤200000) (hk:∀ k≤(zR 80 pat).length,(xZ (zR 80 pat) ks k).length≤60000000) (hk2:∀ k∈ks,k.length≤60000000) (hk3:∀ k∈zR 80 pat,k.length≤60000000):AFn Tryz.prog G 27 [.str pat,.sl 1 (ks.map PD.str)] (.str (yM pat ks)):=by
 refine AFn.introU tok Tryz.func27 (by kernel_rfl) rfl rfl ?_
 simp only [Tryz.f27,qN,List.map_cons,List.map_nil]
 have hF:yM pat ks=xZ (zR 80 pat) ks (zR 80 pat).length:=rfl
 rw [hF]
 have hsp:=qNP (G:=G) pat 80 (by omega)
 have hps:(zR 80 pat).length≠0:=by rw [uU]; omega
 have hpb:(zR 80 pat).length≤200001:=by rw [uU]; have:pat.count 80≤pat.length:=List.count_le_length; omega
 generalize zR 80 pat=ps at *
 have hst:∀ k,xZ ps ks (k+1)=xZ ps ks k++(if k=0 then [] else ks.getD (k-1) [])++ps.getD k []:=fun k=>rfl
 refine rgn [] [[0,1]] ?_
 refine op1 tok ?_
 refine qA (rgn [] [[]] ?_)
 refine op1 tok ?_
 refine qA (AW.seq (rgn [.nilf,.sl 1 (ps.map PD.str),.clo 9 []] [[],[],[],[1,5,9,10,11]] ?_))
 iterate 4 refine op1 tok ?_ (hv:=by first | with_reducible exact True.intro | (first | exact hsp | (simp; exact hsp); done) | omega | simp | (simp +contextual; omega))
 refine qA (AW.block ?_)
 refine AW.renE 5 2 (by simp) (by conv=>lhs; simp) ?_; refine AW.beginBox 2 3 1 5 1 (by simp; exact ⟨rfl,rfl⟩) (by simp) (by simp) (by conv=>lhs; simp) ?_
 refine AW.loop (α:=Nat) (fun k=>k≤ps.length) (fun k=>⟨wL 28 [(1,.p (.sl 1 (ks.map PD.str))),(5,.ptr 2 0),(9,.ms 9),(10,.p (.int .i64 ps.length)),(11,.p (.int .i64 k))],[],[(2,.vars 85 [if k=0 then .p .nilp else .ptr 2 0,.ms 3]),(3,.row 5 1 (qI (xZ ps ks k))),(9,.row 9 1 (ps.map PD.str))],0⟩) (fun k=>ps.length-k) (0) (by omega) ⟨qH (by simp),rfl,by simp,by simp⟩ ?_
 rintro k hkl
 refine rgn [] [[]] ?_
 refine op1 tok ?_
 refine qA (AW.seq (cnd ?_ ?_))
 ·intro h12
  try simp at h12
  obtain ⟨w,hw⟩:∃ w,ps[k]?=some w:=⟨ps[k]'(by omega),by simp [show k<ps.length by omega]⟩
  have hwl:=hk3 w (List.mem_of_getElem? hw)
  have hgd:ps.getD k []=w:=by rw [List.getD_eq_getElem?_getD,hw]; rfl
  have hstk:=hst k
  rw [hgd] at hstk
  have hul:=hk k hkl
  refine AW.skip (AW.seq (AW.block ?_))
  by_cases hs4:k=0
  ·
   subst hs4
   refine rgn [.str w] [[],[],[],[],[1,5,6,7,9,10,11]] ?_
   iterate 5 refine op1 tok ?_ (hv:=by first | with_reducible exact True.intro | ((simp [hw]); done) | omega | simp | (simp +contextual; omega))
   refine qA (AW.seq (rgn [] [[],[1,5,6,7,9,10,11,17]] ?_))
   iterate 2 refine op1 tok ?_
   refine qA (cnd ?_ ?_)
   ·intro h17
    try simp at h17
   intro h17
   try simp at h17
   refine AW.skip ?_
   have hsu:xZ ps ks 1=w:=by rw [hstk]; simp [xZ]
   refine rgz [] [[]] ?_
   refine op1 tok ?_
   refine qD ?_
   refine qB.stepK [1,5,9,10,11] (qJ rfl (qKD [] w (by simp) (by omega)) (by simp)) (by conv=>lhs; simp) rfl ?_
   refine qB.nil ?_
   refine rgz [] [[],[1,5,9,10,11]] ?_
   iterate 2 refine op1 tok ?_
   refine qA ?_
   exact ⟨1,by omega,by omega,qH (by simp [hsu]),rfl,by simp [hsu],by simp [hsu]⟩
  ·
   obtain ⟨j,rfl⟩:∃ j,k=j+1:=⟨k-1,by omega⟩
   refine rgn [.str w] [[],[],[],[],[1,5,6,7,9,10,11]] ?_
   iterate 5 refine op1 tok ?_ (hv:=by first | with_reducible exact True.intro | ((simp [hw]); done) | omega | simp | (simp +contextual; omega))
   refine qA (AW.seq (rgn [] [[],[1,5,6,7,9,10,11,17]] ?_))
   iterate 2 refine op1 tok ?_
   refine qA (cnd ?_ ?_)
   ·intro h17
    try simp at h17
    obtain ⟨y,hy⟩:∃ y,ks[j]?=some y:=⟨ks[j]'(by omega),by simp [show j<ks.length by omega]⟩
    have hyl:=hk2 y (List.mem_of_getElem? hy)
    have hgy:ks.getD j []=y:=by rw [List.getD_eq_getElem?_getD,hy]; rfl
    rw [if_neg (by omega),Nat.add_sub_cancel,hgy] at hstk
    generalize xZ ps ks (j+1)=u at *
    have hj:((j:Nat):Int)+1-1=j:=by omega
    refine rgz [.str y] [[],[],[],[1,5,7,9,10,11,21],[]] ?_
    iterate 5 refine oq1 tok hy ?_ (h:=by intro C; conv=>lhs; simp [hj])
    refine qD ?_
    refine qB.stepK [1,5,7,9,10,11] (qJ rfl (kT u y (by omega) (by omega)) (by simp)) (by conv=>lhs; simp) rfl ?_
    refine qB.nil ?_
    refine rgz [] [[]] ?_
    refine op1 tok ?_
    refine qD ?_
    refine qB.stepK [1,5,9,10,11] (qJ rfl (kT (u++y) w (by simp; omega) (by omega)) (by simp)) (by conv=>lhs; simp) rfl ?_
    refine qB.nil ?_
    refine rgz [] [[],[1,5,9,10,11]] ?_
    iterate 2 refine op1 tok ?_
    refine qA ?_
    exact ⟨j+1+1,by omega,by omega,qH (by simp [hstk]),rfl,by simp [hstk],by simp [hstk]⟩
   intro h17
   try simp at h17
 intro h12
 try simp at h12
 obtain rfl:k=ps.length:=by omega
 have hps2:ps≠[]:=fun h=>hps (by rw [h]; rfl)
 generalize xZ ps ks ps.length=u at *
 refine AW.exit ?_
 simp
 refine AW.seqRegionO [] ?_
 refine qB.stepK [27] (qJ rfl (qJA u) (by simp [hps2])) (by conv=>lhs; simp) rfl ?_
 refine qB.run [[4]] ?_
 refine op1 tok ?_
 exact qA (AW.ret qX)
end Go.Proofs.YtbhhphabggcacaaGreatDoor
