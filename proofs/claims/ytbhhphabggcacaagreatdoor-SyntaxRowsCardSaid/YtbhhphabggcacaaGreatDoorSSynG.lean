import Derived.Test.YtbhhphabggcacaaGreatDoorSSynF
namespace Go.Proofs.YtbhhphabggcacaaGreatDoor
open Sy Go
set_option maxRecDepth 100000
set_option maxHeartbeats 4000000
set_option linter.unusedSimpArgs false
set_option linter.unusedVariables false
variable {G:qM}
theorem qSA (w:List UInt8) (s:PS) (hi:InS 0 1 s):AX Tryz.prog G 122 [.ptr 2 0,.p (.str w)] [(2,.vars 42 (psC (s))),(3,.row 36 8 ((s).nodes.map Nd.enc))] (.p (.int .i64 (qAM w s).1)) [2] [(2,.vars 42 (psC ((qAM w s).2))),(3,.row 36 8 (((qAM w s).2).nodes.map Nd.enc))]:=by
 refine AX.introU tok 900 Tryz.func122 (by kernel_rfl) rfl rfl ?_
 simp only [Tryz.f122,qN,List.map_cons,List.map_nil]
 have hc:=qVF (G:=G) w
 simp only [qAM]
 generalize uA w=c at *
 refine rgn [] [[0,1]] ?_
 refine op1 tok ?_
 refine qA (rgn [] [[],[],[],[0,1,5]] ?_)
 iterate 4 refine op1 tok ?_
 refine qA (AW.seq (rgn [.nilp,.int .i64 c] [[],[0,5,9]] ?_))
 iterate 2 refine oq1 tok hc ?_
 refine qA (AW.block (rgn [] [[],[0,5,9,10]] ?_))
 iterate 2 refine op1 tok ?_
 refine qA (cnd ?_ ?_)
 ·intro h10
  try simp at h10
  rw [if_pos h10]
  have c1:=kS (G:=G) s false
  have i1:=hi.le0 (wJ false s)
  generalize qU false s=s1 at *
  have c2:=yO (G:=G) s1 ⟨18,0,w,⟨false,[],0⟩,[],[]⟩ rfl rfl i1.n
  simp only [List.map_cons,List.map_nil] at c2
  refine rgz [] [[]] ?_
  refine op1 tok ?_
  refine qF ?_
  refine qE.stepK [0,5] (qK rfl c1 (by simp)) (by conv=>lhs; simp) rfl ?_
  refine qE.nil ?_
  refine rgn [] [[],[]] ?_
  iterate 2 refine op1 tok ?_
  refine qF ?_
  refine qE.stepK [30] (qK rfl c2 (by simp)) (by conv=>lhs; simp) rfl ?_
  refine qE.run [[4]] ?_
  refine op1 tok ?_
  refine qA ?_
  exact AW.ret qP
 intro h10
 try simp at h10
 rw [if_neg h10]
 refine rgn [] [[],[0,5,14]] ?_
 iterate 2 refine op1 tok ?_
 refine qA (cnd ?_ ?_)
 ·intro h14
  try simp at h14
  rw [if_pos h14]
  have c1:=kA (G:=G) s [40]
  have l1:=qV 6 [40] s
  have i1:=hi.le0 l1
  generalize zB 6 [40] s=s1 at *
  have c2:=qAV (G:=G) s1 [5]
  have l2:=yQ [5] s1
  have i2:=i1.le0 l2
  generalize zR [5] s1=R at *
  obtain ⟨t2,s2⟩:=R
  simp only [List.map_cons,List.map_nil] at c2 l2 i2 ⊢
  have c3:=kA (G:=G) s2 [41]
  have l3:=qV 6 [41] s2
  have i3:=i2.le0 l3
  generalize zB 6 [41] s2=s3 at *
  have c4:=qRF (G:=G) s3 ⟨18,0,w,⟨false,[],0⟩,[t2.text],[]⟩ rfl i3.n
  simp only [List.map_cons,List.map_nil] at c4
  refine rgn [.str [40]] [[],[]] ?_
  iterate 2 refine op1 tok ?_
  refine qF ?_
  refine qE.freeze 917 (by conv=>lhs; simp) ?_
  refine qE.stepK [0,5] (qK rfl c1 (by simp)) (by conv=>lhs; simp) rfl ?_
  refine qE.nil ?_
  refine rgn [.int .i64 5,.str t2.text] [[],[]] ?_
  iterate 2 refine op1 tok ?_
  refine qF ?_
  refine qE.freeze 920 (by conv=>lhs; simp) ?_
  refine qE.stepK [0,5,21] (qK rfl c2 (by simp)) (by conv=>lhs; simp) rfl ?_
  refine qE.run [[],[],[],[0,5]] ?_
  iterate 4 refine op1 tok ?_
  refine qA ?_
  refine AW.freezeE 923 (by conv=>lhs; simp) ?_
  refine rgz [.str [41]] [[],[]] ?_
  iterate 2 refine op1 tok ?_
  refine qF ?_
  refine qE.freeze 926 (by conv=>lhs; simp) ?_
  refine qE.stepK [0,5] (qK rfl c3 (by simp)) (by conv=>lhs; simp) rfl ?_
  refine qE.nil ?_
  refine rgn [] [[],[]] ?_
  iterate 2 refine op1 tok ?_
  refine qF ?_
  refine qE.stepK [30] (qK rfl c4 (by simp)) (by conv=>lhs; simp) rfl ?_
  refine qE.run [[4]] ?_
  refine op1 tok ?_
  refine qA ?_
  exact AW.ret qP
 intro h14
 try simp at h14
 rw [if_neg h14]
 have c1:=yO (G:=G) s ⟨18,0,w,⟨false,[],0⟩,[],[]⟩ rfl rfl hi.n
 simp only [List.map_cons,List.map_nil] at c1
 refine AW.skip (rgn [] [[],[]] ?_)
 iterate 2 refine op1 tok ?_
 refine qF ?_
 refine qE.stepK [30] (qK rfl c1 (by simp)) (by conv=>lhs; simp) rfl ?_
 refine qE.run [[4]] ?_
 refine op1 tok ?_
 refine qA ?_
 exact AW.ret qP
theorem qLJ (n:Nat) (w:List UInt8) (s:PS) (ih:∀ m,m≤n→SynAll G m) (hi:InS 0 0 s) (hf:20 * s.left.length+1≤n+1) (hw:w≠[]→InS 1 1 s∧20 * s.left.length+17≤n+1):AX Tryz.prog G 96 [.ptr 2 0,.p (.str w)] [(2,.vars 42 (psC (s))),(3,.row 36 8 ((s).nodes.map Nd.enc))] (.p (.int .i64 (wI (n+1) w s).1)) [2] [(2,.vars 42 (psC ((wI (n+1) w s).2))),(3,.row 36 8 (((wI (n+1) w s).2).nodes.map Nd.enc))]:=by
 refine AX.introU tok 900 Tryz.func96 (by kernel_rfl) rfl rfl ?_
 simp only [Tryz.f96,qN,List.map_cons,List.map_nil]
 simp only [wI]
 refine rgn [] [[0,1]] ?_
 refine op1 tok ?_
 refine qA (AW.seq (rgn [] [[0,8]] ?_))
 refine op1 tok ?_
 refine qA (AW.block (rgn [] [[],[0,8,9]] ?_))
 iterate 2 refine op1 tok ?_
 refine qA (cnd ?_ ?_)
 ·intro h9
  try simp at h9
  rw [if_pos h9]
  have c1:=uY (G:=G) s 1 [] hi.n
  refine rgn [] [[]] ?_
  refine op1 tok ?_
  refine qF ?_
  refine qE.stepK [12] (qK rfl c1 (by simp)) (by conv=>lhs; simp) rfl ?_
  refine qE.run [[4]] ?_
  refine op1 tok ?_
  refine qA ?_
  exact AW.ret qP
 intro h9
 try simp at h9
 rw [if_neg h9]
 refine rgn [] [[],[0,8,13]] ?_
 iterate 2 refine op1 tok ?_
 refine qA (cnd ?_ ?_)
 ·intro h13
  try simp at h13
  rw [if_pos h13]
  have c1:=qAV (G:=G) s [4]
  have l1:=yQ [4] s
  have i1:=hi.le0 l1
  generalize zR [4] s=R at *
  obtain ⟨t1,s1⟩:=R
  simp only [List.map_cons,List.map_nil] at c1 l1 i1 ⊢
  have c2:=qEC (G:=G) s1 ⟨decide (t1.num.digits≠[48]),t1.num.digits,t1.num.scale⟩ i1.n
  simp only at c2
  refine rgn [.int .i64 4] [[],[]] ?_
  iterate 2 refine op1 tok ?_
  refine qF ?_
  refine qE.freeze 916 (by conv=>lhs; simp) ?_
  refine qE.stepK [0,17] (qK rfl c1 (by simp)) (by conv=>lhs; simp) rfl ?_
  refine qE.run [[],[],[0,5]] ?_
  iterate 3 refine op1 tok ?_
  refine qA (rgn [] [[],[],[],[],[0,5]] ?_)
  iterate 5 refine op1 tok ?_
  refine qA (rgn [] [[],[]] ?_)
  iterate 2 refine op1 tok ?_
  refine qF ?_
  refine qE.stepK [25] (qK rfl c2 (by simp)) (by conv=>lhs; simp) rfl ?_
  refine qE.run [[4]] ?_
  refine op1 tok ?_
  refine qA ?_
  exact AW.ret qP
 intro h13
 try simp at h13
 rw [if_neg h13]
 refine rgn [] [[],[0,8,26]] ?_
 iterate 2 refine op1 tok ?_
 refine qA (cnd ?_ ?_)
 ·intro h26
  try simp at h26
  rw [if_pos h26]
  obtain ⟨hi2,hf2⟩:=hw (by rw [h26]; simp)
  have c1:=(ih n (by omega)).closed [41] s (hi2.weak 1 0 (by omega) (by omega)) (by omega)
  refine rgn [] [[]] ?_
  refine op1 tok ?_
  refine qF ?_
  refine qE.stepK [29] (qK rfl c1 (by simp)) (by conv=>lhs; simp) rfl ?_
  refine qE.run [[4]] ?_
  refine op1 tok ?_
  refine qA ?_
  exact AW.ret qP
 intro h26
 try simp at h26
 rw [if_neg h26]
 refine rgn [] [[],[0,8,30]] ?_
 iterate 2 refine op1 tok ?_
 refine qA (cnd ?_ ?_)
 ·intro h30
  try simp at h30
  rw [if_pos h30]
  obtain ⟨hi2,hf2⟩:=hw (by rw [h30]; simp)
  have c1:=jS (G:=G) s [[93]]
  have l1:=zM 6 [[93]] s
  have o1:=kQ (k:=6) (l:=[[93]]) (s:=s)
  have i1:=hi2.le0 l1
  generalize qW 6 [[93]] s=R at *
  obtain ⟨⟨w1,b1⟩,s1⟩:=R
  simp only [List.map_cons,List.map_nil] at c1 l1 o1 i1 ⊢
  have e1:=l1.len
  refine AW.seq (rgn [.str [93]] [[],[]] ?_)
  iterate 2 refine op1 tok ?_
  refine qF ?_
  refine qE.freeze 934 (by conv=>lhs; simp) ?_
  refine qE.stepK [0,35] (qK rfl c1 (by simp)) (by conv=>lhs; simp) rfl ?_
  refine qE.run [[],[],[],[0,37],[0,7]] ?_
  iterate 5 refine op1 tok ?_
  refine qA (rgn [] [[0,38]] ?_)
  refine op1 tok ?_
  refine qA (cnd ?_ ?_)
  ·intro h38
   try simp at h38
   rw [if_pos h38]
   have c2:=uY (G:=G) s1 9 [] i1.n
   refine rgn [] [[]] ?_
   refine op1 tok ?_
   refine qF ?_
   refine qE.stepK [40] (qK rfl c2 (by simp)) (by conv=>lhs; simp) rfl ?_
   refine qE.run [[4]] ?_
   refine op1 tok ?_
   refine qA ?_
   exact AW.ret qP
  intro h38
  try simp at h38
  rw [if_neg (by simp [h38])]
  have c2:=(ih n (by omega)).closed [93] s1 (i1.weak 1 0 (by omega) (by omega)) (by omega)
  have l2:=(zC n).closed [93] s1
  have i2:=i1.le 0 1 l2 (by omega) (by omega)
  generalize zI n [93] s1=R at *
  obtain ⟨a2,s2⟩:=R
  simp only at c2 l2 i2 ⊢
  have c3:=jC (G:=G) s2 9 [] [a2] i2.n
  simp only [List.map_cons,List.map_nil] at c3
  refine AW.skip (rgn [.int .i64 a2] [[],[]] ?_)
  iterate 2 refine op1 tok ?_
  refine qF ?_
  refine qE.stepK [41,43] (qK rfl c2 (by simp)) (by conv=>lhs; simp) rfl ?_
  refine qE.run [[]] ?_
  refine op1 tok ?_
  refine qF ?_
  refine qE.freeze 944 (by conv=>lhs; simp) ?_
  refine qE.stepK [45] (qK rfl c3 (by simp)) (by conv=>lhs; simp) rfl ?_
  refine qE.run [[4]] ?_
  refine op1 tok ?_
  refine qA ?_
  exact AW.ret qP
 intro h30
 try simp at h30
 rw [if_neg h30]
 refine rgn [] [[],[0,46]] ?_
 iterate 2 refine op1 tok ?_
 refine qA (cnd ?_ ?_)
 ·intro h46
  try simp at h46
  rw [if_pos h46]
  obtain ⟨hi2,hf2⟩:=hw (by rw [h46]; simp)
  have c1:=(ih n (by omega)).object s hi2 (by omega)
  refine rgn [] [[]] ?_
  refine op1 tok ?_
  refine qF ?_
  refine qE.stepK [49] (qK rfl c1 (by simp)) (by conv=>lhs; simp) rfl ?_
  refine qE.run [[4]] ?_
  refine op1 tok ?_
  refine qA ?_
  exact AW.ret qP
 intro h46
 try simp at h46
 rw [if_neg h46]
 have c1:=kS (G:=G) s false
 refine AW.skip (rgn [] [[]] ?_)
 refine op1 tok ?_
 refine qF ?_
 refine qE.stepK [] (qK rfl c1 (by simp)) (by conv=>lhs; simp) rfl ?_
 refine qE.nil ?_
 refine rgn [] [[]] ?_
 refine op1 tok ?_
 refine qA ?_
 exact AW.ret qP
theorem qOD (n:Nat) (w:List UInt8) (s:PS) (ih:∀ m,m≤n→SynAll G m) (hi:InS 2 4 s) (hf:20 * s.left.length+17≤n+1):AX Tryz.prog G 94 [.ptr 2 0,.p (.str w)] [(2,.vars 42 (psC (s))),(3,.row 36 8 ((s).nodes.map Nd.enc))] (.p (.int .i64 (yW (n+1) w s).1)) [2] [(2,.vars 42 (psC ((yW (n+1) w s).2))),(3,.row 36 8 (((yW (n+1) w s).2).nodes.map Nd.enc))]:=by
 refine AX.introU tok 900 Tryz.func94 (by kernel_rfl) rfl rfl ?_
 simp only [Tryz.f94,qN,List.map_cons,List.map_nil]
 simp only [yW]
 refine rgn [] [[0,1]] ?_
 refine op1 tok ?_
 refine qA (AW.seq (rgn [] [[]] ?_))
 refine op1 tok ?_
 refine qA (AW.block (rgn [] [[],[0,1,5,6]] ?_))
 iterate 2 refine op1 tok ?_
 refine qA (cnd ?_ ?_)
 ·intro h6
  try simp at h6
  rw [if_pos h6]
  have c1:=yO (G:=G) s ⟨2,1,[],⟨false,[],0⟩,[],[]⟩ rfl rfl hi.n
  simp only [List.map_cons,List.map_nil] at c1
  refine rgn [] [[],[]] ?_
  iterate 2 refine op1 tok ?_
  refine qF ?_
  refine qE.stepK [10] (qK rfl c1 (by simp)) (by conv=>lhs; simp) rfl ?_
  refine qE.run [[4]] ?_
  refine op1 tok ?_
  refine qA ?_
  exact AW.ret qP
 intro h6
 try simp at h6
 rw [if_neg h6]
 refine rgn [] [[],[0,1,5,11]] ?_
 iterate 2 refine op1 tok ?_
 refine qA (cnd ?_ ?_)
 ·intro h11
  try simp at h11
  rw [if_pos h11]
  have c1:=yO (G:=G) s ⟨2,3,[],⟨false,[],0⟩,[],[]⟩ rfl rfl hi.n
  simp only [List.map_cons,List.map_nil] at c1
  refine rgn [] [[],[]] ?_
  iterate 2 refine op1 tok ?_
  refine qF ?_
  refine qE.stepK [15] (qK rfl c1 (by simp)) (by conv=>lhs; simp) rfl ?_
  refine qE.run [[4]] ?_
  refine op1 tok ?_
  refine qA ?_
  exact AW.ret qP
 intro h11
 try simp at h11
 rw [if_neg h11]
 refine rgn [] [[],[0,1,5,16]] ?_
 iterate 2 refine op1 tok ?_
 refine qA (cnd ?_ ?_)
 ·intro h16
  try simp at h16
  rw [if_pos h16]
  have c1:=yO (G:=G) s ⟨2,2,[],⟨false,[],0⟩,[],[]⟩ rfl rfl hi.n
  simp only [List.map_cons,List.map_nil] at c1
  refine rgn [] [[],[]] ?_
  iterate 2 refine op1 tok ?_
  refine qF ?_
  refine qE.stepK [20] (qK rfl c1 (by simp)) (by conv=>lhs; simp) rfl ?_
  refine qE.run [[4]] ?_
  refine op1 tok ?_
  refine qA ?_
  exact AW.ret qP
 intro h16
 try simp at h16
 rw [if_neg h16]
 refine rgn [] [[],[0,1,5,21]] ?_
 iterate 2 refine op1 tok ?_
 refine qA (cnd ?_ ?_)
 ·intro h21
  try simp at h21
  rw [if_pos h21]
  have c1:=uY (G:=G) s 19 [] hi.n
  refine rgn [] [[]] ?_
  refine op1 tok ?_
  refine qF ?_
  refine qE.stepK [24] (qK rfl c1 (by simp)) (by conv=>lhs; simp) rfl ?_
  refine qE.run [[4]] ?_
  refine op1 tok ?_
  refine qA ?_
  exact AW.ret qP
 intro h21
 try simp at h21
 rw [if_neg h21]
 refine rgn [] [[],[0,1,5,25]] ?_
 iterate 2 refine op1 tok ?_
 refine qA (cnd ?_ ?_)
 ·intro h25
  try simp at h25
  rw [if_pos h25]
  have c1:=(ih n (by omega)).choice s (hi.weak 1 1 (by omega) (by omega)) (by omega)
  refine rgn [] [[]] ?_
  refine op1 tok ?_
  refine qF ?_
  refine qE.stepK [28] (qK rfl c1 (by simp)) (by conv=>lhs; simp) rfl ?_
  refine qE.run [[4]] ?_
  refine op1 tok ?_
  refine qA ?_
  exact AW.ret qP
 intro h25
 try simp at h25
 rw [if_neg h25]
 refine rgn [] [[],[0,1,5,29]] ?_
 iterate 2 refine op1 tok ?_
 refine qA (cnd ?_ ?_)
 ·intro h29
  try simp at h29
  rw [if_pos h29]
  have c1:=(ih n (by omega)).post s (hi.weak 0 0 (by omega) (by omega)) (by omega)
  have l1:=(zC n).post s
  have i1:=hi.le0 l1
  generalize yS n s=R at *
  obtain ⟨a1,s1⟩:=R
  simp only at c1 l1 i1 ⊢
  have c2:=jC (G:=G) s1 13 [] [a1] i1.n
  simp only [List.map_cons,List.map_nil] at c2
  refine rgn [.int .i64 a1] [[],[]] ?_
  iterate 2 refine op1 tok ?_
  refine qF ?_
  refine qE.stepK [31,33] (qK rfl c1 (by simp)) (by conv=>lhs; simp) rfl ?_
  refine qE.run [[]] ?_
  refine op1 tok ?_
  refine qF ?_
  refine qE.freeze 934 (by conv=>lhs; simp) ?_
  refine qE.stepK [35] (qK rfl c2 (by simp)) (by conv=>lhs; simp) rfl ?_
  refine qE.run [[4]] ?_
  refine op1 tok ?_
  refine qA ?_
  exact AW.ret qP
 intro h29
 try simp at h29
 rw [if_neg h29]
 refine rgn [] [[],[0,1,5,36]] ?_
 iterate 2 refine op1 tok ?_
 refine qA (cnd ?_ ?_)
 ·intro h36
  try simp at h36
  rw [if_pos h36]
  have c1:=(ih n (by omega)).inside s (hi.weak 1 0 (by omega) (by omega)) (by omega)
  have l1:=(zC n).inside s
  have i1:=hi.le 0 1 l1 (by omega) (by omega)
  generalize zE n s=R at *
  obtain ⟨a1,s1⟩:=R
  simp only at c1 l1 i1 ⊢
  have c2:=jC (G:=G) s1 14 [] [a1] i1.n
  simp only [List.map_cons,List.map_nil] at c2
  refine rgn [.int .i64 a1] [[],[]] ?_
  iterate 2 refine op1 tok ?_
  refine qF ?_
  refine qE.stepK [38,40] (qK rfl c1 (by simp)) (by conv=>lhs; simp) rfl ?_
  refine qE.run [[]] ?_
  refine op1 tok ?_
  refine qF ?_
  refine qE.freeze 941 (by conv=>lhs; simp) ?_
  refine qE.stepK [42] (qK rfl c2 (by simp)) (by conv=>lhs; simp) rfl ?_
  refine qE.run [[4]] ?_
  refine op1 tok ?_
  refine qA ?_
  exact AW.ret qP
 intro h36
 try simp at h36
 rw [if_neg h36]
 refine rgn [] [[],[0,1,5,43]] ?_
 iterate 2 refine op1 tok ?_
 refine qA (cnd ?_ ?_)
 ·intro h43
  try simp at h43
  rw [if_pos h43]
  have c1:=(ih n (by omega)).inside s (hi.weak 1 0 (by omega) (by omega)) (by omega)
  have l1:=(zC n).inside s
  have i1:=hi.le 0 1 l1 (by omega) (by omega)
  generalize zE n s=R at *
  obtain ⟨a1,s1⟩:=R
  simp only at c1 l1 i1 ⊢
  have c2:=jC (G:=G) s1 20 [] [a1] i1.n
  simp only [List.map_cons,List.map_nil] at c2
  refine rgn [.int .i64 a1] [[],[]] ?_
  iterate 2 refine op1 tok ?_
  refine qF ?_
  refine qE.stepK [45,47] (qK rfl c1 (by simp)) (by conv=>lhs; simp) rfl ?_
  refine qE.run [[]] ?_
  refine op1 tok ?_
  refine qF ?_
  refine qE.freeze 948 (by conv=>lhs; simp) ?_
  refine qE.stepK [49] (qK rfl c2 (by simp)) (by conv=>lhs; simp) rfl ?_
  refine qE.run [[4]] ?_
  refine op1 tok ?_
  refine qA ?_
  exact AW.ret qP
 intro h43
 try simp at h43
 rw [if_neg h43]
 refine rgn [] [[],[0,1,5,50]] ?_
 iterate 2 refine op1 tok ?_
 refine qA (cnd ?_ ?_)
 ·intro h50
  try simp at h50
  rw [if_pos h50]
  have c1:=(ih n (by omega)).reduce s (hi.weak 2 1 (by omega) (by omega)) (by omega)
  refine rgn [] [[]] ?_
  refine op1 tok ?_
  refine qF ?_
  refine qE.stepK [53] (qK rfl c1 (by simp)) (by conv=>lhs; simp) rfl ?_
  refine qE.run [[4]] ?_
  refine op1 tok ?_
  refine qA ?_
  exact AW.ret qP
 intro h50
 try simp at h50
 rw [if_neg h50]
 refine rgn [] [[],[0,1,5,54]] ?_
 iterate 2 refine op1 tok ?_
 refine qA (cnd ?_ ?_)
 ·intro h54
  try simp at h54
  rw [if_pos h54]
  have c1:=(ih n (by omega)).limit s (hi.weak 1 1 (by omega) (by omega)) (by omega)
  refine rgn [] [[]] ?_
  refine op1 tok ?_
  refine qF ?_
  refine qE.stepK [57] (qK rfl c1 (by simp)) (by conv=>lhs; simp) rfl ?_
  refine qE.run [[4]] ?_
  refine op1 tok ?_
  refine qA ?_
  exact AW.ret qP
 intro h54
 try simp at h54
 rw [if_neg h54]
 refine rgn [] [[],[0,1,5,58]] ?_
 iterate 2 refine op1 tok ?_
 refine qA (cnd ?_ ?_)
 ·intro h58
  try simp at h58
  rw [if_pos h58]
  have c1:=(ih n (by omega)).inside s (hi.weak 1 0 (by omega) (by omega)) (by omega)
  have l1:=(zC n).inside s
  have i1:=hi.le 0 1 l1 (by omega) (by omega)
  generalize zE n s=R at *
  obtain ⟨a1,s1⟩:=R
  simp only at c1 l1 i1 ⊢
  have c2:=vG (G:=G) s1 ⟨17,1,[],⟨false,[],0⟩,[],[a1]⟩ rfl i1.n
  simp only [List.map_cons,List.map_nil] at c2
  refine rgn [.int .i64 a1] [[],[]] ?_
  iterate 2 refine op1 tok ?_
  refine qF ?_
  refine qE.stepK [60,62] (qK rfl c1 (by simp)) (by conv=>lhs; simp) rfl ?_
  refine qE.run [[]] ?_
  refine op1 tok ?_
  refine qF ?_
  refine qE.freeze 963 (by conv=>lhs; simp) ?_
  refine qE.run [[]] ?_
  refine op1 tok ?_
  refine qF ?_
  refine qE.stepK [65] (qK rfl c2 (by simp)) (by conv=>lhs; simp) rfl ?_
  refine qE.run [[4]] ?_
  refine op1 tok ?_
  refine qA ?_
  exact AW.ret qP
 intro h58
 try simp at h58
 rw [if_neg h58]
 refine rgn [] [[],[0,1,5,66]] ?_
 iterate 2 refine op1 tok ?_
 refine qA (cnd ?_ ?_)
 ·intro h66
  try simp at h66
  rw [if_pos h66]
  have c1:=(ih n (by omega)).maps s (hi.weak 1 4 (by omega) (by omega)) (by omega)
  refine rgn [] [[]] ?_
  refine op1 tok ?_
  refine qF ?_
  refine qE.stepK [69] (qK rfl c1 (by simp)) (by conv=>lhs; simp) rfl ?_
  refine qE.run [[4]] ?_
  refine op1 tok ?_
  refine qA ?_
  exact AW.ret qP
 intro h66
 try simp at h66
 rw [if_neg h66]
 refine rgn [] [[],[0,1,70]] ?_
 iterate 2 refine op1 tok ?_
 refine qA (cnd ?_ ?_)
 ·intro h70
  try simp at h70
  rw [if_pos h70]
  have c1:=(ih n (by omega)).selects s (hi.weak 1 3 (by omega) (by omega)) (by omega)
  refine rgn [] [[]] ?_
  refine op1 tok ?_
  refine qF ?_
  refine qE.stepK [73] (qK rfl c1 (by simp)) (by conv=>lhs; simp) rfl ?_
  refine qE.run [[4]] ?_
  refine op1 tok ?_
  refine qA ?_
  exact AW.ret qP
 intro h70
 try simp at h70
 rw [if_neg h70]
 have c1:=qSA (G:=G) w s (hi.weak 0 1 (by omega) (by omega))
 refine AW.skip (rgn [] [[],[]] ?_)
 iterate 2 refine op1 tok ?_
 refine qF ?_
 refine qE.stepK [76] (qK rfl c1 (by simp)) (by conv=>lhs; simp) rfl ?_
 refine qE.run [[4]] ?_
 refine op1 tok ?_
 refine qA ?_
 exact AW.ret qP
end Go.Proofs.YtbhhphabggcacaaGreatDoor
