import Derived.Test.YtbhhphabggcacaaGreatDoorSSynI
namespace Go.Proofs.YtbhhphabggcacaaGreatDoor
open Sy Go
set_option maxRecDepth 100000
set_option maxHeartbeats 4000000
set_option linter.unusedSimpArgs false
set_option linter.unusedVariables false
variable {G:qM}
theorem qSG {a:Int} (h:0≤a∧a≤9223372036854775807):IntKind.i64.wrap (-a) = -a:=by
 simp [IntKind.wrap,IntKind.bits,IntKind.signed]
 split <;> omega
theorem qRC (n:Nat) (s:PS) (hE:PE G) (ih:∀ m,m≤n→SynAll G m) (hi:InS 0 0 s) (hf:20 * s.left.length+3≤n+1):AX Tryz.prog G 39 [.ptr 2 0] [(2,.vars 42 (psC (s))),(3,.row 36 8 ((s).nodes.map Nd.enc))] (.p (.int .i64 (yS (n+1) s).1)) [2] [(2,.vars 42 (psC ((yS (n+1) s).2))),(3,.row 36 8 (((yS (n+1) s).2).nodes.map Nd.enc))]:=by
 refine AX.introU tok 900 Tryz.func39 (by kernel_rfl) rfl rfl ?_
 simp only [Tryz.f39,qN,List.map_cons,List.map_nil]
 simp only [yS]
 have c1:=(ih n (by omega)).term s hi (by omega)
 have l1:=(zC n).term s
 have i1:=hi.le0 l1
 generalize jB n s=R at *
 obtain ⟨a1,s1⟩:=R
 simp only at c1 l1 i1 ⊢
 have e1:=l1.len
 obtain ⟨X,hX⟩:∃ X,X=yU n a1 s1:=⟨_,rfl⟩
 rw [← hX]
 refine rgn [] [[0]] ?_
 refine op1 tok ?_
 refine qA (rgn [] [[]] ?_)
 refine op1 tok ?_
 refine qF ?_
 refine qE.stepK [0,14] (qK rfl c1 (by simp)) (by conv=>lhs; simp) rfl ?_
 refine qE.run [[0,3]] ?_
 refine op1 tok ?_
 refine qA (AW.seq (AW.block ?_))
 refine AW.loop (α:=Nat × Int × PS) (fun a=>a.1≤n∧InS 0 0 a.2.2∧20 * a.2.2.left.length+1≤a.1∧X=yU a.1 a.2.1 a.2.2) (fun a=>⟨zO 72 [(0,.ptr 2 0),(3,.p (.int .i64 a.2.1))],[2],[(2,.vars 42 (psC (a.2.2))),(3,.row 36 8 ((a.2.2).nodes.map Nd.enc))],900⟩) (fun a=>a.1) ((n,a1,s1)) ⟨Nat.le_refl n,i1,by simp only []; omega,hX⟩ ⟨qD (by simp),rfl,by simp,by simp⟩ ?_
 rintro ⟨m,a,s2⟩ ⟨hm,i2,hm2,hX2⟩
 simp only at hm i2 hm2 hX2
 refine AW.seq (rgn [] [[],[],[],[],[0,3,19]] ?_)
 iterate 5 refine op1 tok ?_
 refine qA (cnd ?_ ?_)
 ·intro h19
  try simp at h19
  obtain ⟨m,rfl⟩:∃ m',m=m'+1:=⟨m-1,by omega⟩
  simp only [yU] at hX2
  rw [if_neg (by simp [h19])] at hX2
  have c3:=qMB (G:=G) s2 72 (fun t=>decide (t.kind=3)) (fun t=>qTF t)
  have l3:=qAU (fun t=>decide (t.kind=3)) s2
  have o3:=vT (f:=fun t=>decide (t.kind=3)) (s:=s2)
  generalize qZ (fun t=>decide (t.kind=3)) s2=R at *
  obtain ⟨⟨t3,b3⟩,s3⟩:=R
  simp only at c3 l3 o3 hX2
  have i3:=i2.le0 l3
  have e3:=l3.len
  refine AW.skip (AW.block (AW.seq (rgn [] [[]] ?_)))
  refine op1 tok ?_
  refine qF ?_
  refine qE.stepK [0,3,22] (qK rfl c3 (by simp)) (by conv=>lhs; simp) rfl ?_
  refine qE.run [[],[],[],[],[],[0,3,4,5]] ?_
  iterate 6 refine op1 tok ?_
  refine qA (rgn [] [[0,3,4,25]] ?_)
  refine op1 tok ?_
  refine qA (cnd ?_ ?_)
  ·intro h25
   try simp at h25
   rw [if_pos h25] at hX2
   obtain ⟨q1,q2,q3, -⟩:=o3 h25
   have j3:=i2.eat l3 ⟨q1,q2,q3⟩
   have c5:=jC (G:=G) s3 4 t3.text [a] j3.n
   have l5:=zY 4 t3.text [a] s3
   have i5:=j3.le 0 0 l5 (by omega) (by omega)
   have e5:=l5.len
   generalize opP 4 t3.text [a] s3=R at *
   obtain ⟨a5,s5⟩:=R
   simp only [List.map_cons,List.map_nil] at c5 l5 i5 e5 hX2
   refine rgn [.int .i64 a] [[],[],[],[],[0,26,28,30]] ?_
   iterate 5 refine op1 tok ?_
   refine qF ?_
   refine qE.freeze 930 (by conv=>lhs; simp) ?_
   refine qE.stepK [0,31] (qK rfl c5 (by simp)) (by conv=>lhs; simp) rfl ?_
   refine qE.run [[0,3]] ?_
   refine op1 tok ?_
   refine qA ?_
   refine AW.exit ?_
   simp [-Prod.exists]
   exact ⟨(m,a5,s5),⟨by simp only []; omega,i5,by simp only []; omega,hX2⟩,by simp only []; omega,qD (by simp),rfl,by simp,by simp⟩
  intro h25
  try simp at h25
  rw [if_neg (by simp [h25])] at hX2
  have c6:=jS (G:=G) s3 [[91]]
  have l6:=zM 6 [[91]] s3
  have o6:=kQ (k:=6) (l:=[[91]]) (s:=s3)
  generalize qW 6 [[91]] s3=R at *
  obtain ⟨⟨w6,b6⟩,s6⟩:=R
  simp only [List.map_cons,List.map_nil] at c6 l6 o6 hX2
  refine AW.skip (AW.seq (rgn [.str [91]] [[],[]] ?_))
  iterate 2 refine op1 tok ?_
  refine qF ?_
  refine qE.freeze 934 (by conv=>lhs; simp) ?_
  refine qE.stepK [0,3,35] (qK rfl c6 (by simp)) (by conv=>lhs; simp) rfl ?_
  refine qE.run [[],[],[],[0,3,37],[0,3,7]] ?_
  iterate 5 refine op1 tok ?_
  refine qA (rgn [] [[],[0,3,39]] ?_)
  iterate 2 refine op1 tok ?_
  refine qA (cnd ?_ ?_)
  ·intro h39
   try simp at h39
   rw [if_pos (by simpa using h39)] at hX2
   subst hX2
   refine AW.exit ?_
   simp
   refine rgn [] [[],[2]] ?_
   iterate 2 refine op1 tok ?_
   refine qA ?_
   exact AW.ret qP
  intro h39
  try simp at h39
  rw [if_neg (by simp [h39])] at hX2
  obtain ⟨q1,q2,q3, -⟩:=o6 (by simpa using h39)
  have j6:=i3.eat l6 ⟨q1,q2,q3⟩
  have c8:=jS (G:=G) s6 [[93]]
  have l8:=zM 6 [[93]] s6
  generalize qW 6 [[93]] s6=R at *
  obtain ⟨⟨w8,b8⟩,s8⟩:=R
  simp only [List.map_cons,List.map_nil] at c8 l8 hX2
  have j8:=j6.le0 l8
  have e8:=l8.len
  refine AW.skip (AW.seq (rgn [.str [93]] [[],[]] ?_))
  iterate 2 refine op1 tok ?_
  refine qF ?_
  refine qE.freeze 942 (by conv=>lhs; simp) ?_
  refine qE.stepK [0,3,43] (qK rfl c8 (by simp)) (by conv=>lhs; simp) rfl ?_
  refine qE.run [[],[],[],[0,3,45],[0,3,9]] ?_
  iterate 5 refine op1 tok ?_
  refine qA (rgn [] [[0,3,46]] ?_)
  refine op1 tok ?_
  refine qA (cnd ?_ ?_)
  ·intro h46
   try simp at h46
   rw [if_pos h46] at hX2
   have c5:=jC (G:=G) s8 6 [] [a] j8.n
   have l5:=zY 6 [] [a] s8
   have i5:=j8.le 0 0 l5 (by omega) (by omega)
   have e5:=l5.len
   generalize opP 6 [] [a] s8=R at *
   obtain ⟨a5,s5⟩:=R
   simp only [List.map_cons,List.map_nil] at c5 l5 i5 e5 hX2
   refine rgn [.int .i64 a] [[],[],[]] ?_
   iterate 3 refine op1 tok ?_
   refine qF ?_
   refine qE.freeze 949 (by conv=>lhs; simp) ?_
   refine qE.stepK [0,50] (qK rfl c5 (by simp)) (by conv=>lhs; simp) rfl ?_
   refine qE.run [[0,3]] ?_
   refine op1 tok ?_
   refine qA ?_
   refine AW.exit ?_
   simp [-Prod.exists]
   exact ⟨(m,a5,s5),⟨by simp only []; omega,i5,by simp only []; omega,hX2⟩,by simp only []; omega,qD (by simp),rfl,by simp,by simp⟩
  intro h46
  try simp at h46
  rw [if_neg (by simp [h46])] at hX2
  have c11:=jS (G:=G) s8 [[45]]
  have l11:=zM 6 [[45]] s8
  generalize qW 6 [[45]] s8=R at *
  obtain ⟨⟨w11,b11⟩,s11⟩:=R
  simp only [List.map_cons,List.map_nil] at c11 l11 hX2
  have j11:=j8.le0 l11
  have e11:=l11.len
  have c12:=qFE (G:=G) hE s11 j11.ok
  have l12:=vC s11
  have v12:=qSL j11.ok
  generalize kP s11=R at *
  obtain ⟨a12,s12⟩:=R
  simp only at c12 l12 v12 hX2
  have j12:=j11.le0 l12
  have e12:=l12.len
  have c15:=kA (G:=G) s12 [93]
  have l15:=qV 6 [93] s12
  generalize zB 6 [93] s12=s15 at *
  have j15:=j12.le0 l15
  have e15:=l15.len
  refine AW.skip (rgn [.str [45]] [[],[]] ?_)
  iterate 2 refine op1 tok ?_
  refine qF ?_
  refine qE.freeze 953 (by conv=>lhs; simp) ?_
  refine qE.stepK [0,3,54] (qK rfl c11 (by simp)) (by conv=>lhs; simp) rfl ?_
  refine qE.run [[],[],[],[0,3,56],[0,3,11]] ?_
  iterate 5 refine op1 tok ?_
  refine qA (rgn [] [[]] ?_)
  refine op1 tok ?_
  refine qF ?_
  refine qE.stepK [0,3,11,58] (qK rfl c12 (by simp)) (by conv=>lhs; simp) rfl ?_
  refine qE.run [[0,3,11,12]] ?_
  refine op1 tok ?_
  refine qA (AW.seq (rgn [] [[0,3,12,59]] ?_))
  refine op1 tok ?_
  refine qA (cnd ?_ ?_)
  ·intro h59
   try simp at h59
   rw [if_pos h59] at hX2
   have hneg:IntKind.i64.wrap (-a12) = -a12:=qSG v12
   have c5:=vG (G:=G) s15 ⟨5, -a12,[],⟨false,[],0⟩,[],[a]⟩ rfl j15.n
   have l5:=yL ⟨5, -a12,[],⟨false,[],0⟩,[],[a]⟩ s15
   have i5:=j15.le 0 0 l5 (by omega) (by omega)
   have e5:=l5.len
   generalize wC ⟨5, -a12,[],⟨false,[],0⟩,[],[a]⟩ s15=R at *
   obtain ⟨a5,s5⟩:=R
   simp only [List.map_cons,List.map_nil] at c5 l5 i5 e5 hX2
   refine rgz [] [[],[],[0,3,12]] ?_
   iterate 3 refine op1 tok ?_ (h:=by intro C; conv=>lhs; simp [hneg])
   refine qA (rgn [.str [93]] [[],[]] ?_)
   iterate 2 refine op1 tok ?_
   refine qF ?_
   refine qE.freeze 963 (by conv=>lhs; simp) ?_
   refine qE.stepK [0,3,12] (qK rfl c15 (by simp)) (by conv=>lhs; simp) rfl ?_
   refine qE.nil ?_
   refine rgz [.int .i64 a] [[],[],[],[]] ?_
   iterate 4 refine op1 tok ?_
   refine qF ?_
   refine qE.freeze 968 (by conv=>lhs; simp) ?_
   refine qE.run [[0,65,69]] ?_
   refine op1 tok ?_
   refine qF ?_
   refine qE.stepK [0,70] (qK rfl c5 (by simp)) (by conv=>lhs; simp) rfl ?_
   refine qE.run [[0,3]] ?_
   refine op1 tok ?_
   refine qA ?_
   exact ⟨(m,a5,s5),⟨by simp only []; omega,i5,by simp only []; omega,hX2⟩,by simp only []; omega,qD (by simp),rfl,by simp,by simp⟩
  intro h59
  try simp at h59
  rw [if_neg (by simp [h59])] at hX2
  have c5:=vG (G:=G) s15 ⟨5,a12,[],⟨false,[],0⟩,[],[a]⟩ rfl j15.n
  have l5:=yL ⟨5,a12,[],⟨false,[],0⟩,[],[a]⟩ s15
  have i5:=j15.le 0 0 l5 (by omega) (by omega)
  have e5:=l5.len
  generalize wC ⟨5,a12,[],⟨false,[],0⟩,[],[a]⟩ s15=R at *
  obtain ⟨a5,s5⟩:=R
  simp only [List.map_cons,List.map_nil] at c5 l5 i5 e5 hX2
  refine AW.skip (rgn [.str [93]] [[],[]] ?_)
  iterate 2 refine op1 tok ?_
  refine qF ?_
  refine qE.freeze 963 (by conv=>lhs; simp) ?_
  refine qE.stepK [0,3,12] (qK rfl c15 (by simp)) (by conv=>lhs; simp) rfl ?_
  refine qE.nil ?_
  refine rgz [.int .i64 a] [[],[],[],[]] ?_
  iterate 4 refine op1 tok ?_
  refine qF ?_
  refine qE.freeze 968 (by conv=>lhs; simp) ?_
  refine qE.run [[0,65,69]] ?_
  refine op1 tok ?_
  refine qF ?_
  refine qE.stepK [0,70] (qK rfl c5 (by simp)) (by conv=>lhs; simp) rfl ?_
  refine qE.run [[0,3]] ?_
  refine op1 tok ?_
  refine qA ?_
  exact ⟨(m,a5,s5),⟨by simp only []; omega,i5,by simp only []; omega,hX2⟩,by simp only []; omega,qD (by simp),rfl,by simp,by simp⟩
 intro h19
 try simp at h19
 obtain ⟨m,rfl⟩:∃ m',m=m'+1:=⟨m-1,by omega⟩
 simp only [yU] at hX2
 rw [if_pos (by simpa using h19)] at hX2
 subst hX2
 refine AW.exit ?_
 simp
 refine rgn [] [[],[2]] ?_
 iterate 2 refine op1 tok ?_
 refine qA ?_
 exact AW.ret qP
end Go.Proofs.YtbhhphabggcacaaGreatDoor
