import Derived.Test.YtbhhphabggcacaaGreatDoorSSynJ
namespace Go.Proofs.YtbhhphabggcacaaGreatDoor
open Sy Go
set_option maxRecDepth 100000
set_option maxHeartbeats 4000000
set_option linter.unusedSimpArgs false
set_option linter.unusedVariables false
variable {G:qM}
theorem qWX {l:List Int} {s:PS} (h:(zR l s).2.bad=false):(zR l s).2.left.length+1=s.left.length∧(zR l s).2.deep=s.deep∧(zR l s).2.nodes=s.nodes:=by
 unfold zR at h ⊢
 simp only [qU,Bool.or_eq_false_iff,Bool.not_eq_false'] at h
 have:=vT h.2
 exact ⟨this.1,this.2.1,this.2.2.1⟩
theorem Le.nb {c d:Nat} {s s':PS} (g:Le c d s s') (h:s'.bad=false):s.bad=false:=by
 cases hb:s.bad with
 | false=>rfl
 | true=>rw [g.b0 hb] at h; cases h
theorem qLY (n:Nat) (s:PS) (ih:∀ m,m≤n→SynAll G m) (hi:InS 1 1 s) (hf:20 * s.left.length+3≤n+1):AX Tryz.prog G 124 [.ptr 2 0] [(2,.vars 42 (psC (s))),(3,.row 36 8 ((s).nodes.map Nd.enc))] (.p (.int .i64 (wQ (n+1) s).1)) [2] [(2,.vars 42 (psC ((wQ (n+1) s).2))),(3,.row 36 8 (((wQ (n+1) s).2).nodes.map Nd.enc))]:=by
 refine AX.introU tok 900 Tryz.func124 (by kernel_rfl) rfl rfl ?_
 simp only [Tryz.f124,qN,List.map_cons,List.map_nil]
 simp only [wQ]
 have c1:=jS (G:=G) s [[125]]
 have l1:=zM 6 [[125]] s
 have o1:=kQ (k:=6) (l:=[[125]]) (s:=s)
 have i1:=hi.le0 l1
 generalize qW 6 [[125]] s=R at *
 obtain ⟨⟨w1,b1⟩,s1⟩:=R
 simp only [List.map_cons,List.map_nil] at c1 l1 o1 i1 ⊢
 have e1:=l1.len
 refine rgn [] [[0]] ?_
 refine op1 tok ?_
 refine qA (rgn [] [[],[],[0,3]] ?_)
 iterate 3 refine op1 tok ?_
 refine qA (AW.seq (rgn [.str [125]] [[],[]] ?_))
 iterate 2 refine op1 tok ?_
 refine qF ?_
 refine qE.freeze 912 (by conv=>lhs; simp) ?_
 refine qE.stepK [0,3,13] (qK rfl c1 (by simp)) (by conv=>lhs; simp) rfl ?_
 refine qE.run [[],[],[],[0,3,15],[0,3,5]] ?_
 iterate 5 refine op1 tok ?_
 refine qA (rgn [] [[0,3,16]] ?_)
 refine op1 tok ?_
 refine qA (cnd ?_ ?_)
 ·intro h16
  try simp at h16
  rw [if_pos h16]
  have c2:=yO (G:=G) s1 ⟨10,0,[],⟨false,[],0⟩,[],[]⟩ rfl rfl i1.n
  simp only [List.map_cons,List.map_nil] at c2
  refine rgn [] [[],[]] ?_
  iterate 2 refine op1 tok ?_
  refine qF ?_
  refine qE.stepK [19] (qK rfl c2 (by simp)) (by conv=>lhs; simp) rfl ?_
  refine qE.run [[2]] ?_
  refine op1 tok ?_
  refine qA ?_
  exact AW.ret qP
 intro h16
 try simp at h16
 rw [if_neg (by simp [h16])]
 have iu:=i1.up
 have b1:=i1.lo
 have b2:=i1.hi
 have hm:=kS (G:=G) { s1 with deep:=s1.deep+1 } (decide (s1.deep+1≤60))
 have hU:upP 1 s1=qU (decide (s1.deep+1≤60)) { s1 with deep:=s1.deep+1 }:=rfl
 rw [← hU] at hm
 have hul:(upP 1 s1).left=s1.left:=rfl
 generalize upP 1 s1=u at *
 obtain ⟨X,hX⟩:∃ X,X=yV n [] [] u:=⟨_,rfl⟩
 rw [← hX]
 refine AW.skip (rgn [] [[],[],[],[],[],[0,3,24,25],[],[0,3]] ?_)
 iterate 8 refine op1 tok ?_
 refine qA (rgn [] [[],[],[],[],[],[0,3,27,32]] ?_)
 iterate 6 refine op1 tok ?_
 refine qF ?_
 refine qE.stepK [0,3] (qK rfl hm (by simp)) (by conv=>lhs; simp) rfl ?_
 refine qE.nil ?_
 refine AW.seq (AW.block ?_)
 refine AW.pinsTo [2] (by simp) rfl ?_; refine AW.beginBox 903 951 6 9 1 (by simp; exact ⟨rfl,rfl⟩) (by simp) (by simp) (by conv=>lhs; simp) ?_; refine AW.beginBox 903 952 7 3 1 (by simp; exact ⟨rfl,rfl⟩) (by simp) (by simp) (by conv=>lhs; simp) ?_
 refine AW.loop (α:=Nat × List (List UInt8) × List Int × PS) (fun a=>a.1≤n∧InS 0 1 a.2.2.2∧20 * a.2.2.2.left.length+1≤a.1∧a.2.1.length+a.2.2.2.left.length≤5000∧a.2.2.1.length+a.2.2.2.left.length≤5000∧X=yV a.1 a.2.1 a.2.2.1 a.2.2.2) (fun a=>⟨zO 91 [(0,.ptr 2 0),(3,.ptr 903 0)],[2],[(2,.vars 42 (psC (a.2.2.2))),(3,.row 36 8 ((a.2.2.2).nodes.map Nd.enc)),(903,.vars 36 [.p (.int .i64 10),.p (.int .i64 0),.p (.str []),.p (.bool false),.p (.str []),.p (.int .i64 0),.ms 951,.ms 952]),(951,.row 9 1 (a.2.1.map PD.str)),(952,.row 3 1 (a.2.2.1.map (PD.int .i64)))],900⟩) (fun a=>a.1) ((n,[],[],u)) ⟨Nat.le_refl n,iu,by simp only []; rw [hul]; omega,by simp only [List.length_nil]; rw [hul]; omega,by simp only [List.length_nil]; rw [hul]; omega,hX⟩ ⟨qD (by simp),rfl,by simp,by simp⟩ ?_
 rintro ⟨m,ks,vs,s2⟩ ⟨hm,i2,hm2,hk1,hk2,hX2⟩
 simp only at hm i2 hm2 hk1 hk2 hX2
 have g1:=i2.lo
 have g2:=i2.hi
 refine AW.seq (rgn [] [[],[],[],[],[0,3,38]] ?_)
 iterate 5 refine op1 tok ?_
 refine qA (cnd ?_ ?_)
 ·intro h38
  try simp at h38
  obtain ⟨m,rfl⟩:∃ m',m=m'+1:=⟨m-1,by omega⟩
  simp only [yV] at hX2
  rw [if_neg (by simp [h38])] at hX2
  have c3:=qAV (G:=G) s2 [1,5]
  have l3:=yQ [1,5] s2
  have o3:=qWX (l:=[1,5]) (s:=s2)
  generalize zR [1,5] s2=R at *
  obtain ⟨t3,s3⟩:=R
  simp only [List.map_cons,List.map_nil] at c3 l3 o3 hX2
  have i3:=i2.le0 l3
  have c4:=kA (G:=G) s3 [58]
  have l4:=qV 6 [58] s3
  generalize zB 6 [58] s3=s4 at *
  have i4:=i3.le0 l4
  have hdn:decide (t3.text ∉ ks) = !decide (t3.text∈ks):=decide_not
  rw [hdn] at hX2
  have hin:=qGP (G:=G) ks t3.text
  generalize decide (t3.text∈ks)=bi at *
  have c5:=kS (G:=G) s4 (!bi)
  have l5:=wJ (!bi) s4
  generalize qU (!bi) s4=s5 at *
  have i5:=i4.le0 l5
  have g3:=i5.lo
  have g4:=i5.hi
  refine AW.skip (AW.block (rgn [.int .i64 1,.int .i64 5] [[],[]] ?_))
  iterate 2 refine op1 tok ?_
  refine qF ?_
  refine qE.freeze 940 (by conv=>lhs; simp) ?_
  refine qE.stepK [0,3,41] (qK rfl c3 (by simp)) (by conv=>lhs; simp) rfl ?_
  refine qE.run [[],[0,3,6]] ?_
  iterate 2 refine op1 tok ?_
  refine qA (rgn [.str [58]] [[],[]] ?_)
  iterate 2 refine op1 tok ?_
  refine qF ?_
  refine qE.freeze 944 (by conv=>lhs; simp) ?_
  refine qE.stepK [0,3,6] (qK rfl c4 (by simp)) (by conv=>lhs; simp) rfl ?_
  refine qE.nil ?_
  refine rgn [] [[],[],[],[]] ?_
  iterate 4 refine op1 tok ?_
  refine qF ?_
  refine qE.stepK [0,3,6,46,50] (qNL [951] rfl (by conv=>lhs; simp) trivial hin (by simp) (by simp) rfl) (by conv=>lhs; simp) rfl ?_
  refine qE.run [[]] ?_
  refine op1 tok ?_
  refine qF ?_
  refine qE.stepK [0,3,6] (qK rfl c5 (by simp)) (by conv=>lhs; simp) rfl ?_
  refine qE.nil ?_
  refine AW.seq (rgn [] [[],[],[],[0,3,6,56]] ?_)
  iterate 4 refine op1 tok ?_
  refine qA (cnd ?_ ?_)
  ·intro h56
   try simp at h56
   rw [if_pos h56] at hX2
   subst hX2
   have c9:=qJS (G:=G) (xJ 1 s5) ⟨10,0,[],⟨false,[],0⟩,ks,vs⟩ (by have:=i5.n; simpa using this)
   refine AW.exit ?_
   simp [-Prod.exists]
   refine rgn [] [[],[],[],[],[],[0,3,85,86],[],[0,3]] ?_
   iterate 8 refine op1 tok ?_
   refine qA ?_
   refine AW.freezeE 951 (by conv=>lhs; simp) ?_
   refine AW.freezeE 952 (by conv=>lhs; simp) ?_
   refine rgn [] [[],[]] ?_
   iterate 2 refine op1 tok ?_
   refine qF ?_
   refine qE.stepK [90] (qK rfl c9 (by simp)) (by conv=>lhs; simp) rfl ?_
   refine qE.run [[2]] ?_
   refine op1 tok ?_
   refine qA ?_
   exact AW.ret qP
  intro h56
  try simp at h56
  rw [if_neg (by simp [h56])] at hX2
  have h3b:s3.bad=false:=l4.nb (l5.nb h56)
  obtain ⟨q1,q2,q3⟩:=o3 h3b
  have e4:=l4.len
  have e5:=l5.len
  have j3:=i2.eat l3 ⟨q1,q2,q3⟩
  have j5:=(j3.le0 l4).le0 l5
  have c6:=AX.ren 3 949 ((ih m (by omega)).bound 1 s5 (by omega) (j5.weak 0 0 (by omega) (by omega)) (by omega)) (by simp)
  simp at c6
  have l6:=(zC m).bound 1 s5
  generalize zP m 1 s5=R at *
  obtain ⟨a6,s6⟩:=R
  simp only at c6 l6 hX2
  have j6:=j5.le0 l6
  have e6:=l6.len
  have c7:=jS (G:=G) s6 [[125],[44]]
  have l7:=zM 6 [[125],[44]] s6
  generalize qW 6 [[125],[44]] s6=R at *
  obtain ⟨⟨w7,b7⟩,s7⟩:=R
  simp only [List.map_cons,List.map_nil] at c7 l7 hX2
  have c8:=kS (G:=G) s7 b7
  have l8:=wJ b7 s7
  generalize qU b7 s7=s8 at *
  have j8:=(j6.le0 l7).le0 l8
  have e8:=(l7.trans l8).len
  have g5:=j8.lo
  have g6:=j8.hi
  refine AW.skip ?_
  refine AW.seqDrawR mixed 13 [[3],[57],[6],[59],[58,60],[3],[62],[0],[64],[65],[63,66],[3],[68,61]] [] (by kernel_rfl) ?_
  iterate 3 refine yR.one tok (orc:=[]) (by intro C; conv=>lhs; simp) (by first | with_reducible exact True.intro | ((simp; omega); done) | omega | simp | (simp +contextual; omega)) rfl (by kernel_rfl) ?_
  refine yR.one tok (orc:=[.str t3.text]) (by intro C; conv=>lhs; simp) (by first | with_reducible exact True.intro | ((simp; omega); done) | omega | simp | (simp +contextual; omega)) rfl (by kernel_rfl) ?_
  iterate 3 refine yR.one tok (orc:=[]) (by intro C; conv=>lhs; simp) (by first | with_reducible exact True.intro | ((simp; omega); done) | omega | simp | (simp +contextual; omega)) rfl (by kernel_rfl) ?_
  refine yR.q [2] (.ptr 2 0) rfl (qJD tok (orc:=[]) (orc':=[]) (v:=True) (by conv=>lhs; simp) trivial) (by simp) (by kernel_rfl) (by conv=>lhs; simp) ?_
  refine yR.call [949] c6 rfl rfl (by simp) (by simp) (by simp) (by simp) (by simp) (by first | (simp; done) | (simp; omega)) (by first | (simp; done) | (simp; omega)) (by kernel_rfl) (by conv=>lhs; simp) ?_
  refine yR.one tok (orc:=[.int .i64 a6]) (by intro C; conv=>lhs; simp) (by first | with_reducible exact True.intro | ((simp; omega); done) | omega | simp | (simp +contextual; omega)) rfl (by kernel_rfl) ?_
  iterate 3 refine yR.one tok (orc:=[]) (by intro C; conv=>lhs; simp) (by first | with_reducible exact True.intro | ((simp; omega); done) | omega | simp | (simp +contextual; omega)) rfl (by kernel_rfl) ?_
  refine yR.nil (by kernel_rfl) ⟨by kernel_rfl, ?_⟩
  refine qE.run [[],[0,3]] ?_
  iterate 2 refine op1 tok ?_
  refine qF ?_
  refine qE.take 961 951 (by conv=>lhs; simp) ?_
  refine qE.take 967 952 (by conv=>lhs; simp) ?_
  refine qE.take 949 3 (by conv=>lhs; simp) ?_
  refine qE.nil ?_
  refine rgn [.str [125],.str [44]] [[],[]] ?_
  iterate 2 refine op1 tok ?_
  refine qF ?_
  refine qE.freeze 972 (by conv=>lhs; simp) ?_
  refine qE.stepK [0,3,73] (qK rfl c7 (by simp)) (by conv=>lhs; simp) rfl ?_
  refine qE.run [[],[],[],[],[0,3,7,8]] ?_
  iterate 5 refine op1 tok ?_
  refine qA (rgn [] [[],[]] ?_)
  iterate 2 refine op1 tok ?_
  refine qF ?_
  refine qE.stepK [0,3,7] (qK rfl c8 (by simp)) (by conv=>lhs; simp) rfl ?_
  refine qE.nil ?_
  refine rgn [] [[],[0,3,80]] ?_
  iterate 2 refine op1 tok ?_
  refine qA (cnd ?_ ?_)
  ·intro h80
   try simp at h80
   rw [if_pos h80] at hX2
   subst hX2
   have c9:=qJS (G:=G) (xJ 1 s8) ⟨10,0,[],⟨false,[],0⟩,ks++[t3.text],vs++[a6]⟩ (by have:=j8.n; simpa using this)
   refine AW.exit ?_
   simp [-Prod.exists]
   refine rgn [] [[],[],[],[],[],[0,3,85,86],[],[0,3]] ?_
   iterate 8 refine op1 tok ?_
   refine qA ?_
   refine AW.freezeE 951 (by conv=>lhs; simp) ?_
   refine AW.freezeE 952 (by conv=>lhs; simp) ?_
   refine rgn [] [[],[]] ?_
   iterate 2 refine op1 tok ?_
   refine qF ?_
   refine qE.stepK [90] (qK rfl c9 (by simp)) (by conv=>lhs; simp) rfl ?_
   refine qE.run [[2]] ?_
   refine op1 tok ?_
   refine qA ?_
   exact AW.ret qP
  intro h80
  try simp at h80
  rw [if_neg h80] at hX2
  refine AW.skip ?_
  exact ⟨(m,ks++[t3.text],vs++[a6],s8),⟨by simp only []; omega,j8.weak 0 1 (by omega) (by omega),by simp only []; omega,by simp only [List.length_append,List.length_singleton]; omega,by simp only [List.length_append,List.length_singleton]; omega,hX2⟩,by simp only []; omega,qD (by simp),rfl,by simp,by simp⟩
 intro h38
 try simp at h38
 obtain ⟨m,rfl⟩:∃ m',m=m'+1:=⟨m-1,by omega⟩
 simp only [yV] at hX2
 rw [if_pos (by simpa using h38)] at hX2
 subst hX2
 have c9:=qJS (G:=G) (xJ 1 s2) ⟨10,0,[],⟨false,[],0⟩,ks,vs⟩ (by have:=i2.n; simpa using this)
 refine AW.exit ?_
 simp [-Prod.exists]
 refine rgn [] [[],[],[],[],[],[0,3,85,86],[],[0,3]] ?_
 iterate 8 refine op1 tok ?_
 refine qA ?_
 refine AW.freezeE 951 (by conv=>lhs; simp) ?_
 refine AW.freezeE 952 (by conv=>lhs; simp) ?_
 refine rgn [] [[],[]] ?_
 iterate 2 refine op1 tok ?_
 refine qF ?_
 refine qE.stepK [90] (qK rfl c9 (by simp)) (by conv=>lhs; simp) rfl ?_
 refine qE.run [[2]] ?_
 refine op1 tok ?_
 refine qA ?_
 exact AW.ret qP
end Go.Proofs.YtbhhphabggcacaaGreatDoor
