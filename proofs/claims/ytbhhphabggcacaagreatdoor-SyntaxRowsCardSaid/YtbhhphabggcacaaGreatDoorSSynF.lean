import Derived.Test.YtbhhphabggcacaaGreatDoorSSynE
namespace Go.Proofs.YtbhhphabggcacaaGreatDoor
open Sy Go
set_option maxRecDepth 100000
set_option maxHeartbeats 4000000
set_option linter.unusedSimpArgs false
set_option linter.unusedVariables false
variable {G:qM}
theorem qMX (n:Nat) (s:PS) (ih:∀ m,m≤n→SynAll G m) (hi:InS 1 1 s) (hf:20 * s.left.length+14≤n+1):AX Tryz.prog G 116 [.ptr 2 0] [(2,.vars 42 (psC (s))),(3,.row 36 8 ((s).nodes.map Nd.enc))] (.p (.int .i64 (wS (n+1) s).1)) [2] [(2,.vars 42 (psC ((wS (n+1) s).2))),(3,.row 36 8 (((wS (n+1) s).2).nodes.map Nd.enc))]:=by
 refine AX.introU tok 900 Tryz.func116 (by kernel_rfl) rfl rfl ?_
 simp only [Tryz.f116,qN,List.map_cons,List.map_nil]
 have b1:=hi.lo
 have b2:=hi.hi
 simp only [wS]
 have hu:InS 0 1 { s with deep:=s.deep+1 }:=⟨hi.ok,by simp only; omega,by simp only; omega,hi.nd⟩
 have hul:({ s with deep:=s.deep+1 }:PS).left=s.left:=rfl
 have c1:=(ih n (by omega)).deeper 0 { s with deep:=s.deep+1 } (.inl ⟨rfl,hu.weak 0 0 (by omega) (by omega)⟩) (by rw [hul]; omega)
 have l1:=(zC n).deeper 0 { s with deep:=s.deep+1 } (by omega)
 have i1:=hu.le 0 1 l1 (by simp) (by simp)
 generalize zF n 0 { s with deep:=s.deep+1 }=R at *
 obtain ⟨a1,s1⟩:=R
 simp only at c1 l1 i1 ⊢
 have e1:=l1.len
 have f1:=l1.d0
 simp only at e1 f1
 have c2:=qCA (G:=G) s1 [116,104,101,110]
 have l2:=qV 1 [116,104,101,110] s1
 have i2:=i1.le0 l2
 generalize zB 1 [116,104,101,110] s1=s2 at *
 have e2:=l2.len
 have f2:=l2.d0
 have c3:=(ih n (by omega)).deeper 0 s2 (.inl ⟨rfl,i2.weak 0 0 (by omega) (by omega)⟩) (by omega)
 have l3:=(zC n).deeper 0 s2 (by omega)
 have i3:=i2.le 0 1 l3 (by simp) (by simp)
 generalize zF n 0 s2=R at *
 obtain ⟨a3,s3⟩:=R
 simp only at c3 l3 i3 ⊢
 have e3:=l3.len
 have f3:=l3.d0
 have c4:=qCA (G:=G) s3 [101,108,115,101]
 have l4:=qV 1 [101,108,115,101] s3
 have i4:=i3.le0 l4
 generalize zB 1 [101,108,115,101] s3=s4 at *
 have e4:=l4.len
 have f4:=l4.d0
 have c5:=(ih n (by omega)).deeper 0 s4 (.inl ⟨rfl,i4.weak 0 0 (by omega) (by omega)⟩) (by omega)
 have l5:=(zC n).deeper 0 s4 (by omega)
 have i5:=i4.le 0 1 l5 (by simp) (by simp)
 generalize zF n 0 s4=R at *
 obtain ⟨a5,s5⟩:=R
 simp only at c5 l5 i5 ⊢
 have e5:=l5.len
 have f5:=l5.d0
 have c6:=qCA (G:=G) s5 [101,110,100]
 have l6:=qV 1 [101,110,100] s5
 have i6:=i5.le0 l6
 generalize zB 1 [101,110,100] s5=s6 at *
 have f6:=l6.d0
 have g6:=i6.hi
 have c7:=jC (G:=G) (xJ 1 s6) 12 [] [a1,a3,a5] (by have:=i6.n; simpa using this)
 simp only [List.map_cons,List.map_nil] at c7
 refine rgn [] [[0]] ?_
 refine op1 tok ?_
 refine qA (rgn [] [[],[],[],[],[],[0,10,11],[],[0]] ?_)
 iterate 8 refine op1 tok ?_
 refine qA (rgn [] [[]] ?_)
 refine op1 tok ?_
 refine qF ?_
 refine qE.stepK [0,14] (qK rfl c1 (by simp)) (by conv=>lhs; simp) rfl ?_
 refine qE.run [[0,3]] ?_
 refine op1 tok ?_
 refine qA (rgn [.str [116,104,101,110]] [[],[]] ?_)
 iterate 2 refine op1 tok ?_
 refine qF ?_
 refine qE.freeze 916 (by conv=>lhs; simp) ?_
 refine qE.stepK [0,3] (qK rfl c2 (by simp)) (by conv=>lhs; simp) rfl ?_
 refine qE.nil ?_
 refine rgn [] [[]] ?_
 refine op1 tok ?_
 refine qF ?_
 refine qE.stepK [0,3,19] (qK rfl c3 (by simp)) (by conv=>lhs; simp) rfl ?_
 refine qE.run [[0,3,4]] ?_
 refine op1 tok ?_
 refine qA (rgn [.str [101,108,115,101]] [[],[]] ?_)
 iterate 2 refine op1 tok ?_
 refine qF ?_
 refine qE.freeze 921 (by conv=>lhs; simp) ?_
 refine qE.stepK [0,3,4] (qK rfl c4 (by simp)) (by conv=>lhs; simp) rfl ?_
 refine qE.nil ?_
 refine rgn [] [[]] ?_
 refine op1 tok ?_
 refine qF ?_
 refine qE.stepK [0,3,4,24] (qK rfl c5 (by simp)) (by conv=>lhs; simp) rfl ?_
 refine qE.run [[0,3,4,5]] ?_
 refine op1 tok ?_
 refine qA (rgn [.str [101,110,100]] [[],[]] ?_)
 iterate 2 refine op1 tok ?_
 refine qF ?_
 refine qE.freeze 926 (by conv=>lhs; simp) ?_
 refine qE.stepK [0,3,4,5] (qK rfl c6 (by simp)) (by conv=>lhs; simp) rfl ?_
 refine qE.nil ?_
 refine rgn [] [[],[],[],[],[],[0,3,4,5,32,33],[],[0,3,4,5]] ?_
 iterate 8 refine op1 tok ?_
 refine qA (rgn [.int .i64 a1,.int .i64 a3,.int .i64 a5] [[],[],[],[35,36,37,38],[]] ?_)
 iterate 5 refine op1 tok ?_
 refine qF ?_
 refine qE.freeze 939 (by conv=>lhs; simp) ?_
 refine qE.stepK [40] (qK rfl c7 (by simp)) (by conv=>lhs; simp) rfl ?_
 refine qE.run [[2]] ?_
 refine op1 tok ?_
 refine qA ?_
 exact AW.ret qP
theorem qLP (n:Nat) (s:PS) (ih:∀ m,m≤n→SynAll G m) (hi:InS 2 1 s) (hf:20 * s.left.length+15≤n+1):AX Tryz.prog G 118 [.ptr 2 0] [(2,.vars 42 (psC (s))),(3,.row 36 8 ((s).nodes.map Nd.enc))] (.p (.int .i64 (wP (n+1) s).1)) [2] [(2,.vars 42 (psC ((wP (n+1) s).2))),(3,.row 36 8 (((wP (n+1) s).2).nodes.map Nd.enc))]:=by
 refine AX.introU tok 900 Tryz.func118 (by kernel_rfl) rfl rfl ?_
 simp only [Tryz.f118,qN,List.map_cons,List.map_nil]
 simp only [wP]
 have c1:=(ih n (by omega)).post s (hi.weak 0 0 (by omega) (by omega)) (by omega)
 have l1:=(zC n).post s
 have i1:=hi.le0 l1
 generalize yS n s=R at *
 obtain ⟨a1,s1⟩:=R
 simp only at c1 l1 i1 ⊢
 have e1:=l1.len
 have c2:=qCA (G:=G) s1 [97,115]
 have l2:=qV 1 [97,115] s1
 have i2:=i1.le0 l2
 generalize zB 1 [97,115] s1=s2 at *
 have e2:=l2.len
 have c3:=qAV (G:=G) s2 [2]
 have l3:=yQ [2] s2
 have i3:=i2.le0 l3
 generalize zR [2] s2=R at *
 obtain ⟨t3,s3⟩:=R
 simp only [List.map_cons,List.map_nil] at c3 l3 i3 ⊢
 have e3:=l3.len
 have c4:=kA (G:=G) s3 [40]
 have l4:=qV 6 [40] s3
 have i4:=i3.le0 l4
 generalize zB 6 [40] s3=s4 at *
 have e4:=l4.len
 have c5:=(ih n (by omega)).closed [59] s4 (i4.weak 1 0 (by omega) (by omega)) (by omega)
 have l5:=(zC n).closed [59] s4
 have i5:=i4.le 1 1 l5 (by omega) (by omega)
 generalize zI n [59] s4=R at *
 obtain ⟨a5,s5⟩:=R
 simp only at c5 l5 i5 ⊢
 have e5:=l5.len
 have c6:=(ih n (by omega)).closed [41] s5 (i5.weak 1 0 (by omega) (by omega)) (by omega)
 have l6:=(zC n).closed [41] s5
 have i6:=i5.le 0 1 l6 (by omega) (by omega)
 generalize zI n [41] s5=R at *
 obtain ⟨a6,s6⟩:=R
 simp only at c6 l6 i6 ⊢
 have c7:=jC (G:=G) s6 15 t3.text [a1,a5,a6] i6.n
 simp only [List.map_cons,List.map_nil] at c7
 refine rgn [] [[0]] ?_
 refine op1 tok ?_
 refine qA (rgn [] [[]] ?_)
 refine op1 tok ?_
 refine qF ?_
 refine qE.stepK [0,8] (qK rfl c1 (by simp)) (by conv=>lhs; simp) rfl ?_
 refine qE.run [[0,3]] ?_
 refine op1 tok ?_
 refine qA (rgn [.str [97,115]] [[],[]] ?_)
 iterate 2 refine op1 tok ?_
 refine qF ?_
 refine qE.freeze 910 (by conv=>lhs; simp) ?_
 refine qE.stepK [0,3] (qK rfl c2 (by simp)) (by conv=>lhs; simp) rfl ?_
 refine qE.nil ?_
 refine rgn [.int .i64 2] [[],[]] ?_
 iterate 2 refine op1 tok ?_
 refine qF ?_
 refine qE.freeze 913 (by conv=>lhs; simp) ?_
 refine qE.stepK [0,3,14] (qK rfl c3 (by simp)) (by conv=>lhs; simp) rfl ?_
 refine qE.run [[],[0,3,4]] ?_
 iterate 2 refine op1 tok ?_
 refine qA (rgn [.str [40]] [[],[]] ?_)
 iterate 2 refine op1 tok ?_
 refine qF ?_
 refine qE.freeze 917 (by conv=>lhs; simp) ?_
 refine qE.stepK [0,3,4] (qK rfl c4 (by simp)) (by conv=>lhs; simp) rfl ?_
 refine qE.nil ?_
 refine rgn [] [[]] ?_
 refine op1 tok ?_
 refine qF ?_
 refine qE.stepK [0,3,4,20] (qK rfl c5 (by simp)) (by conv=>lhs; simp) rfl ?_
 refine qE.run [[0,3,4,5]] ?_
 refine op1 tok ?_
 refine qA (rgn [] [[]] ?_)
 refine op1 tok ?_
 refine qF ?_
 refine qE.stepK [0,3,4,5,22] (qK rfl c6 (by simp)) (by conv=>lhs; simp) rfl ?_
 refine qE.run [[0,3,4,5,6]] ?_
 refine op1 tok ?_
 refine qA (rgn [.int .i64 a1,.int .i64 a5,.int .i64 a6] [[],[],[],[6,23,24,25,26],[],[23,24,28]] ?_)
 iterate 6 refine op1 tok ?_
 refine qF ?_
 refine qE.freeze 928 (by conv=>lhs; simp) ?_
 refine qE.stepK [29] (qK rfl c7 (by simp)) (by conv=>lhs; simp) rfl ?_
 refine qE.run [[2]] ?_
 refine op1 tok ?_
 refine qA ?_
 exact AW.ret qP
theorem qOF (n:Nat) (s:PS) (hE:PE G) (ih:∀ m,m≤n→SynAll G m) (hi:InS 1 1 s) (hf:20 * s.left.length+15≤n+1):AX Tryz.prog G 119 [.ptr 2 0] [(2,.vars 42 (psC (s))),(3,.row 36 8 ((s).nodes.map Nd.enc))] (.p (.int .i64 (yX (n+1) s).1)) [2] [(2,.vars 42 (psC ((yX (n+1) s).2))),(3,.row 36 8 (((yX (n+1) s).2).nodes.map Nd.enc))]:=by
 refine AX.introU tok 900 Tryz.func119 (by kernel_rfl) rfl rfl ?_
 simp only [Tryz.f119,qN,List.map_cons,List.map_nil]
 simp only [yX]
 have c1:=kA (G:=G) s [40]
 have l1:=qV 6 [40] s
 have i1:=hi.le0 l1
 generalize zB 6 [40] s=s1 at *
 have e1:=l1.len
 have c2:=qFE (G:=G) hE s1 i1.1
 have l2:=vC s1
 have i2:=i1.le0 l2
 generalize kP s1=R at *
 obtain ⟨a2,s2⟩:=R
 simp only at c2 l2 i2 ⊢
 have e2:=l2.len
 have c3:=kA (G:=G) s2 [59]
 have l3:=qV 6 [59] s2
 have i3:=i2.le0 l3
 generalize zB 6 [59] s2=s3 at *
 have e3:=l3.len
 have c4:=(ih n (by omega)).closed [41] s3 (i3.weak 1 0 (by omega) (by omega)) (by omega)
 have l4:=(zC n).closed [41] s3
 have i4:=i3.le 0 1 l4 (by omega) (by omega)
 generalize zI n [41] s3=R at *
 obtain ⟨a4,s4⟩:=R
 simp only at c4 l4 i4 ⊢
 have c5:=vG (G:=G) s4 ⟨17,a2,[],⟨false,[],0⟩,[],[a4]⟩ rfl i4.n
 simp only [List.map_cons,List.map_nil] at c5
 refine rgn [] [[0]] ?_
 refine op1 tok ?_
 refine qA (rgn [.str [40]] [[],[]] ?_)
 iterate 2 refine op1 tok ?_
 refine qF ?_
 refine qE.freeze 906 (by conv=>lhs; simp) ?_
 refine qE.stepK [0] (qK rfl c1 (by simp)) (by conv=>lhs; simp) rfl ?_
 refine qE.nil ?_
 refine rgn [] [[]] ?_
 refine op1 tok ?_
 refine qF ?_
 refine qE.stepK [0,9] (qK rfl c2 (by simp)) (by conv=>lhs; simp) rfl ?_
 refine qE.run [[0,3]] ?_
 refine op1 tok ?_
 refine qA (rgn [.str [59]] [[],[]] ?_)
 iterate 2 refine op1 tok ?_
 refine qF ?_
 refine qE.freeze 911 (by conv=>lhs; simp) ?_
 refine qE.stepK [0,3] (qK rfl c3 (by simp)) (by conv=>lhs; simp) rfl ?_
 refine qE.nil ?_
 refine rgn [] [[]] ?_
 refine op1 tok ?_
 refine qF ?_
 refine qE.stepK [0,3,14] (qK rfl c4 (by simp)) (by conv=>lhs; simp) rfl ?_
 refine qE.run [[0,3,4]] ?_
 refine op1 tok ?_
 refine qA (rgn [.int .i64 a4] [[],[],[],[15,16,18]] ?_)
 iterate 4 refine op1 tok ?_
 refine qF ?_
 refine qE.freeze 918 (by conv=>lhs; simp) ?_
 refine qE.run [[]] ?_
 refine op1 tok ?_
 refine qF ?_
 refine qE.stepK [20] (qK rfl c5 (by simp)) (by conv=>lhs; simp) rfl ?_
 refine qE.run [[2]] ?_
 refine op1 tok ?_
 refine qA ?_
 exact AW.ret qP
theorem qRJ (n:Nat) (s:PS) (ih:∀ m,m≤n→SynAll G m) (hi:InS 1 4 s) (hf:20 * s.left.length+16≤n+1):AX Tryz.prog G 120 [.ptr 2 0] [(2,.vars 42 (psC (s))),(3,.row 36 8 ((s).nodes.map Nd.enc))] (.p (.int .i64 (jR (n+1) s).1)) [2] [(2,.vars 42 (psC ((jR (n+1) s).2))),(3,.row 36 8 (((jR (n+1) s).2).nodes.map Nd.enc))]:=by
 refine AX.introU tok 900 Tryz.func120 (by kernel_rfl) rfl rfl ?_
 simp only [Tryz.f120,qN,List.map_cons,List.map_nil]
 simp only [jR]
 have c1:=uY (G:=G) s 1 [] hi.n
 have l1:=zY 1 [] [] s
 have i1:=hi.le 1 3 l1 (by omega) (by omega)
 generalize opP 1 [] [] s=R at *
 obtain ⟨a1,s1⟩:=R
 simp only at c1 l1 i1 ⊢
 have e1:=l1.len
 have c2:=jC (G:=G) s1 6 [] [a1] i1.n
 have l2:=zY 6 [] [a1] s1
 have i2:=i1.le 1 2 l2 (by omega) (by omega)
 generalize opP 6 [] [a1] s1=R at *
 obtain ⟨a2,s2⟩:=R
 simp only [List.map_cons,List.map_nil] at c2 l2 i2 ⊢
 have e2:=l2.len
 have c3:=(ih n (by omega)).inside s2 (i2.weak 1 0 (by omega) (by omega)) (by omega)
 have l3:=(zC n).inside s2
 have i3:=i2.le 0 2 l3 (by omega) (by omega)
 generalize zE n s2=R at *
 obtain ⟨a3,s3⟩:=R
 simp only at c3 l3 i3 ⊢
 have c4:=jC (G:=G) s3 7 [] [a2,a3] i3.n
 have l4:=zY 7 [] [a2,a3] s3
 have i4:=i3.le 0 1 l4 (by omega) (by omega)
 generalize opP 7 [] [a2,a3] s3=R at *
 obtain ⟨a4,s4⟩:=R
 simp only [List.map_cons,List.map_nil] at c4 l4 i4 ⊢
 have c5:=jC (G:=G) s4 9 [] [a4] i4.n
 simp only [List.map_cons,List.map_nil] at c5
 refine rgn [] [[0]] ?_
 refine op1 tok ?_
 refine qA (rgn [.int .i64 a1] [[],[]] ?_)
 iterate 2 refine op1 tok ?_
 refine qF ?_
 refine qE.stepK [0,4,6] (qK rfl c1 (by simp)) (by conv=>lhs; simp) rfl ?_
 refine qE.run [[]] ?_
 refine op1 tok ?_
 refine qF ?_
 refine qE.freeze 907 (by conv=>lhs; simp) ?_
 refine qE.stepK [0,8] (qK rfl c2 (by simp)) (by conv=>lhs; simp) rfl ?_
 refine qE.run [[0,3]] ?_
 refine op1 tok ?_
 refine qA (rgn [.int .i64 a2,.int .i64 a3,.int .i64 a4] [[],[],[],[]] ?_)
 iterate 4 refine op1 tok ?_
 refine qF ?_
 refine qE.stepK [9,10,11,13] (qK rfl c3 (by simp)) (by conv=>lhs; simp) rfl ?_
 refine qE.run [[]] ?_
 refine op1 tok ?_
 refine qF ?_
 refine qE.freeze 914 (by conv=>lhs; simp) ?_
 refine qE.stepK [9,15] (qK rfl c4 (by simp)) (by conv=>lhs; simp) rfl ?_
 refine qE.run [[]] ?_
 refine op1 tok ?_
 refine qF ?_
 refine qE.freeze 916 (by conv=>lhs; simp) ?_
 refine qE.stepK [17] (qK rfl c5 (by simp)) (by conv=>lhs; simp) rfl ?_
 refine qE.run [[2]] ?_
 refine op1 tok ?_
 refine qA ?_
 exact AW.ret qP
theorem qJL (n:Nat) (s:PS) (ih:∀ m,m≤n→SynAll G m) (hi:InS 1 3 s) (hf:20 * s.left.length+16≤n+1):AX Tryz.prog G 121 [.ptr 2 0] [(2,.vars 42 (psC (s))),(3,.row 36 8 ((s).nodes.map Nd.enc))] (.p (.int .i64 (wB (n+1) s).1)) [2] [(2,.vars 42 (psC ((wB (n+1) s).2))),(3,.row 36 8 (((wB (n+1) s).2).nodes.map Nd.enc))]:=by
 refine AX.introU tok 900 Tryz.func121 (by kernel_rfl) rfl rfl ?_
 simp only [Tryz.f121,qN,List.map_cons,List.map_nil]
 simp only [wB]
 have c1:=(ih n (by omega)).inside s (hi.weak 1 0 (by omega) (by omega)) (by omega)
 have l1:=(zC n).inside s
 have i1:=hi.le 0 3 l1 (by omega) (by omega)
 generalize zE n s=R at *
 obtain ⟨a1,s1⟩:=R
 simp only at c1 l1 i1 ⊢
 have c2:=uY (G:=G) s1 1 [] i1.n
 have l2:=zY 1 [] [] s1
 have i2:=i1.le 0 2 l2 (by omega) (by omega)
 generalize opP 1 [] [] s1=R at *
 obtain ⟨a2,s2⟩:=R
 simp only at c2 l2 i2 ⊢
 have c3:=uY (G:=G) s2 19 [] i2.n
 have l3:=zY 19 [] [] s2
 have i3:=i2.le 0 1 l3 (by omega) (by omega)
 generalize opP 19 [] [] s2=R at *
 obtain ⟨a3,s3⟩:=R
 simp only at c3 l3 i3 ⊢
 have c4:=jC (G:=G) s3 12 [] [a1,a2,a3] i3.n
 simp only [List.map_cons,List.map_nil] at c4
 refine rgn [] [[0]] ?_
 refine op1 tok ?_
 refine qA (rgn [] [[]] ?_)
 refine op1 tok ?_
 refine qF ?_
 refine qE.stepK [0,6] (qK rfl c1 (by simp)) (by conv=>lhs; simp) rfl ?_
 refine qE.run [[0,3]] ?_
 refine op1 tok ?_
 refine qA (rgn [] [[]] ?_)
 refine op1 tok ?_
 refine qF ?_
 refine qE.stepK [0,3,8] (qK rfl c2 (by simp)) (by conv=>lhs; simp) rfl ?_
 refine qE.run [[0,3,4]] ?_
 refine op1 tok ?_
 refine qA (rgn [.int .i64 a1,.int .i64 a2,.int .i64 a3] [[],[],[],[]] ?_)
 iterate 4 refine op1 tok ?_
 refine qF ?_
 refine qE.stepK [9,10,11,13] (qK rfl c3 (by simp)) (by conv=>lhs; simp) rfl ?_
 refine qE.run [[]] ?_
 refine op1 tok ?_
 refine qF ?_
 refine qE.freeze 914 (by conv=>lhs; simp) ?_
 refine qE.stepK [15] (qK rfl c4 (by simp)) (by conv=>lhs; simp) rfl ?_
 refine qE.run [[2]] ?_
 refine op1 tok ?_
 refine qA ?_
 exact AW.ret qP
end Go.Proofs.YtbhhphabggcacaaGreatDoor
