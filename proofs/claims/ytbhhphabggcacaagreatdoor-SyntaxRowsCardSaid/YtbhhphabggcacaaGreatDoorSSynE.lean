import Derived.Test.YtbhhphabggcacaaGreatDoorSSynK
namespace Go.Proofs.YtbhhphabggcacaaGreatDoor
open Sy Go
set_option maxRecDepth 100000
set_option maxHeartbeats 4000000
set_option linter.unusedSimpArgs false
set_option linter.unusedVariables false
variable {G:qM}
structure InS (c d:Nat) (s:PS):Prop where
 ok:okS s
 lo:0≤s.deep
 hi:s.deep+2 * s.left.length+c≤5000
 nd:s.nodes.length+4 * s.left.length+d≤5000
theorem InS.n {c d:Nat} {s:PS} (h:InS c d s):s.nodes.length≤1000000:=by have:=h.nd; omega
theorem InS.le {c d c1 d1:Nat} (c2 d2:Nat) {s s':PS} (h:InS c d s) (g:Le c1 d1 s s') (hc:c1+c2≤c) (hd:d1+d2≤d):InS c2 d2 s' :=
 ⟨g.ok h.ok,Int.le_trans h.lo g.d0,by have:=h.hi; have:=g.d1; omega,by have:=h.nd; have:=g.n0; omega⟩
theorem InS.le0 {c d:Nat} {s s':PS} (h:InS c d s) (g:Le 0 0 s s'):InS c d s':=h.le c d g (by omega) (by omega)
theorem InS.weak {c d:Nat} (c2 d2:Nat) {s:PS} (h:InS c d s) (hc:c2≤c) (hd:d2≤d):InS c2 d2 s:=h.le c2 d2 (Le.refl s) (by omega) (by omega)
theorem InS.eat {c d:Nat} {s s':PS} (h:InS c d s) (g:Le 0 0 s s') (e:s'.left.length+1=s.left.length∧s'.deep=s.deep∧s'.nodes=s.nodes):InS (c+2) (d+4) s' :=
 ⟨g.ok h.ok,Int.le_trans h.lo g.d0,by have:=h.hi; omega,by have:=h.nd; have:=e.2.2; rw [this]; omega⟩
theorem InS.up {c d:Nat} {s:PS} (h:InS (c+1) d s):InS c d (upP 1 s):=⟨h.ok,by have:=h.lo; simp [upP]; omega,by have:=h.hi; simp [upP]; omega,h.nd⟩
@[simp] theorem zBH (b:Int) (s:PS):(upP b s).left=s.left:=rfl
@[simp] theorem qZR (b:Int) (s:PS):(upP b s).nodes=s.nodes:=rfl
@[simp] theorem zBI (b:Int) (s:PS):(upP b s).deep=s.deep+b:=rfl
@[simp] theorem zBN (b:Int) (s:PS):(upP b s).bad=(s.bad || !decide (s.deep+b≤60)):=rfl
@[simp] theorem qZK (b:Int) (s:PS):(xJ b s).left=s.left:=rfl
@[simp] theorem qYU (b:Int) (s:PS):(xJ b s).nodes=s.nodes:=rfl
@[simp] theorem qZL (b:Int) (s:PS):(xJ b s).deep=s.deep-b:=rfl
@[simp] theorem zBD (b:Int) (s:PS):(xJ b s).bad=s.bad:=rfl
theorem qSL {s:PS} (hs:okS s):0≤(kP s).1∧(kP s).1≤9223372036854775807:=by
 have:okT (zR [4] s).1:=qMA hs
 exact this.2
structure SynAll (G:qM) (n:Nat):Prop where
 pipe:∀ s,InS 0 0 s→20 * s.left.length+11≤n→AX Tryz.prog G 12 [.ptr 2 0] [(2,.vars 42 (psC (s))),(3,.row 36 8 ((s).nodes.map Nd.enc))] (.p (.int .i64 (yG n s).1)) [2] [(2,.vars 42 (psC ((yG n s).2))),(3,.row 36 8 (((yG n s).2).nodes.map Nd.enc))]
 deeper:∀ b s,(b=0∧InS 0 0 s)∨(b=1∧InS 1 0 s)→20 * s.left.length+12≤n→AX Tryz.prog G 22 [.ptr 2 0,.p (.int .i64 b)] [(2,.vars 42 (psC (s))),(3,.row 36 8 ((s).nodes.map Nd.enc))] (.p (.int .i64 (zF n b s).1)) [2] [(2,.vars 42 (psC ((zF n b s).2))),(3,.row 36 8 (((zF n b s).2).nodes.map Nd.enc))]
 closed:∀ w s,InS 1 0 s→20 * s.left.length+13≤n→AX Tryz.prog G 123 [.ptr 2 0,.p (.str w)] [(2,.vars 42 (psC (s))),(3,.row 36 8 ((s).nodes.map Nd.enc))] (.p (.int .i64 (zI n w s).1)) [2] [(2,.vars 42 (psC ((zI n w s).2))),(3,.row 36 8 (((zI n w s).2).nodes.map Nd.enc))]
 inside:∀ s,InS 1 0 s→20 * s.left.length+14≤n→AX Tryz.prog G 117 [.ptr 2 0] [(2,.vars 42 (psC (s))),(3,.row 36 8 ((s).nodes.map Nd.enc))] (.p (.int .i64 (zE n s).1)) [2] [(2,.vars 42 (psC ((zE n s).2))),(3,.row 36 8 (((zE n s).2).nodes.map Nd.enc))]
 bound:∀ i s,i≤6→InS 0 0 s→20 * s.left.length+10-i≤n→AX Tryz.prog G 16 [.ptr 2 0,.p (.int .i64 i)] [(2,.vars 42 (psC (s))),(3,.row 36 8 ((s).nodes.map Nd.enc))] (.p (.int .i64 (zP n i s).1)) [2] [(2,.vars 42 (psC ((zP n i s).2))),(3,.row 36 8 (((zP n i s).2).nodes.map Nd.enc))]
 post:∀ s,InS 0 0 s→20 * s.left.length+3≤n→AX Tryz.prog G 39 [.ptr 2 0] [(2,.vars 42 (psC (s))),(3,.row 36 8 ((s).nodes.map Nd.enc))] (.p (.int .i64 (yS n s).1)) [2] [(2,.vars 42 (psC ((yS n s).2))),(3,.row 36 8 (((yS n s).2).nodes.map Nd.enc))]
 term:∀ s,InS 0 0 s→20 * s.left.length+2≤n→AX Tryz.prog G 71 [.ptr 2 0] [(2,.vars 42 (psC (s))),(3,.row 36 8 ((s).nodes.map Nd.enc))] (.p (.int .i64 (jB n s).1)) [2] [(2,.vars 42 (psC ((jB n s).2))),(3,.row 36 8 (((jB n s).2).nodes.map Nd.enc))]
 named:∀ w s,InS 2 4 s→20 * s.left.length+17≤n→AX Tryz.prog G 94 [.ptr 2 0,.p (.str w)] [(2,.vars 42 (psC (s))),(3,.row 36 8 ((s).nodes.map Nd.enc))] (.p (.int .i64 (yW n w s).1)) [2] [(2,.vars 42 (psC ((yW n w s).2))),(3,.row 36 8 (((yW n w s).2).nodes.map Nd.enc))]
 choice:∀ s,InS 1 1 s→20 * s.left.length+14≤n→AX Tryz.prog G 116 [.ptr 2 0] [(2,.vars 42 (psC (s))),(3,.row 36 8 ((s).nodes.map Nd.enc))] (.p (.int .i64 (wS n s).1)) [2] [(2,.vars 42 (psC ((wS n s).2))),(3,.row 36 8 (((wS n s).2).nodes.map Nd.enc))]
 reduce:∀ s,InS 2 1 s→20 * s.left.length+15≤n→AX Tryz.prog G 118 [.ptr 2 0] [(2,.vars 42 (psC (s))),(3,.row 36 8 ((s).nodes.map Nd.enc))] (.p (.int .i64 (wP n s).1)) [2] [(2,.vars 42 (psC ((wP n s).2))),(3,.row 36 8 (((wP n s).2).nodes.map Nd.enc))]
 limit:∀ s,InS 1 1 s→20 * s.left.length+15≤n→AX Tryz.prog G 119 [.ptr 2 0] [(2,.vars 42 (psC (s))),(3,.row 36 8 ((s).nodes.map Nd.enc))] (.p (.int .i64 (yX n s).1)) [2] [(2,.vars 42 (psC ((yX n s).2))),(3,.row 36 8 (((yX n s).2).nodes.map Nd.enc))]
 maps:∀ s,InS 1 4 s→20 * s.left.length+16≤n→AX Tryz.prog G 120 [.ptr 2 0] [(2,.vars 42 (psC (s))),(3,.row 36 8 ((s).nodes.map Nd.enc))] (.p (.int .i64 (jR n s).1)) [2] [(2,.vars 42 (psC ((jR n s).2))),(3,.row 36 8 (((jR n s).2).nodes.map Nd.enc))]
 selects:∀ s,InS 1 3 s→20 * s.left.length+16≤n→AX Tryz.prog G 121 [.ptr 2 0] [(2,.vars 42 (psC (s))),(3,.row 36 8 ((s).nodes.map Nd.enc))] (.p (.int .i64 (wB n s).1)) [2] [(2,.vars 42 (psC ((wB n s).2))),(3,.row 36 8 (((wB n s).2).nodes.map Nd.enc))]
 signed:∀ w s,InS 0 0 s→20 * s.left.length+1≤n→(w≠[]→InS 1 1 s∧20 * s.left.length+17≤n)→AX Tryz.prog G 96 [.ptr 2 0,.p (.str w)] [(2,.vars 42 (psC (s))),(3,.row 36 8 ((s).nodes.map Nd.enc))] (.p (.int .i64 (wI n w s).1)) [2] [(2,.vars 42 (psC ((wI n w s).2))),(3,.row 36 8 (((wI n w s).2).nodes.map Nd.enc))]
 object:∀ s,InS 1 1 s→20 * s.left.length+3≤n→AX Tryz.prog G 124 [.ptr 2 0] [(2,.vars 42 (psC (s))),(3,.row 36 8 ((s).nodes.map Nd.enc))] (.p (.int .i64 (wQ n s).1)) [2] [(2,.vars 42 (psC ((wQ n s).2))),(3,.row 36 8 (((wQ n s).2).nodes.map Nd.enc))]
theorem qCA (s:PS) (w:List UInt8):AX Tryz.prog G 139 [.ptr 2 0,.p (.sl 1 [.str w])] [(2,.vars 42 (psC (s))),(3,.row 36 8 ((s).nodes.map Nd.enc))] (.tuple []) [2,3] [(2,.vars 42 (psC (zB 1 w s))),(3,.row 36 8 ((zB 1 w s).nodes.map Nd.enc))]:=by
 refine AX.introU tok 900 Tryz.func139 (by kernel_rfl) rfl rfl ?_
 simp only [Tryz.f139,qN,List.map_cons,List.map_nil]
 have h1:=qJG (G:=G) s [w]
 have hN:zB 1 w s=qU (qW 1 [w] s).1.2 (qW 1 [w] s).2:=rfl
 rw [hN]
 generalize qW 1 [w] s=R at *
 obtain ⟨⟨t,b⟩,s'⟩:=R
 simp only [List.map_cons,List.map_nil] at h1 ⊢
 have h2:=kS (G:=G) s' b
 refine rgn [] [[],[],[0,8,9,10]] ?_
 iterate 3 refine op1 tok ?_
 refine qA (AW.block ?_)
 refine AW.loop (α:=Nat) (fun k=>k≤1) (fun k=>⟨zO 25 [(0,.ptr 2 0),(8,.p (.sl 1 [.str w])),(9,.p (.int .i64 1)),(10,.p (.int .i64 k))],[2,3],[(2,.vars 42 (psC (if k=0 then s else qU b s'))),(3,.row 36 8 ((if k=0 then s else qU b s').nodes.map Nd.enc))],900⟩) (fun k=>1-k) (0) (by omega) ⟨qD (by simp),rfl,by simp,by simp⟩ ?_
 rintro k hk
 refine rgn [] [[]] ?_
 refine op1 tok ?_
 refine qA (AW.seq (cnd ?_ ?_))
 ·intro h11
  try simp at h11
  obtain rfl:k=0:=by omega
  refine AW.skip (AW.seq (AW.block (rgn [.str w] [[],[],[0,5,8,9,10]] ?_)))
  iterate 3 refine op1 tok ?_
  refine qA (rgn [.str w] [[],[],[]] ?_)
  iterate 3 refine op1 tok ?_
  refine qF ?_
  refine qE.freeze 917 (by conv=>lhs; simp) ?_
  refine qE.stepK [0,8,9,10,18] (qK rfl h1 (by simp)) (by conv=>lhs; simp) rfl ?_
  refine qE.run [[],[],[],[0,8,9,10,20],[0,7,8,9,10]] ?_
  iterate 5 refine op1 tok ?_
  refine qA (rgz [] [[],[]] ?_)
  iterate 2 refine op1 tok ?_
  refine qF ?_
  refine qE.stepK [0,8,9,10] (qK rfl h2 (by simp)) (by conv=>lhs; simp) rfl ?_
  refine qE.nil ?_
  refine rgz [] [[],[0,8,9,10]] ?_
  iterate 2 refine op1 tok ?_
  refine qA ?_
  exact ⟨1,by omega,by omega,qD (by simp),rfl,by simp,by simp⟩
 intro h11
 try simp at h11
 obtain rfl:k=1:=by omega
 refine AW.exit ?_
 simp
 exact qUB
theorem qRD (n:Nat) (s:PS) (ih:∀ m,m≤n→SynAll G m) (hi:InS 0 0 s) (hf:20 * s.left.length+11≤n+1):AX Tryz.prog G 12 [.ptr 2 0] [(2,.vars 42 (psC (s))),(3,.row 36 8 ((s).nodes.map Nd.enc))] (.p (.int .i64 (yG (n+1) s).1)) [2] [(2,.vars 42 (psC ((yG (n+1) s).2))),(3,.row 36 8 (((yG (n+1) s).2).nodes.map Nd.enc))]:=by
 refine AX.introU tok 900 Tryz.func12 (by kernel_rfl) rfl rfl ?_
 simp only [Tryz.f12,qN,List.map_cons,List.map_nil]
 simp only [yG]
 have c1:=(ih n (by omega)).bound 0 s (by omega) hi (by omega)
 have l1:=(zC n).bound 0 s
 have i1:=hi.le0 l1
 generalize zP n 0 s=R at *
 obtain ⟨a1,s1⟩:=R
 simp only at c1 l1 i1 ⊢
 have e1:=l1.len
 have c2:=jS (G:=G) s1 [[124]]
 have l2:=zM 6 [[124]] s1
 have o2:=kQ (k:=6) (l:=[[124]]) (s:=s1)
 have i2:=i1.le0 l2
 generalize qW 6 [[124]] s1=R at *
 obtain ⟨⟨w2,b2⟩,s2⟩:=R
 simp only [List.map_cons,List.map_nil] at c2 l2 o2 i2 ⊢
 have e2:=l2.len
 refine rgn [] [[0]] ?_
 refine op1 tok ?_
 refine qA (rgn [] [[]] ?_)
 refine op1 tok ?_
 refine qF ?_
 refine qE.stepK [0,10] (qK rfl c1 (by simp)) (by conv=>lhs; simp) rfl ?_
 refine qE.run [[0,3]] ?_
 refine op1 tok ?_
 refine qA (AW.seq (rgn [.str [124]] [[],[]] ?_))
 iterate 2 refine op1 tok ?_
 refine qF ?_
 refine qE.freeze 913 (by conv=>lhs; simp) ?_
 refine qE.stepK [0,3,14] (qK rfl c2 (by simp)) (by conv=>lhs; simp) rfl ?_
 refine qE.run [[],[],[],[0,3,16],[0,3,5]] ?_
 iterate 5 refine op1 tok ?_
 refine qA (rgn [] [[0,3,17]] ?_)
 refine op1 tok ?_
 refine qA (cnd ?_ ?_)
 ·intro h17
  try simp at h17
  rw [if_pos h17]
  obtain ⟨q1,q2,q3, -⟩:=o2 h17
  have j2:=(i1.eat l2 ⟨q1,q2,q3⟩)
  have c4:=(ih n (by omega)).pipe s2 (j2.weak 0 0 (by omega) (by omega)) (by omega)
  have l4:=(zC n).pipe s2
  have i4:=j2.le0 l4
  generalize yG n s2=R at *
  obtain ⟨a4,s4⟩:=R
  simp only at c4 l4 i4 ⊢
  have c5:=jC (G:=G) s4 7 [] [a1,a4] i4.n
  simp only [List.map_cons,List.map_nil] at c5
  refine rgn [.int .i64 a1,.int .i64 a4] [[],[],[]] ?_
  iterate 3 refine op1 tok ?_
  refine qF ?_
  refine qE.stepK [18,19,21] (qK rfl c4 (by simp)) (by conv=>lhs; simp) rfl ?_
  refine qE.run [[]] ?_
  refine op1 tok ?_
  refine qF ?_
  refine qE.freeze 922 (by conv=>lhs; simp) ?_
  refine qE.stepK [23] (qK rfl c5 (by simp)) (by conv=>lhs; simp) rfl ?_
  refine qE.run [[2]] ?_
  refine op1 tok ?_
  refine qA ?_
  exact AW.ret qP
 intro h17
 try simp at h17
 rw [if_neg (by simp [h17])]
 have c6:=qJG (G:=G) s2 [[97,115]]
 have l6:=zM 1 [[97,115]] s2
 have o6:=kQ (k:=1) (l:=[[97,115]]) (s:=s2)
 have i6:=i2.le0 l6
 generalize qW 1 [[97,115]] s2=R at *
 obtain ⟨⟨w6,b6⟩,s6⟩:=R
 simp only [List.map_cons,List.map_nil] at c6 l6 o6 i6 ⊢
 have e6:=l6.len
 refine AW.skip (AW.seq (rgn [.str [97,115]] [[],[]] ?_))
 iterate 2 refine op1 tok ?_
 refine qF ?_
 refine qE.freeze 926 (by conv=>lhs; simp) ?_
 refine qE.stepK [0,3,27] (qK rfl c6 (by simp)) (by conv=>lhs; simp) rfl ?_
 refine qE.run [[],[],[],[0,3,29],[0,3,7]] ?_
 iterate 5 refine op1 tok ?_
 refine qA (rgn [] [[0,3,30]] ?_)
 refine op1 tok ?_
 refine qA (cnd ?_ ?_)
 ·intro h30
  try simp at h30
  rw [if_pos h30]
  obtain ⟨q1,q2,q3, -⟩:=o6 h30
  have j6:=i2.eat l6 ⟨q1,q2,q3⟩
  have c7:=qAV (G:=G) s6 [2]
  have l7:=yQ [2] s6
  have i7:=j6.le0 l7
  generalize zR [2] s6=R at *
  obtain ⟨t7,s7⟩:=R
  simp only [List.map_cons,List.map_nil] at c7 l7 i7 ⊢
  have e7:=l7.len
  have c8:=kA (G:=G) s7 [124]
  have l8:=qV 6 [124] s7
  have i8:=i7.le0 l8
  generalize zB 6 [124] s7=s8 at *
  have e8:=l8.len
  have c9:=(ih n (by omega)).deeper 0 s8 (.inl ⟨rfl,i8.weak 0 0 (by omega) (by omega)⟩) (by omega)
  have l9:=(zC n).deeper 0 s8 (by omega)
  have i9:=i8.le 2 4 l9 (by simp) (by simp)
  generalize zF n 0 s8=R at *
  obtain ⟨a9,s9⟩:=R
  simp only at c9 l9 i9 ⊢
  have c10:=jC (G:=G) s9 16 t7.text [a1,a9] i9.n
  simp only [List.map_cons,List.map_nil] at c10
  refine rgn [.int .i64 2] [[],[]] ?_
  iterate 2 refine op1 tok ?_
  refine qF ?_
  refine qE.freeze 932 (by conv=>lhs; simp) ?_
  refine qE.stepK [0,3,33] (qK rfl c7 (by simp)) (by conv=>lhs; simp) rfl ?_
  refine qE.run [[],[0,3,8]] ?_
  iterate 2 refine op1 tok ?_
  refine qA (rgn [.str [124]] [[],[]] ?_)
  iterate 2 refine op1 tok ?_
  refine qF ?_
  refine qE.freeze 936 (by conv=>lhs; simp) ?_
  refine qE.stepK [0,3,8] (qK rfl c8 (by simp)) (by conv=>lhs; simp) rfl ?_
  refine qE.nil ?_
  refine rgn [.int .i64 a1,.int .i64 a9] [[],[],[],[]] ?_
  iterate 4 refine op1 tok ?_
  refine qF ?_
  refine qE.stepK [38,39,40,42] (qK rfl c9 (by simp)) (by conv=>lhs; simp) rfl ?_
  refine qE.run [[]] ?_
  refine op1 tok ?_
  refine qF ?_
  refine qE.freeze 943 (by conv=>lhs; simp) ?_
  refine qE.stepK [44] (qK rfl c10 (by simp)) (by conv=>lhs; simp) rfl ?_
  refine qE.run [[2]] ?_
  refine op1 tok ?_
  refine qA ?_
  exact AW.ret qP
 intro h30
 try simp at h30
 rw [if_neg (by simp [h30])]
 refine AW.skip (rgn [] [[],[2]] ?_)
 iterate 2 refine op1 tok ?_
 refine qA ?_
 exact AW.ret qP
theorem qMW (n:Nat) (w:List UInt8) (s:PS) (ih:∀ m,m≤n→SynAll G m) (hi:InS 1 0 s) (hf:20 * s.left.length+13≤n+1):AX Tryz.prog G 123 [.ptr 2 0,.p (.str w)] [(2,.vars 42 (psC (s))),(3,.row 36 8 ((s).nodes.map Nd.enc))] (.p (.int .i64 (zI (n+1) w s).1)) [2] [(2,.vars 42 (psC ((zI (n+1) w s).2))),(3,.row 36 8 (((zI (n+1) w s).2).nodes.map Nd.enc))]:=by
 refine AX.introU tok 900 Tryz.func123 (by kernel_rfl) rfl rfl ?_
 simp only [Tryz.f123,qN,List.map_cons,List.map_nil]
 simp only [zI]
 have c1:=(ih n (by omega)).deeper 1 s (.inr ⟨rfl,hi⟩) (by omega)
 have l1:=(zC n).deeper 1 s (by omega)
 have i1:=hi.le 0 0 l1 (by simp) (by simp)
 generalize zF n 1 s=R at *
 obtain ⟨a1,s1⟩:=R
 simp only at c1 l1 i1 ⊢
 have c2:=kA (G:=G) s1 w
 have l2:=qV 6 w s1
 have i2:=i1.le0 l2
 generalize zB 6 w s1=s2 at *
 refine rgn [] [[0,1]] ?_
 refine op1 tok ?_
 refine qA (rgn [] [[]] ?_)
 refine op1 tok ?_
 refine qF ?_
 refine qE.stepK [0,1,7] (qK rfl c1 (by simp)) (by conv=>lhs; simp) rfl ?_
 refine qE.run [[0,1,5]] ?_
 refine op1 tok ?_
 refine qA (rgn [.str w] [[],[],[]] ?_)
 iterate 3 refine op1 tok ?_
 refine qF ?_
 refine qE.freeze 910 (by conv=>lhs; simp) ?_
 refine qE.stepK [5] (qK rfl c2 (by simp)) (by conv=>lhs; simp) rfl ?_
 refine qE.nil ?_
 refine rgn [] [[],[4]] ?_
 iterate 2 refine op1 tok ?_
 refine qA ?_
 exact AW.ret qP
theorem qMJ (n:Nat) (s:PS) (ih:∀ m,m≤n→SynAll G m) (hi:InS 1 0 s) (hf:20 * s.left.length+14≤n+1):AX Tryz.prog G 117 [.ptr 2 0] [(2,.vars 42 (psC (s))),(3,.row 36 8 ((s).nodes.map Nd.enc))] (.p (.int .i64 (zE (n+1) s).1)) [2] [(2,.vars 42 (psC ((zE (n+1) s).2))),(3,.row 36 8 (((zE (n+1) s).2).nodes.map Nd.enc))]:=by
 refine AX.introU tok 900 Tryz.func117 (by kernel_rfl) rfl rfl ?_
 simp only [Tryz.f117,qN,List.map_cons,List.map_nil]
 simp only [zE]
 have c1:=kA (G:=G) s [40]
 have l1:=qV 6 [40] s
 have i1:=hi.le0 l1
 generalize zB 6 [40] s=s1 at *
 have e1:=l1.len
 have c2:=(ih n (by omega)).closed [41] s1 i1 (by omega)
 refine rgn [] [[0]] ?_
 refine op1 tok ?_
 refine qA (rgn [.str [40]] [[],[]] ?_)
 iterate 2 refine op1 tok ?_
 refine qF ?_
 refine qE.freeze 904 (by conv=>lhs; simp) ?_
 refine qE.stepK [0] (qK rfl c1 (by simp)) (by conv=>lhs; simp) rfl ?_
 refine qE.nil ?_
 refine rgn [] [[]] ?_
 refine op1 tok ?_
 refine qF ?_
 refine qE.stepK [7] (qK rfl c2 (by simp)) (by conv=>lhs; simp) rfl ?_
 refine qE.run [[2]] ?_
 refine op1 tok ?_
 refine qA ?_
 exact AW.ret qP
theorem qMU (n:Nat) (b:Int) (s:PS) (ih:∀ m,m≤n→SynAll G m) (hi:(b=0∧InS 0 0 s)∨(b=1∧InS 1 0 s)) (hf:20 * s.left.length+12≤n+1):AX Tryz.prog G 22 [.ptr 2 0,.p (.int .i64 b)] [(2,.vars 42 (psC (s))),(3,.row 36 8 ((s).nodes.map Nd.enc))] (.p (.int .i64 (zF (n+1) b s).1)) [2] [(2,.vars 42 (psC ((zF (n+1) b s).2))),(3,.row 36 8 (((zF (n+1) b s).2).nodes.map Nd.enc))]:=by
 refine AX.introU tok 900 Tryz.func22 (by kernel_rfl) rfl rfl ?_
 simp only [Tryz.f22,qN,List.map_cons,List.map_nil]
 have hu:InS 0 0 (upP b s):=by
  rcases hi with ⟨rfl,h⟩ | ⟨rfl,h⟩
  ·exact ⟨h.ok,by have:=h.lo; simp; omega,by have:=h.hi; simp; omega,h.nd⟩
  exact h.up
 have hb:0≤b∧b≤1:=by rcases hi with ⟨rfl,_⟩ | ⟨rfl,_⟩ <;> omega
 have hlo:0≤s.deep∧s.deep≤5000:=by rcases hi with ⟨_,h⟩ | ⟨_,h⟩ <;> (have:=h.lo; have:=h.hi; omega)
 have hm:=kS (G:=G) { s with deep:=s.deep+b } (decide (s.deep+b≤60))
 have hU:upP b s=qU (decide (s.deep+b≤60)) { s with deep:=s.deep+b }:=rfl
 simp only [zF]
 rw [← hU] at hm
 have hul:(upP b s).left=s.left:=rfl
 have hud:(upP b s).deep=s.deep+b:=rfl
 generalize upP b s=u at *
 refine rgn [] [[0,1]] ?_
 refine op1 tok ?_
 refine qA (rgn [] [[],[],[],[],[],[0,1,6,11],[],[],[0,1]] ?_)
 iterate 9 refine op1 tok ?_
 refine qA (rgn [] [[],[],[],[],[],[0,1,14,19]] ?_)
 iterate 6 refine op1 tok ?_
 refine qF ?_
 refine qE.stepK [0,1] (qK rfl hm (by simp)) (by conv=>lhs; simp) rfl ?_
 refine qE.nil ?_
 refine AW.seq (rgn [] [[],[],[],[0,1,24]] ?_)
 iterate 4 refine op1 tok ?_
 refine qA (cnd ?_ ?_)
 ·intro h24
  try simp at h24
  rw [if_pos h24]
  refine rgn [] [[]] ?_
  refine op1 tok ?_
  refine qA ?_
  exact AW.ret qP
 intro h24
 try simp at h24
 rw [if_neg (by simp [h24])]
 have c3:=(ih n (by omega)).pipe u hu (by rw [hul]; omega)
 have l3:=(zC n).pipe u
 have i3:=hu.le0 l3
 generalize yG n u=R at *
 obtain ⟨a3,s3⟩:=R
 simp only at c3 l3 i3 ⊢
 have hlo3:=l3.d0
 have hhi3:=i3.hi
 refine AW.skip (rgn [] [[]] ?_)
 refine op1 tok ?_
 refine qF ?_
 refine qE.stepK [0,1,26] (qK rfl c3 (by simp)) (by conv=>lhs; simp) rfl ?_
 refine qE.run [[0,1,5]] ?_
 refine op1 tok ?_
 refine qA (rgn [] [[],[],[],[],[5,27,30,31],[],[],[5,32,34],[5]] ?_)
 iterate 9 refine op1 tok ?_
 refine qA (rgn [] [[],[4]] ?_)
 iterate 2 refine op1 tok ?_
 refine qA ?_
 exact AW.ret qP
end Go.Proofs.YtbhhphabggcacaaGreatDoor
