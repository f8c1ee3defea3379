import Derived.Test.YtbhhphabggcacaaGreatDoorK1
import Derived.Test.YtbhhphabggcacaaGreatDoorM3
import Derived.Test.YtbhhphabggcacaaGreatDoorM4
import Derived.Test.YtbhhphabggcacaaGreatDoorM1
import Derived.Lib.MapLaws
import Derived.Lib.ValidLaws
import Derived.Laws.RangeString
import Derived.Lib.RuneCount
import Derived.Shelf.Unicode.DecodeAny
import Derived.Shelf.Strings.Repeat
import Derived.Shelf.Strings.Builder1
import Derived.Shelf.Strings.OnBuilder
import Derived.Test.YtbhhphabggcacaaGreatDoorProg
namespace Go.Proofs.YtbhhphabggcacaaGreatDoor
open Sy Go
set_option maxRecDepth 100000
set_option maxHeartbeats 4000000
set_option linter.unusedSimpArgs false
set_option linter.unusedVariables false
variable {G:qS}
theorem qVO (n:Nat) (s:PS) (ih:∀ m,m≤n→SynAll G m) (hi:InS 1 1 s) (hf:20 * s.left.length+14≤n+1):AX Tryz.prog G 116 [.ptr 2 0] [(2,.vars 42 (psC (s))),(3,.row 36 8 ((s).nodes.map Nd.enc))] (.p (.int .i64 (wB (n+1) s).1)) [2] [(2,.vars 42 (psC ((wB (n+1) s).2))),(3,.row 36 8 (((wB (n+1) s).2).nodes.map Nd.enc))]:=by
 refine AX.introU tok 900 Tryz.func116 (by kernel_rfl) rfl rfl ?_
 simp only [Tryz.f116,qN,List.map_cons,List.map_nil]
 have b1:=hi.lo
 have b2:=hi.hi
 simp only [wB]
 have hu:InS 0 1 { s with deep:=s.deep+1 }:=⟨hi.ok,by simp only; omega,by simp only; omega,hi.nd⟩
 have hul:({ s with deep:=s.deep+1 }:PS).left=s.left:=rfl
 have c1:=(ih n (by omega)).deeper 0 { s with deep:=s.deep+1 } (.inl ⟨rfl,hu.weak 0 0 (by omega) (by omega)⟩) (by rw [hul]; omega)
 have l1:=(zK n).deeper 0 { s with deep:=s.deep+1 } (by omega)
 have i1:=hu.le 0 1 l1 (by simp) (by simp)
 generalize qW n 0 { s with deep:=s.deep+1 }=R at *
 obtain ⟨a1,s1⟩:=R
 simp only at c1 l1 i1 ⊢
 have e1:=l1.len
 have f1:=l1.d0
 simp only at e1 f1
 have c2:=qGB (G:=G) s1 [116,104,101,110]
 have l2:=qU 1 [116,104,101,110] s1
 have i2:=i1.le0 l2
 generalize zA 1 [116,104,101,110] s1=s2 at *
 have e2:=l2.len
 have f2:=l2.d0
 have c3:=(ih n (by omega)).deeper 0 s2 (.inl ⟨rfl,i2.weak 0 0 (by omega) (by omega)⟩) (by omega)
 have l3:=(zK n).deeper 0 s2 (by omega)
 have i3:=i2.le 0 1 l3 (by simp) (by simp)
 generalize qW n 0 s2=R at *
 obtain ⟨a3,s3⟩:=R
 simp only at c3 l3 i3 ⊢
 have e3:=l3.len
 have f3:=l3.d0
 have c4:=qGB (G:=G) s3 [101,108,115,101]
 have l4:=qU 1 [101,108,115,101] s3
 have i4:=i3.le0 l4
 generalize zA 1 [101,108,115,101] s3=s4 at *
 have e4:=l4.len
 have f4:=l4.d0
 have c5:=(ih n (by omega)).deeper 0 s4 (.inl ⟨rfl,i4.weak 0 0 (by omega) (by omega)⟩) (by omega)
 have l5:=(zK n).deeper 0 s4 (by omega)
 have i5:=i4.le 0 1 l5 (by simp) (by simp)
 generalize qW n 0 s4=R at *
 obtain ⟨a5,s5⟩:=R
 simp only at c5 l5 i5 ⊢
 have e5:=l5.len
 have f5:=l5.d0
 have c6:=qGB (G:=G) s5 [101,110,100]
 have l6:=qU 1 [101,110,100] s5
 have i6:=i5.le0 l6
 generalize zA 1 [101,110,100] s5=s6 at *
 have f6:=l6.d0
 have g6:=i6.hi
 have c7:=vK (G:=G) (yN 1 s6) 12 [] [a1,a3,a5] (by have:=i6.n; simpa using this)
 simp only [List.map_cons,List.map_nil] at c7
 refine rgn [] [[0]] ?_
 refine op1 tok ?_
 refine qA (rgn [] [[],[],[],[],[],[0,10,11],[],[0]] ?_)
 iterate 8 refine op1 tok ?_
 refine qA (rgn [] [[]] ?_)
 refine op1 tok ?_
 refine qD ?_
 refine qB.stepK [0,14] (qJ rfl c1 (by simp)) (by conv=>lhs; simp) rfl ?_
 refine qB.run [[0,3]] ?_
 refine op1 tok ?_
 refine qA (rgn [.str [116,104,101,110]] [[],[]] ?_)
 iterate 2 refine op1 tok ?_
 refine qD ?_
 refine qB.freeze 916 (by conv=>lhs; simp) ?_
 refine qB.stepK [0,3] (qJ rfl c2 (by simp)) (by conv=>lhs; simp) rfl ?_
 refine qB.nil ?_
 refine rgn [] [[]] ?_
 refine op1 tok ?_
 refine qD ?_
 refine qB.stepK [0,3,19] (qJ rfl c3 (by simp)) (by conv=>lhs; simp) rfl ?_
 refine qB.run [[0,3,4]] ?_
 refine op1 tok ?_
 refine qA (rgn [.str [101,108,115,101]] [[],[]] ?_)
 iterate 2 refine op1 tok ?_
 refine qD ?_
 refine qB.freeze 921 (by conv=>lhs; simp) ?_
 refine qB.stepK [0,3,4] (qJ rfl c4 (by simp)) (by conv=>lhs; simp) rfl ?_
 refine qB.nil ?_
 refine rgn [] [[]] ?_
 refine op1 tok ?_
 refine qD ?_
 refine qB.stepK [0,3,4,24] (qJ rfl c5 (by simp)) (by conv=>lhs; simp) rfl ?_
 refine qB.run [[0,3,4,5]] ?_
 refine op1 tok ?_
 refine qA (rgn [.str [101,110,100]] [[],[]] ?_)
 iterate 2 refine op1 tok ?_
 refine qD ?_
 refine qB.freeze 926 (by conv=>lhs; simp) ?_
 refine qB.stepK [0,3,4,5] (qJ rfl c6 (by simp)) (by conv=>lhs; simp) rfl ?_
 refine qB.nil ?_
 refine rgn [] [[],[],[],[],[],[0,3,4,5,32,33],[],[0,3,4,5]] ?_
 iterate 8 refine op1 tok ?_
 refine qA (rgn [.int .i64 a1,.int .i64 a3,.int .i64 a5] [[],[],[],[35,36,37,38],[]] ?_)
 iterate 5 refine op1 tok ?_
 refine qD ?_
 refine qB.freeze 939 (by conv=>lhs; simp) ?_
 refine qB.stepK [40] (qJ rfl c7 (by simp)) (by conv=>lhs; simp) rfl ?_
 refine qB.run [[2]] ?_
 refine op1 tok ?_
 refine qA ?_
 exact AW.ret qV
theorem qTS (n:Nat) (s:PS) (ih:∀ m,m≤n→SynAll G m) (hi:InS 2 1 s) (hf:20 * s.left.length+15≤n+1):AX Tryz.prog G 118 [.ptr 2 0] [(2,.vars 42 (psC (s))),(3,.row 36 8 ((s).nodes.map Nd.enc))] (.p (.int .i64 (zY (n+1) s).1)) [2] [(2,.vars 42 (psC ((zY (n+1) s).2))),(3,.row 36 8 (((zY (n+1) s).2).nodes.map Nd.enc))]:=by
 refine AX.introU tok 900 Tryz.func118 (by kernel_rfl) rfl rfl ?_
 simp only [Tryz.f118,qN,List.map_cons,List.map_nil]
 simp only [zY]
 have c1:=(ih n (by omega)).post s (hi.weak 0 0 (by omega) (by omega)) (by omega)
 have l1:=(zK n).post s
 have i1:=hi.le0 l1
 generalize wQ n s=R at *
 obtain ⟨a1,s1⟩:=R
 simp only at c1 l1 i1 ⊢
 have e1:=l1.len
 have c2:=qGB (G:=G) s1 [97,115]
 have l2:=qU 1 [97,115] s1
 have i2:=i1.le0 l2
 generalize zA 1 [97,115] s1=s2 at *
 have e2:=l2.len
 have c3:=qEL (G:=G) s2 [2]
 have l3:=kK [2] s2
 have i3:=i2.le0 l3
 generalize zD [2] s2=R at *
 obtain ⟨t3,s3⟩:=R
 simp only [List.map_cons,List.map_nil] at c3 l3 i3 ⊢
 have e3:=l3.len
 have c4:=xC (G:=G) s3 [40]
 have l4:=qU 6 [40] s3
 have i4:=i3.le0 l4
 generalize zA 6 [40] s3=s4 at *
 have e4:=l4.len
 have c5:=(ih n (by omega)).closed [59] s4 (i4.weak 1 0 (by omega) (by omega)) (by omega)
 have l5:=(zK n).closed [59] s4
 have i5:=i4.le 1 1 l5 (by omega) (by omega)
 generalize qQ n [59] s4=R at *
 obtain ⟨a5,s5⟩:=R
 simp only at c5 l5 i5 ⊢
 have e5:=l5.len
 have c6:=(ih n (by omega)).closed [41] s5 (i5.weak 1 0 (by omega) (by omega)) (by omega)
 have l6:=(zK n).closed [41] s5
 have i6:=i5.le 0 1 l6 (by omega) (by omega)
 generalize qQ n [41] s5=R at *
 obtain ⟨a6,s6⟩:=R
 simp only at c6 l6 i6 ⊢
 have c7:=vK (G:=G) s6 15 t3.text [a1,a5,a6] i6.n
 simp only [List.map_cons,List.map_nil] at c7
 refine rgn [] [[0]] ?_
 refine op1 tok ?_
 refine qA (rgn [] [[]] ?_)
 refine op1 tok ?_
 refine qD ?_
 refine qB.stepK [0,8] (qJ rfl c1 (by simp)) (by conv=>lhs; simp) rfl ?_
 refine qB.run [[0,3]] ?_
 refine op1 tok ?_
 refine qA (rgn [.str [97,115]] [[],[]] ?_)
 iterate 2 refine op1 tok ?_
 refine qD ?_
 refine qB.freeze 910 (by conv=>lhs; simp) ?_
 refine qB.stepK [0,3] (qJ rfl c2 (by simp)) (by conv=>lhs; simp) rfl ?_
 refine qB.nil ?_
 refine rgn [.int .i64 2] [[],[]] ?_
 iterate 2 refine op1 tok ?_
 refine qD ?_
 refine qB.freeze 913 (by conv=>lhs; simp) ?_
 refine qB.stepK [0,3,14] (qJ rfl c3 (by simp)) (by conv=>lhs; simp) rfl ?_
 refine qB.run [[],[0,3,4]] ?_
 iterate 2 refine op1 tok ?_
 refine qA (rgn [.str [40]] [[],[]] ?_)
 iterate 2 refine op1 tok ?_
 refine qD ?_
 refine qB.freeze 917 (by conv=>lhs; simp) ?_
 refine qB.stepK [0,3,4] (qJ rfl c4 (by simp)) (by conv=>lhs; simp) rfl ?_
 refine qB.nil ?_
 refine rgn [] [[]] ?_
 refine op1 tok ?_
 refine qD ?_
 refine qB.stepK [0,3,4,20] (qJ rfl c5 (by simp)) (by conv=>lhs; simp) rfl ?_
 refine qB.run [[0,3,4,5]] ?_
 refine op1 tok ?_
 refine qA (rgn [] [[]] ?_)
 refine op1 tok ?_
 refine qD ?_
 refine qB.stepK [0,3,4,5,22] (qJ rfl c6 (by simp)) (by conv=>lhs; simp) rfl ?_
 refine qB.run [[0,3,4,5,6]] ?_
 refine op1 tok ?_
 refine qA (rgn [.int .i64 a1,.int .i64 a5,.int .i64 a6] [[],[],[],[6,23,24,25,26],[],[23,24,28]] ?_)
 iterate 6 refine op1 tok ?_
 refine qD ?_
 refine qB.freeze 928 (by conv=>lhs; simp) ?_
 refine qB.stepK [29] (qJ rfl c7 (by simp)) (by conv=>lhs; simp) rfl ?_
 refine qB.run [[2]] ?_
 refine op1 tok ?_
 refine qA ?_
 exact AW.ret qV
theorem qWX (n:Nat) (s:PS) (hE:PE G) (ih:∀ m,m≤n→SynAll G m) (hi:InS 1 1 s) (hf:20 * s.left.length+15≤n+1):AX Tryz.prog G 119 [.ptr 2 0] [(2,.vars 42 (psC (s))),(3,.row 36 8 ((s).nodes.map Nd.enc))] (.p (.int .i64 (wV (n+1) s).1)) [2] [(2,.vars 42 (psC ((wV (n+1) s).2))),(3,.row 36 8 (((wV (n+1) s).2).nodes.map Nd.enc))]:=by
 refine AX.introU tok 900 Tryz.func119 (by kernel_rfl) rfl rfl ?_
 simp only [Tryz.f119,qN,List.map_cons,List.map_nil]
 simp only [wV]
 have c1:=xC (G:=G) s [40]
 have l1:=qU 6 [40] s
 have i1:=hi.le0 l1
 generalize zA 6 [40] s=s1 at *
 have e1:=l1.len
 have c2:=qKP (G:=G) hE s1 i1.1
 have l2:=uS s1
 have i2:=i1.le0 l2
 generalize wY s1=R at *
 obtain ⟨a2,s2⟩:=R
 simp only at c2 l2 i2 ⊢
 have e2:=l2.len
 have c3:=xC (G:=G) s2 [59]
 have l3:=qU 6 [59] s2
 have i3:=i2.le0 l3
 generalize zA 6 [59] s2=s3 at *
 have e3:=l3.len
 have c4:=(ih n (by omega)).closed [41] s3 (i3.weak 1 0 (by omega) (by omega)) (by omega)
 have l4:=(zK n).closed [41] s3
 have i4:=i3.le 0 1 l4 (by omega) (by omega)
 generalize qQ n [41] s3=R at *
 obtain ⟨a4,s4⟩:=R
 simp only at c4 l4 i4 ⊢
 have c5:=qBH (G:=G) s4 ⟨17,a2,[],⟨false,[],0⟩,[],[a4]⟩ rfl i4.n
 simp only [List.map_cons,List.map_nil] at c5
 refine rgn [] [[0]] ?_
 refine op1 tok ?_
 refine qA (rgn [.str [40]] [[],[]] ?_)
 iterate 2 refine op1 tok ?_
 refine qD ?_
 refine qB.freeze 906 (by conv=>lhs; simp) ?_
 refine qB.stepK [0] (qJ rfl c1 (by simp)) (by conv=>lhs; simp) rfl ?_
 refine qB.nil ?_
 refine rgn [] [[]] ?_
 refine op1 tok ?_
 refine qD ?_
 refine qB.stepK [0,9] (qJ rfl c2 (by simp)) (by conv=>lhs; simp) rfl ?_
 refine qB.run [[0,3]] ?_
 refine op1 tok ?_
 refine qA (rgn [.str [59]] [[],[]] ?_)
 iterate 2 refine op1 tok ?_
 refine qD ?_
 refine qB.freeze 911 (by conv=>lhs; simp) ?_
 refine qB.stepK [0,3] (qJ rfl c3 (by simp)) (by conv=>lhs; simp) rfl ?_
 refine qB.nil ?_
 refine rgn [] [[]] ?_
 refine op1 tok ?_
 refine qD ?_
 refine qB.stepK [0,3,14] (qJ rfl c4 (by simp)) (by conv=>lhs; simp) rfl ?_
 refine qB.run [[0,3,4]] ?_
 refine op1 tok ?_
 refine qA (rgn [.int .i64 a4] [[],[],[],[15,16,18]] ?_)
 iterate 4 refine op1 tok ?_
 refine qD ?_
 refine qB.freeze 918 (by conv=>lhs; simp) ?_
 refine qB.run [[]] ?_
 refine op1 tok ?_
 refine qD ?_
 refine qB.stepK [20] (qJ rfl c5 (by simp)) (by conv=>lhs; simp) rfl ?_
 refine qB.run [[2]] ?_
 refine op1 tok ?_
 refine qA ?_
 exact AW.ret qV
theorem zBB (n:Nat) (s:PS) (ih:∀ m,m≤n→SynAll G m) (hi:InS 1 4 s) (hf:20 * s.left.length+16≤n+1):AX Tryz.prog G 120 [.ptr 2 0] [(2,.vars 42 (psC (s))),(3,.row 36 8 ((s).nodes.map Nd.enc))] (.p (.int .i64 (kC (n+1) s).1)) [2] [(2,.vars 42 (psC ((kC (n+1) s).2))),(3,.row 36 8 (((kC (n+1) s).2).nodes.map Nd.enc))]:=by
 refine AX.introU tok 900 Tryz.func120 (by kernel_rfl) rfl rfl ?_
 simp only [Tryz.f120,qN,List.map_cons,List.map_nil]
 simp only [kC]
 have c1:=qDH (G:=G) s 1 [] hi.n
 have l1:=wW 1 [] [] s
 have i1:=hi.le 1 3 l1 (by omega) (by omega)
 generalize opP 1 [] [] s=R at *
 obtain ⟨a1,s1⟩:=R
 simp only at c1 l1 i1 ⊢
 have e1:=l1.len
 have c2:=vK (G:=G) s1 6 [] [a1] i1.n
 have l2:=wW 6 [] [a1] s1
 have i2:=i1.le 1 2 l2 (by omega) (by omega)
 generalize opP 6 [] [a1] s1=R at *
 obtain ⟨a2,s2⟩:=R
 simp only [List.map_cons,List.map_nil] at c2 l2 i2 ⊢
 have e2:=l2.len
 have c3:=(ih n (by omega)).inside s2 (i2.weak 1 0 (by omega) (by omega)) (by omega)
 have l3:=(zK n).inside s2
 have i3:=i2.le 0 2 l3 (by omega) (by omega)
 generalize zB n s2=R at *
 obtain ⟨a3,s3⟩:=R
 simp only at c3 l3 i3 ⊢
 have c4:=vK (G:=G) s3 7 [] [a2,a3] i3.n
 have l4:=wW 7 [] [a2,a3] s3
 have i4:=i3.le 0 1 l4 (by omega) (by omega)
 generalize opP 7 [] [a2,a3] s3=R at *
 obtain ⟨a4,s4⟩:=R
 simp only [List.map_cons,List.map_nil] at c4 l4 i4 ⊢
 have c5:=vK (G:=G) s4 9 [] [a4] i4.n
 simp only [List.map_cons,List.map_nil] at c5
 refine rgn [] [[0]] ?_
 refine op1 tok ?_
 refine qA (rgn [.int .i64 a1] [[],[]] ?_)
 iterate 2 refine op1 tok ?_
 refine qD ?_
 refine qB.stepK [0,4,6] (qJ rfl c1 (by simp)) (by conv=>lhs; simp) rfl ?_
 refine qB.run [[]] ?_
 refine op1 tok ?_
 refine qD ?_
 refine qB.freeze 907 (by conv=>lhs; simp) ?_
 refine qB.stepK [0,8] (qJ rfl c2 (by simp)) (by conv=>lhs; simp) rfl ?_
 refine qB.run [[0,3]] ?_
 refine op1 tok ?_
 refine qA (rgn [.int .i64 a2,.int .i64 a3,.int .i64 a4] [[],[],[],[]] ?_)
 iterate 4 refine op1 tok ?_
 refine qD ?_
 refine qB.stepK [9,10,11,13] (qJ rfl c3 (by simp)) (by conv=>lhs; simp) rfl ?_
 refine qB.run [[]] ?_
 refine op1 tok ?_
 refine qD ?_
 refine qB.freeze 914 (by conv=>lhs; simp) ?_
 refine qB.stepK [9,15] (qJ rfl c4 (by simp)) (by conv=>lhs; simp) rfl ?_
 refine qB.run [[]] ?_
 refine op1 tok ?_
 refine qD ?_
 refine qB.freeze 916 (by conv=>lhs; simp) ?_
 refine qB.stepK [17] (qJ rfl c5 (by simp)) (by conv=>lhs; simp) rfl ?_
 refine qB.run [[2]] ?_
 refine op1 tok ?_
 refine qA ?_
 exact AW.ret qV
theorem qQV (n:Nat) (s:PS) (ih:∀ m,m≤n→SynAll G m) (hi:InS 1 3 s) (hf:20 * s.left.length+16≤n+1):AX Tryz.prog G 121 [.ptr 2 0] [(2,.vars 42 (psC (s))),(3,.row 36 8 ((s).nodes.map Nd.enc))] (.p (.int .i64 (zO (n+1) s).1)) [2] [(2,.vars 42 (psC ((zO (n+1) s).2))),(3,.row 36 8 (((zO (n+1) s).2).nodes.map Nd.enc))]:=by
 refine AX.introU tok 900 Tryz.func121 (by kernel_rfl) rfl rfl ?_
 simp only [Tryz.f121,qN,List.map_cons,List.map_nil]
 simp only [zO]
 have c1:=(ih n (by omega)).inside s (hi.weak 1 0 (by omega) (by omega)) (by omega)
 have l1:=(zK n).inside s
 have i1:=hi.le 0 3 l1 (by omega) (by omega)
 generalize zB n s=R at *
 obtain ⟨a1,s1⟩:=R
 simp only at c1 l1 i1 ⊢
 have c2:=qDH (G:=G) s1 1 [] i1.n
 have l2:=wW 1 [] [] s1
 have i2:=i1.le 0 2 l2 (by omega) (by omega)
 generalize opP 1 [] [] s1=R at *
 obtain ⟨a2,s2⟩:=R
 simp only at c2 l2 i2 ⊢
 have c3:=qDH (G:=G) s2 19 [] i2.n
 have l3:=wW 19 [] [] s2
 have i3:=i2.le 0 1 l3 (by omega) (by omega)
 generalize opP 19 [] [] s2=R at *
 obtain ⟨a3,s3⟩:=R
 simp only at c3 l3 i3 ⊢
 have c4:=vK (G:=G) s3 12 [] [a1,a2,a3] i3.n
 simp only [List.map_cons,List.map_nil] at c4
 refine rgn [] [[0]] ?_
 refine op1 tok ?_
 refine qA (rgn [] [[]] ?_)
 refine op1 tok ?_
 refine qD ?_
 refine qB.stepK [0,6] (qJ rfl c1 (by simp)) (by conv=>lhs; simp) rfl ?_
 refine qB.run [[0,3]] ?_
 refine op1 tok ?_
 refine qA (rgn [] [[]] ?_)
 refine op1 tok ?_
 refine qD ?_
 refine qB.stepK [0,3,8] (qJ rfl c2 (by simp)) (by conv=>lhs; simp) rfl ?_
 refine qB.run [[0,3,4]] ?_
 refine op1 tok ?_
 refine qA (rgn [.int .i64 a1,.int .i64 a2,.int .i64 a3] [[],[],[],[]] ?_)
 iterate 4 refine op1 tok ?_
 refine qD ?_
 refine qB.stepK [9,10,11,13] (qJ rfl c3 (by simp)) (by conv=>lhs; simp) rfl ?_
 refine qB.run [[]] ?_
 refine op1 tok ?_
 refine qD ?_
 refine qB.freeze 914 (by conv=>lhs; simp) ?_
 refine qB.stepK [15] (qJ rfl c4 (by simp)) (by conv=>lhs; simp) rfl ?_
 refine qB.run [[2]] ?_
 refine op1 tok ?_
 refine qA ?_
 exact AW.ret qV
theorem zBV (w:List UInt8) (s:PS) (hi:InS 0 1 s):AX Tryz.prog G 122 [.ptr 2 0,.p (.str w)] [(2,.vars 42 (psC (s))),(3,.row 36 8 ((s).nodes.map Nd.enc))] (.p (.int .i64 (jG w s).1)) [2] [(2,.vars 42 (psC ((jG w s).2))),(3,.row 36 8 (((jG w s).2).nodes.map Nd.enc))]:=by
 refine AX.introU tok 900 Tryz.func122 (by kernel_rfl) rfl rfl ?_
 simp only [Tryz.f122,qN,List.map_cons,List.map_nil]
 have hc:=zGG (G:=G) w
 simp only [jG]
 generalize kS w=c at *
 refine rgn [] [[0,1]] ?_
 refine op1 tok ?_
 refine qA (rgn [] [[],[],[],[0,1,5]] ?_)
 iterate 4 refine op1 tok ?_
 refine qA (AW.seq (rgn [.nilp,.int .i64 c] [[],[0,5,9]] ?_))
 iterate 2 refine oq1 tok hc ?_
 refine qA (AW.block (rgn [] [[],[0,5,9,10]] ?_))
 iterate 2 refine op1 tok ?_
 refine qA (cnd ?_ ?_)
 ·intro h10
  try simp at h10
  rw [if_pos h10]
  have c1:=xX (G:=G) s false
  have i1:=hi.le0 (kB false s)
  generalize qK false s=s1 at *
  have c2:=jU (G:=G) s1 ⟨18,0,w,⟨false,[],0⟩,[],[]⟩ rfl rfl i1.n
  simp only [List.map_cons,List.map_nil] at c2
  refine rgz [] [[]] ?_
  refine op1 tok ?_
  refine qD ?_
  refine qB.stepK [0,5] (qJ rfl c1 (by simp)) (by conv=>lhs; simp) rfl ?_
  refine qB.nil ?_
  refine rgn [] [[],[]] ?_
  iterate 2 refine op1 tok ?_
  refine qD ?_
  refine qB.stepK [30] (qJ rfl c2 (by simp)) (by conv=>lhs; simp) rfl ?_
  refine qB.run [[4]] ?_
  refine op1 tok ?_
  refine qA ?_
  exact AW.ret qV
 intro h10
 try simp at h10
 rw [if_neg h10]
 refine rgn [] [[],[0,5,14]] ?_
 iterate 2 refine op1 tok ?_
 refine qA (cnd ?_ ?_)
 ·intro h14
  try simp at h14
  rw [if_pos h14]
  have c1:=xC (G:=G) s [40]
  have l1:=qU 6 [40] s
  have i1:=hi.le0 l1
  generalize zA 6 [40] s=s1 at *
  have c2:=qEL (G:=G) s1 [5]
  have l2:=kK [5] s1
  have i2:=i1.le0 l2
  generalize zD [5] s1=R at *
  obtain ⟨t2,s2⟩:=R
  simp only [List.map_cons,List.map_nil] at c2 l2 i2 ⊢
  have c3:=xC (G:=G) s2 [41]
  have l3:=qU 6 [41] s2
  have i3:=i2.le0 l3
  generalize zA 6 [41] s2=s3 at *
  have c4:=zAU (G:=G) s3 ⟨18,0,w,⟨false,[],0⟩,[t2.text],[]⟩ rfl i3.n
  simp only [List.map_cons,List.map_nil] at c4
  refine rgn [.str [40]] [[],[]] ?_
  iterate 2 refine op1 tok ?_
  refine qD ?_
  refine qB.freeze 917 (by conv=>lhs; simp) ?_
  refine qB.stepK [0,5] (qJ rfl c1 (by simp)) (by conv=>lhs; simp) rfl ?_
  refine qB.nil ?_
  refine rgn [.int .i64 5,.str t2.text] [[],[]] ?_
  iterate 2 refine op1 tok ?_
  refine qD ?_
  refine qB.freeze 920 (by conv=>lhs; simp) ?_
  refine qB.stepK [0,5,21] (qJ rfl c2 (by simp)) (by conv=>lhs; simp) rfl ?_
  refine qB.run [[],[],[],[0,5]] ?_
  iterate 4 refine op1 tok ?_
  refine qA ?_
  refine AW.freezeE 923 (by conv=>lhs; simp) ?_
  refine rgz [.str [41]] [[],[]] ?_
  iterate 2 refine op1 tok ?_
  refine qD ?_
  refine qB.freeze 926 (by conv=>lhs; simp) ?_
  refine qB.stepK [0,5] (qJ rfl c3 (by simp)) (by conv=>lhs; simp) rfl ?_
  refine qB.nil ?_
  refine rgn [] [[],[]] ?_
  iterate 2 refine op1 tok ?_
  refine qD ?_
  refine qB.stepK [30] (qJ rfl c4 (by simp)) (by conv=>lhs; simp) rfl ?_
  refine qB.run [[4]] ?_
  refine op1 tok ?_
  refine qA ?_
  exact AW.ret qV
 intro h14
 try simp at h14
 rw [if_neg h14]
 have c1:=jU (G:=G) s ⟨18,0,w,⟨false,[],0⟩,[],[]⟩ rfl rfl hi.n
 simp only [List.map_cons,List.map_nil] at c1
 refine AW.skip (rgn [] [[],[]] ?_)
 iterate 2 refine op1 tok ?_
 refine qD ?_
 refine qB.stepK [30] (qJ rfl c1 (by simp)) (by conv=>lhs; simp) rfl ?_
 refine qB.run [[4]] ?_
 refine op1 tok ?_
 refine qA ?_
 exact AW.ret qV
theorem qTJ (n:Nat) (w:List UInt8) (s:PS) (ih:∀ m,m≤n→SynAll G m) (hi:InS 0 0 s) (hf:20 * s.left.length+1≤n+1) (hw:w≠[]→InS 1 1 s∧20 * s.left.length+17≤n+1):AX Tryz.prog G 96 [.ptr 2 0,.p (.str w)] [(2,.vars 42 (psC (s))),(3,.row 36 8 ((s).nodes.map Nd.enc))] (.p (.int .i64 (zJ (n+1) w s).1)) [2] [(2,.vars 42 (psC ((zJ (n+1) w s).2))),(3,.row 36 8 (((zJ (n+1) w s).2).nodes.map Nd.enc))]:=by
 refine AX.introU tok 900 Tryz.func96 (by kernel_rfl) rfl rfl ?_
 simp only [Tryz.f96,qN,List.map_cons,List.map_nil]
 simp only [zJ]
 refine rgn [] [[0,1]] ?_
 refine op1 tok ?_
 refine qA (AW.seq (rgn [] [[0,8]] ?_))
 refine op1 tok ?_
 refine qA (AW.block (rgn [] [[],[0,8,9]] ?_))
 iterate 2 refine op1 tok ?_
 refine qA (cnd ?_ ?_)
 ·intro h9
  try simp at h9
  rw [if_pos h9]
  have c1:=qDH (G:=G) s 1 [] hi.n
  refine rgn [] [[]] ?_
  refine op1 tok ?_
  refine qD ?_
  refine qB.stepK [12] (qJ rfl c1 (by simp)) (by conv=>lhs; simp) rfl ?_
  refine qB.run [[4]] ?_
  refine op1 tok ?_
  refine qA ?_
  exact AW.ret qV
 intro h9
 try simp at h9
 rw [if_neg h9]
 refine rgn [] [[],[0,8,13]] ?_
 iterate 2 refine op1 tok ?_
 refine qA (cnd ?_ ?_)
 ·intro h13
  try simp at h13
  rw [if_pos h13]
  have c1:=qEL (G:=G) s [4]
  have l1:=kK [4] s
  have i1:=hi.le0 l1
  generalize zD [4] s=R at *
  obtain ⟨t1,s1⟩:=R
  simp only [List.map_cons,List.map_nil] at c1 l1 i1 ⊢
  have c2:=qJK (G:=G) s1 ⟨decide (t1.num.digits≠[48]),t1.num.digits,t1.num.scale⟩ i1.n
  simp only at c2
  refine rgn [.int .i64 4] [[],[]] ?_
  iterate 2 refine op1 tok ?_
  refine qD ?_
  refine qB.freeze 916 (by conv=>lhs; simp) ?_
  refine qB.stepK [0,17] (qJ rfl c1 (by simp)) (by conv=>lhs; simp) rfl ?_
  refine qB.run [[],[],[0,5]] ?_
  iterate 3 refine op1 tok ?_
  refine qA (rgn [] [[],[],[],[],[0,5]] ?_)
  iterate 5 refine op1 tok ?_
  refine qA (rgn [] [[],[]] ?_)
  iterate 2 refine op1 tok ?_
  refine qD ?_
  refine qB.stepK [25] (qJ rfl c2 (by simp)) (by conv=>lhs; simp) rfl ?_
  refine qB.run [[4]] ?_
  refine op1 tok ?_
  refine qA ?_
  exact AW.ret qV
 intro h13
 try simp at h13
 rw [if_neg h13]
 refine rgn [] [[],[0,8,26]] ?_
 iterate 2 refine op1 tok ?_
 refine qA (cnd ?_ ?_)
 ·intro h26
  try simp at h26
  rw [if_pos h26]
  obtain ⟨hi2,hf2⟩:=hw (by rw [h26]; simp)
  have c1:=(ih n (by omega)).closed [41] s (hi2.weak 1 0 (by omega) (by omega)) (by omega)
  refine rgn [] [[]] ?_
  refine op1 tok ?_
  refine qD ?_
  refine qB.stepK [29] (qJ rfl c1 (by simp)) (by conv=>lhs; simp) rfl ?_
  refine qB.run [[4]] ?_
  refine op1 tok ?_
  refine qA ?_
  exact AW.ret qV
 intro h26
 try simp at h26
 rw [if_neg h26]
 refine rgn [] [[],[0,8,30]] ?_
 iterate 2 refine op1 tok ?_
 refine qA (cnd ?_ ?_)
 ·intro h30
  try simp at h30
  rw [if_pos h30]
  obtain ⟨hi2,hf2⟩:=hw (by rw [h30]; simp)
  have c1:=uH (G:=G) s [[93]]
  have l1:=zP 6 [[93]] s
  have o1:=xH (k:=6) (l:=[[93]]) (s:=s)
  have i1:=hi2.le0 l1
  generalize qT 6 [[93]] s=R at *
  obtain ⟨⟨w1,b1⟩,s1⟩:=R
  simp only [List.map_cons,List.map_nil] at c1 l1 o1 i1 ⊢
  have e1:=l1.len
  refine AW.seq (rgn [.str [93]] [[],[]] ?_)
  iterate 2 refine op1 tok ?_
  refine qD ?_
  refine qB.freeze 934 (by conv=>lhs; simp) ?_
  refine qB.stepK [0,35] (qJ rfl c1 (by simp)) (by conv=>lhs; simp) rfl ?_
  refine qB.run [[],[],[],[0,37],[0,7]] ?_
  iterate 5 refine op1 tok ?_
  refine qA (rgn [] [[0,38]] ?_)
  refine op1 tok ?_
  refine qA (cnd ?_ ?_)
  ·intro h38
   try simp at h38
   rw [if_pos h38]
   have c2:=qDH (G:=G) s1 9 [] i1.n
   refine rgn [] [[]] ?_
   refine op1 tok ?_
   refine qD ?_
   refine qB.stepK [40] (qJ rfl c2 (by simp)) (by conv=>lhs; simp) rfl ?_
   refine qB.run [[4]] ?_
   refine op1 tok ?_
   refine qA ?_
   exact AW.ret qV
  intro h38
  try simp at h38
  rw [if_neg (by simp [h38])]
  have c2:=(ih n (by omega)).closed [93] s1 (i1.weak 1 0 (by omega) (by omega)) (by omega)
  have l2:=(zK n).closed [93] s1
  have i2:=i1.le 0 1 l2 (by omega) (by omega)
  generalize qQ n [93] s1=R at *
  obtain ⟨a2,s2⟩:=R
  simp only at c2 l2 i2 ⊢
  have c3:=vK (G:=G) s2 9 [] [a2] i2.n
  simp only [List.map_cons,List.map_nil] at c3
  refine AW.skip (rgn [.int .i64 a2] [[],[]] ?_)
  iterate 2 refine op1 tok ?_
  refine qD ?_
  refine qB.stepK [41,43] (qJ rfl c2 (by simp)) (by conv=>lhs; simp) rfl ?_
  refine qB.run [[]] ?_
  refine op1 tok ?_
  refine qD ?_
  refine qB.freeze 944 (by conv=>lhs; simp) ?_
  refine qB.stepK [45] (qJ rfl c3 (by simp)) (by conv=>lhs; simp) rfl ?_
  refine qB.run [[4]] ?_
  refine op1 tok ?_
  refine qA ?_
  exact AW.ret qV
 intro h30
 try simp at h30
 rw [if_neg h30]
 refine rgn [] [[],[0,46]] ?_
 iterate 2 refine op1 tok ?_
 refine qA (cnd ?_ ?_)
 ·intro h46
  try simp at h46
  rw [if_pos h46]
  obtain ⟨hi2,hf2⟩:=hw (by rw [h46]; simp)
  have c1:=(ih n (by omega)).object s hi2 (by omega)
  refine rgn [] [[]] ?_
  refine op1 tok ?_
  refine qD ?_
  refine qB.stepK [49] (qJ rfl c1 (by simp)) (by conv=>lhs; simp) rfl ?_
  refine qB.run [[4]] ?_
  refine op1 tok ?_
  refine qA ?_
  exact AW.ret qV
 intro h46
 try simp at h46
 rw [if_neg h46]
 have c1:=xX (G:=G) s false
 refine AW.skip (rgn [] [[]] ?_)
 refine op1 tok ?_
 refine qD ?_
 refine qB.stepK [] (qJ rfl c1 (by simp)) (by conv=>lhs; simp) rfl ?_
 refine qB.nil ?_
 refine rgn [] [[]] ?_
 refine op1 tok ?_
 refine qA ?_
 exact AW.ret qV
theorem qWS (n:Nat) (w:List UInt8) (s:PS) (ih:∀ m,m≤n→SynAll G m) (hi:InS 2 4 s) (hf:20 * s.left.length+17≤n+1):AX Tryz.prog G 94 [.ptr 2 0,.p (.str w)] [(2,.vars 42 (psC (s))),(3,.row 36 8 ((s).nodes.map Nd.enc))] (.p (.int .i64 (zS (n+1) w s).1)) [2] [(2,.vars 42 (psC ((zS (n+1) w s).2))),(3,.row 36 8 (((zS (n+1) w s).2).nodes.map Nd.enc))]:=by
 refine AX.introU tok 900 Tryz.func94 (by kernel_rfl) rfl rfl ?_
 simp only [Tryz.f94,qN,List.map_cons,List.map_nil]
 simp only [zS]
 refine rgn [] [[0,1]] ?_
 refine op1 tok ?_
 refine qA (AW.seq (rgn [] [[]] ?_))
 refine op1 tok ?_
 refine qA (AW.block (rgn [] [[],[0,1,5,6]] ?_))
 iterate 2 refine op1 tok ?_
 refine qA (cnd ?_ ?_)
 ·intro h6
  try simp at h6
  rw [if_pos h6]
  have c1:=jU (G:=G) s ⟨2,1,[],⟨false,[],0⟩,[],[]⟩ rfl rfl hi.n
  simp only [List.map_cons,List.map_nil] at c1
  refine rgn [] [[],[]] ?_
  iterate 2 refine op1 tok ?_
  refine qD ?_
  refine qB.stepK [10] (qJ rfl c1 (by simp)) (by conv=>lhs; simp) rfl ?_
  refine qB.run [[4]] ?_
  refine op1 tok ?_
  refine qA ?_
  exact AW.ret qV
 intro h6
 try simp at h6
 rw [if_neg h6]
 refine rgn [] [[],[0,1,5,11]] ?_
 iterate 2 refine op1 tok ?_
 refine qA (cnd ?_ ?_)
 ·intro h11
  try simp at h11
  rw [if_pos h11]
  have c1:=jU (G:=G) s ⟨2,3,[],⟨false,[],0⟩,[],[]⟩ rfl rfl hi.n
  simp only [List.map_cons,List.map_nil] at c1
  refine rgn [] [[],[]] ?_
  iterate 2 refine op1 tok ?_
  refine qD ?_
  refine qB.stepK [15] (qJ rfl c1 (by simp)) (by conv=>lhs; simp) rfl ?_
  refine qB.run [[4]] ?_
  refine op1 tok ?_
  refine qA ?_
  exact AW.ret qV
 intro h11
 try simp at h11
 rw [if_neg h11]
 refine rgn [] [[],[0,1,5,16]] ?_
 iterate 2 refine op1 tok ?_
 refine qA (cnd ?_ ?_)
 ·intro h16
  try simp at h16
  rw [if_pos h16]
  have c1:=jU (G:=G) s ⟨2,2,[],⟨false,[],0⟩,[],[]⟩ rfl rfl hi.n
  simp only [List.map_cons,List.map_nil] at c1
  refine rgn [] [[],[]] ?_
  iterate 2 refine op1 tok ?_
  refine qD ?_
  refine qB.stepK [20] (qJ rfl c1 (by simp)) (by conv=>lhs; simp) rfl ?_
  refine qB.run [[4]] ?_
  refine op1 tok ?_
  refine qA ?_
  exact AW.ret qV
 intro h16
 try simp at h16
 rw [if_neg h16]
 refine rgn [] [[],[0,1,5,21]] ?_
 iterate 2 refine op1 tok ?_
 refine qA (cnd ?_ ?_)
 ·intro h21
  try simp at h21
  rw [if_pos h21]
  have c1:=qDH (G:=G) s 19 [] hi.n
  refine rgn [] [[]] ?_
  refine op1 tok ?_
  refine qD ?_
  refine qB.stepK [24] (qJ rfl c1 (by simp)) (by conv=>lhs; simp) rfl ?_
  refine qB.run [[4]] ?_
  refine op1 tok ?_
  refine qA ?_
  exact AW.ret qV
 intro h21
 try simp at h21
 rw [if_neg h21]
 refine rgn [] [[],[0,1,5,25]] ?_
 iterate 2 refine op1 tok ?_
 refine qA (cnd ?_ ?_)
 ·intro h25
  try simp at h25
  rw [if_pos h25]
  have c1:=(ih n (by omega)).choice s (hi.weak 1 1 (by omega) (by omega)) (by omega)
  refine rgn [] [[]] ?_
  refine op1 tok ?_
  refine qD ?_
  refine qB.stepK [28] (qJ rfl c1 (by simp)) (by conv=>lhs; simp) rfl ?_
  refine qB.run [[4]] ?_
  refine op1 tok ?_
  refine qA ?_
  exact AW.ret qV
 intro h25
 try simp at h25
 rw [if_neg h25]
 refine rgn [] [[],[0,1,5,29]] ?_
 iterate 2 refine op1 tok ?_
 refine qA (cnd ?_ ?_)
 ·intro h29
  try simp at h29
  rw [if_pos h29]
  have c1:=(ih n (by omega)).post s (hi.weak 0 0 (by omega) (by omega)) (by omega)
  have l1:=(zK n).post s
  have i1:=hi.le0 l1
  generalize wQ n s=R at *
  obtain ⟨a1,s1⟩:=R
  simp only at c1 l1 i1 ⊢
  have c2:=vK (G:=G) s1 13 [] [a1] i1.n
  simp only [List.map_cons,List.map_nil] at c2
  refine rgn [.int .i64 a1] [[],[]] ?_
  iterate 2 refine op1 tok ?_
  refine qD ?_
  refine qB.stepK [31,33] (qJ rfl c1 (by simp)) (by conv=>lhs; simp) rfl ?_
  refine qB.run [[]] ?_
  refine op1 tok ?_
  refine qD ?_
  refine qB.freeze 934 (by conv=>lhs; simp) ?_
  refine qB.stepK [35] (qJ rfl c2 (by simp)) (by conv=>lhs; simp) rfl ?_
  refine qB.run [[4]] ?_
  refine op1 tok ?_
  refine qA ?_
  exact AW.ret qV
 intro h29
 try simp at h29
 rw [if_neg h29]
 refine rgn [] [[],[0,1,5,36]] ?_
 iterate 2 refine op1 tok ?_
 refine qA (cnd ?_ ?_)
 ·intro h36
  try simp at h36
  rw [if_pos h36]
  have c1:=(ih n (by omega)).inside s (hi.weak 1 0 (by omega) (by omega)) (by omega)
  have l1:=(zK n).inside s
  have i1:=hi.le 0 1 l1 (by omega) (by omega)
  generalize zB n s=R at *
  obtain ⟨a1,s1⟩:=R
  simp only at c1 l1 i1 ⊢
  have c2:=vK (G:=G) s1 14 [] [a1] i1.n
  simp only [List.map_cons,List.map_nil] at c2
  refine rgn [.int .i64 a1] [[],[]] ?_
  iterate 2 refine op1 tok ?_
  refine qD ?_
  refine qB.stepK [38,40] (qJ rfl c1 (by simp)) (by conv=>lhs; simp) rfl ?_
  refine qB.run [[]] ?_
  refine op1 tok ?_
  refine qD ?_
  refine qB.freeze 941 (by conv=>lhs; simp) ?_
  refine qB.stepK [42] (qJ rfl c2 (by simp)) (by conv=>lhs; simp) rfl ?_
  refine qB.run [[4]] ?_
  refine op1 tok ?_
  refine qA ?_
  exact AW.ret qV
 intro h36
 try simp at h36
 rw [if_neg h36]
 refine rgn [] [[],[0,1,5,43]] ?_
 iterate 2 refine op1 tok ?_
 refine qA (cnd ?_ ?_)
 ·intro h43
  try simp at h43
  rw [if_pos h43]
  have c1:=(ih n (by omega)).inside s (hi.weak 1 0 (by omega) (by omega)) (by omega)
  have l1:=(zK n).inside s
  have i1:=hi.le 0 1 l1 (by omega) (by omega)
  generalize zB n s=R at *
  obtain ⟨a1,s1⟩:=R
  simp only at c1 l1 i1 ⊢
  have c2:=vK (G:=G) s1 20 [] [a1] i1.n
  simp only [List.map_cons,List.map_nil] at c2
  refine rgn [.int .i64 a1] [[],[]] ?_
  iterate 2 refine op1 tok ?_
  refine qD ?_
  refine qB.stepK [45,47] (qJ rfl c1 (by simp)) (by conv=>lhs; simp) rfl ?_
  refine qB.run [[]] ?_
  refine op1 tok ?_
  refine qD ?_
  refine qB.freeze 948 (by conv=>lhs; simp) ?_
  refine qB.stepK [49] (qJ rfl c2 (by simp)) (by conv=>lhs; simp) rfl ?_
  refine qB.run [[4]] ?_
  refine op1 tok ?_
  refine qA ?_
  exact AW.ret qV
 intro h43
 try simp at h43
 rw [if_neg h43]
 refine rgn [] [[],[0,1,5,50]] ?_
 iterate 2 refine op1 tok ?_
 refine qA (cnd ?_ ?_)
 ·intro h50
  try simp at h50
  rw [if_pos h50]
  have c1:=(ih n (by omega)).reduce s (hi.weak 2 1 (by omega) (by omega)) (by omega)
  refine rgn [] [[]] ?_
  refine op1 tok ?_
  refine qD ?_
  refine qB.stepK [53] (qJ rfl c1 (by simp)) (by conv=>lhs; simp) rfl ?_
  refine qB.run [[4]] ?_
  refine op1 tok ?_
  refine qA ?_
  exact AW.ret qV
 intro h50
 try simp at h50
 rw [if_neg h50]
 refine rgn [] [[],[0,1,5,54]] ?_
 iterate 2 refine op1 tok ?_
 refine qA (cnd ?_ ?_)
 ·intro h54
  try simp at h54
  rw [if_pos h54]
  have c1:=(ih n (by omega)).limit s (hi.weak 1 1 (by omega) (by omega)) (by omega)
  refine rgn [] [[]] ?_
  refine op1 tok ?_
  refine qD ?_
  refine qB.stepK [57] (qJ rfl c1 (by simp)) (by conv=>lhs; simp) rfl ?_
  refine qB.run [[4]] ?_
  refine op1 tok ?_
  refine qA ?_
  exact AW.ret qV
 intro h54
 try simp at h54
 rw [if_neg h54]
 refine rgn [] [[],[0,1,5,58]] ?_
 iterate 2 refine op1 tok ?_
 refine qA (cnd ?_ ?_)
 ·intro h58
  try simp at h58
  rw [if_pos h58]
  have c1:=(ih n (by omega)).inside s (hi.weak 1 0 (by omega) (by omega)) (by omega)
  have l1:=(zK n).inside s
  have i1:=hi.le 0 1 l1 (by omega) (by omega)
  generalize zB n s=R at *
  obtain ⟨a1,s1⟩:=R
  simp only at c1 l1 i1 ⊢
  have c2:=qBH (G:=G) s1 ⟨17,1,[],⟨false,[],0⟩,[],[a1]⟩ rfl i1.n
  simp only [List.map_cons,List.map_nil] at c2
  refine rgn [.int .i64 a1] [[],[]] ?_
  iterate 2 refine op1 tok ?_
  refine qD ?_
  refine qB.stepK [60,62] (qJ rfl c1 (by simp)) (by conv=>lhs; simp) rfl ?_
  refine qB.run [[]] ?_
  refine op1 tok ?_
  refine qD ?_
  refine qB.freeze 963 (by conv=>lhs; simp) ?_
  refine qB.run [[]] ?_
  refine op1 tok ?_
  refine qD ?_
  refine qB.stepK [65] (qJ rfl c2 (by simp)) (by conv=>lhs; simp) rfl ?_
  refine qB.run [[4]] ?_
  refine op1 tok ?_
  refine qA ?_
  exact AW.ret qV
 intro h58
 try simp at h58
 rw [if_neg h58]
 refine rgn [] [[],[0,1,5,66]] ?_
 iterate 2 refine op1 tok ?_
 refine qA (cnd ?_ ?_)
 ·intro h66
  try simp at h66
  rw [if_pos h66]
  have c1:=(ih n (by omega)).maps s (hi.weak 1 4 (by omega) (by omega)) (by omega)
  refine rgn [] [[]] ?_
  refine op1 tok ?_
  refine qD ?_
  refine qB.stepK [69] (qJ rfl c1 (by simp)) (by conv=>lhs; simp) rfl ?_
  refine qB.run [[4]] ?_
  refine op1 tok ?_
  refine qA ?_
  exact AW.ret qV
 intro h66
 try simp at h66
 rw [if_neg h66]
 refine rgn [] [[],[0,1,70]] ?_
 iterate 2 refine op1 tok ?_
 refine qA (cnd ?_ ?_)
 ·intro h70
  try simp at h70
  rw [if_pos h70]
  have c1:=(ih n (by omega)).selects s (hi.weak 1 3 (by omega) (by omega)) (by omega)
  refine rgn [] [[]] ?_
  refine op1 tok ?_
  refine qD ?_
  refine qB.stepK [73] (qJ rfl c1 (by simp)) (by conv=>lhs; simp) rfl ?_
  refine qB.run [[4]] ?_
  refine op1 tok ?_
  refine qA ?_
  exact AW.ret qV
 intro h70
 try simp at h70
 rw [if_neg h70]
 have c1:=zBV (G:=G) w s (hi.weak 0 1 (by omega) (by omega))
 refine AW.skip (rgn [] [[],[]] ?_)
 iterate 2 refine op1 tok ?_
 refine qD ?_
 refine qB.stepK [76] (qJ rfl c1 (by simp)) (by conv=>lhs; simp) rfl ?_
 refine qB.run [[4]] ?_
 refine op1 tok ?_
 refine qA ?_
 exact AW.ret qV
theorem qWR (s:PS) (x:Nd) (hkn:x.keys=[]) (hn:s.nodes.length≤1000000):AX Tryz.prog G 43 [.ptr 2 0,.agg [.p (.int .i64 x.op),.p (.int .i64 x.n),.p (.str x.text),.p (.bool x.num.neg),.p (.str x.num.digits),.p (.int .i64 x.num.scale),.nilsl,.p (.sl 1 (x.kids.map (PD.int .i64)))]] [(2,.vars 42 [.p (.sl 6 (s.left.map Tok.enc)),.ms 949,.p (.int .i64 s.deep),.p (.bool s.bad)]),(949,.row 36 8 (s.nodes.map Nd.enc))] (.p (.int .i64 (wF x s).1)) [2] [(2,.vars 42 [.p (.sl 6 ((wF x s).2.left.map Tok.enc)),.ms 949,.p (.int .i64 (wF x s).2.deep),.p (.bool (wF x s).2.bad)]),(949,.row 36 8 ((wF x s).2.nodes.map Nd.enc))]:=by
 refine AX.introU tok 900 Tryz.func43 (by kernel_rfl) rfl rfl ?_
 simp only [Tryz.f43,qN,List.map_cons,List.map_nil]
 refine rgn [] [[],[0,3]] ?_
 iterate 2 refine op1 tok ?_
 refine qA ?_
 refine AW.seqDrawS tok mixed 11 [[0],[0],[6],[7],[8],[3],[10],[9,11],[5],[13],[14,12]] [x.enc,x.enc] [] (by kernel_rfl) ?_
 iterate 11 refine d1 ?_ (hv:=by first | with_reducible exact True.intro | ((simp [hkn]); done) | omega | simp | (simp +contextual; omega))
 refine DGo.nil (by kernel_rfl) ⟨by kernel_rfl, ?_⟩
 refine qB.nil ?_
 refine AW.keepE [0] (by conv=>lhs; simp) ?_
 refine AW.pinsTo [2] (by simp) rfl ?_
 refine AW.renE 912 949 (by simp) (by conv=>lhs; simp) ?_
 refine rgn [] [[],[],[],[18],[],[],[4]] ?_
 iterate 7 refine op1 tok ?_
 refine qA ?_
 exact AW.ret qV
theorem zKM (s:PS) (o:Int) (t:List UInt8) (l:List Int) (hn:s.nodes.length≤1000000):AX Tryz.prog G 18 [.ptr 2 0,.p (.int .i64 o),.p (.str t),.ms 934] [(2,.vars 42 [.p (.sl 6 (s.left.map Tok.enc)),.ms 949,.p (.int .i64 s.deep),.p (.bool s.bad)]),(949,.row 36 8 (s.nodes.map Nd.enc)),(934,.row 3 1 (l.map (PD.int .i64)))] (.p (.int .i64 (opP o t l s).1)) [2] [(2,.vars 42 [.p (.sl 6 ((opP o t l s).2.left.map Tok.enc)),.ms 949,.p (.int .i64 (opP o t l s).2.deep),.p (.bool (opP o t l s).2.bad)]),(949,.row 36 8 ((opP o t l s).2.nodes.map Nd.enc))]:=by
 refine AX.introU tok 900 Tryz.func18 (by kernel_rfl) rfl rfl ?_
 simp only [Tryz.f18,qN,List.map_cons,List.map_nil]
 have hp:=qWR (G:=G) s ⟨o,0,t,⟨false,[],0⟩,[],l⟩ rfl hn
 have hT:opP o t l s=wF ⟨o,0,t,⟨false,[],0⟩,[],l⟩ s:=rfl
 rw [hT]
 simp at hp
 refine rgn [] [[0,1,2,3]] ?_
 refine op1 tok ?_
 refine qA (rgn [] [[],[],[],[9,10,11,12]] ?_)
 iterate 4 refine op1 tok ?_
 refine qD ?_
 refine qB.freeze 934 (by conv=>lhs; simp) ?_
 refine qB.run [[]] ?_
 refine op1 tok ?_
 refine qD ?_
 refine qB.stepK [14] (qJ rfl hp (by simp)) (by conv=>lhs; simp) rfl ?_
 refine qB.run [[8]] ?_
 refine op1 tok ?_
 refine qA ?_
 exact AW.ret qV
theorem zAC (n:Nat) (s:PS) (ih:∀ m,m≤n→SynAll G m) (hi:InS 0 0 s) (hf:20 * s.left.length+2≤n+1):AX Tryz.prog G 71 [.ptr 2 0] [(2,.vars 42 (psC (s))),(3,.row 36 8 ((s).nodes.map Nd.enc))] (.p (.int .i64 (zM (n+1) s).1)) [2] [(2,.vars 42 (psC ((zM (n+1) s).2))),(3,.row 36 8 (((zM (n+1) s).2).nodes.map Nd.enc))]:=by
 refine AX.introU tok 900 Tryz.func71 (by kernel_rfl) rfl rfl ?_
 simp only [Tryz.f71,qN,List.map_cons,List.map_nil]
 simp only [zM]
 have c1:=qUF (G:=G) s 93 (fun _=>true) (fun t=>zDE t)
 have l1:=qEI (fun _=>true) s
 have q1:=uI (f:=fun _=>true) (s:=s)
 have n1:=qRG (f:=fun _=>true) (s:=s)
 generalize qP (fun _=>true) s=R at *
 obtain ⟨⟨t,b⟩,s1⟩:=R
 simp only at c1 l1 q1 n1 ⊢
 have hb0:b=false→t=qAG:=fun h=>by have:=n1 h; simp only [Prod.mk.injEq] at this; exact this.1.1
 have hkb:t.kind≠0→b=true:=fun h=>by
  cases b with
  | true=>rfl
  | false=>rw [hb0 rfl] at h; exact absurd rfl h
 have htb:t.text≠[]→b=true:=fun h=>by
  cases b with
  | true=>rfl
  | false=>rw [hb0 rfl] at h; exact absurd rfl h
 have i1:=hi.le0 l1
 have i2:b=true→InS 2 4 s1:=fun h=>hi.eat l1 ⟨(q1 h).1,(q1 h).2.1,(q1 h).2.2.1⟩
 have hL:b=true→s1.left.length+1=s.left.length:=fun h=>(q1 h).1
 have e1:=l1.len
 have c2:=xX (G:=G) s1 b
 have l2:=kB b s1
 have e2:(qK b s1).left=s1.left:=rfl
 generalize qK b s1=s2 at *
 have i3:=i1.le0 l2
 have i4:b=true→InS 2 4 s2:=fun h=>(i2 h).le0 l2
 refine rgn [] [[0]] ?_
 refine op1 tok ?_
 refine qA (rgn [] [[]] ?_)
 refine op1 tok ?_
 refine qD ?_
 refine qB.stepK [0,7] (qJ rfl c1 (by simp)) (by conv=>lhs; simp) rfl ?_
 refine qB.run [[],[],[],[],[],[0,3,4]] ?_
 iterate 6 refine op1 tok ?_
 refine qA (rgn [] [[],[]] ?_)
 iterate 2 refine op1 tok ?_
 refine qD ?_
 refine qB.stepK [0,3] (qJ rfl c2 (by simp)) (by conv=>lhs; simp) rfl ?_
 refine qB.nil ?_
 refine AW.seq (rgn [] [[],[0,3,14]] ?_)
 iterate 2 refine op1 tok ?_
 refine qA (AW.block (rgn [] [[],[0,3,14,15]] ?_))
 iterate 2 refine op1 tok ?_
 refine qA (cnd ?_ ?_)
 ·intro h15
  try simp at h15
  rw [if_pos h15]
  have hb:=hkb (by omega)
  have c3:=(ih n (by omega)).named t.text s2 (i4 hb) (by rw [e2]; have:=hL hb; omega)
  refine rgn [] [[],[],[]] ?_
  iterate 3 refine op1 tok ?_
  refine qD ?_
  refine qB.stepK [20] (qJ rfl c3 (by simp)) (by conv=>lhs; simp) rfl ?_
  refine qB.run [[2]] ?_
  refine op1 tok ?_
  refine qA ?_
  exact AW.ret qV
 intro h15
 try simp at h15
 rw [if_neg h15]
 refine rgn [] [[],[0,3,14,21]] ?_
 iterate 2 refine op1 tok ?_
 refine qA (cnd ?_ ?_)
 ·intro h21
  try simp at h21
  rw [if_pos h21]
  have c3:=qDH (G:=G) s2 3 t.text i3.n
  refine rgn [] [[],[],[]] ?_
  iterate 3 refine op1 tok ?_
  refine qD ?_
  refine qB.stepK [26] (qJ rfl c3 (by simp)) (by conv=>lhs; simp) rfl ?_
  refine qB.run [[2]] ?_
  refine op1 tok ?_
  refine qA ?_
  exact AW.ret qV
 intro h21
 try simp at h21
 rw [if_neg h21]
 refine rgn [] [[],[0,3,14,27]] ?_
 iterate 2 refine op1 tok ?_
 refine qA (cnd ?_ ?_)
 ·intro h27
  try simp at h27
  rw [if_pos h27]
  have c3:=AX.ren 3 949 (qDH (G:=G) s2 1 [] i3.n) (by simp)
  have hn3:(opP 1 [] [] s2).2.nodes.length≤1000000:=by have:=i3.nd; simp [opP]; omega
  have c4:=AX.ren 949 950 (zKM (G:=G) (opP 1 [] [] s2).2 4 t.text [(opP 1 [] [] s2).1] hn3) (by simp)
  simp at c3 c4
  generalize hO:opP 1 [] [] s2=O at *
  obtain ⟨a3,s3⟩:=O
  simp only at c3 c4 ⊢
  have hs3l:s3.left=s2.left∧s3.deep=s2.deep∧s3.bad=s2.bad:=by
   have:s3=(opP 1 [] [] s2).2:=by rw [hO]
   rw [this]; exact ⟨rfl,rfl,rfl⟩
  refine AW.seqDrawR mixed 7 [[0],[3],[30],[0],[32],[33],[29,31,34]] [] (by kernel_rfl) ?_
  refine jW.q [2] (.ptr 2 0) rfl (qQK tok (orc:=[]) (orc':=[]) (v:=True) (by conv=>lhs; simp) trivial) (by simp) (by kernel_rfl) (by conv=>lhs; simp) ?_
  iterate 2 refine jW.one tok (orc:=[]) (by intro C; conv=>lhs; simp) (by first | with_reducible exact True.intro | omega | simp | (simp +contextual; omega)) rfl (by kernel_rfl) ?_
  refine jW.q [2] (.ptr 2 0) rfl (qQK tok (orc:=[]) (orc':=[]) (v:=True) (by conv=>lhs; simp) trivial) (by simp) (by kernel_rfl) (by conv=>lhs; simp) ?_
  refine jW.call [949] c3 rfl rfl (by simp) (by simp) (by simp) (by simp) (by simp) (by first | (simp; done) | (simp; omega)) (by first | (simp; done) | (simp; omega)) (by kernel_rfl) (by conv=>lhs; simp) ?_
  refine jW.one tok (orc:=[.int .i64 a3]) (by intro C; conv=>lhs; simp) (by first | with_reducible exact True.intro | omega | simp | (simp +contextual; omega)) rfl (by kernel_rfl) ?_
  refine jW.call [950] c4 rfl rfl (by simp) (by simp) (by simp) (by simp) (by simp) (by first | (simp; done) | (simp; omega)) (by first | (simp; done) | (simp; omega)) (by kernel_rfl) (by conv=>lhs; simp) ?_
  refine jW.nil (by kernel_rfl) ⟨by kernel_rfl, ?_⟩
  refine qB.run [[2]] ?_
  refine op1 tok ?_
  refine qD ?_
  refine qB.take 950 3 (by conv=>lhs; simp) ?_
  refine qB.nil ?_
  exact AW.ret qV
 intro h27
 try simp at h27
 rw [if_neg h27]
 refine rgn [] [[],[0,3,14,36]] ?_
 iterate 2 refine op1 tok ?_
 refine qA (cnd ?_ ?_)
 ·intro h36
  try simp at h36
  rw [if_pos h36]
  have c3:=qJK (G:=G) s2 t.num i3.n
  refine rgn [] [[],[],[]] ?_
  iterate 3 refine op1 tok ?_
  refine qD ?_
  refine qB.stepK [41] (qJ rfl c3 (by simp)) (by conv=>lhs; simp) rfl ?_
  refine qB.run [[2]] ?_
  refine op1 tok ?_
  refine qA ?_
  exact AW.ret qV
 intro h36
 try simp at h36
 rw [if_neg h36]
 refine rgn [] [[],[0,3,42]] ?_
 iterate 2 refine op1 tok ?_
 refine qA (cnd ?_ ?_)
 ·intro h42
  try simp at h42
  rw [if_pos h42]
  have c3:=jU (G:=G) s2 ⟨2,5,t.text,⟨false,[],0⟩,[],[]⟩ rfl rfl i3.n
  simp only [List.map_cons,List.map_nil] at c3
  refine rgn [] [[],[],[],[44,47]] ?_
  iterate 4 refine op1 tok ?_
  refine qD ?_
  refine qB.stepK [48] (qJ rfl c3 (by simp)) (by conv=>lhs; simp) rfl ?_
  refine qB.run [[2]] ?_
  refine op1 tok ?_
  refine qA ?_
  exact AW.ret qV
 intro h42
 try simp at h42
 rw [if_neg h42]
 have c3:=(ih n (by omega)).signed t.text s2 i3 (by rw [e2]; omega) (fun h=>⟨(i4 (htb h)).weak 1 1 (by omega) (by omega),by rw [e2]; have:=hL (htb h); omega⟩)
 refine AW.skip (rgn [] [[],[],[]] ?_)
 iterate 3 refine op1 tok ?_
 refine qD ?_
 refine qB.stepK [52] (qJ rfl c3 (by simp)) (by conv=>lhs; simp) rfl ?_
 refine qB.run [[2]] ?_
 refine op1 tok ?_
 refine qA ?_
 exact AW.ret qV
def lvW (i:Nat):Bool:=decide (i=1∨i=2)
@[simp] def lvE (i:Nat):PD := .agg [.int .i64 (yU i),.bool (lvW i),.bool (uD i),.sl 1 ((zI i).map PD.str)]
theorem zBE  : AFn Tryz.prog G 38 [] (.sl 4 ((List.range 6).map lvE)):=by
 refine AFn.introU tok Tryz.func38 (by kernel_rfl) rfl rfl ?_
 simp only [Tryz.f38,qN,List.map_cons,List.map_nil]
 refine rgn [] [[14]] ?_
 refine op1 tok ?_
 refine qA (rgn [.str [44],.str [111,114],.str [97,110,100],.str [61,61],.str [33,61],.str [60],.str [60,61],.str [62],.str [62,61],.str [43],.str [45],.str [42],.str [47],.str [37],lvE 0,lvE 1,lvE 2,lvE 3,lvE 4,lvE 5] [[]] ?_)
 refine op1 tok ?_ (hv:=by first | with_reducible exact True.intro | ((simp [yU,lvW,uD,zI]); done) | omega | simp | (simp +contextual; omega))
 refine qD ?_
 refine qB.freeze 1 (by conv=>lhs; simp) ?_
 refine qB.run [[],[]] ?_
 iterate 2 refine op1 tok ?_ (hv:=by first | with_reducible exact True.intro | ((simp [yU,lvW,uD,zI]); done) | omega | simp | (simp +contextual; omega))
 refine qD ?_
 refine qB.freeze 3 (by conv=>lhs; simp) ?_
 refine qB.run [[],[]] ?_
 iterate 2 refine op1 tok ?_ (hv:=by first | with_reducible exact True.intro | ((simp [yU,lvW,uD,zI]); done) | omega | simp | (simp +contextual; omega))
 refine qD ?_
 refine qB.freeze 5 (by conv=>lhs; simp) ?_
 refine qB.run [[],[]] ?_
 iterate 2 refine op1 tok ?_ (hv:=by first | with_reducible exact True.intro | ((simp [yU,lvW,uD,zI]); done) | omega | simp | (simp +contextual; omega))
 refine qD ?_
 refine qB.freeze 7 (by conv=>lhs; simp) ?_
 refine qB.run [[2,4,6,8],[]] ?_
 iterate 2 refine op1 tok ?_ (hv:=by first | with_reducible exact True.intro | ((simp [yU,lvW,uD,zI]); done) | omega | simp | (simp +contextual; omega))
 refine qD ?_
 refine qB.freeze 9 (by conv=>lhs; simp) ?_
 refine qB.run [[],[]] ?_
 iterate 2 refine op1 tok ?_ (hv:=by first | with_reducible exact True.intro | ((simp [yU,lvW,uD,zI]); done) | omega | simp | (simp +contextual; omega))
 refine qD ?_
 refine qB.freeze 11 (by conv=>lhs; simp) ?_
 refine qB.run [[],[13],[0]] ?_
 iterate 3 refine op1 tok ?_ (hv:=by first | with_reducible exact True.intro | ((simp [yU,lvW,uD,zI]); done) | omega | simp | (simp +contextual; omega))
 refine qA ?_
 exact AW.ret (qX (k:=by simp [List.range_succ]))
theorem qXN (n:Nat) (i:Nat) (s:PS) (ih:∀ m,m≤n→SynAll G m) (h6:i≤6) (hi:InS 0 0 s) (hf:20 * s.left.length+10-i≤n+1):AX Tryz.prog G 16 [.ptr 2 0,.p (.int .i64 i)] [(2,.vars 42 (psC (s))),(3,.row 36 8 ((s).nodes.map Nd.enc))] (.p (.int .i64 (qL (n+1) i s).1)) [2] [(2,.vars 42 (psC ((qL (n+1) i s).2))),(3,.row 36 8 (((qL (n+1) i s).2).nodes.map Nd.enc))]:=by
 refine AX.introU tok 900 Tryz.func16 (by kernel_rfl) rfl rfl ?_
 simp only [Tryz.f16,qN,List.map_cons,List.map_nil]
 simp only [qL]
 have hlv:=zBE (G:=G)
 have hix:i<6→((List.range 6).map lvE)[i]?=some (lvE i):=fun h=>by simp [h]
 have hlen:((List.range 6).map lvE).length=6:=rfl
 generalize (List.range 6).map lvE=LV at *
 refine rgn [] [[0,1]] ?_
 refine op1 tok ?_
 refine qA (rgn [.nilp,.sl 4 LV] [[],[0,1,5]] ?_)
 iterate 2 refine oq1 tok hlv ?_
 refine qA (AW.seq (rgn [] [[],[],[],[0,1,5,16]] ?_))
 iterate 4 refine op1 tok ?_
 refine qA (cnd ?_ ?_)
 ·intro h16
  try simp at h16
  rw [if_pos (by simp [hlen] at h16; omega)]
  have c1:=(ih n (by omega)).post s hi (by simp [hlen] at h16; omega)
  refine rgn [] [[]] ?_
  refine op1 tok ?_
  refine qD ?_
  refine qB.stepK [18] (qJ rfl c1 (by simp)) (by conv=>lhs; simp) rfl ?_
  refine qB.run [[4]] ?_
  refine op1 tok ?_
  refine qA ?_
  exact AW.ret qV
 intro h16
 try simp at h16
 have h16':i<6:=by simp [hlen] at h16; omega
 rw [if_neg (by omega)]
 have hix:=hix h16'
 have c1:=(ih n (by omega)).bound (i+1) s (by omega) hi (by omega)
 have l1:=(zK n).bound (i+1) s
 have i1:=hi.le0 l1
 generalize qL n (i+1) s=R at *
 obtain ⟨a1,s1⟩:=R
 simp only at c1 l1 i1 ⊢
 have e1:=l1.len
 obtain ⟨X,hX⟩:∃ X,X=wO n i a1 s1:=⟨_,rfl⟩
 rw [← hX]
 refine AW.skip (rgn [lvE i] [[],[],[],[0,1,22],[],[0,1,6]] ?_)
 iterate 6 refine op1 tok ?_ (hv:=by first | with_reducible exact True.intro | (first | (simp [hix]; done) | (simp [hlen]; omega); done) | omega | simp | (simp +contextual; omega))
 refine qA (rgn [] [[],[],[]] ?_)
 iterate 3 refine op1 tok ?_
 refine qD ?_
 refine qB.stepK [0,1,6,26] (qJ rfl c1 (by simp)) (by conv=>lhs; simp) rfl ?_
 refine qB.run [[0,1,6,7]] ?_
 refine op1 tok ?_
 refine qA (AW.seq (AW.block ?_))
 refine AW.loop (α:=Nat × Int × PS) (fun a=>a.1≤n∧InS 0 0 a.2.2∧20 * a.2.2.left.length+1≤a.1∧X=wO a.1 i a.2.1 a.2.2) (fun a=>⟨wL 65 [(0,.ptr 2 0),(1,.p (.int .i64 i)),(6,.ptr 906 0),(7,.p (.int .i64 a.2.1))],[2],[(2,.vars 42 (psC (a.2.2))),(3,.row 36 8 ((a.2.2).nodes.map Nd.enc)),(906,.vars 73 [.p (.int .i64 (yU i)),.p (.bool (lvW i)),.p (.bool (uD i)),.p (.sl 1 ((zI i).map PD.str))])],900⟩) (fun a=>a.1) ((n,a1,s1)) ⟨Nat.le_refl n,i1,by simp only []; omega,hX⟩ ⟨qH (by simp),rfl,by simp,by simp⟩ ?_
 rintro ⟨m,a,s2⟩ ⟨hm,i2,hm2,hX2⟩
 simp only at hm i2 hm2 hX2
 refine AW.seq (rgn [] [[],[],[],[],[0,1,6,7,31]] ?_)
 iterate 5 refine op1 tok ?_
 refine qA (cnd ?_ ?_)
 ·intro h31
  try simp at h31
  obtain ⟨m,rfl⟩:∃ m',m=m'+1:=⟨m-1,by omega⟩
  simp only [wO] at hX2
  rw [if_neg (by simp [h31])] at hX2
  refine AW.skip (AW.block (rgn [] [[],[],[0,1,6,7,8]] ?_))
  iterate 3 refine op1 tok ?_
  refine qA (AW.seq (rgn [] [[],[0,1,6,7,8,35]] ?_))
  iterate 2 refine op1 tok ?_
  refine qA (cnd ?_ ?_)
  ·intro h35
   try simp at h35
   have hK:lvK i=1:=by unfold lvK; rw [if_pos (by simpa [lvW] using h35)]
   rw [hK] at hX2
   have c3:=qQN (G:=G) s2 (zI i)
   have l3:=zP 1 (zI i) s2
   have o3:=xH (k:=1) (l:=zI i) (s:=s2)
   generalize qT 1 (zI i) s2=R at *
   obtain ⟨⟨w3,b3⟩,s3⟩:=R
   simp only at c3 l3 o3 hX2
   refine rgz [] [[],[],[0,1,6,7,8]] ?_
   iterate 3 refine op1 tok ?_
   refine qA (rgn [] [[],[],[]] ?_)
   iterate 3 refine op1 tok ?_
   refine qD ?_
   refine qB.stepK [0,1,6,7,42] (qJ rfl c3 (by simp)) (by conv=>lhs; simp) rfl ?_
   refine qB.run [[],[],[],[],[0,1,6,7,9,10]] ?_
   iterate 5 refine op1 tok ?_
   refine qA (AW.seq (rgn [] [[],[0,1,6,7,9,46]] ?_))
   iterate 2 refine op1 tok ?_
   refine qA (cnd ?_ ?_)
   ·intro h46
    try simp at h46
    rw [if_pos (by simpa using h46)] at hX2
    subst hX2
    refine AW.exit ?_
    simp
    refine rgn [] [[],[4]] ?_
    iterate 2 refine op1 tok ?_
    refine qA ?_
    exact AW.ret qV
   intro h46
   try simp at h46
   rw [if_neg (by simp [h46])] at hX2
   obtain ⟨q1,q2,q3, -⟩:=o3 (by simpa using h46)
   have i3:=i2.eat l3 ⟨q1,q2,q3⟩
   have c4:=(ih m (by omega)).bound (i+1) s3 (by omega) (i3.weak 0 0 (by omega) (by omega)) (by omega)
   have l4:=(zK m).bound (i+1) s3
   have i4:=i3.le0 l4
   have e4:=l4.len
   generalize qL m (i+1) s3=R at *
   obtain ⟨a4,s4⟩:=R
   simp only at c4 l4 i4 e4 hX2
   refine AW.skip (rgn [] [[],[],[]] ?_)
   iterate 3 refine op1 tok ?_
   refine qD ?_
   refine qB.stepK [0,1,6,7,9,50] (qJ rfl c4 (by simp)) (by conv=>lhs; simp) rfl ?_
   refine qB.run [[0,1,6,7,9,11]] ?_
   refine op1 tok ?_
   refine qA (AW.seq (rgn [] [[],[],[0,1,6,7,9,11,53]] ?_))
   iterate 3 refine op1 tok ?_
   refine qA (cnd ?_ ?_)
   ·intro h53
    try simp at h53
    rw [if_pos h53] at hX2
    have c5:=vK (G:=G) s4 (yU i) [] [a,a4] i4.n
    have l5:=wW (yU i) [] [a,a4] s4
    have i5:=i4.le 2 3 l5 (by omega) (by omega)
    have e5:=l5.len
    generalize opP (yU i) [] [a,a4] s4=R at *
    obtain ⟨a5,s5⟩:=R
    simp only [List.map_cons,List.map_nil] at c5 l5 i5 e5 hX2
    refine rgz [] [[]] ?_
    refine op1 tok ?_
    refine qA (rgn [.int .i64 a,.int .i64 a4] [[],[],[],[],[],[0,1,6,54,56,57,58,59],[]] ?_)
    iterate 7 refine op1 tok ?_
    refine qD ?_
    refine qB.freeze 960 (by conv=>lhs; simp) ?_
    refine qB.stepK [0,1,6,61] (qJ rfl c5 (by simp)) (by conv=>lhs; simp) rfl ?_
    refine qB.run [[0,1,6,7]] ?_
    refine op1 tok ?_
    refine qA (rgn [] [[],[0,1,6,7,63]] ?_)
    iterate 2 refine op1 tok ?_
    refine qA (cnd ?_ ?_)
    ·intro h63
     try simp at h63
     rw [if_pos h63] at hX2
     subst hX2
     refine AW.exit ?_
     simp
     refine rgn [] [[],[4]] ?_
     iterate 2 refine op1 tok ?_
     refine qA ?_
     exact AW.ret qV
    intro h63
    try simp at h63
    rw [if_neg (by simp [h63])] at hX2
    refine AW.skip ?_
    exact ⟨(m,a5,s5),⟨by simp only []; omega,i5.weak 0 0 (by omega) (by omega),by simp only []; omega,hX2⟩,by simp only []; omega,qH (by simp),rfl,by simp,by simp⟩
   intro h53
   try simp at h53
   rw [if_neg h53] at hX2
   have c5:=vK (G:=G) s4 (yU i) w3 [a,a4] i4.n
   have l5:=wW (yU i) w3 [a,a4] s4
   have i5:=i4.le 2 3 l5 (by omega) (by omega)
   have e5:=l5.len
   generalize opP (yU i) w3 [a,a4] s4=R at *
   obtain ⟨a5,s5⟩:=R
   simp only [List.map_cons,List.map_nil] at c5 l5 i5 e5 hX2
   refine AW.skip (rgn [.int .i64 a,.int .i64 a4] [[],[],[],[],[],[0,1,6,54,56,57,58,59],[]] ?_)
   iterate 7 refine op1 tok ?_
   refine qD ?_
   refine qB.freeze 960 (by conv=>lhs; simp) ?_
   refine qB.stepK [0,1,6,61] (qJ rfl c5 (by simp)) (by conv=>lhs; simp) rfl ?_
   refine qB.run [[0,1,6,7]] ?_
   refine op1 tok ?_
   refine qA (rgn [] [[],[0,1,6,7,63]] ?_)
   iterate 2 refine op1 tok ?_
   refine qA (cnd ?_ ?_)
   ·intro h63
    try simp at h63
    rw [if_pos h63] at hX2
    subst hX2
    refine AW.exit ?_
    simp
    refine rgn [] [[],[4]] ?_
    iterate 2 refine op1 tok ?_
    refine qA ?_
    exact AW.ret qV
   intro h63
   try simp at h63
   rw [if_neg (by simp [h63])] at hX2
   refine AW.skip ?_
   exact ⟨(m,a5,s5),⟨by simp only []; omega,i5.weak 0 0 (by omega) (by omega),by simp only []; omega,hX2⟩,by simp only []; omega,qH (by simp),rfl,by simp,by simp⟩
  intro h35
  try simp at h35
  have hK:lvK i=6:=by unfold lvK; rw [if_neg (by simpa [lvW] using h35)]
  rw [hK] at hX2
  have c3:=uH (G:=G) s2 (zI i)
  have l3:=zP 6 (zI i) s2
  have o3:=xH (k:=6) (l:=zI i) (s:=s2)
  generalize qT 6 (zI i) s2=R at *
  obtain ⟨⟨w3,b3⟩,s3⟩:=R
  simp only at c3 l3 o3 hX2
  refine AW.skip (rgn [] [[],[],[]] ?_)
  iterate 3 refine op1 tok ?_
  refine qD ?_
  refine qB.stepK [0,1,6,7,42] (qJ rfl c3 (by simp)) (by conv=>lhs; simp) rfl ?_
  refine qB.run [[],[],[],[],[0,1,6,7,9,10]] ?_
  iterate 5 refine op1 tok ?_
  refine qA (AW.seq (rgn [] [[],[0,1,6,7,9,46]] ?_))
  iterate 2 refine op1 tok ?_
  refine qA (cnd ?_ ?_)
  ·intro h46
   try simp at h46
   rw [if_pos (by simpa using h46)] at hX2
   subst hX2
   refine AW.exit ?_
   simp
   refine rgn [] [[],[4]] ?_
   iterate 2 refine op1 tok ?_
   refine qA ?_
   exact AW.ret qV
  intro h46
  try simp at h46
  rw [if_neg (by simp [h46])] at hX2
  obtain ⟨q1,q2,q3, -⟩:=o3 (by simpa using h46)
  have i3:=i2.eat l3 ⟨q1,q2,q3⟩
  have c4:=(ih m (by omega)).bound (i+1) s3 (by omega) (i3.weak 0 0 (by omega) (by omega)) (by omega)
  have l4:=(zK m).bound (i+1) s3
  have i4:=i3.le0 l4
  have e4:=l4.len
  generalize qL m (i+1) s3=R at *
  obtain ⟨a4,s4⟩:=R
  simp only at c4 l4 i4 e4 hX2
  refine AW.skip (rgn [] [[],[],[]] ?_)
  iterate 3 refine op1 tok ?_
  refine qD ?_
  refine qB.stepK [0,1,6,7,9,50] (qJ rfl c4 (by simp)) (by conv=>lhs; simp) rfl ?_
  refine qB.run [[0,1,6,7,9,11]] ?_
  refine op1 tok ?_
  refine qA (AW.seq (rgn [] [[],[],[0,1,6,7,9,11,53]] ?_))
  iterate 3 refine op1 tok ?_
  refine qA (cnd ?_ ?_)
  ·intro h53
   try simp at h53
   rw [if_pos h53] at hX2
   have c5:=vK (G:=G) s4 (yU i) [] [a,a4] i4.n
   have l5:=wW (yU i) [] [a,a4] s4
   have i5:=i4.le 2 3 l5 (by omega) (by omega)
   have e5:=l5.len
   generalize opP (yU i) [] [a,a4] s4=R at *
   obtain ⟨a5,s5⟩:=R
   simp only [List.map_cons,List.map_nil] at c5 l5 i5 e5 hX2
   refine rgz [] [[]] ?_
   refine op1 tok ?_
   refine qA (rgn [.int .i64 a,.int .i64 a4] [[],[],[],[],[],[0,1,6,54,56,57,58,59],[]] ?_)
   iterate 7 refine op1 tok ?_
   refine qD ?_
   refine qB.freeze 960 (by conv=>lhs; simp) ?_
   refine qB.stepK [0,1,6,61] (qJ rfl c5 (by simp)) (by conv=>lhs; simp) rfl ?_
   refine qB.run [[0,1,6,7]] ?_
   refine op1 tok ?_
   refine qA (rgn [] [[],[0,1,6,7,63]] ?_)
   iterate 2 refine op1 tok ?_
   refine qA (cnd ?_ ?_)
   ·intro h63
    try simp at h63
    rw [if_pos h63] at hX2
    subst hX2
    refine AW.exit ?_
    simp
    refine rgn [] [[],[4]] ?_
    iterate 2 refine op1 tok ?_
    refine qA ?_
    exact AW.ret qV
   intro h63
   try simp at h63
   rw [if_neg (by simp [h63])] at hX2
   refine AW.skip ?_
   exact ⟨(m,a5,s5),⟨by simp only []; omega,i5.weak 0 0 (by omega) (by omega),by simp only []; omega,hX2⟩,by simp only []; omega,qH (by simp),rfl,by simp,by simp⟩
  intro h53
  try simp at h53
  rw [if_neg h53] at hX2
  have c5:=vK (G:=G) s4 (yU i) w3 [a,a4] i4.n
  have l5:=wW (yU i) w3 [a,a4] s4
  have i5:=i4.le 2 3 l5 (by omega) (by omega)
  have e5:=l5.len
  generalize opP (yU i) w3 [a,a4] s4=R at *
  obtain ⟨a5,s5⟩:=R
  simp only [List.map_cons,List.map_nil] at c5 l5 i5 e5 hX2
  refine AW.skip (rgn [.int .i64 a,.int .i64 a4] [[],[],[],[],[],[0,1,6,54,56,57,58,59],[]] ?_)
  iterate 7 refine op1 tok ?_
  refine qD ?_
  refine qB.freeze 960 (by conv=>lhs; simp) ?_
  refine qB.stepK [0,1,6,61] (qJ rfl c5 (by simp)) (by conv=>lhs; simp) rfl ?_
  refine qB.run [[0,1,6,7]] ?_
  refine op1 tok ?_
  refine qA (rgn [] [[],[0,1,6,7,63]] ?_)
  iterate 2 refine op1 tok ?_
  refine qA (cnd ?_ ?_)
  ·intro h63
   try simp at h63
   rw [if_pos h63] at hX2
   subst hX2
   refine AW.exit ?_
   simp
   refine rgn [] [[],[4]] ?_
   iterate 2 refine op1 tok ?_
   refine qA ?_
   exact AW.ret qV
  intro h63
  try simp at h63
  rw [if_neg (by simp [h63])] at hX2
  refine AW.skip ?_
  exact ⟨(m,a5,s5),⟨by simp only []; omega,i5.weak 0 0 (by omega) (by omega),by simp only []; omega,hX2⟩,by simp only []; omega,qH (by simp),rfl,by simp,by simp⟩
 intro h31
 try simp at h31
 obtain ⟨m,rfl⟩:∃ m',m=m'+1:=⟨m-1,by omega⟩
 simp only [wO] at hX2
 rw [if_pos (by simpa using h31)] at hX2
 subst hX2
 refine AW.exit ?_
 simp
 refine rgn [] [[],[4]] ?_
 iterate 2 refine op1 tok ?_
 refine qA ?_
 exact AW.ret qV
theorem zCH {a:Int} (h:0≤a∧a≤9223372036854775807):IntKind.i64.wrap (-a) = -a:=by
 simp [IntKind.wrap,IntKind.bits,IntKind.signed]
 split <;> omega
theorem zAM (n:Nat) (s:PS) (hE:PE G) (ih:∀ m,m≤n→SynAll G m) (hi:InS 0 0 s) (hf:20 * s.left.length+3≤n+1):AX Tryz.prog G 39 [.ptr 2 0] [(2,.vars 42 (psC (s))),(3,.row 36 8 ((s).nodes.map Nd.enc))] (.p (.int .i64 (wQ (n+1) s).1)) [2] [(2,.vars 42 (psC ((wQ (n+1) s).2))),(3,.row 36 8 (((wQ (n+1) s).2).nodes.map Nd.enc))]:=by
 refine AX.introU tok 900 Tryz.func39 (by kernel_rfl) rfl rfl ?_
 simp only [Tryz.f39,qN,List.map_cons,List.map_nil]
 simp only [wQ]
 have c1:=(ih n (by omega)).term s hi (by omega)
 have l1:=(zK n).term s
 have i1:=hi.le0 l1
 generalize zM n s=R at *
 obtain ⟨a1,s1⟩:=R
 simp only at c1 l1 i1 ⊢
 have e1:=l1.len
 obtain ⟨X,hX⟩:∃ X,X=zW n a1 s1:=⟨_,rfl⟩
 rw [← hX]
 refine rgn [] [[0]] ?_
 refine op1 tok ?_
 refine qA (rgn [] [[]] ?_)
 refine op1 tok ?_
 refine qD ?_
 refine qB.stepK [0,14] (qJ rfl c1 (by simp)) (by conv=>lhs; simp) rfl ?_
 refine qB.run [[0,3]] ?_
 refine op1 tok ?_
 refine qA (AW.seq (AW.block ?_))
 refine AW.loop (α:=Nat × Int × PS) (fun a=>a.1≤n∧InS 0 0 a.2.2∧20 * a.2.2.left.length+1≤a.1∧X=zW a.1 a.2.1 a.2.2) (fun a=>⟨wL 72 [(0,.ptr 2 0),(3,.p (.int .i64 a.2.1))],[2],[(2,.vars 42 (psC (a.2.2))),(3,.row 36 8 ((a.2.2).nodes.map Nd.enc))],900⟩) (fun a=>a.1) ((n,a1,s1)) ⟨Nat.le_refl n,i1,by simp only []; omega,hX⟩ ⟨qH (by simp),rfl,by simp,by simp⟩ ?_
 rintro ⟨m,a,s2⟩ ⟨hm,i2,hm2,hX2⟩
 simp only at hm i2 hm2 hX2
 refine AW.seq (rgn [] [[],[],[],[],[0,3,19]] ?_)
 iterate 5 refine op1 tok ?_
 refine qA (cnd ?_ ?_)
 ·intro h19
  try simp at h19
  obtain ⟨m,rfl⟩:∃ m',m=m'+1:=⟨m-1,by omega⟩
  simp only [zW] at hX2
  rw [if_neg (by simp [h19])] at hX2
  have c3:=qUF (G:=G) s2 72 (fun t=>decide (t.kind=3)) (fun t=>zDU t)
  have l3:=qEI (fun t=>decide (t.kind=3)) s2
  have o3:=uI (f:=fun t=>decide (t.kind=3)) (s:=s2)
  generalize qP (fun t=>decide (t.kind=3)) s2=R at *
  obtain ⟨⟨t3,b3⟩,s3⟩:=R
  simp only at c3 l3 o3 hX2
  have i3:=i2.le0 l3
  have e3:=l3.len
  refine AW.skip (AW.block (AW.seq (rgn [] [[]] ?_)))
  refine op1 tok ?_
  refine qD ?_
  refine qB.stepK [0,3,22] (qJ rfl c3 (by simp)) (by conv=>lhs; simp) rfl ?_
  refine qB.run [[],[],[],[],[],[0,3,4,5]] ?_
  iterate 6 refine op1 tok ?_
  refine qA (rgn [] [[0,3,4,25]] ?_)
  refine op1 tok ?_
  refine qA (cnd ?_ ?_)
  ·intro h25
   try simp at h25
   rw [if_pos h25] at hX2
   obtain ⟨q1,q2,q3, -⟩:=o3 h25
   have j3:=i2.eat l3 ⟨q1,q2,q3⟩
   have c5:=vK (G:=G) s3 4 t3.text [a] j3.n
   have l5:=wW 4 t3.text [a] s3
   have i5:=j3.le 0 0 l5 (by omega) (by omega)
   have e5:=l5.len
   generalize opP 4 t3.text [a] s3=R at *
   obtain ⟨a5,s5⟩:=R
   simp only [List.map_cons,List.map_nil] at c5 l5 i5 e5 hX2
   refine rgn [.int .i64 a] [[],[],[],[],[0,26,28,30]] ?_
   iterate 5 refine op1 tok ?_
   refine qD ?_
   refine qB.freeze 930 (by conv=>lhs; simp) ?_
   refine qB.stepK [0,31] (qJ rfl c5 (by simp)) (by conv=>lhs; simp) rfl ?_
   refine qB.run [[0,3]] ?_
   refine op1 tok ?_
   refine qA ?_
   refine AW.exit ?_
   simp [-Prod.exists]
   exact ⟨(m,a5,s5),⟨by simp only []; omega,i5,by simp only []; omega,hX2⟩,by simp only []; omega,qH (by simp),rfl,by simp,by simp⟩
  intro h25
  try simp at h25
  rw [if_neg (by simp [h25])] at hX2
  have c6:=uH (G:=G) s3 [[91]]
  have l6:=zP 6 [[91]] s3
  have o6:=xH (k:=6) (l:=[[91]]) (s:=s3)
  generalize qT 6 [[91]] s3=R at *
  obtain ⟨⟨w6,b6⟩,s6⟩:=R
  simp only [List.map_cons,List.map_nil] at c6 l6 o6 hX2
  refine AW.skip (AW.seq (rgn [.str [91]] [[],[]] ?_))
  iterate 2 refine op1 tok ?_
  refine qD ?_
  refine qB.freeze 934 (by conv=>lhs; simp) ?_
  refine qB.stepK [0,3,35] (qJ rfl c6 (by simp)) (by conv=>lhs; simp) rfl ?_
  refine qB.run [[],[],[],[0,3,37],[0,3,7]] ?_
  iterate 5 refine op1 tok ?_
  refine qA (rgn [] [[],[0,3,39]] ?_)
  iterate 2 refine op1 tok ?_
  refine qA (cnd ?_ ?_)
  ·intro h39
   try simp at h39
   rw [if_pos (by simpa using h39)] at hX2
   subst hX2
   refine AW.exit ?_
   simp
   refine rgn [] [[],[2]] ?_
   iterate 2 refine op1 tok ?_
   refine qA ?_
   exact AW.ret qV
  intro h39
  try simp at h39
  rw [if_neg (by simp [h39])] at hX2
  obtain ⟨q1,q2,q3, -⟩:=o6 (by simpa using h39)
  have j6:=i3.eat l6 ⟨q1,q2,q3⟩
  have c8:=uH (G:=G) s6 [[93]]
  have l8:=zP 6 [[93]] s6
  generalize qT 6 [[93]] s6=R at *
  obtain ⟨⟨w8,b8⟩,s8⟩:=R
  simp only [List.map_cons,List.map_nil] at c8 l8 hX2
  have j8:=j6.le0 l8
  have e8:=l8.len
  refine AW.skip (AW.seq (rgn [.str [93]] [[],[]] ?_))
  iterate 2 refine op1 tok ?_
  refine qD ?_
  refine qB.freeze 942 (by conv=>lhs; simp) ?_
  refine qB.stepK [0,3,43] (qJ rfl c8 (by simp)) (by conv=>lhs; simp) rfl ?_
  refine qB.run [[],[],[],[0,3,45],[0,3,9]] ?_
  iterate 5 refine op1 tok ?_
  refine qA (rgn [] [[0,3,46]] ?_)
  refine op1 tok ?_
  refine qA (cnd ?_ ?_)
  ·intro h46
   try simp at h46
   rw [if_pos h46] at hX2
   have c5:=vK (G:=G) s8 6 [] [a] j8.n
   have l5:=wW 6 [] [a] s8
   have i5:=j8.le 0 0 l5 (by omega) (by omega)
   have e5:=l5.len
   generalize opP 6 [] [a] s8=R at *
   obtain ⟨a5,s5⟩:=R
   simp only [List.map_cons,List.map_nil] at c5 l5 i5 e5 hX2
   refine rgn [.int .i64 a] [[],[],[]] ?_
   iterate 3 refine op1 tok ?_
   refine qD ?_
   refine qB.freeze 949 (by conv=>lhs; simp) ?_
   refine qB.stepK [0,50] (qJ rfl c5 (by simp)) (by conv=>lhs; simp) rfl ?_
   refine qB.run [[0,3]] ?_
   refine op1 tok ?_
   refine qA ?_
   refine AW.exit ?_
   simp [-Prod.exists]
   exact ⟨(m,a5,s5),⟨by simp only []; omega,i5,by simp only []; omega,hX2⟩,by simp only []; omega,qH (by simp),rfl,by simp,by simp⟩
  intro h46
  try simp at h46
  rw [if_neg (by simp [h46])] at hX2
  have c11:=uH (G:=G) s8 [[45]]
  have l11:=zP 6 [[45]] s8
  generalize qT 6 [[45]] s8=R at *
  obtain ⟨⟨w11,b11⟩,s11⟩:=R
  simp only [List.map_cons,List.map_nil] at c11 l11 hX2
  have j11:=j8.le0 l11
  have e11:=l11.len
  have c12:=qKP (G:=G) hE s11 j11.ok
  have l12:=uS s11
  have v12:=zCM j11.ok
  generalize wY s11=R at *
  obtain ⟨a12,s12⟩:=R
  simp only at c12 l12 v12 hX2
  have j12:=j11.le0 l12
  have e12:=l12.len
  have c15:=xC (G:=G) s12 [93]
  have l15:=qU 6 [93] s12
  generalize zA 6 [93] s12=s15 at *
  have j15:=j12.le0 l15
  have e15:=l15.len
  refine AW.skip (rgn [.str [45]] [[],[]] ?_)
  iterate 2 refine op1 tok ?_
  refine qD ?_
  refine qB.freeze 953 (by conv=>lhs; simp) ?_
  refine qB.stepK [0,3,54] (qJ rfl c11 (by simp)) (by conv=>lhs; simp) rfl ?_
  refine qB.run [[],[],[],[0,3,56],[0,3,11]] ?_
  iterate 5 refine op1 tok ?_
  refine qA (rgn [] [[]] ?_)
  refine op1 tok ?_
  refine qD ?_
  refine qB.stepK [0,3,11,58] (qJ rfl c12 (by simp)) (by conv=>lhs; simp) rfl ?_
  refine qB.run [[0,3,11,12]] ?_
  refine op1 tok ?_
  refine qA (AW.seq (rgn [] [[0,3,12,59]] ?_))
  refine op1 tok ?_
  refine qA (cnd ?_ ?_)
  ·intro h59
   try simp at h59
   rw [if_pos h59] at hX2
   have hneg:IntKind.i64.wrap (-a12) = -a12:=zCH v12
   have c5:=qBH (G:=G) s15 ⟨5, -a12,[],⟨false,[],0⟩,[],[a]⟩ rfl j15.n
   have l5:=kP ⟨5, -a12,[],⟨false,[],0⟩,[],[a]⟩ s15
   have i5:=j15.le 0 0 l5 (by omega) (by omega)
   have e5:=l5.len
   generalize wF ⟨5, -a12,[],⟨false,[],0⟩,[],[a]⟩ s15=R at *
   obtain ⟨a5,s5⟩:=R
   simp only [List.map_cons,List.map_nil] at c5 l5 i5 e5 hX2
   refine rgz [] [[],[],[0,3,12]] ?_
   iterate 3 refine op1 tok ?_ (h:=by intro C; conv=>lhs; simp [hneg])
   refine qA (rgn [.str [93]] [[],[]] ?_)
   iterate 2 refine op1 tok ?_
   refine qD ?_
   refine qB.freeze 963 (by conv=>lhs; simp) ?_
   refine qB.stepK [0,3,12] (qJ rfl c15 (by simp)) (by conv=>lhs; simp) rfl ?_
   refine qB.nil ?_
   refine rgz [.int .i64 a] [[],[],[],[]] ?_
   iterate 4 refine op1 tok ?_
   refine qD ?_
   refine qB.freeze 968 (by conv=>lhs; simp) ?_
   refine qB.run [[0,65,69]] ?_
   refine op1 tok ?_
   refine qD ?_
   refine qB.stepK [0,70] (qJ rfl c5 (by simp)) (by conv=>lhs; simp) rfl ?_
   refine qB.run [[0,3]] ?_
   refine op1 tok ?_
   refine qA ?_
   exact ⟨(m,a5,s5),⟨by simp only []; omega,i5,by simp only []; omega,hX2⟩,by simp only []; omega,qH (by simp),rfl,by simp,by simp⟩
  intro h59
  try simp at h59
  rw [if_neg (by simp [h59])] at hX2
  have c5:=qBH (G:=G) s15 ⟨5,a12,[],⟨false,[],0⟩,[],[a]⟩ rfl j15.n
  have l5:=kP ⟨5,a12,[],⟨false,[],0⟩,[],[a]⟩ s15
  have i5:=j15.le 0 0 l5 (by omega) (by omega)
  have e5:=l5.len
  generalize wF ⟨5,a12,[],⟨false,[],0⟩,[],[a]⟩ s15=R at *
  obtain ⟨a5,s5⟩:=R
  simp only [List.map_cons,List.map_nil] at c5 l5 i5 e5 hX2
  refine AW.skip (rgn [.str [93]] [[],[]] ?_)
  iterate 2 refine op1 tok ?_
  refine qD ?_
  refine qB.freeze 963 (by conv=>lhs; simp) ?_
  refine qB.stepK [0,3,12] (qJ rfl c15 (by simp)) (by conv=>lhs; simp) rfl ?_
  refine qB.nil ?_
  refine rgz [.int .i64 a] [[],[],[],[]] ?_
  iterate 4 refine op1 tok ?_
  refine qD ?_
  refine qB.freeze 968 (by conv=>lhs; simp) ?_
  refine qB.run [[0,65,69]] ?_
  refine op1 tok ?_
  refine qD ?_
  refine qB.stepK [0,70] (qJ rfl c5 (by simp)) (by conv=>lhs; simp) rfl ?_
  refine qB.run [[0,3]] ?_
  refine op1 tok ?_
  refine qA ?_
  exact ⟨(m,a5,s5),⟨by simp only []; omega,i5,by simp only []; omega,hX2⟩,by simp only []; omega,qH (by simp),rfl,by simp,by simp⟩
 intro h19
 try simp at h19
 obtain ⟨m,rfl⟩:∃ m',m=m'+1:=⟨m-1,by omega⟩
 simp only [zW] at hX2
 rw [if_pos (by simpa using h19)] at hX2
 subst hX2
 refine AW.exit ?_
 simp
 refine rgn [] [[],[2]] ?_
 iterate 2 refine op1 tok ?_
 refine qA ?_
 exact AW.ret qV
theorem zII {l:List Int} {s:PS} (h:(zD l s).2.bad=false):(zD l s).2.left.length+1=s.left.length∧(zD l s).2.deep=s.deep∧(zD l s).2.nodes=s.nodes:=by
 unfold zD at h ⊢
 simp only [qK,Bool.or_eq_false_iff,Bool.not_eq_false'] at h
 have:=uI h.2
 exact ⟨this.1,this.2.1,this.2.2.1⟩
theorem Le.nb {c d:Nat} {s s':PS} (g:Le c d s s') (h:s'.bad=false):s.bad=false:=by
 cases hb:s.bad with
 | false=>rfl
 | true=>rw [g.b0 hb] at h; cases h
theorem qUC (n:Nat) (s:PS) (ih:∀ m,m≤n→SynAll G m) (hi:InS 1 1 s) (hf:20 * s.left.length+3≤n+1):AX Tryz.prog G 124 [.ptr 2 0] [(2,.vars 42 (psC (s))),(3,.row 36 8 ((s).nodes.map Nd.enc))] (.p (.int .i64 (zZ (n+1) s).1)) [2] [(2,.vars 42 (psC ((zZ (n+1) s).2))),(3,.row 36 8 (((zZ (n+1) s).2).nodes.map Nd.enc))]:=by
 refine AX.introU tok 900 Tryz.func124 (by kernel_rfl) rfl rfl ?_
 simp only [Tryz.f124,qN,List.map_cons,List.map_nil]
 simp only [zZ]
 have c1:=uH (G:=G) s [[125]]
 have l1:=zP 6 [[125]] s
 have o1:=xH (k:=6) (l:=[[125]]) (s:=s)
 have i1:=hi.le0 l1
 generalize qT 6 [[125]] s=R at *
 obtain ⟨⟨w1,b1⟩,s1⟩:=R
 simp only [List.map_cons,List.map_nil] at c1 l1 o1 i1 ⊢
 have e1:=l1.len
 refine rgn [] [[0]] ?_
 refine op1 tok ?_
 refine qA (rgn [] [[],[],[0,3]] ?_)
 iterate 3 refine op1 tok ?_
 refine qA (AW.seq (rgn [.str [125]] [[],[]] ?_))
 iterate 2 refine op1 tok ?_
 refine qD ?_
 refine qB.freeze 912 (by conv=>lhs; simp) ?_
 refine qB.stepK [0,3,13] (qJ rfl c1 (by simp)) (by conv=>lhs; simp) rfl ?_
 refine qB.run [[],[],[],[0,3,15],[0,3,5]] ?_
 iterate 5 refine op1 tok ?_
 refine qA (rgn [] [[0,3,16]] ?_)
 refine op1 tok ?_
 refine qA (cnd ?_ ?_)
 ·intro h16
  try simp at h16
  rw [if_pos h16]
  have c2:=jU (G:=G) s1 ⟨10,0,[],⟨false,[],0⟩,[],[]⟩ rfl rfl i1.n
  simp only [List.map_cons,List.map_nil] at c2
  refine rgn [] [[],[]] ?_
  iterate 2 refine op1 tok ?_
  refine qD ?_
  refine qB.stepK [19] (qJ rfl c2 (by simp)) (by conv=>lhs; simp) rfl ?_
  refine qB.run [[2]] ?_
  refine op1 tok ?_
  refine qA ?_
  exact AW.ret qV
 intro h16
 try simp at h16
 rw [if_neg (by simp [h16])]
 have iu:=i1.up
 have b1:=i1.lo
 have b2:=i1.hi
 have hm:=xX (G:=G) { s1 with deep:=s1.deep+1 } (decide (s1.deep+1≤60))
 have hU:upP 1 s1=qK (decide (s1.deep+1≤60)) { s1 with deep:=s1.deep+1 }:=rfl
 rw [← hU] at hm
 have hul:(upP 1 s1).left=s1.left:=rfl
 generalize upP 1 s1=u at *
 obtain ⟨X,hX⟩:∃ X,X=wG n [] [] u:=⟨_,rfl⟩
 rw [← hX]
 refine AW.skip (rgn [] [[],[],[],[],[],[0,3,24,25],[],[0,3]] ?_)
 iterate 8 refine op1 tok ?_
 refine qA (rgn [] [[],[],[],[],[],[0,3,27,32]] ?_)
 iterate 6 refine op1 tok ?_
 refine qD ?_
 refine qB.stepK [0,3] (qJ rfl hm (by simp)) (by conv=>lhs; simp) rfl ?_
 refine qB.nil ?_
 refine AW.seq (AW.block ?_)
 refine AW.pinsTo [2] (by simp) rfl ?_; refine AW.beginBox 903 951 6 9 1 (by simp; exact ⟨rfl,rfl⟩) (by simp) (by simp) (by conv=>lhs; simp) ?_; refine AW.beginBox 903 952 7 3 1 (by simp; exact ⟨rfl,rfl⟩) (by simp) (by simp) (by conv=>lhs; simp) ?_
 refine AW.loop (α:=Nat × List (List UInt8) × List Int × PS) (fun a=>a.1≤n∧InS 0 1 a.2.2.2∧20 * a.2.2.2.left.length+1≤a.1∧a.2.1.length+a.2.2.2.left.length≤5000∧a.2.2.1.length+a.2.2.2.left.length≤5000∧X=wG a.1 a.2.1 a.2.2.1 a.2.2.2) (fun a=>⟨wL 91 [(0,.ptr 2 0),(3,.ptr 903 0)],[2],[(2,.vars 42 (psC (a.2.2.2))),(3,.row 36 8 ((a.2.2.2).nodes.map Nd.enc)),(903,.vars 36 [.p (.int .i64 10),.p (.int .i64 0),.p (.str []),.p (.bool false),.p (.str []),.p (.int .i64 0),.ms 951,.ms 952]),(951,.row 9 1 (a.2.1.map PD.str)),(952,.row 3 1 (a.2.2.1.map (PD.int .i64)))],900⟩) (fun a=>a.1) ((n,[],[],u)) ⟨Nat.le_refl n,iu,by simp only []; rw [hul]; omega,by simp only [List.length_nil]; rw [hul]; omega,by simp only [List.length_nil]; rw [hul]; omega,hX⟩ ⟨qH (by simp),rfl,by simp,by simp⟩ ?_
 rintro ⟨m,ks,vs,s2⟩ ⟨hm,i2,hm2,hk1,hk2,hX2⟩
 simp only at hm i2 hm2 hk1 hk2 hX2
 have g1:=i2.lo
 have g2:=i2.hi
 refine AW.seq (rgn [] [[],[],[],[],[0,3,38]] ?_)
 iterate 5 refine op1 tok ?_
 refine qA (cnd ?_ ?_)
 ·intro h38
  try simp at h38
  obtain ⟨m,rfl⟩:∃ m',m=m'+1:=⟨m-1,by omega⟩
  simp only [wG] at hX2
  rw [if_neg (by simp [h38])] at hX2
  have c3:=qEL (G:=G) s2 [1,5]
  have l3:=kK [1,5] s2
  have o3:=zII (l:=[1,5]) (s:=s2)
  generalize zD [1,5] s2=R at *
  obtain ⟨t3,s3⟩:=R
  simp only [List.map_cons,List.map_nil] at c3 l3 o3 hX2
  have i3:=i2.le0 l3
  have c4:=xC (G:=G) s3 [58]
  have l4:=qU 6 [58] s3
  generalize zA 6 [58] s3=s4 at *
  have i4:=i3.le0 l4
  have hdn:decide (t3.text ∉ ks) = !decide (t3.text∈ks):=decide_not
  rw [hdn] at hX2
  have hin:=qMS (G:=G) ks t3.text
  generalize decide (t3.text∈ks)=bi at *
  have c5:=xX (G:=G) s4 (!bi)
  have l5:=kB (!bi) s4
  generalize qK (!bi) s4=s5 at *
  have i5:=i4.le0 l5
  have g3:=i5.lo
  have g4:=i5.hi
  refine AW.skip (AW.block (rgn [.int .i64 1,.int .i64 5] [[],[]] ?_))
  iterate 2 refine op1 tok ?_
  refine qD ?_
  refine qB.freeze 940 (by conv=>lhs; simp) ?_
  refine qB.stepK [0,3,41] (qJ rfl c3 (by simp)) (by conv=>lhs; simp) rfl ?_
  refine qB.run [[],[0,3,6]] ?_
  iterate 2 refine op1 tok ?_
  refine qA (rgn [.str [58]] [[],[]] ?_)
  iterate 2 refine op1 tok ?_
  refine qD ?_
  refine qB.freeze 944 (by conv=>lhs; simp) ?_
  refine qB.stepK [0,3,6] (qJ rfl c4 (by simp)) (by conv=>lhs; simp) rfl ?_
  refine qB.nil ?_
  refine rgn [] [[],[],[],[]] ?_
  iterate 4 refine op1 tok ?_
  refine qD ?_
  refine qB.stepK [0,3,6,46,50] (qWC [951] rfl (by conv=>lhs; simp) trivial hin (by simp) (by simp) rfl) (by conv=>lhs; simp) rfl ?_
  refine qB.run [[]] ?_
  refine op1 tok ?_
  refine qD ?_
  refine qB.stepK [0,3,6] (qJ rfl c5 (by simp)) (by conv=>lhs; simp) rfl ?_
  refine qB.nil ?_
  refine AW.seq (rgn [] [[],[],[],[0,3,6,56]] ?_)
  iterate 4 refine op1 tok ?_
  refine qA (cnd ?_ ?_)
  ·intro h56
   try simp at h56
   rw [if_pos h56] at hX2
   subst hX2
   have c9:=qRE (G:=G) (yN 1 s5) ⟨10,0,[],⟨false,[],0⟩,ks,vs⟩ (by have:=i5.n; simpa using this)
   refine AW.exit ?_
   simp [-Prod.exists]
   refine rgn [] [[],[],[],[],[],[0,3,85,86],[],[0,3]] ?_
   iterate 8 refine op1 tok ?_
   refine qA ?_
   refine AW.freezeE 951 (by conv=>lhs; simp) ?_
   refine AW.freezeE 952 (by conv=>lhs; simp) ?_
   refine rgn [] [[],[]] ?_
   iterate 2 refine op1 tok ?_
   refine qD ?_
   refine qB.stepK [90] (qJ rfl c9 (by simp)) (by conv=>lhs; simp) rfl ?_
   refine qB.run [[2]] ?_
   refine op1 tok ?_
   refine qA ?_
   exact AW.ret qV
  intro h56
  try simp at h56
  rw [if_neg (by simp [h56])] at hX2
  have h3b:s3.bad=false:=l4.nb (l5.nb h56)
  obtain ⟨q1,q2,q3⟩:=o3 h3b
  have e4:=l4.len
  have e5:=l5.len
  have j3:=i2.eat l3 ⟨q1,q2,q3⟩
  have j5:=(j3.le0 l4).le0 l5
  have c6:=AX.ren 3 949 ((ih m (by omega)).bound 1 s5 (by omega) (j5.weak 0 0 (by omega) (by omega)) (by omega)) (by simp)
  simp at c6
  have l6:=(zK m).bound 1 s5
  generalize qL m 1 s5=R at *
  obtain ⟨a6,s6⟩:=R
  simp only at c6 l6 hX2
  have j6:=j5.le0 l6
  have e6:=l6.len
  have c7:=uH (G:=G) s6 [[125],[44]]
  have l7:=zP 6 [[125],[44]] s6
  generalize qT 6 [[125],[44]] s6=R at *
  obtain ⟨⟨w7,b7⟩,s7⟩:=R
  simp only [List.map_cons,List.map_nil] at c7 l7 hX2
  have c8:=xX (G:=G) s7 b7
  have l8:=kB b7 s7
  generalize qK b7 s7=s8 at *
  have j8:=(j6.le0 l7).le0 l8
  have e8:=(l7.trans l8).len
  have g5:=j8.lo
  have g6:=j8.hi
  refine AW.skip ?_
  refine AW.seqDrawR mixed 13 [[3],[57],[6],[59],[58,60],[3],[62],[0],[64],[65],[63,66],[3],[68,61]] [] (by kernel_rfl) ?_
  iterate 3 refine jW.one tok (orc:=[]) (by intro C; conv=>lhs; simp) (by first | with_reducible exact True.intro | ((simp; omega); done) | omega | simp | (simp +contextual; omega)) rfl (by kernel_rfl) ?_
  refine jW.one tok (orc:=[.str t3.text]) (by intro C; conv=>lhs; simp) (by first | with_reducible exact True.intro | ((simp; omega); done) | omega | simp | (simp +contextual; omega)) rfl (by kernel_rfl) ?_
  iterate 3 refine jW.one tok (orc:=[]) (by intro C; conv=>lhs; simp) (by first | with_reducible exact True.intro | ((simp; omega); done) | omega | simp | (simp +contextual; omega)) rfl (by kernel_rfl) ?_
  refine jW.q [2] (.ptr 2 0) rfl (qQK tok (orc:=[]) (orc':=[]) (v:=True) (by conv=>lhs; simp) trivial) (by simp) (by kernel_rfl) (by conv=>lhs; simp) ?_
  refine jW.call [949] c6 rfl rfl (by simp) (by simp) (by simp) (by simp) (by simp) (by first | (simp; done) | (simp; omega)) (by first | (simp; done) | (simp; omega)) (by kernel_rfl) (by conv=>lhs; simp) ?_
  refine jW.one tok (orc:=[.int .i64 a6]) (by intro C; conv=>lhs; simp) (by first | with_reducible exact True.intro | ((simp; omega); done) | omega | simp | (simp +contextual; omega)) rfl (by kernel_rfl) ?_
  iterate 3 refine jW.one tok (orc:=[]) (by intro C; conv=>lhs; simp) (by first | with_reducible exact True.intro | ((simp; omega); done) | omega | simp | (simp +contextual; omega)) rfl (by kernel_rfl) ?_
  refine jW.nil (by kernel_rfl) ⟨by kernel_rfl, ?_⟩
  refine qB.run [[],[0,3]] ?_
  iterate 2 refine op1 tok ?_
  refine qD ?_
  refine qB.take 961 951 (by conv=>lhs; simp) ?_
  refine qB.take 967 952 (by conv=>lhs; simp) ?_
  refine qB.take 949 3 (by conv=>lhs; simp) ?_
  refine qB.nil ?_
  refine rgn [.str [125],.str [44]] [[],[]] ?_
  iterate 2 refine op1 tok ?_
  refine qD ?_
  refine qB.freeze 972 (by conv=>lhs; simp) ?_
  refine qB.stepK [0,3,73] (qJ rfl c7 (by simp)) (by conv=>lhs; simp) rfl ?_
  refine qB.run [[],[],[],[],[0,3,7,8]] ?_
  iterate 5 refine op1 tok ?_
  refine qA (rgn [] [[],[]] ?_)
  iterate 2 refine op1 tok ?_
  refine qD ?_
  refine qB.stepK [0,3,7] (qJ rfl c8 (by simp)) (by conv=>lhs; simp) rfl ?_
  refine qB.nil ?_
  refine rgn [] [[],[0,3,80]] ?_
  iterate 2 refine op1 tok ?_
  refine qA (cnd ?_ ?_)
  ·intro h80
   try simp at h80
   rw [if_pos h80] at hX2
   subst hX2
   have c9:=qRE (G:=G) (yN 1 s8) ⟨10,0,[],⟨false,[],0⟩,ks++[t3.text],vs++[a6]⟩ (by have:=j8.n; simpa using this)
   refine AW.exit ?_
   simp [-Prod.exists]
   refine rgn [] [[],[],[],[],[],[0,3,85,86],[],[0,3]] ?_
   iterate 8 refine op1 tok ?_
   refine qA ?_
   refine AW.freezeE 951 (by conv=>lhs; simp) ?_
   refine AW.freezeE 952 (by conv=>lhs; simp) ?_
   refine rgn [] [[],[]] ?_
   iterate 2 refine op1 tok ?_
   refine qD ?_
   refine qB.stepK [90] (qJ rfl c9 (by simp)) (by conv=>lhs; simp) rfl ?_
   refine qB.run [[2]] ?_
   refine op1 tok ?_
   refine qA ?_
   exact AW.ret qV
  intro h80
  try simp at h80
  rw [if_neg h80] at hX2
  refine AW.skip ?_
  exact ⟨(m,ks++[t3.text],vs++[a6],s8),⟨by simp only []; omega,j8.weak 0 1 (by omega) (by omega),by simp only []; omega,by simp only [List.length_append,List.length_singleton]; omega,by simp only [List.length_append,List.length_singleton]; omega,hX2⟩,by simp only []; omega,qH (by simp),rfl,by simp,by simp⟩
 intro h38
 try simp at h38
 obtain ⟨m,rfl⟩:∃ m',m=m'+1:=⟨m-1,by omega⟩
 simp only [wG] at hX2
 rw [if_pos (by simpa using h38)] at hX2
 subst hX2
 have c9:=qRE (G:=G) (yN 1 s2) ⟨10,0,[],⟨false,[],0⟩,ks,vs⟩ (by have:=i2.n; simpa using this)
 refine AW.exit ?_
 simp [-Prod.exists]
 refine rgn [] [[],[],[],[],[],[0,3,85,86],[],[0,3]] ?_
 iterate 8 refine op1 tok ?_
 refine qA ?_
 refine AW.freezeE 951 (by conv=>lhs; simp) ?_
 refine AW.freezeE 952 (by conv=>lhs; simp) ?_
 refine rgn [] [[],[]] ?_
 iterate 2 refine op1 tok ?_
 refine qD ?_
 refine qB.stepK [90] (qJ rfl c9 (by simp)) (by conv=>lhs; simp) rfl ?_
 refine qB.run [[2]] ?_
 refine op1 tok ?_
 refine qA ?_
 exact AW.ret qV
theorem zGX (hE:PE G) (n:Nat):SynAll G n:=by
 induction n using Nat.strongRecOn with
 | _ n ih =>
  cases n with
  | zero =>
   constructor
   ·intro s hi hf; omega
   ·intro b s hi hf; omega
   ·intro w s hi hf; omega
   ·intro s hi hf; omega
   ·intro i s h6 hi hf; omega
   ·intro s hi hf; omega
   ·intro s hi hf; omega
   ·intro w s hi hf; omega
   ·intro s hi hf; omega
   ·intro s hi hf; omega
   ·intro s hi hf; omega
   ·intro s hi hf; omega
   ·intro s hi hf; omega
   ·intro w s hi hf hw; omega
   intro s hi hf; omega
  | succ n =>
   have ih:∀ m,m≤n→SynAll G m:=fun m h=>ih m (by omega)
   exact ⟨fun s hi hf=>zAO n s ih hi hf,fun b s hi hf=>qVK n b s ih hi hf,fun w s hi hf=>qVN n w s ih hi hf,fun s hi hf=>qUU n s ih hi hf,
    fun i s h6 hi hf=>qXN n i s ih h6 hi hf,fun s hi hf=>zAM n s hE ih hi hf,fun s hi hf=>zAC n s ih hi hf,fun w s hi hf=>qWS n w s ih hi hf,
    fun s hi hf=>qVO n s ih hi hf,fun s hi hf=>qTS n s ih hi hf,fun s hi hf=>qWX n s hE ih hi hf,fun s hi hf=>zBB n s ih hi hf,fun s hi hf=>qQV n s ih hi hf,
    fun w s hi hf hw=>qTJ n w s ih hi hf hw,fun s hi hf=>qUC n s ih hi hf⟩
theorem qTB (hE:PE G) (s:List UInt8) (l:List Tok) (e:Int) (hl:AFn Tryz.prog G 11 [.str s] (.tup [.sl 6 (l.map Tok.enc),.int .i64 e])) (hok:∀ t∈l,okT t) (hlen:l.length≤1000):AFn Tryz.prog G 7 [.str s] (.tup [.sl 8 ((if e=0 then (vN l).1 else []).map Nd.enc),.int .i64 (if e=0 then (vN l).2 else e)]):=by
 refine AFn.introU tok Tryz.func7 (by kernel_rfl) rfl rfl ?_
 simp only [Tryz.f7,qN,List.map_cons,List.map_nil]
 refine rgn [] [[],[0]] ?_
 iterate 2 refine op1 tok ?_
 refine qA (rgn [.nilp,.tup [.sl 6 (l.map Tok.enc),.int .i64 e]] [[],[],[],[],[10,11],[],[4,5]] ?_)
 iterate 7 refine oq1 tok hl ?_
 refine qA (AW.seq (rgn [] [[],[4,5,13]] ?_))
 iterate 2 refine op1 tok ?_
 refine qA (cnd ?_ ?_)
 ·intro h13
  try simp at h13
  rw [if_neg h13,if_neg h13]
  refine rgn [] [[],[],[2,3]] ?_
  iterate 3 refine op1 tok ?_
  exact qA (AW.ret qX)
 intro h13
 try simp at h13
 rw [if_pos h13,if_pos h13]
 have hi:InS 0 0 ⟨l,[],0,false⟩:=⟨hok,by simp,by simp; omega,by simp; omega⟩
 have c1:=(zGX (G:=G) hE (20 * l.length+20)).pipe ⟨l,[],0,false⟩ hi (by simp only; omega)
 have l1:=(zK (20 * l.length+20)).pipe ⟨l,[],0,false⟩
 unfold vN
 generalize zF (20 * l.length+20) ⟨l,[],0,false⟩=R at *
 obtain ⟨a,q⟩:=R
 simp only [List.map_nil] at c1 l1 ⊢
 refine AW.skip (rgn [] [[],[],[],[6]] ?_)
 iterate 4 refine op1 tok ?_
 refine qA ?_
 refine AW.renE 17 2 (by simp) (by conv=>lhs; simp) ?_
 refine AW.beginBox 2 3 1 36 8 (by simp; exact ⟨rfl,rfl⟩) (by simp) (by simp) (by conv=>lhs; simp) ?_
 refine rgn [] [[]] ?_
 refine op1 tok ?_
 refine qD ?_
 refine qB.stepK [6] (qJ rfl c1 (by simp)) (by conv=>lhs; simp) rfl ?_
 refine qB.nil ?_
 refine AW.seq (AW.block (rgn [] [[],[],[],[],[6,25],[],[],[],[],[6,25,30],[],[],[6,20]] ?_))
 iterate 5 refine op1 tok ?_
 iterate 6 refine op2 tok ?_
 iterate 2 refine op1 tok ?_
 refine qA (cnd ?_ ?_)
 ·intro h20
  try simp at h20
  rw [if_pos (by simpa [List.length_pos_iff] using h20)]
  refine rgn [] [[],[]] ?_
  iterate 2 refine op1 tok ?_
  exact qA (AW.ret qX)
 intro h20
 try simp at h20
 rw [if_neg (by simpa [List.length_pos_iff] using h20)]
 refine rgn [] [[],[],[],[],[6,38],[],[6,33]] ?_
 iterate 7 refine op1 tok ?_
 refine qA (cnd ?_ ?_)
 ·intro h33
  try simp at h33
  rw [if_pos (by omega)]
  refine rgn [] [[],[]] ?_
  iterate 2 refine op1 tok ?_
  exact qA (AW.ret qX)
 intro h33
 try simp at h33
 rw [if_neg (by omega)]
 refine AW.skip (rgn [] [[],[],[],[43],[],[2,3]] ?_)
 iterate 6 refine op1 tok ?_
 exact qA (AW.ret qX)
open Go
open Go.Lib
def qAH (n:Nat):UInt8:=if n<10 then UInt8.ofNat (48+n) else UInt8.ofNat (87+n)
def qb (b:UInt8):List UInt8 :=
 if b=34∨b=92 then [92,b] else if b=10 then [92,110] else if b=13 then [92,114] else if b=9 then [92,116]
 else if b<32∨b=127 then [92,117,48,48,qAH (b.toNat / 16),qAH (b.toNat % 16)] else [b]
def kO (s:List UInt8):List UInt8:=s.flatMap qb
def zL (s:List UInt8):List UInt8:=34::(kO s++[34])
def qMR (c:UInt8):Option Nat:=if 48≤c∧c≤57 then some (c.toNat-48) else if 97≤c∧c≤102 then some (c.toNat-87) else if 65≤c∧c≤70 then some (c.toNat-55) else none
def qFY:List UInt8→Nat→Option Nat
 | [],x=>some x
 | c::l,x=>match qMR c with
  | none=>none
  | some k=>qFY l (16 * x+k)
def wC (s:List UInt8):Option Nat:=if s.length<6∨s.take 2≠[92,117] then none else qFY ((s.drop 2).take 4) 0
def qAI (c:UInt8):Option Nat:=if c=34 then some 34 else if c=92 then some 92 else if c=47 then some 47 else if c=98 then some 8 else if c=102 then some 12 else if c=110 then some 10 else if c=114 then some 13 else if c=116 then some 9 else none
def qCI (u w:Option Nat):Nat × Nat × Bool :=
 if u.isSome=false∨u.getD 0 / 1024≠54 then (u.getD 0,6,u.isSome && decide (u.getD 0 / 1024≠55)) else (65536+u.getD 0 % 1024 * 1024+w.getD 0 % 1024,12,w.isSome && decide (w.getD 0 / 1024=55))
def yX (s:List UInt8):Nat × Nat × Bool:=match s with
 | _::c::_=>match qAI c with
  | some v=>(v,2,true)
  | none=>qCI (wC s) (wC (s.drop 6))
 | _=>(0,0,false)
def qBR (s:List UInt8):Option (Nat × Nat):=if (yX s).2.2=true then some ((yX s).1,(yX s).2.1) else none
def yC:Nat→List UInt8→Nat→List UInt8→List UInt8 × Nat × Int
 | 0,_,_,_=>([],0,6)
 | f+1,s,at',out=>if s=[] then ([],0,6)
  else if (decodeL s).1=34 then (if 4096<out.length then ([],0,3) else (out,at'+1,0))
  else if (decodeL s).1<32∨((decodeL s).1=65533∧(decodeL s).2=1) then ([],0,6)
  else if (decodeL s).1=92 then (match qBR s with
   | none=>([],0,6)
   | some (c,n)=>yC f (s.drop n) (at'+n) (out++encodeRune c))
  else yC f (s.drop (decodeL s).2) (at'+(decodeL s).2) (out++encodeRune (decodeL s).1)
def qO (s:List UInt8):List UInt8 × Nat × Int:=if s.head?=some 34 then yC s.length (s.drop 1) 1 [] else ([],0,6)
theorem qAD {b:UInt8} {t:List UInt8} (h:b.toNat<128):decodeL (b::t)=(b.toNat,1):=by
 unfold decodeL
 rw [decode_at]
 have e:(⟨(b::t).toArray⟩:ByteArray).get! 0=b:=rfl
 rw [e]
 unfold decodeN
 rw [if_pos h]
theorem qLZ {b:UInt8} (h:b.toNat<128):encodeRune (b.toNat:Int)=[b]:=by
 simp only [encodeRune,encodeRuneZ_one (r:=(b.toNat:Int)) (by omega) (by omega),List.map_cons,List.map_nil]
 congr 1
 simp
theorem xQ (l:List UInt8):decodeL l=decodeN l.length (l.getD 0 0).toNat (l.getD 1 0).toNat (l.getD 2 0).toNat (l.getD 3 0).toNat:=by
 unfold decodeL
 rw [decode_at]
 have e:∀ k,(⟨l.toArray⟩:ByteArray).get! k=l.getD k 0:=by
  intro k
  show l.toArray[k]! = _
  simp [List.getD_eq_getElem?_getD]
  rfl
 simp only [e]
 rfl
set_option maxRecDepth 100000 in
set_option maxHeartbeats 2000000 in
theorem qRW (n b0 b1 b2 b3 n' b1' b2' b3' : Nat) (hv : ¬ ((decodeN n b0 b1 b2 b3).1 = 65533 ∧ (decodeN n b0 b1 b2 b3).2 = 1)) (h : (decodeN n b0 b1 b2 b3).2 ≤ n')
  (h1:1<(decodeN n b0 b1 b2 b3).2→b1'=b1) (h2:2<(decodeN n b0 b1 b2 b3).2→b2'=b2) (h3:3<(decodeN n b0 b1 b2 b3).2→b3'=b3):decodeN n' b0 b1' b2' b3'=decodeN n b0 b1 b2 b3:=by
 revert hv h h1 h2 h3
 generalize e:decodeN n b0 b1 b2 b3=p
 obtain ⟨r,w⟩:=p
 intro hv h h1 h2 h3
 simp only at hv h h1 h2 h3
 unfold decodeN at e
 by_cases c0:b0<128
 ·rw [if_pos c0] at e
  unfold decodeN; rw [if_pos c0]; exact e
 rw [if_neg c0] at e
 by_cases c1:b0 / 32=6∧(1<n∧b1 / 64=2)
 ·rw [if_pos c1] at e
  split at e
  ·rename_i k
   cases e
   have e1:=h1 (by omega)
   subst e1
   unfold decodeN; rw [if_neg c0,if_pos ⟨c1.1,by omega,c1.2.2⟩,if_pos k]
  cases e; exact absurd ⟨rfl,rfl⟩ hv
 rw [if_neg c1] at e
 by_cases c2:b0 / 16=14∧(1<n∧b1 / 64=2)∧(2<n∧b2 / 64=2)
 ·rw [if_pos c2] at e
  split at e
  ·rename_i k
   cases e
   have e1:=h1 (by omega)
   have e2:=h2 (by omega)
   subst e1; subst e2
   unfold decodeN; rw [if_neg c0,if_neg (by omega),if_pos ⟨c2.1,⟨by omega,c2.2.1.2⟩,by omega,c2.2.2.2⟩,if_pos k]
  cases e; exact absurd ⟨rfl,rfl⟩ hv
 rw [if_neg c2] at e
 split at e
 ·rename_i c3
  split at e
  ·rename_i k
   cases e
   have e1:=h1 (by omega)
   have e2:=h2 (by omega)
   have e3:=h3 (by omega)
   subst e1; subst e2; subst e3
   unfold decodeN; rw [if_neg c0,if_neg (by omega),if_neg (by omega),if_pos ⟨c3.1,⟨by omega,c3.2.1.2⟩,⟨by omega,c3.2.2.1.2⟩,by omega,c3.2.2.2.2⟩,if_pos k]
  cases e; exact absurd ⟨rfl,rfl⟩ hv
 cases e; exact absurd ⟨rfl,rfl⟩ hv
theorem vV (l:List UInt8) (hne:l≠[]):1≤(decodeL l).2:=by
 rw [xQ l]
 unfold decodeN
 repeat' split
 all_goals simp
theorem qCM (l t:List UInt8) (hne:l≠[]) (hv:¬ ((decodeL l).1=65533∧(decodeL l).2=1)):decodeL (l.take (decodeL l).2++t)=decodeL l:=by
 have hle:=decodeL_le l hne
 have hpos:=vV l hne
 have e:=xQ l
 generalize hk:(decodeL l).2=k at *
 have g:∀ j,j<k→(l.take k++t).getD j 0=l.getD j 0:=by
  intro j hj
  rw [List.getD_eq_getElem?_getD,List.getD_eq_getElem?_getD,List.getElem?_append_left (by simp; omega),List.getElem?_take,if_pos hj]
 rw [xQ (l.take k++t),e,g 0 (by omega)]
 rw [e] at hk hv
 refine qRW _ _ _ _ _ _ _ _ _ (by rw [hk]; exact hv) ?_ ?_ ?_ ?_
 ·rw [hk]; simp; omega
 ·rw [hk]; intro h; rw [g 1 h]
 ·rw [hk]; intro h; rw [g 2 h]
 rw [hk]; intro h; rw [g 3 h]
theorem qQF (l:List UInt8) (hne:l≠[]) (hv:¬ ((decodeL l).1=65533∧(decodeL l).2=1)) (hb:128≤(l.getD 0 0).toNat):(∀ b∈l.take (decodeL l).2,128≤b.toNat)∧128≤(decodeL l).1:=by
 have hr:=xQ l
 have hle:=decodeL_le l hne
 have hlen:0<l.length:=by cases l with
  | nil=>exact absurd rfl hne
  | cons a l=>simp
 unfold decodeN at hr
 rw [if_neg (by omega)] at hr
 split at hr
 ·rename_i c
  split at hr
  ·rw [hr] at hv hle ⊢
   simp only at hle ⊢
   rw [takeB l (by omega)]
   refine ⟨fun b hb' => ?_,by omega⟩
   simp at hb'
   rcases hb' with h | h <;> (subst h; simp at hb c; omega)
  rw [hr] at hv; exact absurd ⟨rfl,rfl⟩ hv
 split at hr
 ·rename_i c
  split at hr
  ·rw [hr] at hv hle ⊢
   simp only at hle ⊢
   rw [takeC l (by omega)]
   refine ⟨fun b hb' => ?_,by omega⟩
   simp at hb'
   rcases hb' with h | h | h <;> (subst h; simp at hb c; omega)
  rw [hr] at hv; exact absurd ⟨rfl,rfl⟩ hv
 split at hr
 ·rename_i c
  split at hr
  ·rw [hr] at hv hle ⊢
   simp only at hle ⊢
   rw [takeD l (by omega)]
   refine ⟨fun b hb' => ?_,by omega⟩
   simp at hb'
   rcases hb' with h | h | h | h <;> (subst h; simp at hb c; omega)
  rw [hr] at hv; exact absurd ⟨rfl,rfl⟩ hv
 rw [hr] at hv; exact absurd ⟨rfl,rfl⟩ hv
theorem qPC {l:List UInt8} (h:∀ b∈l,128≤b.toNat):kO l=l:=by
 induction l with
 | nil=>rfl
 | cons b l ih =>
  have hb:=h b (by simp)
  have h1:qb b=[b]:=by
   unfold qb
   have ne:∀ c:UInt8,c.toNat<128→b≠c:=fun c hc e=>by subst e; omega
   rw [if_neg (by rintro (e | e) <;> exact ne _ (by decide) e),if_neg (ne _ (by decide)),if_neg (ne _ (by decide)),if_neg (ne _ (by decide)),if_neg]
   rintro (e | e)
   ·rw [UInt8.lt_iff_toNat_lt] at e
    simp at e; omega
   exact ne _ (by decide) e
  show qb b++kO l=_
  rw [h1,ih fun b hb=>h b (List.mem_cons_of_mem _ hb)]
  rfl
theorem qGT (a b:List UInt8):kO (a++b)=kO a++kO b:=by simp [kO]
theorem zCS (b:UInt8) (hb:b.toNat<128) (f:Nat) (at':Nat) (out t:List UInt8):yC (f+1) (qb b++t) at' out=yC f t (at'+(qb b).length) (out++[b]):=by
 have esc:∀ (x:UInt8) (l:List UInt8) (c:UInt8),c.toNat<128→qBR (92::x::(l++t))=some (c.toNat,l.length+2)→yC (f+1) (92::x::l++t) at' out=yC f t (at'+(92::x::l).length) (out++[c]):=by
  intro x l c hc he
  show yC (f+1) (92::x::(l++t)) at' out=_
  simp only [yC]
  rw [if_neg (by simp),qAD (show (92:UInt8).toNat<128 by decide),if_neg (by decide),if_neg (by decide),if_pos (by decide),he]
  simp only
  rw [qLZ hc]
  rw [show (92::x::(l++t)).drop (l.length+2)=t by simp]
  simp
 unfold qb
 split
 ·rename_i h
  rcases h with rfl | rfl
  ·exact esc 34 [] 34 (by decide) rfl
  exact esc 92 [] 92 (by decide) rfl
 rename_i h0
 split
 ·rename_i h; subst h; exact esc 110 [] 10 (by decide) rfl
 split
 ·rename_i h; subst h; exact esc 114 [] 13 (by decide) rfl
 split
 ·rename_i h; subst h; exact esc 116 [] 9 (by decide) rfl
 split
 ·rename_i h
  refine esc 117 [48,48,qAH (b.toNat / 16),qAH (b.toNat % 16)] b hb ?_
  have hex:∀ k:Fin 128,k.val<32∨k.val=127→qFY [48,48,qAH (k.val / 16),qAH (k.val % 16)] 0=some k.val:=by decide +kernel
  have h':b.toNat<32∨b.toNat=127:=by
   rcases h with h | h
   ·rw [UInt8.lt_iff_toNat_lt] at h; exact .inl h
   subst h; exact .inr rfl
  have h2:=hex ⟨b.toNat,hb⟩ h'
  simp only at h2
  have h3:wC (92::117::([48,48,qAH (b.toNat / 16),qAH (b.toNat % 16)]++t))=some b.toNat:=by
   unfold wC
   rw [if_neg (by simp)]
   exact h2
  have h4:qBR (92::117::([48,48,qAH (b.toNat / 16),qAH (b.toNat % 16)]++t))=some (b.toNat,6):=by
   have h5:yX (92::117::([48,48,qAH (b.toNat / 16),qAH (b.toNat % 16)]++t))=(b.toNat,6,true):=by
    unfold yX
    simp only [show qAI 117=none by decide,h3,qCI,Option.isSome_some,Option.getD_some]
    rw [if_pos (by right; omega)]
    simp; omega
   unfold qBR
   rw [h5]; rfl
  exact h4
 rename_i h1 h2 h3 h4
 have n34:b.toNat≠34:=fun e=>h0 (.inl (UInt8.toNat_inj.1 e))
 have n92:b.toNat≠92:=fun e=>h0 (.inr (UInt8.toNat_inj.1 e))
 have n32:¬ b.toNat<32:=fun e=>h4 (.inl (by rw [UInt8.lt_iff_toNat_lt]; exact e))
 show yC (f+1) (b::t) at' out=_
 simp only [yC]
 rw [if_neg (by simp),qAD hb,if_neg (by simpa using n34),if_neg (by simp; omega),if_neg (by simpa using n92)]
 simp only
 rw [qLZ hb]
 simp
theorem zKF (b : UInt8) : 1 ≤ (qb b).length := by
  unfold qb
  repeat' split
  all_goals simp
theorem qKQ : ∀ (n : Nat) (s : List UInt8), s.length ≤ n → validD s = true → ∀ (f at' : Nat) (out rest : List UInt8), s.length < f → (out ++ s).length ≤ 4096 →
  yC f (kO s++34::rest) at' out=(out++s,at'+(kO s).length+1,0)
 | n,[],_,_,f,at',out,rest,hf,hl=>by
  obtain ⟨f,rfl⟩:∃ g,f=g+1:=⟨f-1,by omega⟩
  simp only [kO,List.flatMap_nil,List.nil_append,yC]
  rw [if_neg (by simp),qAD (show (34:UInt8).toNat<128 by decide)]
  simp only [List.append_nil] at hl
  rw [if_pos (show ((34:UInt8).toNat,1).1=34 from rfl),if_neg (by omega)]
  simp
 | 0,b::s,h,_,_,_,_,_,_,_=>by simp at h
 | n+1,b::s,h,hv,f,at',out,rest,hf,hl=>by
  obtain ⟨f,rfl⟩:∃ g,f=g+1:=⟨f-1,by omega⟩
  by_cases hb:b.toNat<128
  ·rw [validD_cons b s hb] at hv
   have e:kO (b::s)=qb b++kO s:=rfl
   rw [e,List.append_assoc,zCS b hb,qKQ n s (by simp at h; omega) hv f _ _ rest (by simp at hf; omega) (by simpa using hl)]
   simp; omega
  have hne:(b::s)≠[]:=by simp
  rw [validD_step _ hne] at hv
  split at hv
  ·cases hv
  rename_i hok
  obtain ⟨h1,h2⟩:=qQF (b::s) hne hok (by simpa using by omega)
  have hpos:=vV (b::s) hne
  have hle:=decodeL_le (b::s) hne
  have hmore:=qCM (b::s)
  have henc:=encode_decode (b::s) hne hok
  generalize hk:decodeL (b::s)=p at *
  obtain ⟨r,k⟩:=p
  simp only at *
  have hsplit:(b::s)=(b::s).take k++(b::s).drop k:=(List.take_append_drop k _).symm
  have hb2:kO (b::s)=(b::s).take k++kO ((b::s).drop k):=by
   conv=>lhs; rw [hsplit]
   rw [qGT,qPC h1]
  have htl:((b::s).take k).length=k:=by rw [List.length_take]; omega
  have hx:∀ u,decodeL ((b::s).take k++u)=(r,k):=fun u=>hmore u hne hok
  generalize hA:(b::s).take k=A at *
  generalize hD:(b::s).drop k=D at *
  have hlenAD:(b::s).length=A.length+D.length:=by rw [hsplit]; simp
  rw [hb2,List.append_assoc]
  simp only [yC,hx]
  rw [if_neg (by intro e; have:=congrArg List.length e; simp at this),if_neg (by omega),if_neg (by omega),if_neg (by omega),henc]
  rw [show (A++(kO D++34::rest)).drop k=kO D++34::rest by rw [← htl,List.drop_left]]
  rw [qKQ n D (by omega) hv f _ _ rest (by omega) (by rw [List.append_assoc,← hsplit]; exact hl)]
  rw [hsplit]
  simp; omega
theorem qPB:∀ s:List UInt8,s.length≤(kO s).length
 | []=>Nat.le_refl _
 | b::s=>by
  have h1:=zKF b
  have h2:=qPB s
  show s.length+1≤(qb b++kO s).length
  rw [List.length_append]; omega
theorem qGD (s rest:List UInt8) (hv:validD s=true) (hl:s.length≤4096):qO (zL s++rest)=(s,(zL s).length,0):=by
 unfold qO zL
 simp only [List.cons_append,List.head?_cons,if_true,List.drop_succ_cons,List.drop_zero,List.append_assoc,List.singleton_append,List.nil_append]
 have hb:=qPB s
 rw [qKQ s.length s (Nat.le_refl _) hv _ 1 [] rest (by simp; omega) (by simpa using hl)]
 simp; omega
theorem qHF {s:List UInt8} {pos:Nat} (h:pos<s.length):1≤(uM s pos).2:=Lib.decode_width_pos _ _ (by simpa [ByteArray.size] using h)
theorem qNF {s:List UInt8} {pos:Nat} (h:pos<s.length) (ha:(s.getD pos 0).toNat<128):uM s pos=((s.getD pos 0).toNat,1):=by
 have hs:pos<(⟨s.toArray⟩:ByteArray).size:=by simpa [ByteArray.size] using h
 have e:(⟨s.toArray⟩:ByteArray)[pos]'hs=s.getD pos 0:=by simp [List.getD_eq_getElem?_getD,h]; rfl
 unfold uM
 rw [decode_ascii _ _ hs (by rw [e]; exact ha),e]
theorem zFL {s:List UInt8} {pos:Nat} (h:pos<s.length) (ha:128≤(s.getD pos 0).toNat):128≤(uM s pos).1:=by
 have e:((⟨s.toArray⟩:ByteArray).get! (pos+0)).toNat=(s.getD pos 0).toNat:=by
  simp [ByteArray.get!,List.getD_eq_getElem?_getD,h]
 unfold uM Utf8.decode
 simp only [e]
 rw [if_neg (by omega)]
 split
 ·split
  ·simp only [ge_iff_le] at *; omega
  simp [Utf8.runeError]
 split
 ·split
  ·rename_i hc; simp only [ge_iff_le,Bool.and_eq_true,decide_eq_true_eq] at hc; omega
  simp [Utf8.runeError]
 split
 ·split
  ·rename_i hc; simp only [ge_iff_le,Bool.and_eq_true,decide_eq_true_eq] at hc; omega
  simp [Utf8.runeError]
 simp [Utf8.runeError]
def qMP (p:Int→Bool) (s:List UInt8):Nat→Nat→Int
 | 0,_ => -1
 | f+1,pos=>if pos<s.length then (if p (uM s pos).1 then (pos:Int) else qMP p s f (pos+(uM s pos).2)) else -1
def qAY (p:Int→Bool) (s:List UInt8):Int:=qMP p s (s.length+1) 0
theorem qPW (p:Int→Bool) (s:List UInt8):∀ (f g pos:Nat),s.length<pos+f→s.length<pos+g→qMP p s f pos=qMP p s g pos
 | 0,0,_,_,_=>rfl
 | 0,g+1,pos,h,_=>by simp only [qMP]; rw [if_neg (by omega)]
 | f+1,0,pos,_,h=>by simp only [qMP]; rw [if_neg (by omega)]
 | f+1,g+1,pos,hf,hg=>by
  simp only [qMP]
  by_cases h:pos<s.length
  ·rw [if_pos h,if_pos h]
   split
   ·rfl
   have:=qHF h
   exact qPW p s f g _ (by omega) (by omega)
  rw [if_neg h,if_neg h]
def qCX (p:Int→Bool) (s:List UInt8) (pos:Nat):Int:=qMP p s (s.length+1-pos) pos
theorem qPX {p:Int→Bool} {s:List UInt8} {pos:Nat} (h:¬ pos<s.length):qCX p s pos = -1:=by
 unfold qCX; cases hf:s.length+1-pos with
 | zero=>rfl
 | succ f=>simp only [qMP]; rw [if_neg h]
theorem qIL {p:Int→Bool} {s:List UInt8} {pos:Nat} (h:pos<s.length) (hp:p (uM s pos).1=true):qCX p s pos=pos:=by
 unfold qCX; rw [show s.length+1-pos=(s.length-pos)+1 by omega]; simp only [qMP]; rw [if_pos h,if_pos hp]
theorem qMQ {p:Int→Bool} {s:List UInt8} {pos:Nat} (h:pos<s.length) (hp:p (uM s pos).1=false):qCX p s pos=qCX p s (pos+(uM s pos).2):=by
 unfold qCX; rw [show s.length+1-pos=(s.length-pos)+1 by omega]; simp only [qMP]
 have:=qHF h
 rw [if_pos h,if_neg (by simp [hp])]; exact qPW p s _ _ _ (by omega) (by omega)
theorem qPU (p:Int→Bool) (s:List UInt8):qAY p s=qCX p s 0:=by simp [qAY,qCX]
theorem qJO {p:Int→Bool} (hbig:∀ n:Int,128≤n→p n=true) (s:List UInt8):∀ (f pos:Nat),f=s.length-pos→pos≤s.length→qCX p s pos=if (s.drop pos).all (fun b => !p b.toNat) then -1 else ((pos+((s.drop pos).takeWhile fun b => !p b.toNat).length:Nat):Int)
 | 0,pos,hf,hp=>by
  rw [qPX (by omega),List.drop_eq_nil_of_le (by omega)]; simp
 | f+1,pos,hf,hp=>by
  have hlt:pos<s.length:=by omega
  have hd:s.drop pos=s.getD pos 0::s.drop (pos+1):=by
   rw [List.drop_eq_getElem_cons hlt]; congr 1; simp [List.getD_eq_getElem?_getD,hlt]
  rw [hd]
  have hda0:=fun h=>qNF (s:=s) (pos:=pos) hlt h
  have hdb0:=fun h=>zFL (s:=s) (pos:=pos) hlt h
  clear hd
  generalize s.getD pos 0=c at *
  by_cases ha:c.toNat<128
  ·have hda:=hda0 ha
   cases hpb:p ((c.toNat:Nat):Int) with
   | true=>rw [qIL hlt (by rw [hda]; exact hpb)]; simp [hpb]
   | false =>
    rw [qMQ hlt (by rw [hda]; exact hpb),hda,qJO hbig s f (pos+1) (by omega) (by omega)]
    simp only [List.all_cons,hpb,Bool.not_false,Bool.true_and,List.takeWhile_cons,if_true,List.length_cons]
    split <;> first | rfl | (congr 1; omega)
  have hb:=hdb0 (by omega)
  rw [qIL hlt (hbig _ (by omega))]
  have:p ((c.toNat:Nat):Int)=true:=hbig _ (by omega)
  simp [this]
theorem qRN {p:Int→Bool} (hbig:∀ n:Int,128≤n→p n=true) (s:List UInt8):qAY p s=if s.all (fun b => !p b.toNat) then -1 else (((s.takeWhile fun b => !p b.toNat).length:Nat):Int):=by
 rw [qPU,qJO hbig s _ 0 rfl (by omega)]; simp
theorem qRM (s:List UInt8) (g:FuncId) (p:Int→Bool) (hg:∀ n:Int,AFn Tryz.prog G g [.int .i32 n] (.bool (p n))):AFn Tryz.prog G 112 [.str s,.fn g,.bool true] (.int .i64 (qAY p s)):=by
 refine AFn.introU tok Tryz.func112 (by kernel_rfl) rfl rfl ?_
 simp only [Tryz.f112,qN,List.map_cons,List.map_nil]
 refine rgn [] [[0,1,2]] ?_
 refine op1 tok ?_
 refine qA (AW.seq (rgn [] [[],[1,2,10]] ?_))
 iterate 2 refine op1 tok ?_
 refine qA (AW.block ?_)
 refine AW.loop (α:=Nat) (fun pos=>qCX p s pos=qAY p s) (fun pos=>⟨wL 21 [(1,.p (.fn g)),(2,.p (.bool true)),(10,.it 10)],[],[(10,.iter s pos)],0⟩) (fun pos=>s.length-pos) (0) (qPU p s).symm ⟨qH (by simp),rfl,by simp,by simp⟩ ?_
 rintro pos hi
 have hpos:pos<s.length→1≤(uM s pos).2:=qHF
 by_cases hs2:pos<s.length
 ·
  refine rgn [.bool true] [[],[]] ?_
  iterate 2 refine oq1 tok hs2 ?_
  refine qA (AW.seq (cnd ?_ ?_))
  ·intro h12
   try simp at h12
   refine AW.skip (AW.block (rgn [] [[],[],[],[1,2,7,8,10]] ?_))
   iterate 4 refine op1 tok ?_
   refine qA (rgn [.nilp,.bool (p (uM s pos).1)] [[],[],[],[],[1,2,7,10,19]] ?_)
   iterate 5 refine op1 tok ?_ (hv:=by first | with_reducible exact True.intro | (exact hg _; done) | omega | simp | (simp +contextual; omega))
   refine qA (cnd ?_ ?_)
   ·intro h19
    try simp at h19
    have hI:qAY p s=pos:=by rw [← hi,qIL hs2 (by simpa using h19)]
    refine rgn [] [[],[6]] ?_
    iterate 2 refine op1 tok ?_
    refine qA ?_
    exact AW.ret (qX (k:=by simp [hI]))
   intro h19
   try simp at h19
   have hnx:qCX p s (pos+(uM s pos).2)=qAY p s:=by rw [← qMQ hs2 (by simpa using h19)]; exact hi
   refine AW.skip ?_
   exact ⟨pos+(uM s pos).2,hnx,by have:=hpos hs2; omega,qH (by simp),rfl,by simp,by simp⟩
  intro h12
  try simp at h12
 ·
  refine rgn [.bool false] [[],[]] ?_
  iterate 2 refine oq1 tok hs2 ?_
  refine qA (AW.seq (cnd ?_ ?_))
  ·intro h12
   try simp at h12
  intro h12
  try simp at h12
  refine AW.exit ?_
  simp
  refine rgn [] [[]] ?_
  refine op1 tok ?_
  refine qA ?_
  exact AW.ret (qX (k:=by simp [← hi,qPX hs2]))
theorem qSG (s:List UInt8) (g:FuncId) (p:Int→Bool) (hg:∀ n:Int,AFn Tryz.prog G g [.int .i32 n] (.bool (p n))):AFn Tryz.prog G 89 [.str s,.fn g] (.int .i64 (qAY p s)):=by
 refine AFn.introU tok Tryz.func89 (by kernel_rfl) rfl rfl ?_
 simp only [Tryz.f89,qN,List.map_cons,List.map_nil]
 refine rgn [] [[0,1]] ?_
 refine op1 tok ?_
 refine qA (rgn [.nilp,.int .i64 (qAY p s)] [[],[],[7],[4]] ?_)
 iterate 4 refine op1 tok ?_ (hv:=by first | with_reducible exact True.intro | (exact qRM s g p hg; done) | omega | simp | (simp +contextual; omega))
 exact qA (AW.ret qX)
def qBA (n:Int):Bool:=decide (48≤n) && decide (n≤57)
def qF (b:UInt8):Bool:=qBA b.toNat
def qBY (D:List UInt8):Nat:=D.foldl (fun n c=>n * 10+(c.toNat-48)) 0
def zT (s:List UInt8) (i:Nat):Int:=((s.getD i 0).toNat:Int)
theorem qNL {s:List UInt8} {i:Nat} (h:i<s.length):s[i]?=some (s.getD i 0):=by simp [List.getD_eq_getElem?_getD,h]
def kE (s:List UInt8) (k:Nat):Nat:=((s.drop k).takeWhile fun b=>qBA b.toNat).length
theorem qGJ {p:UInt8→Bool}:∀ {l:List UInt8} {n:Nat},n≤(l.takeWhile p).length→((n<(l.takeWhile p).length)↔∃ b,l[n]?=some b∧p b=true)
 | [],n,h=>by simp at h; subst h; simp
 | a::l,n,h=>by
  rw [List.takeWhile_cons] at h ⊢
  by_cases ha:p a=true
  ·rw [if_pos ha] at h ⊢
   cases n with
   | zero=>simp [ha]
   | succ n=>simpa using qGJ (l:=l) (n:=n) (by simpa using h)
  rw [if_neg ha] at h ⊢
  simp at h; subst h
  simp [ha]
theorem zHH {s:List UInt8} {k n:Nat} (h:n≤kE s k):n<kE s k↔(k+n<s.length∧qBA (zT s (k+n))=true):=by
 unfold kE at h ⊢
 rw [qGJ h]
 constructor
 ·rintro ⟨b,hb,hd⟩
  rw [List.getElem?_drop] at hb
  have:=(List.getElem?_eq_some_iff.1 hb).1
  refine ⟨this, ?_⟩
  rw [zT,List.getD_eq_getElem?_getD,hb]; exact hd
 rintro ⟨h1,h2⟩
 exact ⟨s.getD (k+n) 0,by rw [List.getElem?_drop]; exact qNL h1,h2⟩
def yS (n:Nat):List UInt8:=List.replicate n 48
def yT (s:List UInt8):List UInt8:=s.dropWhile (· == 48)
def vI (d:List UInt8):Nat→List UInt8 × Nat
 | 0=>(d,0)
 | k+1=>if d.getLast?=some 48 then vI d.dropLast k else (d,k+1)
def xG (neg:Bool) (digits:List UInt8) (scale:Nat):Dc × Int :=
 let x:=vI (yT digits) scale
 if x.1=[] then (⟨false,[48],0⟩,0) else if 60<x.1.length∨60<x.2 then (⟨false,[],0⟩,3) else (⟨neg,x.1,x.2⟩,0)
theorem qJV {d:List UInt8} (h:0<d.length):zT d (d.length-1)=48↔d.getLast?=some 48:=by
 rw [List.getLast?_eq_getElem?,zT,List.getD_eq_getElem?_getD,qNL (by omega)]
 simp only [Option.getD_some,Option.some.injEq]
 constructor
 ·intro h2; exact UInt8.toNat_inj.1 (by have:((d.getD (d.length-1) 0).toNat:Int)=48:=h2; show (d.getD (d.length-1) 0).toNat=48; omega)
 intro h2; rw [h2]; rfl
theorem qHR (d:List UInt8):d.take (d.length-1)=d.dropLast:=(List.dropLast_eq_take).symm
def qAU (n:Int):Bool:=decide (n<48) || decide (57<n)
theorem zDZ (n:Int):AFn Tryz.prog G 90 [.int .i32 n] (.bool (qAU n)):=by
 refine AFn.introU tok Tryz.func90 (by kernel_rfl) rfl rfl ?_
 simp only [Tryz.f90,qN,List.map_cons,List.map_nil]
 refine rgn [] [[0]] ?_
 refine op1 tok ?_
 refine qA (rgn [] [[],[],[],[],[5,7],[],[2]] ?_)
 iterate 3 refine op1 tok ?_
 iterate 2 refine op2 tok ?_
 iterate 2 refine op1 tok ?_
 refine qA ?_
 exact AW.ret (qX (k:=by simp [qAU]))
theorem zAP (b:UInt8):qAU b.toNat = !qF b:=by
 rw [Bool.eq_iff_iff]; simp [qAU,qF,qBA]
def yO (d:Dc):Bool:=d.digits.all qF && decide (1≤d.digits.length∧d.digits.length≤60∧0≤d.scale∧d.scale≤60) &&
 (if d.digits=[48] then decide (d.scale=0) && !d.neg else decide (zT d.digits 0≠48) && (decide (d.scale=0) || decide (zT d.digits (d.digits.length-1)≠48)))
theorem zBS {d : Dc} (h : 1 ≤ d.digits.length ∧ d.digits.length ≤ 60 ∧ 0 ≤ d.scale ∧ d.scale ≤ 60) (ha : d.digits.all qF = true) :
  yO d=(if d.digits=[48] then decide (d.scale=0) && !d.neg else decide (zT d.digits 0≠48) && (decide (d.scale=0) || decide (zT d.digits (d.digits.length-1)≠48))):=by
 unfold yO; rw [ha,show decide (1≤d.digits.length∧d.digits.length≤60∧0≤d.scale∧d.scale≤60)=true by simpa using h]; simp
def zEF (s:List UInt8):Bool:=decide (0<s.length) && decide (zT s 0=45)
def qTW (s:List UInt8) (k:Nat) (digits:List UInt8):Option (Nat × List UInt8 × Nat) :=
 if k<s.length∧zT s k=46 then (if kE s (k+1)=0 then none else some (k+1+kE s (k+1),digits++(s.take (k+1+kE s (k+1))).drop (k+1),kE s (k+1))) else some (k,digits,0)
def upM (s:List UInt8) (k:Nat):Nat→Int
 | 0=>0
 | i+1=>10 * upM s k i+(zT s (k+i)-48)
def uV (s:List UInt8) (k:Nat):Nat:=if k<s.length∧(zT s k=45∨zT s k=43) then k+1 else k
def qYQ (s:List UInt8) (k:Nat):Option (Nat × Int) :=
 if k<s.length∧(zT s k=101∨zT s k=69) then
  (if kE s (uV s (k+1))<1∨2<kE s (uV s (k+1)) then none
   else some (uV s (k+1)+kE s (uV s (k+1)),if k+1<s.length∧zT s (k+1)=45 then-upM s (uV s (k+1)) (kE s (uV s (k+1))) else upM s (uV s (k+1)) (kE s (uV s (k+1)))))
 else some (k,0)
def vM:Dc × Int:=(⟨false,[],0⟩,4)
def qAA (neg:Bool) (digits:List UInt8) (sc:Int):Dc × Int:=if sc<0 then xG neg (digits++yS (-sc).toNat) 0 else xG neg digits sc.toNat
def qEY (s:List UInt8) (neg:Bool) (digits:List UInt8) (scale:Nat):Option (Nat × Int)→Dc × Int
 | none=>vM
 | some (k,up)=>if k=s.length then qAA neg digits (scale-up) else vM
def qOT (s:List UInt8) (neg:Bool):Option (Nat × List UInt8 × Nat)→Dc × Int
 | none=>vM
 | some (k,digits,scale)=>qEY s neg digits scale (qYQ s k)
def a0M (s:List UInt8):Nat:=if zEF s=true then 1 else 0
def qNQ (s:List UInt8):Dc × Int :=
 if kE s (a0M s)=0∨(1<kE s (a0M s)∧zT s (a0M s)=48) then vM
 else qOT s (zEF s) (qTW s (a0M s+kE s (a0M s)) ((s.take (a0M s+kE s (a0M s))).drop (a0M s)))
theorem qYO (s:List UInt8) (k:Nat) (h:k≤s.length):k+kE s k≤s.length:=by
 unfold kE
 have:=(List.takeWhile_sublist (l:=s.drop k) fun b:UInt8=>qBA b.toNat).length_le
 simp at this; omega
theorem qWL {s:List UInt8} {k i:Nat} (h:i<kE s k):k+i<s.length∧48≤zT s (k+i)∧zT s (k+i)≤57:=by
 have:=(zHH (Nat.le_of_lt h)).1 h
 simpa [qBA] using this
def yZ (d:Dc):List UInt8:=yS (d.scale.toNat+1-d.digits.length)++d.digits
def kU (d:Dc):List UInt8:=(if d.neg=true then [45] else [])++(if d.scale=0 then yZ d else (yZ d).take ((yZ d).length-d.scale.toNat)++46::(yZ d).drop ((yZ d).length-d.scale.toNat))
theorem qAS {s:List UInt8} {k:Nat} {b:UInt8} {t:List UInt8} (h:s.drop k=b::t):k<s.length∧zT s k=b.toNat:=by
 have h1:k<s.length:=by
  rcases Nat.lt_or_ge k s.length with h1 | h1
  ·exact h1
  rw [List.drop_eq_nil_of_le h1] at h; cases h
 refine ⟨h1, ?_⟩
 have:s[k]?=some b:=by
  have:=congrArg (fun l=>l[0]?) h
  simpa using this
 simp [zT,List.getD_eq_getElem?_getD,this]
theorem qTD (n:Nat) (s:List UInt8):yT (yS n++s)=yT s:=by
 induction n with
 | zero=>rfl
 | succ n ih=>simp only [yS,List.replicate_succ,List.cons_append,yT,List.dropWhile_cons] at ih ⊢; simp [ih]
theorem zAT {d:Dc} (h:yO d=true) (n:Nat):xG d.neg (yS n++d.digits) d.scale.toNat=(d,0):=by
 unfold yO at h
 simp only [Bool.and_eq_true,decide_eq_true_eq] at h
 obtain ⟨⟨h1,h2⟩,h3⟩:=h
 unfold xG
 rw [qTD]
 by_cases hz:d.digits=[48]
 ·rw [if_pos hz] at h3
  simp at h3
  have:yT d.digits=[]:=by rw [hz]; rfl
  rw [this,h3.1]
  simp only [Int.toNat_zero,vI,if_true]
  obtain ⟨ng,dg,sc⟩:=d
  simp only at hz h3 ⊢
  rw [hz,h3.1,h3.2]
 rw [if_neg hz] at h3
 simp at h3
 obtain ⟨ng,dg,sc⟩:=d
 simp only at hz h1 h2 h3 ⊢
 have e1:yT dg=dg:=by
  cases dg with
  | nil=>rfl
  | cons b t =>
   have hb:b≠48:=by rintro rfl; exact h3.1 rfl
   simp [yT,List.dropWhile_cons,hb]
 have e2:vI dg sc.toNat=(dg,sc.toNat):=by
  cases hs:sc.toNat with
  | zero=>rfl
  | succ k =>
   simp only [vI]
   rw [if_neg]
   intro hl
   have:=(qJV (d:=dg) (by omega)).2 hl
   rcases h3.2 with h | h
   ·omega
   exact h this
 rw [e1,e2]
 simp only
 rw [if_neg (by intro e; rw [e] at h2; simp at h2),if_neg (by omega)]
 rw [show ((sc.toNat:Nat):Int)=sc by omega]
theorem zCB (n:Nat):(yS n).all qF=true:=by
 rw [List.all_eq_true]; intro b hb; have:=(List.mem_replicate.1 hb).2; subst this; decide
theorem zCC {p:UInt8→Bool} {l:List UInt8} (h:l.all p=true) (n:Nat):(l.take n).all p=true:=by
 rw [List.all_eq_true] at h ⊢; exact fun b hb=>h b (List.mem_of_mem_take hb)
theorem zCD {p:UInt8→Bool} {l:List UInt8} (h:l.all p=true) (n:Nat):(l.drop n).all p=true:=by
 rw [List.all_eq_true] at h ⊢; exact fun b hb=>h b (List.mem_of_mem_drop hb)
theorem qLW {d:Dc} (h:yO d=true):∃ W R:List UInt8,kU d=(if d.neg=true then [45] else [])++(W++if R=[] then [] else 46::R)∧W.all qF=true∧R.all qF=true∧W≠[]∧(W.length=1∨zT W 0≠48)∧xG d.neg (W++R) R.length=(d,0):=by
 have hd:=h
 unfold yO at hd
 simp only [Bool.and_eq_true,decide_eq_true_eq] at hd
 obtain ⟨⟨h1,h2⟩,h3⟩:=hd
 have hpa:(yZ d).all qF=true:=by unfold yZ; rw [List.all_append,zCB,h1]; rfl
 have hpl:(yZ d).length=if d.scale.toNat+1≤d.digits.length then d.digits.length else d.scale.toNat+1:=by
  unfold yZ; simp [yS]; split <;> omega
 have hn:=zAT h (d.scale.toNat+1-d.digits.length)
 have hp0:zT (yZ d) 0=48→yZ d=[48]∨(d.digits.length≤d.scale.toNat):=by
  intro hb
  by_cases hz:d.digits.length≤d.scale.toNat
  ·exact .inr hz
  refine .inl ?_
  have e:yZ d=d.digits:=by unfold yZ; rw [show d.scale.toNat+1-d.digits.length=0 by omega]; rfl
  rw [e] at hb ⊢
  by_cases hz:d.digits=[48]
  ·exact hz
  rw [if_neg hz] at h3; simp at h3; exact absurd hb h3.1
 unfold kU
 by_cases hs:d.scale=0
 ·rw [if_pos hs]
  refine ⟨yZ d,[],by simp,hpa,rfl,by intro e; rw [e] at hpl; simp at hpl; split at hpl <;> omega, ?_, ?_⟩
  ·by_cases hb:zT (yZ d) 0=48
   ·rcases hp0 hb with e | e
    ·rw [e]; exact .inl rfl
    omega
   exact .inr hb
  rw [List.append_nil,List.length_nil,show (0:Nat)=d.scale.toNat by omega]
  exact hn
 rw [if_neg hs]
 have hle:d.scale.toNat+1≤(yZ d).length:=by rw [hpl]; split <;> omega
 have hRl:((yZ d).drop ((yZ d).length-d.scale.toNat)).length=d.scale.toNat:=by rw [List.length_drop]; omega
 have hWl:((yZ d).take ((yZ d).length-d.scale.toNat)).length=(yZ d).length-d.scale.toNat:=by rw [List.length_take]; omega
 have hRne:(yZ d).drop ((yZ d).length-d.scale.toNat)≠[]:=by intro e; rw [e] at hRl; simp at hRl; omega
 have hWne:(yZ d).take ((yZ d).length-d.scale.toNat)≠[]:=by intro e; rw [e] at hWl; simp at hWl; omega
 have hb0:zT ((yZ d).take ((yZ d).length-d.scale.toNat)) 0=zT (yZ d) 0:=by
  unfold zT
  rw [List.getD_eq_getElem?_getD,List.getElem?_take,if_pos (by omega),← List.getD_eq_getElem?_getD]
 refine ⟨(yZ d).take ((yZ d).length-d.scale.toNat),(yZ d).drop ((yZ d).length-d.scale.toNat),by rw [if_neg hRne],zCC hpa _,zCD hpa _,hWne, ?_, ?_⟩
 ·rw [hb0]
  by_cases hb:zT (yZ d) 0=48
  ·rcases hp0 hb with e | e
   ·rw [e] at hle; simp at hle; omega
   left; rw [hWl,hpl,if_neg (by omega)]; omega
  exact .inr hb
 rw [hRl,List.take_append_drop]
 exact hn
def yW (t:List UInt8):List UInt8:=if t.head?=some 45∨t.head?=some 43 then t.drop 1 else t
def qBP (s:List UInt8):Option Int:=match s with
 | []=>some 0
 | b::t=>if b≠101∧b≠69 then none
  else if (yW t).dropWhile qF≠[]∨((yW t).takeWhile qF).length<1∨2<((yW t).takeWhile qF).length then none
  else some (if t.head?=some 45 then-(qBY ((yW t).takeWhile qF):Int) else qBY ((yW t).takeWhile qF))
def qMC (s:List UInt8):Bool:=decide (s.head?=some 45)
def vZ (s:List UInt8):List UInt8:=if s.head?=some 45 then s.drop 1 else s
def qAQ (r:List UInt8):Option (List UInt8 × List UInt8) :=
 if r.head?=some 46 then (if (r.drop 1).takeWhile qF=[] then none else some ((r.drop 1).takeWhile qF,(r.drop 1).dropWhile qF)) else some ([],r)
def qOH (neg:Bool) (W P:List UInt8):Option Int→Dc × Int
 | none=>vM
 | some up=>if W=[]∨(1<W.length∧W.head?=some 48) then vM else qAA neg (W++P) (P.length-up)
def jL (s:List UInt8):Dc × Int:=match qAQ ((vZ s).dropWhile qF) with
 | none=>vM
 | some (P,r)=>qOH (qMC s) ((vZ s).takeWhile qF) P (qBP r)
theorem zCW {W F:List UInt8} (hW:W.all qF=true) (hF:∀ b,F.head?=some b→qF b=false):(W++F).takeWhile qF=W∧(W++F).dropWhile qF=F:=by
 induction W with
 | nil =>
  cases F with
  | nil=>exact ⟨rfl,rfl⟩
  | cons b F=>have:=hF b rfl; simp [List.takeWhile_cons,List.dropWhile_cons,this]
 | cons b W ih =>
  simp only [List.all_cons,Bool.and_eq_true] at hW
  obtain ⟨h1,h2⟩:=ih hW.2
  simp [List.takeWhile_cons,List.dropWhile_cons,hW.1,h1,h2]
theorem qTX (ng : Bool) (W R : List UInt8) (hW : W.all qF = true) (hR : R.all qF = true) (h0 : W ≠ []) (h1 : W.length = 1 ∨ zT W 0 ≠ 48) :
  jL ((if ng=true then [45] else [])++(W++if R=[] then [] else 46::R))=xG ng (W++R) R.length:=by
 generalize hF:(if R=[] then [] else 46::R)=F
 generalize hs:((if ng=true then [45] else [])++(W++F))=s
 obtain ⟨w0,W',rfl⟩:∃ w0 W',W=w0::W':=by cases W with
  | nil=>exact absurd rfl h0
  | cons a W=>exact ⟨a,W,rfl⟩
 have hw0:qF w0=true:=by simp only [List.all_cons,Bool.and_eq_true] at hW; exact hW.1
 have hw1:w0≠45:=by rintro rfl; revert hw0; decide
 have hb:vZ s=(w0::W')++F∧qMC s=ng:=by
  rw [← hs]
  cases ng with
  | true=>simp [vZ,qMC]
  | false=>simp [vZ,qMC,hw1]
 have hFh:∀ b,F.head?=some b→qF b=false:=by
  rw [← hF]; split
  ·simp
  intro b hb; simp at hb; subst hb; decide
 obtain ⟨t1,t2⟩:=zCW hW hFh
 have hfr:qAQ F=some (R,[]):=by
  rw [← hF]
  split
  ·rename_i hR0; subst hR0; rfl
  rename_i hR0
  obtain ⟨t3,t4⟩:=zCW (W:=R) (F:=[]) hR (by simp)
  rw [List.append_nil] at t3 t4
  unfold qAQ
  simp only [List.head?_cons,if_true,List.drop_succ_cons,List.drop_zero,t3,t4]
  rw [if_neg hR0]
 unfold jL
 rw [hb.1,hb.2,t1,t2,hfr]
 simp only [qBP,qOH]
 rw [if_neg (by
  rintro (h | ⟨h,h'⟩)
  ·cases h
  rcases h1 with h1 | h1
  ·omega
  simp at h'; subst h'; exact h1 rfl)]
 unfold qAA
 rw [if_neg (by omega)]
 simp
theorem qRA {d:Dc} (h:yO d=true):jL (kU d)=(d,0):=by
 obtain ⟨W,R,hp,hW,hR,h0,h1,hn⟩:=qLW h
 rw [hp,qTX d.neg W R hW hR h0 h1,hn]
@[simp] def Val.cells (v:Val):List V:=[.p (.int .i64 v.kind),.p (.int .u64 v.mask),.p (.bool v.num.neg),.p (.str v.num.digits),.p (.int .i64 v.num.scale),.p (.str v.text),.p (.sl 1 (v.keys.map PD.str)),.p (.sl 9 (v.kids.map Val.enc)),.p (.int .i64 v.code)]
theorem qWH {s:List UInt8} (h:s.all qF=true):(yT s).all qF=true:=by
 rw [List.all_eq_true] at h ⊢
 exact fun b hb=>h b ((List.dropWhile_sublist _).subset hb)
theorem qTE {s:List UInt8} (h:yT s≠[]):zT (yT s) 0≠48:=by
 induction s with
 | nil=>exact (h rfl).elim
 | cons b s ih =>
  by_cases hb:b=48
  ·have e:yT (b::s)=yT s:=by simp [yT,hb]
   rw [e] at h ⊢; exact ih h
  have e:yT (b::s)=b::s:=by simp [yT,hb]
  rw [e]
  intro h2
  simp [zT] at h2
  exact hb (UInt8.toNat_inj.1 (by show b.toNat=48; omega))
theorem qKV:∀ (k:Nat) (d:List UInt8),(∃ r,d=(vI d k).1++r)∧((vI d k).2=0∨(vI d k).1.getLast?≠some 48)
 | 0,d=>⟨⟨[],by simp [vI]⟩,.inl rfl⟩
 | k+1,d=>by
  simp only [vI]
  split
  ·obtain ⟨⟨r,hr⟩,h2⟩:=qKV k d.dropLast
   refine ⟨⟨r++d.drop (d.length-1), ?_⟩,h2⟩
   have e:d.dropLast++d.drop (d.length-1)=d:=by rw [List.dropLast_eq_take,List.take_append_drop]
   rw [← List.append_assoc,← hr,e]
  rename_i h; exact ⟨⟨[],by simp⟩,.inr h⟩
theorem qQJ {neg:Bool} {digits:List UInt8} {scale:Nat} (hd:digits.all qF=true) (h:(xG neg digits scale).2=0):yO (xG neg digits scale).1=true:=by
 unfold xG at h ⊢
 simp only at h ⊢
 obtain ⟨⟨r,hr⟩,hl⟩:=qKV scale (yT digits)
 generalize vI (yT digits) scale=x at *
 split
 ·decide +kernel
 rename_i hne
 rw [if_neg hne] at h
 split
 ·rename_i hb; rw [if_pos hb] at h; simp at h
 rename_i hb
 have hpos:0<x.1.length:=List.length_pos_iff.2 hne
 have hall:x.1.all qF=true:=by
  have:=qWH hd
  rw [hr,List.all_append,Bool.and_eq_true] at this; exact this.1
 have hh:zT x.1 0≠48:=by
  have h1:=qTE (s:=digits) (by rw [hr]; simp [hne])
  rw [hr] at h1
  obtain ⟨c,d,hx⟩:∃ c d,x.1=c::d:=by
   cases hx:x.1 with
   | nil=>exact (hne hx).elim
   | cons c d=>exact ⟨c,d,rfl⟩
  rw [hx] at h1 ⊢
  simpa [zT] using h1
 rw [zBS (by simp only []; omega) hall]
 simp only
 rw [if_neg (by intro e; rw [e] at hh; exact hh rfl)]
 have hlast:x.2=0∨zT x.1 (x.1.length-1)≠48:=hl.imp id fun h h2=>h ((qJV hpos).1 h2)
 simp [hh]
 exact hlast
theorem qVZ (n:Nat):(yS n).all qF=true:=List.all_eq_true.2 fun b hb=>by rw [(List.mem_replicate.1 hb).2]; rfl
theorem zBG {neg:Bool} {digits:List UInt8} {sc:Int} (hd:digits.all qF=true) (h:(qAA neg digits sc).2=0):yO (qAA neg digits sc).1=true:=by
 unfold qAA at h ⊢
 split
 ·rename_i hs; rw [if_pos hs] at h; exact qQJ (by rw [List.all_append,hd,qVZ]; rfl) h
 rename_i hs; rw [if_neg hs] at h; exact qQJ hd h
theorem qYN (s:List UInt8) (k:Nat):((s.take (k+kE s k)).drop k).all qF=true:=by
 have e:(s.take (k+kE s k)).drop k=(s.drop k).takeWhile fun b=>qBA b.toNat:=by
  rw [List.drop_take,show k+kE s k-k=kE s k by omega]
  unfold kE
  have:∀ (l:List UInt8) (p:UInt8→Bool),l.take (l.takeWhile p).length=l.takeWhile p:=by
   intro l p
   induction l with
   | nil=>rfl
   | cons a l ih => rw [List.takeWhile_cons]; split
                    ·simp [ih]
                    rfl
  exact this _ _
 rw [e,List.all_eq_true]
 have:∀ (l:List UInt8) (p:UInt8→Bool) (b:UInt8),b∈l.takeWhile p→p b=true:=by
  intro l p b
  induction l with
  | nil=>intro h; simp at h
  | cons a l ih =>
   intro h
   rw [List.takeWhile_cons] at h
   split at h
   ·rename_i ha
    rcases List.mem_cons.1 h with rfl | h
    ·exact ha
    exact ih h
   simp at h
 exact fun b hb=>this _ _ b hb
theorem qOZ {s:List UInt8} {neg:Bool} {digits:List UInt8} {scale:Nat} (hd:digits.all qF=true):∀ o,(qEY s neg digits scale o).2=0→yO (qEY s neg digits scale o).1=true
 | none,h=>by simp [qEY,vM] at h
 | some (k,up),h=>by
  simp only [qEY] at h ⊢
  split
  ·rename_i hk; rw [if_pos hk] at h; exact zBG hd h
  rename_i hk; rw [if_neg hk] at h; simp [vM] at h
theorem qXV {s:List UInt8} (h:(qNQ s).2=0):yO (qNQ s).1=true:=by
 unfold qNQ at h ⊢
 split
 ·rename_i hb; rw [if_pos hb] at h; simp [vM] at h
 rename_i hb
 rw [if_neg hb] at h
 have hd:=qYN s (a0M s)
 revert h
 generalize (s.take (a0M s+kE s (a0M s))).drop (a0M s)=d0 at *
 generalize a0M s+kE s (a0M s)=k
 intro h
 unfold qTW at h ⊢
 split
 ·rename_i hp
  rw [if_pos hp] at h
  split
  ·rename_i hz; rw [if_pos hz] at h; simp [qOT,vM] at h
  rename_i hz
  rw [if_neg hz] at h
  exact qOZ (by rw [List.all_append,hd,qYN]; rfl) _ h
 rename_i hp
 rw [if_neg hp] at h
 exact qOZ hd _ h
theorem qFW (b:UInt8) (n:Nat) (hn:n<256):((b.toNat:Int)=(n:Int))↔b=UInt8.ofNat n:=by
 constructor
 ·intro e; exact UInt8.toNat_inj.1 (by rw [UInt8.toNat_ofNat']; omega)
 rintro rfl; rw [UInt8.toNat_ofNat']; omega
theorem qLM (s:List UInt8) (k:Nat):kE s k=((s.drop k).takeWhile qF).length:=rfl
theorem qIA (l:List UInt8):l=l.takeWhile qF++l.dropWhile qF:=(List.takeWhile_append_dropWhile).symm
theorem qYC (s:List UInt8) (k:Nat):∀ i,i≤kE s k→upM s k i=(qBY ((s.drop k).take i):Int)
 | 0,_=>by simp [upM,qBY]
 | i+1,h=>by
  have hd:=qWL (s:=s) (k:=k) (i:=i) (by omega)
  have hg:(s.drop k)[i]?=some (s.getD (k+i) 0):=by
   rw [List.getElem?_drop,List.getD_eq_getElem?_getD]
   have:k+i<s.length:=hd.1
   simp [List.getElem?_eq_getElem this]
  rw [upM,qYC s k i (by omega),List.take_add_one,hg]
  simp only [Option.toList_some,qBY,List.foldl_append,List.foldl_cons,List.foldl_nil]
  have hb:zT s (k+i)=((s.getD (k+i) 0).toNat:Int):=rfl
  omega
theorem qIV {s:List UInt8} {k:Nat} {b:UInt8} {t:List UInt8} (h:s.drop k=b::t):s.drop (k+1)=t:=by
 rw [← List.drop_drop,h]; rfl
theorem zAH {s:List UInt8} {k:Nat}:s.drop (uV s k)=yW (s.drop k)∧(k<s.length∧zT s k=45↔(s.drop k).head?=some 45):=by
 cases h:s.drop k with
 | nil =>
  have:¬ k<s.length:=by have:=List.drop_eq_nil_iff.1 h; omega
  refine ⟨?_,by simp; omega⟩
  unfold uV yW
  rw [if_neg (by omega),h]; simp
 | cons b t =>
  obtain ⟨h1,h2⟩:=qAS h
  have e45:zT s k=45↔b=45:=by rw [h2]; exact qFW b 45 (by decide)
  have e43:zT s k=43↔b=43:=by rw [h2]; exact qFW b 43 (by decide)
  refine ⟨?_,by simp [h1,e45]⟩
  unfold uV yW
  simp only [h1,e45,e43,true_and,List.head?_cons,Option.some.injEq,List.drop_succ_cons,List.drop_zero]
  split
  ·exact qIV h
  exact h
theorem qQW (s : List UInt8) (k : Nat) (hk : k ≤ s.length) (neg : Bool) (digits : List UInt8) (scale : Nat) :
  qEY s neg digits scale (qYQ s k)=match qBP (s.drop k) with
   | none=>vM
   | some up=>qAA neg digits (scale-up):=by
 cases h:s.drop k with
 | nil =>
  have:¬ k<s.length:=by have:=List.drop_eq_nil_iff.1 h; omega
  simp only [qYQ,qBP]
  rw [if_neg (by omega)]
  simp only [qEY]
  rw [if_pos (by omega)]
 | cons b t =>
  obtain ⟨h1,h2⟩:=qAS h
  have e1:zT s k=101↔b=101:=by rw [h2]; exact qFW b 101 (by decide)
  have e2:zT s k=69↔b=69:=by rw [h2]; exact qFW b 69 (by decide)
  simp only [qYQ,qBP,h1,true_and,e1,e2]
  by_cases hb:b=101∨b=69
  ·rw [if_pos hb,if_neg (show ¬ (b≠101∧b≠69) from fun h=>by rcases hb with hb | hb; exact h.1 hb; exact h.2 hb)]
   obtain ⟨sd,sh⟩:=zAH (s:=s) (k:=k+1)
   rw [qIV h] at sd sh
   have hrun:=qLM s (uV s (k+1))
   have hup:=qYC s (uV s (k+1)) _ (Nat.le_refl _)
   rw [sd] at hrun hup
   have hsp:=qIA (yW t)
   have hlen:(s.drop (uV s (k+1))).length=(yW t).length:=by rw [sd]
   rw [List.length_drop] at hlen
   have hl2:=congrArg List.length hsp
   rw [List.length_append,← hrun] at hl2
   generalize uV s (k+1)=sg at *
   have htk:(yW t).take (kE s sg)=(yW t).takeWhile qF:=by
    conv=>lhs; rw [hsp,hrun]
    exact List.take_left
   rw [htk] at hup
   rw [hup,← hrun]
   by_cases hD:kE s sg<1∨2<kE s sg
   ·rw [if_pos hD,if_pos (.inr hD)]
    rfl
   rw [if_neg hD]
   by_cases hE:(yW t).dropWhile qF=[]
   ·rw [if_neg (show ¬ ((yW t).dropWhile qF≠[]∨kE s sg<1∨2<kE s sg) from fun h=>h.elim (fun h=>h hE) hD)]
    rw [hE,List.length_nil] at hl2
    simp only [qEY]
    rw [if_pos (show sg+kE s sg=s.length by omega)]
    simp only [sh]
   rw [if_pos (show (yW t).dropWhile qF≠[]∨kE s sg<1∨2<kE s sg from .inl hE)]
   have:=List.length_pos_iff.2 hE
   simp only [qEY]
   rw [if_neg (show ¬ sg+kE s sg=s.length by omega)]
  rw [if_neg hb,if_pos (show b≠101∧b≠69 from by simp only [not_or] at hb; exact hb)]
  simp only [qEY]
  rw [if_neg (by omega)]
theorem zGW (s : List UInt8) (k : Nat) (hk : k ≤ s.length) (neg : Bool) (dg : List UInt8) :
  qOT s neg (qTW s k dg)=match qAQ (s.drop k) with
   | none=>vM
   | some (P,r)=>(match qBP r with
    | none=>vM
    | some up=>qAA neg (dg++P) (P.length-up)):=by
 cases h:s.drop k with
 | nil =>
  have:¬ k<s.length:=by have:=List.drop_eq_nil_iff.1 h; omega
  simp only [qTW,qAQ]
  rw [if_neg (by omega),if_neg (by simp)]
  simp only [qOT]
  rw [qQW s k hk,h]
  simp
 | cons b t =>
  obtain ⟨h1,h2⟩:=qAS h
  have e1:zT s k=46↔b=46:=by rw [h2]; exact qFW b 46 (by decide)
  simp only [qTW,qAQ,h1,true_and,e1,List.head?_cons,Option.some.injEq,List.drop_succ_cons,List.drop_zero]
  by_cases hb:b=46
  ·rw [if_pos hb,if_pos hb]
   have hd:=qIV h
   have hrun:=qLM s (k+1)
   rw [hd] at hrun
   have hsp:=qIA t
   have hin:=qYO s (k+1) (by omega)
   by_cases hP:t.takeWhile qF=[]
   ·rw [if_pos hP,if_pos (by rw [hrun,hP]; rfl)]
    rfl
   rw [if_neg hP,if_neg (by rw [hrun]; have:=List.length_pos_iff.2 hP; omega)]
   simp only [qOT]
   rw [qQW s _ hin]
   have hd2:s.drop (k+1+kE s (k+1))=t.dropWhile qF:=by
    rw [← List.drop_drop,hd,hrun]
    conv=>lhs; arg 2; rw [hsp]
    exact List.drop_left
   have ht2:(s.take (k+1+kE s (k+1))).drop (k+1)=t.takeWhile qF:=by
    rw [List.drop_take,hd,show k+1+kE s (k+1)-(k+1)=(t.takeWhile qF).length by omega]
    conv=>lhs; arg 2; rw [hsp]
    exact List.take_left
   rw [hd2,ht2,hrun]
  rw [if_neg hb,if_neg hb]
  simp only [qOT]
  rw [qQW s k hk,h]
  simp
theorem zDY (s:List UInt8):qNQ s=jL s:=by
 have hb:vZ s=s.drop (a0M s)∧qMC s=zEF s∧a0M s≤s.length:=by
  cases s with
  | nil=>exact ⟨rfl,rfl,by decide⟩
  | cons b t =>
   have:zEF (b::t)=decide (b=45):=by
    unfold zEF
    rw [show zT (b::t) 0=(b.toNat:Int) from rfl]
    rw [Bool.eq_iff_iff]
    simp
    exact qFW b 45 (by decide)
   refine ⟨?_,by unfold qMC; rw [this]; simp,by unfold a0M; split <;> simp⟩
   unfold vZ a0M
   rw [this]
   by_cases hb:b=45
   ·simp [hb]
   simp [hb]
 obtain ⟨h1,h2,h3⟩:=hb
 unfold qNQ jL
 rw [h1,h2]
 have hrun:=qLM s (a0M s)
 have hin:=qYO s (a0M s) h3
 have hsp:=qIA (s.drop (a0M s))
 have ht2:(s.take (a0M s+kE s (a0M s))).drop (a0M s)=(s.drop (a0M s)).takeWhile qF:=by
  rw [List.drop_take,show a0M s+kE s (a0M s)-a0M s=((s.drop (a0M s)).takeWhile qF).length by omega]
  conv=>lhs; arg 2; rw [hsp]
  exact List.take_left
 have hd2:s.drop (a0M s+kE s (a0M s))=(s.drop (a0M s)).dropWhile qF:=by
  rw [← List.drop_drop,hrun]
  conv=>lhs; arg 2; rw [hsp]
  exact List.drop_left
 rw [zGW s _ hin,ht2,hd2]
 generalize hW:(s.drop (a0M s)).takeWhile qF=W at *
 have hc:(kE s (a0M s)=0∨(1<kE s (a0M s)∧zT s (a0M s)=48))↔(W=[]∨(1<W.length∧W.head?=some 48)):=by
  rw [hrun]
  cases W with
  | nil=>simp
  | cons b W =>
   have e:s.drop (a0M s)=b::(W++(s.drop (a0M s)).dropWhile qF):=hsp
   obtain ⟨q1,q2⟩:=qAS e
   rw [q2]
   simp
   intro _
   exact qFW b 48 (by decide)
 by_cases hC:W=[]∨(1<W.length∧W.head?=some 48)
 ·rw [if_pos (hc.2 hC)]
  cases qAQ ((s.drop (a0M s)).dropWhile qF) with
  | none=>rfl
  | some q =>
   obtain ⟨P,r⟩:=q
   simp only
   cases qBP r with
   | none=>rfl
   | some up=>simp only [qOH]; rw [if_pos hC]
 rw [if_neg (fun h=>hC (hc.1 h))]
 cases qAQ ((s.drop (a0M s)).dropWhile qF) with
 | none=>rfl
 | some q =>
  obtain ⟨P,r⟩:=q
  simp only
  cases qBP r with
  | none=>rfl
  | some up=>simp only [qOH]; rw [if_neg hC]
def kD (b:UInt8):Bool:=decide (97≤b.toNat) && decide (b.toNat≤122)
def qIJ (b:UInt8):Bool:=kD b || qF b || decide (b=95)
def yR (b:UInt8):Bool:=decide (b=32) || decide (b=9) || decide (b=10) || decide (b=13)
def qQS:List UInt8:=[46,40,41,91,93,123,125,124,44,58,59,43,45,42,47,37,60,62]
def qFX (b:UInt8):Bool:=asF qQS b.toNat
def spn (p:UInt8→Bool) (s:List UInt8):Nat:=(s.takeWhile p).length
theorem jY (p:UInt8→Bool) (s:List UInt8):spn p s≤s.length:=(List.takeWhile_sublist _).length_le
theorem zDJ (p:UInt8→Bool) (s:List UInt8):s.take (spn p s)=s.takeWhile p:=by
 have h:=List.takeWhile_append_dropWhile (p:=p) (l:=s)
 revert h
 unfold spn
 generalize s.takeWhile p=a
 generalize s.dropWhile p=b
 intro h
 rw [← h,List.take_left]
theorem zCZ {cs:List UInt8} {p:UInt8→Bool} (h:∀ k:Fin 256,asF cs k.val=p (UInt8.ofNat k.val)) (s:List UInt8):((s.length:Int)-(uT (asF cs) s).length)=((spn p s:Nat):Int):=by
 have e:uT (asF cs) s=s.dropWhile p:=by
  unfold uT; congr 1; funext b
  have:=h ⟨b.toNat,b.toNat_lt⟩
  simpa using this
 have:=congrArg List.length (List.takeWhile_append_dropWhile (p:=p) (l:=s))
 rw [List.length_append] at this
 rw [e]; unfold spn; omega
theorem zID:∀ k:Fin 256,asF kN k.val=kD (UInt8.ofNat k.val):=by decide +kernel
theorem zCO:∀ k:Fin 256,asF xV k.val=qIJ (UInt8.ofNat k.val):=by decide +kernel
theorem zIT:∀ k:Fin 256,asF [48,49,50,51,52,53,54,55,56,57] k.val=qF (UInt8.ofNat k.val):=by decide +kernel
theorem zLE:∀ k:Fin 256,asF [32,9,10,13] k.val=yR (UInt8.ofNat k.val):=by decide +kernel
theorem zKE:∀ k:Fin 256,asF qQS k.val=qFX (UInt8.ofNat k.val):=by decide +kernel
theorem qYZ (b:UInt8):decide (b∈kN)=kD b:=by
 have:∀ k:Fin 256,decide (UInt8.ofNat k.val∈kN)=kD (UInt8.ofNat k.val):=by decide +kernel
 have:=this ⟨b.toNat,b.toNat_lt⟩
 simpa using this
def xS (s:List UInt8):List UInt8 × Bool:=if spn kD s=0 then ([],false) else (s.take (spn qIJ s),wJ (s.take (spn qIJ s)))
def vL (s:List UInt8) (n:Nat):Nat:=if qY (s.drop n) [46]=true∧0<spn qF (s.drop (n+1)) then n+(1+spn qF (s.drop (n+1))) else n
def qJR (s:List UInt8) (n:Nat):Nat :=
 let m:=if n+1<s.length∧(s.getD (n+1) 0=43∨s.getD (n+1) 0=45) then n+1+1 else n+1
 if 0<spn qF (s.drop m) then m+spn qF (s.drop m) else n
def qAV (s:List UInt8):Nat :=
 let n:=vL s (spn qF s)
 if n=s.length∨(s.getD n 0≠101∧s.getD n 0≠69) then n else qJR s n
def xA:List (List UInt8):=[[61,61],[33,61],[60,61],[62,61]]
def vJ (s:List UInt8):List UInt8:=match xA.find? (fun w=>qY s w) with
 | some w=>w
 | none=>s.take (min 1 (spn qFX s))
def wM (s:List UInt8):Int × Nat:=if s.getD 0 0=36 then (2,1) else if s.getD 0 0=46∧1<s.length∧(s.getD 1 0=34∨kD (s.getD 1 0)=true) then (3,1) else (0,0)
def uC (k:Int) (t:List UInt8):Tok:=⟨k,0,t,⟨false,[],0⟩⟩
def kI (s:List UInt8):Tok × Nat :=
 let k:=(wM s).1
 let d:=(wM s).2
 let r:=s.drop d
 if qY r [34]=true∧k≠2 then
  if (qO r).2.2≠0 then (uC k [],0) else (uC (if k=0 then 5 else k) (qO r).1,d+(qO r).2.1)
 else if k≠0∨0<spn kD r then
  if (xS r).2=false then (uC (if k=0 then 1 else k) [],0) else (uC (if k=0 then 1 else k) (xS r).1,d+(xS r).1.length)
 else if 0<spn qF r then
  if (jL (r.take (qAV r))).2≠0 then (uC 0 [],0) else (⟨4,0,[],(jL (r.take (qAV r))).1⟩,qAV r)
 else (uC 6 (vJ s),(vJ s).length)
def wS:Nat→Nat→List UInt8→Option (List Tok)
 | 0,_,_=>none
 | n+1,a,r =>
  let b:=spn yR r
  let q:=r.drop b
  if q=[] then some [] else
   let o:=kI q
   if o.2=0 then none else (wS n (a+b+o.2) (q.drop o.2)).map fun l=>{ o.1 with pos:=((a+b:Nat):Int) }::l
def qBJ (s:List UInt8):List Tok × Int :=
 if 2000<s.length then ([],3) else match wS (s.length+1) 0 s with
  | none=>([],30)
  | some l=>if 600<l.length then ([],3) else (l,0)
theorem qIM {s p:List UInt8} (h:qY s p=true):p.length≤s.length:=by
 unfold qY at h; simp only [Bool.and_eq_true,decide_eq_true_eq] at h; exact h.1
theorem qMX (s:List UInt8) {n:Nat} (h:n≤s.length):vL s n≤s.length:=by
 unfold vL
 split
 ·have:=jY qF (s.drop (n+1))
  rename_i c
  have h2:=qIM c.1
  simp only [List.length_drop,List.length_singleton] at this h2
  omega
 exact h
theorem zFD (s:List UInt8) {n:Nat} (h:n≤s.length):qJR s n≤s.length:=by
 unfold qJR
 simp only
 generalize (if n+1<s.length∧(s.getD (n+1) 0=43∨s.getD (n+1) 0=45) then n+1+1 else n+1)=m
 split
 ·rename_i c
  have:=jY qF (s.drop m)
  simp only [List.length_drop] at this
  omega
 exact h
theorem qKJ (s:List UInt8):qAV s≤s.length:=by
 have h1:=qMX s (jY qF s)
 unfold qAV
 simp only
 split
 ·exact h1
 exact zFD s h1
theorem zDK (s:List UInt8):(vJ s).length≤s.length:=by
 unfold vJ
 split
 ·rename_i w h
  exact qIM (List.find?_some h)
 simp; omega
theorem qGZ {s:List UInt8} (h:s≠[]):(wM s).2≤s.length:=by
 have:=List.length_pos_iff.2 h
 unfold wM
 split
 ·simp; omega
 split <;> simp; omega
theorem qSM (s:List UInt8):(xS s).1.length≤s.length:=by
 unfold xS
 split
 ·simp
 simp; omega
end Go.Proofs.YtbhhphabggcacaaGreatDoor
namespace Go.Proofs
open Go.Shelf
def Tryz.lays197_ren:Go.Shelf.Ren:=⟨fun | 197=>62 | 260=>85 | n=>n,fun | 9=>9 | 21=>21 | 3=>3 | 4=>4 | 5=>5 | 105=>103 | 119=>142 | 0=>0 | 46=>94 | 139=>145 | 138=>144 | n=>n,fun | 3=>1 | 4=>2 | n=>n⟩
theorem Tryz.lays197:Go.Proofs.Lays.n197 Tryz.prog Tryz.lays197_ren:={
 mixed:=by kernel_rfl
 f197:=Tryz.func62.trans (congrArg some (by kernel_rfl))
 f260:=Tryz.func85.trans (congrArg some (by kernel_rfl))
 t0:=Tryz.underlying0
 a0:=Tryz.isAgg0
 z0:=Tryz.sizeOf0
 v0:=Tryz.zeroValue0
 t3:=Tryz.underlying3
 a3:=Tryz.isAgg3
 z3:=Tryz.sizeOf3
 v3:=Tryz.zeroValue3
 t4:=Tryz.underlying4
 a4:=Tryz.isAgg4
 z4:=Tryz.sizeOf4
 v4:=Tryz.zeroValue4
 t5:=Tryz.underlying5
 a5:=Tryz.isAgg5
 z5:=Tryz.sizeOf5
 v5:=Tryz.zeroValue5
 t9:=Tryz.underlying9
 a9:=Tryz.isAgg9
 z9:=Tryz.sizeOf9
 v9:=Tryz.zeroValue9
 t21:=Tryz.underlying21
 a21:=Tryz.isAgg21
 z21:=Tryz.sizeOf21
 v21:=Tryz.zeroValue21
 t46:=Tryz.underlying94
 a46:=Tryz.isAgg94
 z46:=Tryz.sizeOf94
 v46:=Tryz.zeroValue94
 t105:=Tryz.underlying103
 a105:=Tryz.isAgg103
 z105:=Tryz.sizeOf103
 v105:=Tryz.zeroValue103
 t119:=Tryz.underlying142
 a119:=Tryz.isAgg142
 z119:=Tryz.sizeOf142
 t138:=Tryz.underlying144
 a138:=Tryz.isAgg144
 z138:=Tryz.sizeOf144
 v138:=Tryz.zeroValue144
 t139:=Tryz.underlying145
 a139:=Tryz.isAgg145
 z139:=Tryz.sizeOf145
 v139:=Tryz.zeroValue145
 g3:=by kernel_rfl
 g4:=by kernel_rfl }
def Tryz.lays105_ren:Go.Shelf.Ren:=⟨fun | 105=>69 | 212=>91 | 99=>32 | 165=>49 | 166=>50 | 170=>63 | 169=>51 | 263=>113 | 264=>114 | 206=>61 | 240=>77 | 241=>78 | 276=>98 | 277=>99 | n=>n,fun | 9=>9 | 3=>3 | 4=>4 | 20=>20 | 0=>0 | 46=>94 | 109=>127 | 5=>5 | 72=>85 | 76=>89 | 51=>133 | 146=>147 | 53=>136 | 148=>149 | 70=>82 | 37=>83 | 75=>88 | 127=>117 | 164=>130 | 80=>91 | n=>n,fun | n=>n⟩
theorem Tryz.lays105:Go.Proofs.Lays.n105 Tryz.prog Tryz.lays105_ren:={
 mixed:=by kernel_rfl
 f99:=Tryz.func32.trans (congrArg some (by kernel_rfl))
 f105:=Tryz.func69.trans (congrArg some (by kernel_rfl))
 f165:=Tryz.func49.trans (congrArg some (by kernel_rfl))
 f166:=Tryz.func50.trans (congrArg some (by kernel_rfl))
 f169:=Tryz.func51.trans (congrArg some (by kernel_rfl))
 f170:=Tryz.func63.trans (congrArg some (by kernel_rfl))
 f206:=Tryz.func61.trans (congrArg some (by kernel_rfl))
 f212:=Tryz.func91.trans (congrArg some (by kernel_rfl))
 f240:=Tryz.func77.trans (congrArg some (by kernel_rfl))
 f241:=Tryz.func78.trans (congrArg some (by kernel_rfl))
 f263:=Tryz.func113.trans (congrArg some (by kernel_rfl))
 f264:=Tryz.func114.trans (congrArg some (by kernel_rfl))
 f276:=Tryz.func98.trans (congrArg some (by kernel_rfl))
 f277:=Tryz.func99.trans (congrArg some (by kernel_rfl))
 t0:=Tryz.underlying0
 a0:=Tryz.isAgg0
 z0:=Tryz.sizeOf0
 v0:=Tryz.zeroValue0
 t3:=Tryz.underlying3
 a3:=Tryz.isAgg3
 z3:=Tryz.sizeOf3
 v3:=Tryz.zeroValue3
 t4:=Tryz.underlying4
 a4:=Tryz.isAgg4
 z4:=Tryz.sizeOf4
 v4:=Tryz.zeroValue4
 t5:=Tryz.underlying5
 a5:=Tryz.isAgg5
 z5:=Tryz.sizeOf5
 v5:=Tryz.zeroValue5
 t9:=Tryz.underlying9
 a9:=Tryz.isAgg9
 z9:=Tryz.sizeOf9
 v9:=Tryz.zeroValue9
 t20:=Tryz.underlying20
 a20:=Tryz.isAgg20
 z20:=Tryz.sizeOf20
 v20:=Tryz.zeroValue20
 t37:=Tryz.underlying83
 a37:=Tryz.isAgg83
 z37:=Tryz.sizeOf83
 v37:=Tryz.zeroValue83
 t46:=Tryz.underlying94
 a46:=Tryz.isAgg94
 z46:=Tryz.sizeOf94
 v46:=Tryz.zeroValue94
 t51:=Tryz.underlying133
 a51:=Tryz.isAgg133
 z51:=Tryz.sizeOf133
 v51:=Tryz.zeroValue133
 t53:=Tryz.underlying136
 a53:=Tryz.isAgg136
 z53:=Tryz.sizeOf136
 v53:=Tryz.zeroValue136
 t70:=Tryz.underlying82
 a70:=Tryz.isAgg82
 z70:=Tryz.sizeOf82
 v70:=Tryz.zeroValue82
 t72:=Tryz.underlying85
 a72:=Tryz.isAgg85
 z72:=Tryz.sizeOf85
 v72:=Tryz.zeroValue85
 t75:=Tryz.underlying88
 a75:=Tryz.isAgg88
 z75:=Tryz.sizeOf88
 v75:=Tryz.zeroValue88
 t76:=Tryz.underlying89
 a76:=Tryz.isAgg89
 z76:=Tryz.sizeOf89
 v76:=Tryz.zeroValue89
 t109:=Tryz.underlying127
 a109:=Tryz.isAgg127
 z109:=Tryz.sizeOf127
 v109:=Tryz.zeroValue127
 t127:=Tryz.underlying117
 a127:=Tryz.isAgg117
 z127:=Tryz.sizeOf117
 v127:=Tryz.zeroValue117
 t146:=Tryz.underlying147
 a146:=Tryz.isAgg147
 z146:=Tryz.sizeOf147
 v146:=Tryz.zeroValue147
 t148:=Tryz.underlying149
 a148:=Tryz.isAgg149
 z148:=Tryz.sizeOf149
 v148:=Tryz.zeroValue149
 t164:=Tryz.underlying130
 a164:=Tryz.isAgg130
 z164:=Tryz.sizeOf130
 v164:=Tryz.zeroValue130 }
def Tryz.lays169_ren:Go.Shelf.Ren:=⟨fun | 169=>51 | n=>n,fun | 70=>82 | 9=>9 | 0=>0 | 72=>85 | 37=>83 | 127=>117 | 3=>3 | 5=>5 | n=>n,fun | n=>n⟩
theorem Tryz.lays169:Go.Proofs.Lays.n169 Tryz.prog Tryz.lays169_ren:={
 mixed:=by kernel_rfl
 f169:=Tryz.func51.trans (congrArg some (by kernel_rfl))
 t0:=Tryz.underlying0
 a0:=Tryz.isAgg0
 z0:=Tryz.sizeOf0
 v0:=Tryz.zeroValue0
 t3:=Tryz.underlying3
 a3:=Tryz.isAgg3
 z3:=Tryz.sizeOf3
 v3:=Tryz.zeroValue3
 t9:=Tryz.underlying9
 a9:=Tryz.isAgg9
 z9:=Tryz.sizeOf9
 v9:=Tryz.zeroValue9
 t37:=Tryz.underlying83
 a37:=Tryz.isAgg83
 z37:=Tryz.sizeOf83
 v37:=Tryz.zeroValue83
 t70:=Tryz.underlying82
 a70:=Tryz.isAgg82
 z70:=Tryz.sizeOf82
 v70:=Tryz.zeroValue82
 t72:=Tryz.underlying85
 a72:=Tryz.isAgg85
 z72:=Tryz.sizeOf85
 v72:=Tryz.zeroValue85
 t127:=Tryz.underlying117
 a127:=Tryz.isAgg117
 z127:=Tryz.sizeOf117
 v127:=Tryz.zeroValue117 }
def Tryz.lays156_ren:Go.Shelf.Ren:=⟨fun | 156=>24 | 165=>49 | 166=>50 | 169=>51 | 240=>77 | 241=>78 | 276=>98 | 277=>99 | n=>n,fun | 31=>34 | 9=>9 | 3=>3 | 4=>4 | 0=>0 | 20=>20 | 72=>85 | 76=>89 | 70=>82 | 37=>83 | 75=>88 | 127=>117 | 164=>130 | 5=>5 | 80=>91 | n=>n,fun | n=>n⟩
theorem Tryz.lays156:Go.Proofs.Lays.n156 Tryz.prog Tryz.lays156_ren:={
 mixed:=by kernel_rfl
 f156:=Tryz.func24.trans (congrArg some (by kernel_rfl))
 f165:=Tryz.func49.trans (congrArg some (by kernel_rfl))
 f166:=Tryz.func50.trans (congrArg some (by kernel_rfl))
 f169:=Tryz.func51.trans (congrArg some (by kernel_rfl))
 f240:=Tryz.func77.trans (congrArg some (by kernel_rfl))
 f241:=Tryz.func78.trans (congrArg some (by kernel_rfl))
 f276:=Tryz.func98.trans (congrArg some (by kernel_rfl))
 f277:=Tryz.func99.trans (congrArg some (by kernel_rfl))
 t0:=Tryz.underlying0
 a0:=Tryz.isAgg0
 z0:=Tryz.sizeOf0
 v0:=Tryz.zeroValue0
 t3:=Tryz.underlying3
 a3:=Tryz.isAgg3
 z3:=Tryz.sizeOf3
 v3:=Tryz.zeroValue3
 t4:=Tryz.underlying4
 a4:=Tryz.isAgg4
 z4:=Tryz.sizeOf4
 v4:=Tryz.zeroValue4
 t9:=Tryz.underlying9
 a9:=Tryz.isAgg9
 z9:=Tryz.sizeOf9
 v9:=Tryz.zeroValue9
 t20:=Tryz.underlying20
 a20:=Tryz.isAgg20
 z20:=Tryz.sizeOf20
 v20:=Tryz.zeroValue20
 t31:=Tryz.underlying34
 a31:=Tryz.isAgg34
 z31:=Tryz.sizeOf34
 v31:=Tryz.zeroValue34
 t37:=Tryz.underlying83
 a37:=Tryz.isAgg83
 z37:=Tryz.sizeOf83
 v37:=Tryz.zeroValue83
 t70:=Tryz.underlying82
 a70:=Tryz.isAgg82
 z70:=Tryz.sizeOf82
 v70:=Tryz.zeroValue82
 t72:=Tryz.underlying85
 a72:=Tryz.isAgg85
 z72:=Tryz.sizeOf85
 v72:=Tryz.zeroValue85
 t75:=Tryz.underlying88
 a75:=Tryz.isAgg88
 z75:=Tryz.sizeOf88
 v75:=Tryz.zeroValue88
 t76:=Tryz.underlying89
 a76:=Tryz.isAgg89
 z76:=Tryz.sizeOf89
 v76:=Tryz.zeroValue89
 t127:=Tryz.underlying117
 a127:=Tryz.isAgg117
 z127:=Tryz.sizeOf117
 v127:=Tryz.zeroValue117
 t164:=Tryz.underlying130
 a164:=Tryz.isAgg130
 z164:=Tryz.sizeOf130
 v164:=Tryz.zeroValue130 }
end Go.Proofs
namespace Go.Proofs.YtbhhphabggcacaaGreatDoor
open Sy Go
set_option maxRecDepth 100000
set_option linter.unusedSimpArgs false
set_option linter.unusedVariables false
variable {G:qS}
def zFV (u:Bool):V:=if u then .ptr 2 0 else .p .nilp
def qDA (u:Bool) (bs:List UInt8):List (Nat × Box):=[(2,.vars 85 [zFV u,.ms 3]),(3,.row 5 1 (qI bs))]
theorem qVS:(Tryz.prog.info? 85).map (·.size)=some 2:=by kernel_rfl
theorem zFU:liesAt Tryz.prog Tryz.prog.depth 85 (2 / Tryz.prog.cellsOf 85) 0 85 1=true:=by kernel_rfl
section
set_option maxHeartbeats 1000000 in
theorem zIX (b : Nat) (w : World) (h0 : w.cell? ⟨b, 0, none⟩ = some (.pointer (some ⟨b, 0, none⟩))) :
  Calls Tryz.prog 77 #[.pointer (some ⟨b,0,none⟩)] w fun e w'=>e = .returned (.tuple #[])∧w'=w:=by
 obtain ⟨j,hj,_⟩:=Option.map_eq_some_iff.1 qVS
 go_enter Tryz.func77,Tryz.ntmps77
 go_wp2
 rw [Lib.run_neq_ptr_same w _ Tryz.underlying82 hj]
 go_wp2
 go_end0
 exact ⟨rfl,rfl⟩
set_option maxHeartbeats 1000000 in
theorem zFO (b : Nat) (w : World) (h0 : w.cell? ⟨b, 0, none⟩ = some (.pointer none)) (hsh : w.shape? b = some (85, 2)) (hfz : w.frozen? ⟨b, 0, none⟩ = false) :
  Calls Tryz.prog 77 #[.pointer (some ⟨b,0,none⟩)] w fun e w'=>e = .returned (.tuple #[])∧w'=w.setCell ⟨b,0,none⟩ (.pointer (some ⟨b,0,none⟩)):=by
 obtain ⟨j,hj,hjs⟩:=Option.map_eq_some_iff.1 qVS
 go_enter Tryz.func77,Tryz.ntmps77
 go_wp2
 rw [Lib.run_to_unsafe w ⟨b,0,none⟩ Tryz.underlying82 Tryz.underlying130 hj (by rw [hjs]; decide) hsh (Nat.zero_lt_succ 1)]
 simp only [Result.andThen]
 rw [Oper.upon_value]
 go_wp2
 rw [run_callFunc_extern Tryz.func98 (by kernel_rfl) (by kernel_rfl) (by kernel_rfl) (e:=Extern.AbiNoEscape.same) (by kernel_rfl)]
 rw [Lib.run_noEscape]
 simp only [Result.andThen]
 rw [Oper.upon_value]
 go_wp2
 rw [Lib.run_from_unsafe w ⟨b,0,none⟩ Tryz.underlying130 Tryz.underlying82 hj hsh zFU]
 simp only [Result.andThen]
 rw [Oper.upon_value]
 go_wp2
 go_end0
 exact ⟨rfl,rfl⟩
end
theorem qHG (u:Bool) (bs:List UInt8):AX Tryz.prog G 77 [.ptr 2 0] (qDA u bs) (.tuple []) [2,3] (qDA true bs):=by
 refine ⟨jR Tryz.func77 (by kernel_rfl) rfl,fun M μ w vs hg rel => ?_⟩
 obtain ⟨l⟩:=vs
 have hsz:l.length=1:=by simpa using rel.slots.1
 match l,hsz with
 | [v],_ =>
 have hv:=rel.slots.2 0 v (.ptr 2 0) rfl rfl
 cases hv with
 | @ptr _ _ b hb =>
 have hbx:=rel.box 2 (.vars 85 [zFV u,.ms 3]) (by simp [qDA])
 cases hbx with
 | @vars _ _ b' arr h0 hh hs ho hc =>
 rw [hb] at h0; cases h0
 obtain ⟨x,y,rfl⟩:∃ x y,arr = #[x,y]:=by
  obtain ⟨l⟩:=arr
  match l,hs with
  | [x,y],_=>exact ⟨x,y,rfl⟩
 have hx:=hc 0 x (zFV u) rfl rfl
 have hy:=hc 1 y (.ms 3) rfl rfl
 have hfin : ∀ w', Rel ⟨w.heap.size, w, M, μ, yV μ (qDA u bs)⟩ M μ ⟨[.ptr 2 0], (qDA u bs).map (·.1), qDA true bs, 0⟩ #[.pointer (some ⟨b, 0, none⟩)] w' →
   ∃ v M' μ',(Ending.returned (.tuple #[]):Ending) = .returned v∧Rel ⟨w.heap.size,w,M,μ,yV μ (qDA u bs)⟩ M' μ' ⟨[.tuple []],[2,3],qDA true bs,0⟩ #[v] w':=by
  intro w' r
  refine ⟨_,M,μ,rfl,{ r with slots:=⟨rfl,fun i u x hu hx => ?_⟩,pins:=fun _ _=>rfl }⟩
  cases i with
  | zero=>simp at hu hx; subst hu; subst hx; exact .tuple rfl fun i u x hu=>by simp at hu
  | succ i=>simp at hx
 cases u with
 | true =>
  obtain rfl:x = .pointer (some ⟨b,0,none⟩):=by
   cases hx with
   | ptr h=>rw [hb] at h; cases h; rfl
  refine (zIX b w (by rw [yI hh]; rfl)).mono ?_
  rintro e w' ⟨rfl,rfl⟩
  exact hfin _ rel
 | false =>
  obtain rfl:x = .pointer none:=by
   cases hx with
   | p h=>cases h; rfl
  refine (zFO b w (by rw [yI hh]; rfl) (by simp [World.shape?,hh]) (by simp [World.frozen?,hh])).mono ?_
  rintro e w' ⟨rfl,rfl⟩
  refine hfin _ ?_
  have ht:Turned w (w.setCell ⟨b,0,none⟩ (.pointer (some ⟨b,0,none⟩))) b :=
   ⟨rfl,rfl,rfl,by simp [World.setCell],fun k hk=>RowKit.Below.heap_setCell w ⟨b,0,none⟩ _ k hk⟩
  have:=rel.write (id:=2) (bx := .vars 85 [zFV true,.ms 3]) (by simp [qM,qDA]) hb ht (.vars (arr := #[.pointer (some ⟨b,0,none⟩),y]) hb (by simp only [World.setCell,Array.getElem?_modify,if_pos,hh]; simp) rfl (fun i u hu => ?_) (fun i u x hu hx => ?_))
  ·simpa [qDA,yE] using this
  ·match i,hu with
   | 0,hu=>simp at hu; subst hu; rfl
   | 1,hu=>exact ho 1 u (by simpa using hu)
   | i+2,hu=>simp at hu
  match i,hu,hx with
  | 0,hu,hx=>simp at hu hx; subst hu; subst hx; exact .ptr hb
  | 1,hu,hx=>simp at hu hx; subst hu; subst hx; exact hy
  | i+2,hu,hx=>simp at hu
theorem qXI (bs:List UInt8):AX Tryz.prog G 77 [.ptr 2 0] [(2,.vars 85 [.p .nilp,.ms 3]),(3,.row 5 1 (qI bs))] (.tuple []) [2,3] [(2,.vars 85 [.ptr 2 0,.ms 3]),(3,.row 5 1 (qI bs))]:=qHG false bs
theorem zFP (bs:List UInt8):AX Tryz.prog G 77 [.ptr 2 0] [(2,.vars 85 [.ptr 2 0,.ms 3]),(3,.row 5 1 (qI bs))] (.tuple []) [2,3] [(2,.vars 85 [.ptr 2 0,.ms 3]),(3,.row 5 1 (qI bs))]:=qHG true bs
open Go.Shelf Go.RowKit
section
variable {P:Program} {ρ:Ren}
abbrev qOL (g:Nat) (w w':World):Prop:=Kept (fun k=>k=g∨w.heap.size≤k) w w'
theorem qIG (g:Nat) (w:World):qOL g w w.drew:=⟨rfl,rfl,rfl,Nat.le_refl _,fun _ _=>rfl⟩
theorem qUI (g:Nat) (w:World) (n:Nat):qOL g w (w.drew.freeze ⟨g,0,none⟩ n):=by
 unfold World.freeze
 split
 ·exact qIG g w
 exact ⟨rfl,rfl,rfl,by simp only [Array.size_modify]; exact Nat.le_refl _,fun k hk=>by
  simp only [Array.getElem?_modify]
  rw [if_neg (by omega)]; rfl⟩
theorem qME (g:Nat) (w:World) (o:Obj):qOL g w (w.alloc o).drew:=⟨rfl,rfl,rfl,by show w.heap.size≤(w.heap.push o).size; simp,fun k hk=>by
 show (w.heap.push o)[k]?=_
 rw [Array.getElem?_push,if_neg (by omega)]⟩
theorem qUJ (g:Nat) (w:World) (o:Obj):qOL g w (w.drew.alloc o):=qME g w o
set_option maxHeartbeats 1000000 in
theorem zJD (L : Lays.n169 P ρ) (X : Builder.Extra P ρ) (b g cap : Nat) (p : Value) (cur : Array Value) (l : List UInt8) (w : World) (hbk : w.heap[b]? = some (.cells #[p, .slice (some ⟨g, 0, none⟩) l.length cap] (ρ.t 72) (0, 0)))
  (hg:w.heap[g]?=some (.cells cur (ρ.t 5) (0,0))) (hnc:l.length≤cap) (hcm:cap≤maxLen) (hcs:cur.size=cap) (hcells:∀ (j:Nat) (x:UInt8),l[j]?=some x→cur[j]?=some (Value.int .u8 x.toNat)) (h0:l≠[]) :
  Calls P (ρ.f 169) #[.pointer (some ⟨b,0,none⟩)] w fun e w'=>e = .returned (.string ⟨l.toArray⟩)∧qOL g w w':=by
 have hl0:l.length≠0:=by simpa using h0
 have c1:w.drew.cell? ⟨b,1,none⟩=some (.slice (some ⟨g,0,none⟩) l.length cap):=by
  have:w.drew.heap[b]?=some (.cells #[p,.slice (some ⟨g,0,none⟩) l.length cap] (ρ.t 72) (0,0)):=hbk
  rw [Lib.cell_of_heap this]; rfl
 have hSD:(Builtin.unsafeSliceData_ #[(ρ.t 37)] (ρ.t 127) #[.slice (some ⟨g,0,none⟩) l.length cap]).run P w.drew = .ok (.pointer (some ⟨g,0,none⟩)) w.drew :=
  Lib.run_unsafeSliceData_row _ _ _ _ _ _ (by omega)
 have hUS:(Builtin.unsafeString_ #[(ρ.t 127),(ρ.t 3)] (ρ.t 9) #[.pointer (some ⟨g,0,none⟩),.int .i64 l.length]).run P w.drew = .ok (.string ⟨l.toArray⟩) (w.drew.freeze ⟨g,0,none⟩ l.length):=by
  refine Lib.run_unsafeString_row w.drew (ρ.t 127) (ρ.t 3) (ρ.t 9) (ρ.t 5) L.t127 X.cellsByte g cur.size (by have hg':w.drew.heap[g]?=some (.cells cur (ρ.t 5) (0,0)):=hg; simp [World.shape?,hg']) l h0 (by omega) (by unfold maxLen at hcm; omega) ?_
  intro j x hx
  have hg':w.drew.heap[g]?=some (.cells cur (ρ.t 5) (0,0)):=hg
  rw [uF,Nat.zero_add,Lib.cell_of_heap hg']
  exact hcells j x hx
 have mixed:=L.mixed
 have t72:=L.t72; have a72:=L.a72; have z72:=L.z72; have v72:=L.v72; have u72:=run_underlying L.t72
 have t70:=L.t70; have a70:=L.a70; have z70:=L.z70; have v70:=L.v70; have u70:=run_underlying L.t70
 have t37:=L.t37; have a37:=L.a37; have z37:=L.z37; have v37:=L.v37; have u37:=run_underlying L.t37
 have t127:=L.t127; have a127:=L.a127; have z127:=L.z127; have v127:=L.v127; have u127:=run_underlying L.t127
 have t3:=L.t3; have a3:=L.a3; have z3:=L.z3; have v3:=L.v3; have u3:=run_underlying L.t3
 have t9:=L.t9; have a9:=L.a9; have z9:=L.z9; have v9:=L.v9; have u9:=run_underlying L.t9
 have t5:=X.t5; have a5:=X.a5; have z5:=X.z5; have v5:=X.v5; have u5:=run_underlying X.t5
 go_enter L.f169,Body.n169_ntmps ρ
 go_wp2
 go_region_o
 all_goals (go_wp2; go_ret; exact ⟨rfl,qUI g w _⟩)
set_option maxHeartbeats 2000000 in
theorem zJE (L : Lays.n169 P ρ) (X : Builder.Extra P ρ) (b : Nat) (p : Value) (w : World) (hbk : w.heap[b]? = some (.cells #[p, .slice none 0 0] (ρ.t 72) (0, 0))) :
  Calls P (ρ.f 169) #[.pointer (some ⟨b,0,none⟩)] w fun e w'=>e = .returned (.string ⟨#[]⟩)∧qOL w.heap.size w w':=by
 have hUS:=Any.unsafeString_none L X
 have c1:w.drew.cell? ⟨b,1,none⟩=some (.slice none 0 0):=by
  have:w.drew.heap[b]?=some (.cells #[p,.slice none 0 0] (ρ.t 72) (0,0)):=hbk
  rw [Lib.cell_of_heap this]; rfl
 have hSD:(Builtin.unsafeSliceData_ #[(ρ.t 37)] (ρ.t 127) #[.slice none 0 0]).run P w.drew = .ok (.pointer none) w.drew:=rfl
 have mixed:=L.mixed
 have t72:=L.t72; have a72:=L.a72; have z72:=L.z72; have v72:=L.v72; have u72:=run_underlying L.t72
 have t70:=L.t70; have a70:=L.a70; have z70:=L.z70; have v70:=L.v70; have u70:=run_underlying L.t70
 have t37:=L.t37; have a37:=L.a37; have z37:=L.z37; have v37:=L.v37; have u37:=run_underlying L.t37
 have t127:=L.t127; have a127:=L.a127; have z127:=L.z127; have v127:=L.v127; have u127:=run_underlying L.t127
 have t3:=L.t3; have a3:=L.a3; have z3:=L.z3; have v3:=L.v3; have u3:=run_underlying L.t3
 have t9:=L.t9; have a9:=L.a9; have z9:=L.z9; have v9:=L.v9; have u9:=run_underlying L.t9
 have t5:=X.t5; have a5:=X.a5; have z5:=X.z5; have v5:=X.v5; have u5:=run_underlying X.t5
 go_enter L.f169,Body.n169_ntmps ρ
 go_wp2
 go_region_o
 all_goals (go_wp2; go_ret; exact ⟨rfl,qIG _ w⟩)
set_option maxHeartbeats 2000000 in
theorem zFT (L : Lays.n169 P ρ) (X : Builder.Extra P ρ) (b g : Nat) (p : Value) (cur : Array Value) (w : World) (hlt : b < w.heap.size) (hbk : w.heap[b]? = some (.cells #[p, .slice (some ⟨g, 0, none⟩) 0 0] (ρ.t 72) (0, 0))) (hg : w.heap[g]? = some (.cells cur (ρ.t 5) (0, 0))) :
  Calls P (ρ.f 169) #[.pointer (some ⟨b,0,none⟩)] w fun e w'=>e = .returned (.string ⟨#[]⟩)∧qOL g w w':=by
 have hUS:=Any.unsafeString_none L X
 have c1:w.drew.cell? ⟨b,1,none⟩=some (.slice (some ⟨g,0,none⟩) 0 0):=by
  have:w.drew.heap[b]?=some (.cells #[p,.slice (some ⟨g,0,none⟩) 0 0] (ρ.t 72) (0,0)):=hbk
  rw [Lib.cell_of_heap this]; rfl
 have hSD:(Builtin.unsafeSliceData_ #[(ρ.t 37)] (ρ.t 127) #[.slice (some ⟨g,0,none⟩) 0 0]).run P w.drew = .ok (.pointer (some ⟨w.drew.heap.size,0,none⟩)) (w.drew.alloc (.view ⟨g,0,none⟩ (ρ.t 5))) :=
  Lib.run_unsafeSliceData_zero w.drew _ _ (ρ.t 5) L.t127 ⟨g,0,none⟩ 0 ((ρ.t 5),cur.size) (by have hg':w.drew.heap[g]?=some (.cells cur (ρ.t 5) (0,0)):=hg; simp [World.shape?,hg'])
 have c2:(w.drew.alloc (.view ⟨g,0,none⟩ (ρ.t 5))).cell? ⟨b,1,none⟩=some (.slice (some ⟨g,0,none⟩) 0 0):=by
  have:(w.drew.alloc (.view ⟨g,0,none⟩ (ρ.t 5))).heap[b]?=_:=(Lib.alloc_old w.drew _ b hlt).trans hbk
  rw [Lib.cell_of_heap this]; rfl
 have c3:(w.alloc (.view ⟨g,0,none⟩ (ρ.t 5))).drew.cell? ⟨b,1,none⟩=some (.slice (some ⟨g,0,none⟩) 0 0):=c2
 have c0:w.cell? ⟨b,1,none⟩=some (.slice (some ⟨g,0,none⟩) 0 0):=c1
 have mixed:=L.mixed
 have t72:=L.t72; have a72:=L.a72; have z72:=L.z72; have v72:=L.v72; have u72:=run_underlying L.t72
 have t70:=L.t70; have a70:=L.a70; have z70:=L.z70; have v70:=L.v70; have u70:=run_underlying L.t70
 have t37:=L.t37; have a37:=L.a37; have z37:=L.z37; have v37:=L.v37; have u37:=run_underlying L.t37
 have t127:=L.t127; have a127:=L.a127; have z127:=L.z127; have v127:=L.v127; have u127:=run_underlying L.t127
 have t3:=L.t3; have a3:=L.a3; have z3:=L.z3; have v3:=L.v3; have u3:=run_underlying L.t3
 have t9:=L.t9; have a9:=L.a9; have z9:=L.z9; have v9:=L.v9; have u9:=run_underlying L.t9
 have t5:=X.t5; have a5:=X.a5; have z5:=X.z5; have v5:=X.v5; have u5:=run_underlying X.t5
 go_enter L.f169,Body.n169_ntmps ρ
 go_wp2
 go_region_o
 all_goals (go_wp2; go_ret; first | exact ⟨rfl,qME g w _⟩ | exact ⟨rfl,qUJ g w _⟩)
set_option maxHeartbeats 2000000 in
theorem zFS (L : Lays.n169 P ρ) (X : Builder.Extra P ρ) (b g cap : Nat) (p : Value) (w : World) (hc0 : cap ≠ 0) (hbk : w.heap[b]? = some (.cells #[p, .slice (some ⟨g, 0, none⟩) 0 cap] (ρ.t 72) (0, 0))) :
  Calls P (ρ.f 169) #[.pointer (some ⟨b,0,none⟩)] w fun e w'=>e = .returned (.string ⟨#[]⟩)∧qOL g w w':=by
 have hUS:=Any.unsafeString_none L X
 have c1:w.drew.cell? ⟨b,1,none⟩=some (.slice (some ⟨g,0,none⟩) 0 cap):=by
  have:w.drew.heap[b]?=some (.cells #[p,.slice (some ⟨g,0,none⟩) 0 cap] (ρ.t 72) (0,0)):=hbk
  rw [Lib.cell_of_heap this]; rfl
 have hSD:(Builtin.unsafeSliceData_ #[(ρ.t 37)] (ρ.t 127) #[.slice (some ⟨g,0,none⟩) 0 cap]).run P w.drew = .ok (.pointer (some ⟨g,0,none⟩)) w.drew :=
  Lib.run_unsafeSliceData_row _ _ _ _ _ _ hc0
 clear hc0
 have mixed:=L.mixed
 have t72:=L.t72; have a72:=L.a72; have z72:=L.z72; have v72:=L.v72; have u72:=run_underlying L.t72
 have t70:=L.t70; have a70:=L.a70; have z70:=L.z70; have v70:=L.v70; have u70:=run_underlying L.t70
 have t37:=L.t37; have a37:=L.a37; have z37:=L.z37; have v37:=L.v37; have u37:=run_underlying L.t37
 have t127:=L.t127; have a127:=L.a127; have z127:=L.z127; have v127:=L.v127; have u127:=run_underlying L.t127
 have t3:=L.t3; have a3:=L.a3; have z3:=L.z3; have v3:=L.v3; have u3:=run_underlying L.t3
 have t9:=L.t9; have a9:=L.a9; have z9:=L.z9; have v9:=L.v9; have u9:=run_underlying L.t9
 have t5:=X.t5; have a5:=X.a5; have z5:=X.z5; have v5:=X.v5; have u5:=run_underlying X.t5
 go_enter L.f169,Body.n169_ntmps ρ
 go_wp2
 go_region_o
 all_goals (go_wp2; go_ret; exact ⟨rfl,qIG _ w⟩)
end
theorem qCO:Builder.Extra Tryz.prog Tryz.lays169_ren where
 sizeBuilder:=by kernel_rfl
 liesBuilder:=by kernel_rfl
 t5:=Tryz.underlying5
 a5:=Tryz.isAgg5
 z5:=Tryz.sizeOf5
 v5:=Tryz.zeroValue5
 infoByte:=by kernel_rfl
 cellsByte:=by kernel_rfl
 sizeByte:=by kernel_rfl
 neB5:=by decide
theorem qFB (u:Bool) (bs:List UInt8):AX Tryz.prog G 51 [.ptr 2 0] (qDA u bs) (.p (.str bs)) [] []:=by
 refine ⟨jR Tryz.func51 (by kernel_rfl) rfl,fun M μ w vs hg rel => ?_⟩
 obtain ⟨l⟩:=vs
 have hsz:l.length=1:=by simpa using rel.slots.1
 match l,hsz with
 | [v],_ =>
 have hv:=rel.slots.2 0 v (.ptr 2 0) rfl rfl
 cases hv with
 | @ptr _ _ b hb =>
 have hbx:=rel.box 2 (.vars 85 [zFV u,.ms 3]) (by simp [qDA])
 cases hbx with
 | @vars _ _ b' arr h0 hh hs ho hc =>
 rw [hb] at h0; cases h0
 obtain ⟨x,y,rfl⟩:∃ x y,arr = #[x,y]:=by
  obtain ⟨l⟩:=arr
  match l,hs with
  | [x,y],_=>exact ⟨x,y,rfl⟩
 have hy:=hc 1 y (.ms 3) rfl rfl
 have hblt:b<w.heap.size:=(Array.getElem?_eq_some_iff.1 hh).1
 have hfin : ∀ (g : Nat) (w' : World), (g < w.heap.size → yV μ (qDA u bs) g ∧ ∀ o, M g o = none) → bs.length ≤ maxLen → qOL g w w' →
   ∃ v M' μ',(Ending.returned (.string ⟨bs.toArray⟩):Ending) = .returned v∧Rel ⟨w.heap.size,w,M,μ,yV μ (qDA u bs)⟩ M' μ' ⟨[.p (.str bs)],[],[],0⟩ #[v] w':=by
  intro g w' hl hm hk
  refine ⟨_,M,μ,rfl, ?_⟩
  have hko:∀ k,k<w.heap.size→k≠g→w'.heap[k]?=w.heap[k]?:=fun k h1 h2=>hk.block k (by omega)
  refine ⟨fun b o v hv => ?_,fun _ _ _ h=>h,fun _ _ _=>rfl,⟨rfl,fun i u x hu hx => ?_⟩,fun _ h=>(by cases h),fun _ _ h=>(by cases h),by simp,fun _ _ _ h=>by simp [qM] at h,fun _ _ h=>by simp [qM] at h,hk.size, ?_⟩
  ·have h1:=rel.mem b o v hv
   have hlt:=vO h1
   exact (World.cell?_of_block (w:=w) (hko b hlt (by rintro rfl; rw [(hl hlt).2 o] at hv; cases hv))).trans h1
  ·cases i with
   | zero=>simp at hu hx; subst hu; subst hx; exact .p (.str (by simp) hm)
   | succ i=>simp at hx
  refine ⟨hk.os,hk.tape,hk.output,hk.size,fun k h => ?_⟩
  have h1:k<w.heap.size:=Nat.not_le.1 fun h'=>h (.inl h')
  exact hko k h1 (by rintro rfl; exact h (.inr (hl h1).1))
 have hrow:=rel.box 3 (.row 5 1 (qI bs)) (by simp [qDA])
 have key:∃ g,(g<w.heap.size→yV μ (qDA u bs) g∧∀ o,M g o=none)∧bs.length≤maxLen∧Calls Tryz.prog 51 #[.pointer (some ⟨b,0,none⟩)] w fun e w'=>e = .returned (.string ⟨bs.toArray⟩)∧qOL g w w':=by
  rcases hrow.cells with ⟨he,hn,hval⟩ | ⟨g,cap,cur,hg0,hval,hgh,hcs,hlc,hcm,hone,hro⟩
  ·obtain rfl:bs=[]:=by simpa [qI] using he
   have hy':y = .slice none 0 0:=by cases hy with | ms h _=>rw [h,hval]
   subst hy'
   exact ⟨w.heap.size,fun h=>absurd h (Nat.lt_irrefl _),by simp,zJE Tryz.lays169 qCO b x w hh⟩
  have hy':y = .slice (some ⟨g,0,none⟩) bs.length cap:=by cases hy with | ms h _=>rw [h,hval]; simp [qI]
  subst hy'
  have hown:=rel.own 3 g (by simp [qM,qDA]) hg0
  refine ⟨g,fun h=>⟨⟨3,by simp [qM,qDA],hg0⟩,hown.2.2⟩,by simp [qI] at hlc; omega, ?_⟩
  by_cases hbs:bs=[]
  ·subst hbs
   by_cases hc0:cap=0
   ·subst hc0; exact zFT Tryz.lays169 qCO b g x cur w hblt hh hgh
   exact zFS Tryz.lays169 qCO b g cap x w hc0 hh
  refine zJD Tryz.lays169 qCO b g cap x cur bs w hh hgh (by simpa [qI] using hlc) hcm (by simpa using hcs) (fun j z hz => ?_) hbs
  have hjl:=(List.getElem?_eq_some_iff.1 hz).1
  have hj:j<cur.size:=by rw [hcs]; simp [qI] at hlc; omega
  have:=hro.get j (.int .u8 z.toNat) 0 (.int .u8 z.toNat) cur[j] (by simp [qI,hz]) rfl (by simp [qI,List.getElem?_take,hjl,hj])
  rw [Array.getElem?_eq_getElem hj]
  generalize cur[j]=q at this
  cases this
  rfl
 obtain ⟨g,h1,h2,h3⟩:=key
 refine h3.mono ?_
 rintro e w' ⟨rfl,hk⟩
 exact hfin g w' h1 h2 hk
theorem qJA (bs:List UInt8):AX Tryz.prog G 51 [.ptr 2 0] [(2,.vars 85 [.ptr 2 0,.ms 3]),(3,.row 5 1 (qI bs))] (.p (.str bs)) [] []:=qFB true bs
theorem qXT (bs:List UInt8):AX Tryz.prog G 51 [.ptr 2 0] [(2,.vars 85 [.p .nilp,.ms 3]),(3,.row 5 1 (qI bs))] (.p (.str bs)) [] []:=qFB false bs
set_option maxHeartbeats 4000000
@[simp] theorem zLD (a s:List UInt8):qI (a++s)=qI a++s.map fun b => .int .u8 b.toNat:=by simp [qI]
theorem qOJ (bs:List UInt8) (c:UInt8) (hb:bs.length≤100000000000):AX Tryz.prog G 52 [.ptr 2 0,.p (.int .u8 c.toNat)] [(2,.vars 85 [.p .nilp,.ms 3]),(3,.row 5 1 (qI bs))] (.dead) [2] [(2,.vars 85 [.ptr 2 0,.ms 3]),(3,.row 5 1 (qI (bs++[c])))]:=by
 refine AX.introU tok 900 Tryz.func52 (by kernel_rfl) rfl rfl ?_
 simp only [Tryz.f52,qN,List.map_cons,List.map_nil]
 refine rgn [] [[0,1]] ?_
 refine op1 tok ?_
 refine qA (rgn [] [[]] ?_)
 refine op1 tok ?_
 refine qD ?_
 refine qB.stepK [0,1] (qJ rfl (qXI bs) (by simp)) (by conv=>lhs; simp) rfl ?_
 refine qB.nil ?_
 refine rgn [.int .u8 c.toNat] [[],[],[],[],[1,7,11],[],[],[7,14],[],[],[17]] ?_
 iterate 11 refine op1 tok ?_
 refine qA (rgn [] [[]] ?_)
 refine op1 tok ?_
 refine qA ?_
 exact AW.ret qV
theorem qKD (bs s:List UInt8) (hb:bs.length≤100000000000) (hs:s.length≤100000000000):AX Tryz.prog G 50 [.ptr 2 0,.p (.str s)] [(2,.vars 85 [.p .nilp,.ms 3]),(3,.row 5 1 (qI bs))] (.dead) [2] [(2,.vars 85 [.ptr 2 0,.ms 3]),(3,.row 5 1 (qI (bs++s)))]:=by
 refine AX.introU tok 900 Tryz.func50 (by kernel_rfl) rfl rfl ?_
 simp only [Tryz.f50,qN,List.map_cons,List.map_nil]
 refine rgn [] [[],[0,1]] ?_
 iterate 2 refine op1 tok ?_
 refine qA (rgn [] [[]] ?_)
 refine op1 tok ?_
 refine qD ?_
 refine qB.stepK [0,1] (qJ rfl (qXI bs) (by simp)) (by conv=>lhs; simp) rfl ?_
 refine qB.nil ?_
 refine rgn [] [[],[],[],[],[1,8,12],[],[],[],[1,14,16],[1]] ?_
 iterate 10 refine op1 tok ?_
 refine qA (rgn [] [[],[],[],[4,5]] ?_)
 iterate 4 refine op1 tok ?_
 refine qA ?_
 exact AW.ret qV
theorem vF (bs:List UInt8) (c:UInt8) (hb:bs.length≤100000000000):AX Tryz.prog G 52 [.ptr 2 0,.p (.int .u8 c.toNat)] [(2,.vars 85 [.ptr 2 0,.ms 3]),(3,.row 5 1 (qI bs))] (.dead) [2] [(2,.vars 85 [.ptr 2 0,.ms 3]),(3,.row 5 1 (qI (bs++[c])))]:=by
 refine AX.introU tok 900 Tryz.func52 (by kernel_rfl) rfl rfl ?_
 simp only [Tryz.f52,qN,List.map_cons,List.map_nil]
 refine rgn [] [[0,1]] ?_
 refine op1 tok ?_
 refine qA (rgn [] [[]] ?_)
 refine op1 tok ?_
 refine qD ?_
 refine qB.stepK [0,1] (qJ rfl (zFP bs) (by simp)) (by conv=>lhs; simp) rfl ?_
 refine qB.nil ?_
 refine rgn [.int .u8 c.toNat] [[],[],[],[],[1,7,11],[],[],[7,14],[],[],[17]] ?_
 iterate 11 refine op1 tok ?_
 refine qA (rgn [] [[]] ?_)
 refine op1 tok ?_
 refine qA ?_
 exact AW.ret qV
theorem kT (bs s:List UInt8) (hb:bs.length≤100000000000) (hs:s.length≤100000000000):AX Tryz.prog G 50 [.ptr 2 0,.p (.str s)] [(2,.vars 85 [.ptr 2 0,.ms 3]),(3,.row 5 1 (qI bs))] (.dead) [2] [(2,.vars 85 [.ptr 2 0,.ms 3]),(3,.row 5 1 (qI (bs++s)))]:=by
 refine AX.introU tok 900 Tryz.func50 (by kernel_rfl) rfl rfl ?_
 simp only [Tryz.f50,qN,List.map_cons,List.map_nil]
 refine rgn [] [[],[0,1]] ?_
 iterate 2 refine op1 tok ?_
 refine qA (rgn [] [[]] ?_)
 refine op1 tok ?_
 refine qD ?_
 refine qB.stepK [0,1] (qJ rfl (zFP bs) (by simp)) (by conv=>lhs; simp) rfl ?_
 refine qB.nil ?_
 refine rgn [] [[],[],[],[],[1,8,12],[],[],[],[1,14,16],[1]] ?_
 iterate 10 refine op1 tok ?_
 refine qA (rgn [] [[],[],[],[4,5]] ?_)
 iterate 4 refine op1 tok ?_
 refine qA ?_
 exact AW.ret qV
@[simp] theorem zLC:qI []=[]:=rfl
theorem zBO (r:Int) (l:List Int) (h:Lib.encodeRuneZ r=l):qI (Lib.encodeRune r)=l.map (PD.int .u8):=by
 subst h
 simp only [qI,Lib.encodeRune,List.map_map]
 apply List.map_congr_left
 intro x hx
 obtain ⟨h0,h1⟩:=Lib.encodeRuneZ_byte r x hx
 simp [Function.comp]
 omega
theorem qRR {k:Nat} {n:Int} (h:0≤n∧n<k):∃ x:Fin k,n=x.val:=⟨⟨n.toNat,by omega⟩,by simp; omega⟩
theorem zJO (n:Int) (h:0≤n):IntKind.u8.wrap n=n % 256:=by simp [IntKind.wrap,IntKind.bits,IntKind.signed]
theorem zIH (n:Int) (h:0≤n∧n<32):IntKind.u8.wrap ↑(192 % 2 ^ IntKind.u8.bits ||| (IntKind.u8.wrap n % 2 ^ IntKind.u8.bits).toNat)=192+n:=by
 obtain ⟨x,rfl⟩:=qRR h; revert x; decide +kernel
theorem qZB (n:Int) (h:0≤n∧n<16):IntKind.u8.wrap ↑(224 % 2 ^ IntKind.u8.bits ||| (IntKind.u8.wrap n % 2 ^ IntKind.u8.bits).toNat)=224+n:=by
 obtain ⟨x,rfl⟩:=qRR h; revert x; decide +kernel
theorem qZA (n:Int) (h:0≤n∧n<8):IntKind.u8.wrap ↑(240 % 2 ^ IntKind.u8.bits ||| (IntKind.u8.wrap n % 2 ^ IntKind.u8.bits).toNat)=240+n:=by
 obtain ⟨x,rfl⟩:=qRR h; revert x; decide +kernel
theorem zIW:∀ x:Fin 256,IntKind.u8.wrap ↑(128 % 2 ^ IntKind.u8.bits ||| (IntKind.u8.wrap ↑((((x.val:Nat):Int) % 2 ^ IntKind.u8.bits).toNat &&& 63 % 2 ^ IntKind.u8.bits) % 2 ^ IntKind.u8.bits).toNat)=128+((x.val:Nat):Int) % 64:=by decide +kernel
theorem qDS (n:Int) (h:0≤n):IntKind.u8.wrap ↑(128 % 2 ^ IntKind.u8.bits ||| (IntKind.u8.wrap ↑((IntKind.u8.wrap n % 2 ^ IntKind.u8.bits).toNat &&& 63 % 2 ^ IntKind.u8.bits) % 2 ^ IntKind.u8.bits).toNat)=128+n % 64:=by
 rw [zJO n h]
 obtain ⟨x,hx⟩:=qRR (k:=256) (n:=n % 256) (by omega)
 rw [hx,zIW x,← hx]
 omega
theorem zDP (r:Int):r.fdiv (2 ^ min 6 IntKind.i32.bits)=r / 64:=Int.fdiv_eq_ediv_of_nonneg _ (by decide)
theorem qTL (r:Int):r.fdiv (2 ^ min 12 IntKind.i32.bits)=r / 4096:=Int.fdiv_eq_ediv_of_nonneg _ (by decide)
theorem qTK (r:Int):r.fdiv (2 ^ min 18 IntKind.i32.bits)=r / 262144:=Int.fdiv_eq_ediv_of_nonneg _ (by decide)
theorem qSC (bs:List UInt8) (r:Int) (hb:bs.length≤100000000000) (h0:128≤r) (h1:r≤1114111) (h2:r<55296∨57343<r):AX Tryz.prog G 100 [.ms 3,.p (.int .i32 r)] [(3,.row 5 1 (qI bs))] (.ms 3) [] [(3,.row 5 1 (qI bs++qI (Lib.encodeRune r)))]:=by
 refine AX.introU tok 900 Tryz.func100 (by kernel_rfl) rfl rfl ?_
 simp only [Tryz.f100,qN,List.map_cons,List.map_nil]
 have hw:IntKind.u32.wrap r=r:=by simp [IntKind.wrap,IntKind.bits,IntKind.signed]; omega
 refine rgn [] [[0,1]] ?_
 refine op1 tok ?_
 refine qA (rgn [] [[],[],[0,1,5]] ?_)
 iterate 3 refine op1 tok ?_
 refine qA (AW.block (rgn [] [[],[],[0,1,5,11]] ?_))
 iterate 3 refine op1 tok ?_
 refine qA (cnd ?_ ?_)
 ·intro h11
  try simp at h11
  rw [zBO r _ (Lib.encodeRuneZ_two (by omega) (by omega))]
  refine rgn [.int .u8 (192+r / 64),.int .u8 (128+r % 64)] [[],[],[],[],[1,14,18],[],[],[],[14,18,22],[],[24],[4]] ?_
  iterate 12 refine op1 tok ?_ (hv:=by first | with_reducible exact True.intro | (simp only [zDP,qTL,qTK]; exact ⟨zIH _ (by omega),qDS _ (by omega)⟩; done) | omega | simp | (simp +contextual; omega))
  refine qA ?_
  exact AW.ret qV
 intro h11
 try simp at h11
 refine AW.seq (rgn [] [[],[],[0,1,5,25]] ?_)
 iterate 3 refine op1 tok ?_
 refine qA (cnd ?_ ?_)
 ·intro h25
  try simp at h25
  refine AW.skip (cnd ?_ ?_)
  ·intro h25
   try simp at h25
   rw [zBO r _ (Lib.encodeRuneZ_three (by omega))]
   refine rgn [.int .u8 (224+r / 4096),.int .u8 (128+r / 64 % 64),.int .u8 (128+r % 64)] [[],[],[],[],[1,34,38],[],[],[],[],[1,34,38,43],[],[],[],[34,38,43,47],[],[49],[4]] ?_
   iterate 17 refine op1 tok ?_ (hv:=by first | with_reducible exact True.intro | (simp only [zDP,qTL,qTK]; exact ⟨qZB _ (by omega),qDS _ (by omega),qDS _ (by omega)⟩; done) | omega | simp | (simp +contextual; omega))
   refine qA ?_
   exact AW.ret qV
  intro h25
  try simp at h25
  refine rgn [] [[],[],[],[],[0,1,53,55],[],[0,1,50]] ?_
  iterate 3 refine op1 tok ?_
  iterate 2 refine op2 tok ?_
  iterate 2 refine op1 tok ?_
  refine qA (cnd ?_ ?_)
  ·intro h50
   try simp at h50
   rw [zBO r _ (Lib.encodeRuneZ_four (by omega) (by omega))]
   refine rgn [.int .u8 (240+r / 262144),.int .u8 (128+r / 4096 % 64),.int .u8 (128+r / 64 % 64),.int .u8 (128+r % 64)] [[],[],[],[],[1,57,61],[],[],[],[],[1,57,61,66],[],[],[],[],[1,57,61,66,71],[],[],[],[57,61,66,71,75],[57,76],[],[4]] ?_
   iterate 22 refine op1 tok ?_ (hv:=by first | with_reducible exact True.intro | (simp only [zDP,qTL,qTK]; exact ⟨qZA _ (by omega),qDS _ (by omega),qDS _ (by omega),qDS _ (by omega)⟩; done) | omega | simp | (simp +contextual; omega))
   refine qA ?_
   exact AW.ret qV
  intro h50
  try simp at h50
  omega
 intro h25
 try simp at h25
 refine rgz [] [[],[],[],[],[],[0,1,5,33],[0,1,5,25]] ?_
 iterate 3 refine op1 tok ?_
 iterate 2 refine op2 tok ?_
 iterate 2 refine op1 tok ?_
 refine qA (cnd ?_ ?_)
 ·intro h25
  try simp at h25
  rw [zBO r _ (Lib.encodeRuneZ_three (by omega))]
  refine rgn [.int .u8 (224+r / 4096),.int .u8 (128+r / 64 % 64),.int .u8 (128+r % 64)] [[],[],[],[],[1,34,38],[],[],[],[],[1,34,38,43],[],[],[],[34,38,43,47],[],[49],[4]] ?_
  iterate 17 refine op1 tok ?_ (hv:=by first | with_reducible exact True.intro | (simp only [zDP,qTL,qTK]; exact ⟨qZB _ (by omega),qDS _ (by omega),qDS _ (by omega)⟩; done) | omega | simp | (simp +contextual; omega))
  refine qA ?_
  exact AW.ret qV
 intro h25
 try simp at h25
 refine rgn [] [[],[],[],[],[0,1,53,55],[],[0,1,50]] ?_
 iterate 3 refine op1 tok ?_
 iterate 2 refine op2 tok ?_
 iterate 2 refine op1 tok ?_
 refine qA (cnd ?_ ?_)
 ·intro h50
  try simp at h50
  rw [zBO r _ (Lib.encodeRuneZ_four (by omega) (by omega))]
  refine rgn [.int .u8 (240+r / 262144),.int .u8 (128+r / 4096 % 64),.int .u8 (128+r / 64 % 64),.int .u8 (128+r % 64)] [[],[],[],[],[1,57,61],[],[],[],[],[1,57,61,66],[],[],[],[],[1,57,61,66,71],[],[],[],[57,61,66,71,75],[57,76],[],[4]] ?_
  iterate 22 refine op1 tok ?_ (hv:=by first | with_reducible exact True.intro | (simp only [zDP,qTL,qTK]; exact ⟨qZA _ (by omega),qDS _ (by omega),qDS _ (by omega),qDS _ (by omega)⟩; done) | omega | simp | (simp +contextual; omega))
  refine qA ?_
  exact AW.ret qV
 intro h50
 try simp at h50
 omega
theorem qFE (bs:List UInt8) (r:Int) (hb:bs.length≤100000000000) (h0:0≤r) (h1:r≤1114111) (h2:r<55296∨57343<r):AX Tryz.prog G 79 [.ms 3,.p (.int .i32 r)] [(3,.row 5 1 (qI bs))] (.ms 3) [] [(3,.row 5 1 (qI bs++qI (Lib.encodeRune r)))]:=by
 refine AX.introU tok 900 Tryz.func79 (by kernel_rfl) rfl rfl ?_
 simp only [Tryz.f79,qN,List.map_cons,List.map_nil]
 have hw:IntKind.u32.wrap r=r:=by simp [IntKind.wrap,IntKind.bits,IntKind.signed]; omega
 have hw8:=zJO r h0
 refine rgn [] [[0,1]] ?_
 refine op1 tok ?_
 refine qA (AW.seq (rgn [] [[],[],[0,1,7]] ?_))
 iterate 3 refine op1 tok ?_
 refine qA (cnd ?_ ?_)
 ·intro h7
  try simp at h7
  rw [zBO r _ (Lib.encodeRuneZ_one (by omega) (by omega))]
  refine rgn [.int .u8 r] [[],[],[],[8,11],[],[4]] ?_
  iterate 6 refine op1 tok ?_ (hv:=by first | with_reducible exact True.intro | ((rw [hw8]; omega); done) | omega | simp | (simp +contextual; omega))
  refine qA ?_
  exact AW.ret qV
 intro h7
 try simp at h7
 refine AW.skip (rgn [] [[],[]] ?_)
 iterate 2 refine op1 tok ?_
 refine qD ?_
 refine qB.stepK [15] (qJ rfl (qSC bs r hb (by omega) h1 h2) (by simp)) (by conv=>lhs; simp) rfl ?_
 refine qB.run [[4]] ?_
 refine op1 tok ?_
 refine qA ?_
 exact AW.ret qV
theorem qFC (bs:List UInt8) (r:Int) (hb:bs.length≤100000000000) (h0:0≤r) (h1:r≤1114111) (h2:r<55296∨57343<r):AX Tryz.prog G 53 [.ptr 2 0,.p (.int .i32 r)] [(2,.vars 85 [.p .nilp,.ms 3]),(3,.row 5 1 (qI bs))] (.dead) [2] [(2,.vars 85 [.ptr 2 0,.ms 3]),(3,.row 5 1 (qI bs++qI (Lib.encodeRune r)))]:=by
 refine AX.introU tok 900 Tryz.func53 (by kernel_rfl) rfl rfl ?_
 simp only [Tryz.f53,qN,List.map_cons,List.map_nil]
 have hel:(Lib.encodeRune r).length≤4:=by simp only [Lib.encodeRune,List.length_map]; exact (Lib.encodeRuneZ_length r).2
 refine rgn [] [[],[0,1]] ?_
 iterate 2 refine op1 tok ?_
 refine qA (rgn [] [[]] ?_)
 refine op1 tok ?_
 refine qD ?_
 refine qB.stepK [0,1] (qJ rfl (qXI bs) (by simp)) (by conv=>lhs; simp) rfl ?_
 refine qB.nil ?_
 refine rgn [] [[],[],[],[],[0,1,13],[0,1,6]] ?_
 iterate 6 refine op1 tok ?_
 refine qA (rgn [] [[],[],[],[],[],[0,6,14,18,19]] ?_)
 iterate 6 refine op1 tok ?_
 refine qD ?_
 refine qB.stepK [0,6,14,20] (qJ rfl (qFE bs r hb h0 h1 h2) (by simp)) (by conv=>lhs; simp) rfl ?_
 refine qB.run [[],[],[0,6]] ?_
 iterate 3 refine op1 tok ?_
 refine qA (rgn [] [[],[],[],[6,26],[],[],[29],[],[4,5]] ?_)
 iterate 9 refine op1 tok ?_
 refine qA ?_
 exact AW.ret qV
theorem vE (bs:List UInt8) (r:Int) (hb:bs.length≤100000000000) (h0:0≤r) (h1:r≤1114111) (h2:r<55296∨57343<r):AX Tryz.prog G 53 [.ptr 2 0,.p (.int .i32 r)] [(2,.vars 85 [.ptr 2 0,.ms 3]),(3,.row 5 1 (qI bs))] (.dead) [2] [(2,.vars 85 [.ptr 2 0,.ms 3]),(3,.row 5 1 (qI bs++qI (Lib.encodeRune r)))]:=by
 refine AX.introU tok 900 Tryz.func53 (by kernel_rfl) rfl rfl ?_
 simp only [Tryz.f53,qN,List.map_cons,List.map_nil]
 have hel:(Lib.encodeRune r).length≤4:=by simp only [Lib.encodeRune,List.length_map]; exact (Lib.encodeRuneZ_length r).2
 refine rgn [] [[],[0,1]] ?_
 iterate 2 refine op1 tok ?_
 refine qA (rgn [] [[]] ?_)
 refine op1 tok ?_
 refine qD ?_
 refine qB.stepK [0,1] (qJ rfl (zFP bs) (by simp)) (by conv=>lhs; simp) rfl ?_
 refine qB.nil ?_
 refine rgn [] [[],[],[],[],[0,1,13],[0,1,6]] ?_
 iterate 6 refine op1 tok ?_
 refine qA (rgn [] [[],[],[],[],[],[0,6,14,18,19]] ?_)
 iterate 6 refine op1 tok ?_
 refine qD ?_
 refine qB.stepK [0,6,14,20] (qJ rfl (qFE bs r hb h0 h1 h2) (by simp)) (by conv=>lhs; simp) rfl ?_
 refine qB.run [[],[],[0,6]] ?_
 iterate 3 refine op1 tok ?_
 refine qA (rgn [] [[],[],[],[6,26],[],[],[29],[],[4,5]] ?_)
 iterate 9 refine op1 tok ?_
 refine qA ?_
 exact AW.ret qV
theorem zGH (bs:List UInt8):AX Tryz.prog G 63 [.ptr 2 0] [(2,.vars 85 [.p .nilp,.ms 3]),(3,.row 5 1 (qI bs))] (.p (.int .i64 bs.length)) [2,3] [(2,.vars 85 [.p .nilp,.ms 3]),(3,.row 5 1 (qI bs))]:=by
 refine AX.introU tok 900 Tryz.func63 (by kernel_rfl) rfl rfl ?_
 simp only [Tryz.f63,qN,List.map_cons,List.map_nil]
 refine rgn [] [[0]] ?_
 refine op1 tok ?_
 refine qA (rgn [] [[],[],[],[6],[],[2]] ?_)
 iterate 6 refine op1 tok ?_
 refine qA ?_
 exact AW.ret qV
theorem zJM (bs:List UInt8):AX Tryz.prog G 63 [.ptr 2 0] [(2,.vars 85 [.ptr 2 0,.ms 3]),(3,.row 5 1 (qI bs))] (.p (.int .i64 bs.length)) [2,3] [(2,.vars 85 [.ptr 2 0,.ms 3]),(3,.row 5 1 (qI bs))]:=by
 refine AX.introU tok 900 Tryz.func63 (by kernel_rfl) rfl rfl ?_
 simp only [Tryz.f63,qN,List.map_cons,List.map_nil]
 refine rgn [] [[0]] ?_
 refine op1 tok ?_
 refine qA (rgn [] [[],[],[],[6],[],[2]] ?_)
 iterate 6 refine op1 tok ?_
 refine qA ?_
 exact AW.ret qV
theorem qAR (l:List UInt8):(Lib.decodeL l).1≤1114111:=qHE _ _
theorem qFD (hG:U8 G) (s:List UInt8) (hs:s≠[]):AFn Tryz.prog G 62 [.str s] (.tup [.int .i32 (Lib.decodeL s).1,.int .i64 (Lib.decodeL s).2]):=by
 refine AFn.of_calls (jR Tryz.func62 (by kernel_rfl) rfl) fun M w vs hg hmem hsz hrd => ?_
 obtain ⟨b,rfl,rfl,hm⟩:=qZS hsz hrd
 refine (Any.utf8_DecodeRuneInString Tryz.lays197 b w (zGT hG hg hmem)).mono ?_
 rintro e w' ⟨rfl,hb⟩
 have h0:b.size≠0:=fun h=>hs (List.eq_nil_of_length_eq_zero (by simpa using h))
 have e:Lib.decodeGo b=Lib.decodeL b.data.toList:=by
  unfold Lib.decodeGo Lib.decodeL
  rw [if_neg h0]
 rw [e]
 have h1:=qAR b.data.toList
 have h2:=Lib.decodeL_le b.data.toList hs
 have h3:b.data.toList.length≤maxLen:=by simpa using hm
 refine ⟨_,rfl,.tup rfl fun i u d hu hd => ?_,hb⟩
 match i,hu,hd with
 | 0,hu,hd=>simp at hu hd; subst hu; subst hd; exact .int (by rw [jN]; simp only [kV]; omega) (by rw [jC]; simp only [kW]; omega)
 | 1,hu,hd=>simp at hu hd; subst hu; subst hd; exact .int (by rw [jN]; simp only [kV]; omega) (by rw [jC]; simp only [kW]; unfold maxLen at h3; omega)
 | i+2,hu,hd=>simp at hu
end Go.Proofs.YtbhhphabggcacaaGreatDoor
