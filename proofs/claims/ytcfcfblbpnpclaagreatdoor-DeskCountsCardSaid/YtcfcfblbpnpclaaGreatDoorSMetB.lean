import Derived.Test.YtcfcfblbpnpclaaGreatDoorSOnceL
import Derived.Test.YtcfcfblbpnpclaaGreatDoorSCore41
namespace Go.Proofs.YtcfcfblbpnpclaaGreatDoor
open Sy Go
set_option maxRecDepth 100000
set_option maxHeartbeats 4000000
set_option linter.unusedSimpArgs false
set_option linter.unusedVariables false
variable {G:qK}
theorem jR (x:Int × Int × Int):qB x=[.p (.int .i64 x.1),.p (.int .i64 x.2.1),.p (.int .i64 x.2.2)]:=rfl
@[simp] theorem qMI (x:Int × Int × Int):V.idsL (qB x)=[]:=rfl
@[simp] theorem qLF (x:Int × Int × Int) (i:Nat):V.noRefL i (qB x)=true:=rfl
@[simp] theorem qLU (x:Int × Int × Int) (i:Nat):kF i (qB x)=qB x:=rfl
@[simp] theorem qMH (x:Int × Int × Int):(qB x).length=3:=rfl
def D0:Nat→Int × Int × Int:=fun _=>(0,0,0)
theorem qIS (j:Nat):qB (D0 j)=[.p (.int .i64 0),.p (.int .i64 0),.p (.int .i64 0)]:=rfl
theorem qER (j:Nat):DOK (D0 j) 0:=by unfold DOK D0; simp
theorem qHA (D:Nat→Int × Int × Int):AX Tryz.prog G 80 [.ptr 2 1] [(2,.vars 71 [.p (.int .i64 5),.p (.int .u32 1),.p (.int .i32 0),.p (.int .u32 0),.ms 975]),(975,.prow 78 [.ptr 961 0,.ptr 962 0,.ptr 963 0,.ptr 964 0,.ptr 965 0]),(961,.vars 77 (qB (D 0))),(962,.vars 77 (qB (D 1))),(963,.vars 77 (qB (D 2))),(964,.vars 77 (qB (D 3))),(965,.vars 77 (qB (D 4)))] (.p (.bool true)) [2,975,961,962,963,964,965] [(2,.vars 71 [.p (.int .i64 5),.p (.int .u32 1),.p (.int .i32 0),.p (.int .u32 0),.ms 975]),(975,.prow 78 [.ptr 961 0,.ptr 962 0,.ptr 963 0,.ptr 964 0,.ptr 965 0]),(961,.vars 77 (qB (D 0))),(962,.vars 77 (qB (D 1))),(963,.vars 77 (qB (D 2))),(964,.vars 77 (qB (D 3))),(965,.vars 77 (qB (D 4)))]:=by
 refine AX.introU tok 700 Tryz.func80 (by kernel_rfl) rfl rfl ?_
 simp only [Tryz.f80,qV,List.map_cons,List.map_nil]
 refine rgn [] [[0]] ?_
 refine op1 tok ?_
 refine qA (rgn [] [[],[],[]] ?_)
 iterate 3 refine op1 tok ?_
 refine qG ?_
 refine qC.stepK [6] (qDQ qKO rfl (by conv=>lhs; simp) trivial (by conv=>lhs; simp) trivial (by conv=>lhs; simp) rfl) (by conv=>lhs; simp) rfl ?_
 refine qC.run [[],[2]] ?_
 iterate 2 refine op1 tok ?_
 refine qA ?_
 exact AW.ret zG
theorem qIB (D:Nat→Int × Int × Int):AX Tryz.prog G 48 [.ptr 2 1,.dead] [(2,.vars 71 [.p (.int .i64 5),.p (.int .u32 1),.p (.int .i32 0),.p (.int .u32 0),.ms 975]),(975,.prow 78 [.ptr 961 0,.ptr 962 0,.ptr 963 0,.ptr 964 0,.ptr 965 0]),(961,.vars 77 (qB (D 0))),(962,.vars 77 (qB (D 1))),(963,.vars 77 (qB (D 2))),(964,.vars 77 (qB (D 3))),(965,.vars 77 (qB (D 4)))] (.tuple []) [2,975,961,962,963,964,965] [(2,.vars 71 [.p (.int .i64 5),.p (.int .u32 1),.p (.int .i32 0),.p (.int .u32 0),.ms 975]),(975,.prow 78 [.ptr 961 0,.ptr 962 0,.ptr 963 0,.ptr 964 0,.ptr 965 0]),(961,.vars 77 (qB (D 0))),(962,.vars 77 (qB (D 1))),(963,.vars 77 (qB (D 2))),(964,.vars 77 (qB (D 3))),(965,.vars 77 (qB (D 4)))]:=by
 refine AX.introU tok 700 Tryz.func48 (by kernel_rfl) rfl rfl ?_
 simp only [Tryz.f48,qV,List.map_cons,List.map_nil]
 have hc:=qHA (G:=G) D
 refine rgn [] [[],[],[]] ?_
 iterate 3 refine op1 tok ?_
 refine qG ?_
 refine qC.stepK [0,1,7] (qY rfl hc (by simp)) (by conv=>lhs; simp) rfl ?_
 refine qC.run [[0,1,8]] ?_
 refine op1 tok ?_
 refine qA (cnd ?_ ?_)
 ·intro h8
  try simp at h8
 intro h8
 try simp at h8
 refine AW.skip ?_
 exact vD
theorem yD (D:Nat→Int × Int × Int):AX Tryz.prog G 28 [.ptr 2 0] [(2,.vars 71 [.p (.int .i64 5),.p (.int .u32 1),.p (.int .i32 0),.p (.int .u32 0),.ms 975]),(975,.prow 78 [.ptr 961 0,.ptr 962 0,.ptr 963 0,.ptr 964 0,.ptr 965 0]),(961,.vars 77 (qB (D 0))),(962,.vars 77 (qB (D 1))),(963,.vars 77 (qB (D 2))),(964,.vars 77 (qB (D 3))),(965,.vars 77 (qB (D 4)))] (.ms 975) [2,975,961,962,963,964,965] [(2,.vars 71 [.p (.int .i64 5),.p (.int .u32 1),.p (.int .i32 0),.p (.int .u32 0),.ms 975]),(975,.prow 78 [.ptr 961 0,.ptr 962 0,.ptr 963 0,.ptr 964 0,.ptr 965 0]),(961,.vars 77 (qB (D 0))),(962,.vars 77 (qB (D 1))),(963,.vars 77 (qB (D 2))),(964,.vars 77 (qB (D 3))),(965,.vars 77 (qB (D 4)))]:=by
 refine AX.introU tok 700 Tryz.func28 (by kernel_rfl) rfl rfl ?_
 simp only [Tryz.f28,qV,List.map_cons,List.map_nil]
 have hc:=qIB (G:=G) D
 refine rgn [] [[],[1]] ?_
 iterate 2 refine op1 tok ?_
 refine qA (rgn [] [[],[],[],[]] ?_)
 iterate 4 refine op1 tok ?_
 refine qG ?_
 refine qC.stepK [1] (qY rfl hc (by simp)) (by conv=>lhs; simp) rfl ?_
 refine qC.nil ?_
 refine rgn [] [[],[],[],[11],[2]] ?_
 iterate 5 refine op1 tok ?_
 refine qA ?_
 exact AW.ret zG
theorem qGI  : AX Tryz.prog G 28 [.ptr 2 0] [(2,.vars 71 [.p (.int .i64 5),.p (.int .u32 0),.p (.int .i32 0),.p (.int .u32 0),.nilsl])] (.ms 975) [2] [(2,.vars 71 [.p (.int .i64 5),.p (.int .u32 1),.p (.int .i32 0),.p (.int .u32 0),.ms 975]),(975,.prow 78 [.ptr 961 0,.ptr 962 0,.ptr 963 0,.ptr 964 0,.ptr 965 0]),(961,.vars 77 (qB (D0 0))),(962,.vars 77 (qB (D0 1))),(963,.vars 77 (qB (D0 2))),(964,.vars 77 (qB (D0 3))),(965,.vars 77 (qB (D0 4)))]:=by
 refine AX.introU tok 700 Tryz.func28 (by kernel_rfl) rfl rfl ?_
 simp only [Tryz.f28,qV,List.map_cons,List.map_nil]
 have hc:=qIC (G:=G)
 simp only [qIS]
 refine rgn [] [[],[1]] ?_
 iterate 2 refine op1 tok ?_
 refine qA ?_
 refine AW.renE 701 3 (by simp) (by conv=>lhs; simp) ?_
 refine rgn [] [[],[],[],[]] ?_
 iterate 4 refine op1 tok ?_
 refine qG ?_
 refine qC.stepK [1] (qY rfl hc (by simp)) (by conv=>lhs; simp) rfl ?_
 refine qC.nil ?_
 refine rgn [] [[],[],[],[11],[2]] ?_
 iterate 5 refine op1 tok ?_
 refine qA ?_
 exact AW.ret zG
theorem qEP (x:Int × Int × Int) (n:Int) (hc:0≤x.1∧x.1≤1000000) (ht:0≤x.2.1∧x.2.1≤1099511627776) (hn:0≤n∧n≤1099511627776):AX Tryz.prog G 30 [.ptr 961 0,.p (.int .i64 1),.p (.int .i64 n),.p (.int .i64 n)] [(961,.vars 77 (qB x))] (.tuple []) [961] [(961,.vars 77 (qB (x.1+1,x.2.1+n,wL x.2.2 n)))]:=by
 refine AX.introU tok 700 Tryz.func30 (by kernel_rfl) rfl rfl ?_
 simp only [Tryz.f30,qV,List.map_cons,List.map_nil]
 obtain ⟨c,t,m⟩:=x
 simp only [jR] at *
 have a1:=wJ (G:=G) 961 77 [.p (.int .i64 c),.p (.int .i64 t),.p (.int .i64 m)] 0 c 1 rfl (by omega) (by omega)
 have a2:=wJ (G:=G) 961 77 [.p (.int .i64 (c+1)),.p (.int .i64 t),.p (.int .i64 m)] 1 t n rfl (by omega) (by omega)
 have a3:=qR (G:=G) 961 77 [.p (.int .i64 (c+1)),.p (.int .i64 (t+n)),.p (.int .i64 m)] 2 m rfl
 have a4:=yS (G:=G) 961 77 [.p (.int .i64 (c+1)),.p (.int .i64 (t+n)),.p (.int .i64 m)] 2 (wL m n) (by simp)
 simp only [List.set_cons_zero,List.set_cons_succ] at a1 a2 a4
 refine rgn [] [[],[],[],[]] ?_
 iterate 4 refine op1 tok ?_
 refine qG ?_
 refine qC.stepK [0,2,3] (qY rfl a1 (by simp)) (by conv=>lhs; simp) rfl ?_
 refine qC.nil ?_
 refine rgn [] [[],[],[],[]] ?_
 iterate 4 refine op1 tok ?_
 refine qG ?_
 refine qC.stepK [0,3] (qY rfl a2 (by simp)) (by conv=>lhs; simp) rfl ?_
 refine qC.nil ?_
 refine AW.drawR mixed 10 [[0],[18],[19],[0],[21],[22],[23],[3],[24,25],[20,26]] [] (by kernel_rfl) ?_
 iterate 6 refine qJ.one tok (orc:=[]) (by intro C; conv=>lhs; simp) (by first | with_reducible exact True.intro | omega | simp | (simp +contextual; omega)) rfl (by kernel_rfl) ?_
 refine qJ.callQ a3 rfl rfl (by simp) (by simp) (by simp) (by simp) (by first | (simp; done) | (simp; omega)) (by first | (simp; done) | (simp; omega)) (by kernel_rfl) (by conv=>lhs; simp) ?_
 iterate 2 refine qJ.one tok (orc:=[]) (by intro C; conv=>lhs; simp) (by first | with_reducible exact True.intro | omega | simp | (simp +contextual; omega)) rfl (by kernel_rfl) ?_
 refine qJ.call [] a4 rfl rfl (by simp [wL]) (by simp) (by simp) (by simp) (by simp) (by first | (simp; done) | (simp; omega)) (by first | (simp; done) | (simp; omega)) (by kernel_rfl) (by conv=>lhs; simp) ?_
 refine qJ.nil (by kernel_rfl) ⟨by kernel_rfl, ?_⟩
 refine qC.nil ?_
 exact vD
theorem qJD (x:Int × Int × Int) (n:Int) (hc:0≤x.1∧x.1≤1000000) (ht:0≤x.2.1∧x.2.1≤1099511627776) (hn:0≤n∧n≤1099511627776):AX Tryz.prog G 30 [.ptr 962 0,.p (.int .i64 1),.p (.int .i64 n),.p (.int .i64 n)] [(962,.vars 77 (qB x))] (.tuple []) [962] [(962,.vars 77 (qB (x.1+1,x.2.1+n,wL x.2.2 n)))]:=by
 refine AX.introU tok 700 Tryz.func30 (by kernel_rfl) rfl rfl ?_
 simp only [Tryz.f30,qV,List.map_cons,List.map_nil]
 obtain ⟨c,t,m⟩:=x
 simp only [jR] at *
 have a1:=wJ (G:=G) 962 77 [.p (.int .i64 c),.p (.int .i64 t),.p (.int .i64 m)] 0 c 1 rfl (by omega) (by omega)
 have a2:=wJ (G:=G) 962 77 [.p (.int .i64 (c+1)),.p (.int .i64 t),.p (.int .i64 m)] 1 t n rfl (by omega) (by omega)
 have a3:=qR (G:=G) 962 77 [.p (.int .i64 (c+1)),.p (.int .i64 (t+n)),.p (.int .i64 m)] 2 m rfl
 have a4:=yS (G:=G) 962 77 [.p (.int .i64 (c+1)),.p (.int .i64 (t+n)),.p (.int .i64 m)] 2 (wL m n) (by simp)
 simp only [List.set_cons_zero,List.set_cons_succ] at a1 a2 a4
 refine rgn [] [[],[],[],[]] ?_
 iterate 4 refine op1 tok ?_
 refine qG ?_
 refine qC.stepK [0,2,3] (qY rfl a1 (by simp)) (by conv=>lhs; simp) rfl ?_
 refine qC.nil ?_
 refine rgn [] [[],[],[],[]] ?_
 iterate 4 refine op1 tok ?_
 refine qG ?_
 refine qC.stepK [0,3] (qY rfl a2 (by simp)) (by conv=>lhs; simp) rfl ?_
 refine qC.nil ?_
 refine AW.drawR mixed 10 [[0],[18],[19],[0],[21],[22],[23],[3],[24,25],[20,26]] [] (by kernel_rfl) ?_
 iterate 6 refine qJ.one tok (orc:=[]) (by intro C; conv=>lhs; simp) (by first | with_reducible exact True.intro | omega | simp | (simp +contextual; omega)) rfl (by kernel_rfl) ?_
 refine qJ.callQ a3 rfl rfl (by simp) (by simp) (by simp) (by simp) (by first | (simp; done) | (simp; omega)) (by first | (simp; done) | (simp; omega)) (by kernel_rfl) (by conv=>lhs; simp) ?_
 iterate 2 refine qJ.one tok (orc:=[]) (by intro C; conv=>lhs; simp) (by first | with_reducible exact True.intro | omega | simp | (simp +contextual; omega)) rfl (by kernel_rfl) ?_
 refine qJ.call [] a4 rfl rfl (by simp [wL]) (by simp) (by simp) (by simp) (by simp) (by first | (simp; done) | (simp; omega)) (by first | (simp; done) | (simp; omega)) (by kernel_rfl) (by conv=>lhs; simp) ?_
 refine qJ.nil (by kernel_rfl) ⟨by kernel_rfl, ?_⟩
 refine qC.nil ?_
 exact vD
theorem qJC (x:Int × Int × Int) (n:Int) (hc:0≤x.1∧x.1≤1000000) (ht:0≤x.2.1∧x.2.1≤1099511627776) (hn:0≤n∧n≤1099511627776):AX Tryz.prog G 30 [.ptr 963 0,.p (.int .i64 1),.p (.int .i64 n),.p (.int .i64 n)] [(963,.vars 77 (qB x))] (.tuple []) [963] [(963,.vars 77 (qB (x.1+1,x.2.1+n,wL x.2.2 n)))]:=by
 refine AX.introU tok 700 Tryz.func30 (by kernel_rfl) rfl rfl ?_
 simp only [Tryz.f30,qV,List.map_cons,List.map_nil]
 obtain ⟨c,t,m⟩:=x
 simp only [jR] at *
 have a1:=wJ (G:=G) 963 77 [.p (.int .i64 c),.p (.int .i64 t),.p (.int .i64 m)] 0 c 1 rfl (by omega) (by omega)
 have a2:=wJ (G:=G) 963 77 [.p (.int .i64 (c+1)),.p (.int .i64 t),.p (.int .i64 m)] 1 t n rfl (by omega) (by omega)
 have a3:=qR (G:=G) 963 77 [.p (.int .i64 (c+1)),.p (.int .i64 (t+n)),.p (.int .i64 m)] 2 m rfl
 have a4:=yS (G:=G) 963 77 [.p (.int .i64 (c+1)),.p (.int .i64 (t+n)),.p (.int .i64 m)] 2 (wL m n) (by simp)
 simp only [List.set_cons_zero,List.set_cons_succ] at a1 a2 a4
 refine rgn [] [[],[],[],[]] ?_
 iterate 4 refine op1 tok ?_
 refine qG ?_
 refine qC.stepK [0,2,3] (qY rfl a1 (by simp)) (by conv=>lhs; simp) rfl ?_
 refine qC.nil ?_
 refine rgn [] [[],[],[],[]] ?_
 iterate 4 refine op1 tok ?_
 refine qG ?_
 refine qC.stepK [0,3] (qY rfl a2 (by simp)) (by conv=>lhs; simp) rfl ?_
 refine qC.nil ?_
 refine AW.drawR mixed 10 [[0],[18],[19],[0],[21],[22],[23],[3],[24,25],[20,26]] [] (by kernel_rfl) ?_
 iterate 6 refine qJ.one tok (orc:=[]) (by intro C; conv=>lhs; simp) (by first | with_reducible exact True.intro | omega | simp | (simp +contextual; omega)) rfl (by kernel_rfl) ?_
 refine qJ.callQ a3 rfl rfl (by simp) (by simp) (by simp) (by simp) (by first | (simp; done) | (simp; omega)) (by first | (simp; done) | (simp; omega)) (by kernel_rfl) (by conv=>lhs; simp) ?_
 iterate 2 refine qJ.one tok (orc:=[]) (by intro C; conv=>lhs; simp) (by first | with_reducible exact True.intro | omega | simp | (simp +contextual; omega)) rfl (by kernel_rfl) ?_
 refine qJ.call [] a4 rfl rfl (by simp [wL]) (by simp) (by simp) (by simp) (by simp) (by first | (simp; done) | (simp; omega)) (by first | (simp; done) | (simp; omega)) (by kernel_rfl) (by conv=>lhs; simp) ?_
 refine qJ.nil (by kernel_rfl) ⟨by kernel_rfl, ?_⟩
 refine qC.nil ?_
 exact vD
theorem qJB (x:Int × Int × Int) (n:Int) (hc:0≤x.1∧x.1≤1000000) (ht:0≤x.2.1∧x.2.1≤1099511627776) (hn:0≤n∧n≤1099511627776):AX Tryz.prog G 30 [.ptr 964 0,.p (.int .i64 1),.p (.int .i64 n),.p (.int .i64 n)] [(964,.vars 77 (qB x))] (.tuple []) [964] [(964,.vars 77 (qB (x.1+1,x.2.1+n,wL x.2.2 n)))]:=by
 refine AX.introU tok 700 Tryz.func30 (by kernel_rfl) rfl rfl ?_
 simp only [Tryz.f30,qV,List.map_cons,List.map_nil]
 obtain ⟨c,t,m⟩:=x
 simp only [jR] at *
 have a1:=wJ (G:=G) 964 77 [.p (.int .i64 c),.p (.int .i64 t),.p (.int .i64 m)] 0 c 1 rfl (by omega) (by omega)
 have a2:=wJ (G:=G) 964 77 [.p (.int .i64 (c+1)),.p (.int .i64 t),.p (.int .i64 m)] 1 t n rfl (by omega) (by omega)
 have a3:=qR (G:=G) 964 77 [.p (.int .i64 (c+1)),.p (.int .i64 (t+n)),.p (.int .i64 m)] 2 m rfl
 have a4:=yS (G:=G) 964 77 [.p (.int .i64 (c+1)),.p (.int .i64 (t+n)),.p (.int .i64 m)] 2 (wL m n) (by simp)
 simp only [List.set_cons_zero,List.set_cons_succ] at a1 a2 a4
 refine rgn [] [[],[],[],[]] ?_
 iterate 4 refine op1 tok ?_
 refine qG ?_
 refine qC.stepK [0,2,3] (qY rfl a1 (by simp)) (by conv=>lhs; simp) rfl ?_
 refine qC.nil ?_
 refine rgn [] [[],[],[],[]] ?_
 iterate 4 refine op1 tok ?_
 refine qG ?_
 refine qC.stepK [0,3] (qY rfl a2 (by simp)) (by conv=>lhs; simp) rfl ?_
 refine qC.nil ?_
 refine AW.drawR mixed 10 [[0],[18],[19],[0],[21],[22],[23],[3],[24,25],[20,26]] [] (by kernel_rfl) ?_
 iterate 6 refine qJ.one tok (orc:=[]) (by intro C; conv=>lhs; simp) (by first | with_reducible exact True.intro | omega | simp | (simp +contextual; omega)) rfl (by kernel_rfl) ?_
 refine qJ.callQ a3 rfl rfl (by simp) (by simp) (by simp) (by simp) (by first | (simp; done) | (simp; omega)) (by first | (simp; done) | (simp; omega)) (by kernel_rfl) (by conv=>lhs; simp) ?_
 iterate 2 refine qJ.one tok (orc:=[]) (by intro C; conv=>lhs; simp) (by first | with_reducible exact True.intro | omega | simp | (simp +contextual; omega)) rfl (by kernel_rfl) ?_
 refine qJ.call [] a4 rfl rfl (by simp [wL]) (by simp) (by simp) (by simp) (by simp) (by first | (simp; done) | (simp; omega)) (by first | (simp; done) | (simp; omega)) (by kernel_rfl) (by conv=>lhs; simp) ?_
 refine qJ.nil (by kernel_rfl) ⟨by kernel_rfl, ?_⟩
 refine qC.nil ?_
 exact vD
theorem qJA (x:Int × Int × Int) (n:Int) (hc:0≤x.1∧x.1≤1000000) (ht:0≤x.2.1∧x.2.1≤1099511627776) (hn:0≤n∧n≤1099511627776):AX Tryz.prog G 30 [.ptr 965 0,.p (.int .i64 1),.p (.int .i64 n),.p (.int .i64 n)] [(965,.vars 77 (qB x))] (.tuple []) [965] [(965,.vars 77 (qB (x.1+1,x.2.1+n,wL x.2.2 n)))]:=by
 refine AX.introU tok 700 Tryz.func30 (by kernel_rfl) rfl rfl ?_
 simp only [Tryz.f30,qV,List.map_cons,List.map_nil]
 obtain ⟨c,t,m⟩:=x
 simp only [jR] at *
 have a1:=wJ (G:=G) 965 77 [.p (.int .i64 c),.p (.int .i64 t),.p (.int .i64 m)] 0 c 1 rfl (by omega) (by omega)
 have a2:=wJ (G:=G) 965 77 [.p (.int .i64 (c+1)),.p (.int .i64 t),.p (.int .i64 m)] 1 t n rfl (by omega) (by omega)
 have a3:=qR (G:=G) 965 77 [.p (.int .i64 (c+1)),.p (.int .i64 (t+n)),.p (.int .i64 m)] 2 m rfl
 have a4:=yS (G:=G) 965 77 [.p (.int .i64 (c+1)),.p (.int .i64 (t+n)),.p (.int .i64 m)] 2 (wL m n) (by simp)
 simp only [List.set_cons_zero,List.set_cons_succ] at a1 a2 a4
 refine rgn [] [[],[],[],[]] ?_
 iterate 4 refine op1 tok ?_
 refine qG ?_
 refine qC.stepK [0,2,3] (qY rfl a1 (by simp)) (by conv=>lhs; simp) rfl ?_
 refine qC.nil ?_
 refine rgn [] [[],[],[],[]] ?_
 iterate 4 refine op1 tok ?_
 refine qG ?_
 refine qC.stepK [0,3] (qY rfl a2 (by simp)) (by conv=>lhs; simp) rfl ?_
 refine qC.nil ?_
 refine AW.drawR mixed 10 [[0],[18],[19],[0],[21],[22],[23],[3],[24,25],[20,26]] [] (by kernel_rfl) ?_
 iterate 6 refine qJ.one tok (orc:=[]) (by intro C; conv=>lhs; simp) (by first | with_reducible exact True.intro | omega | simp | (simp +contextual; omega)) rfl (by kernel_rfl) ?_
 refine qJ.callQ a3 rfl rfl (by simp) (by simp) (by simp) (by simp) (by first | (simp; done) | (simp; omega)) (by first | (simp; done) | (simp; omega)) (by kernel_rfl) (by conv=>lhs; simp) ?_
 iterate 2 refine qJ.one tok (orc:=[]) (by intro C; conv=>lhs; simp) (by first | with_reducible exact True.intro | omega | simp | (simp +contextual; omega)) rfl (by kernel_rfl) ?_
 refine qJ.call [] a4 rfl rfl (by simp [wL]) (by simp) (by simp) (by simp) (by simp) (by first | (simp; done) | (simp; omega)) (by first | (simp; done) | (simp; omega)) (by kernel_rfl) (by conv=>lhs; simp) ?_
 refine qJ.nil (by kernel_rfl) ⟨by kernel_rfl, ?_⟩
 refine qC.nil ?_
 exact vD
theorem qGY (n:Int)  : AX Tryz.prog G 18 [.ptr 2 0,.p (.int .i64 0),.p (.int .i64 n)] [(2,.vars 71 [.p (.int .i64 5),.p (.int .u32 0),.p (.int .i32 0),.p (.int .u32 0),.nilsl])] (.dead) [2] [(2,.vars 71 [.p (.int .i64 5),.p (.int .u32 1),.p (.int .i32 0),.p (.int .u32 0),.ms 975]),(975,.prow 78 [.ptr 961 0,.ptr 962 0,.ptr 963 0,.ptr 964 0,.ptr 965 0]),(961,.vars 77 (qB (qL (D0 0) n))),(962,.vars 77 (qB (D0 1))),(963,.vars 77 (qB (D0 2))),(964,.vars 77 (qB (D0 3))),(965,.vars 77 (qB (D0 4)))]:=by
 refine AX.introU tok 740 Tryz.func18 (by kernel_rfl) rfl rfl ?_
 simp only [Tryz.f18,qV,List.map_cons,List.map_nil]
 have hc:=qGI (G:=G)
 have hD:DOK (D0 0) 999999:=(qER 0).mono (by omega)
 obtain ⟨X,hX⟩:∃ X,D0 0=X:=⟨_,rfl⟩
 rw [hX] at hc hD
 rw [hX]
 have hnt:qL X n=if n<0∨1099511627776-X.2.1<n then X else (X.1+1,X.2.1+n,wL X.2.2 n):=rfl
 obtain ⟨d1,d2,d3,d4⟩:=hD
 rw [hnt]
 have hld:=qR (G:=G) 961 77 (qB X) 1 X.2.1 rfl
 have had:=fun h1 h2=>qEP (G:=G) X n ⟨d1,by omega⟩ ⟨d3,d4⟩ ⟨h1,h2⟩
 refine rgn [] [[0,1,2]] ?_
 refine op1 tok ?_
 refine qA (rgn [] [[]] ?_)
 refine op1 tok ?_
 refine qG ?_
 refine qC.stepK [1,2,9] (qY rfl hc (by simp)) (by conv=>lhs; simp) rfl ?_
 refine qC.run [[1,2,7]] ?_
 refine op1 tok ?_
 refine qA (AW.seq (AW.block (rgn [] [[],[],[],[],[]] ?_)))
 iterate 3 refine op1 tok ?_
 iterate 2 refine op2 tok ?_
 refine qG ?_
 refine qC.stepYIf (b:=true) [1,2,7,13,14,16] 13 rfl rfl (by simp) (fun _=>yJ tok rfl rfl (by conv=>lhs; simp) (by simp) (by conv=>lhs; simp)) (by conv=>lhs; simp) ?_
 refine qC.run [[],[1,2,7,18],[],[],[],[1,2,7,22],[1,2,7,10]] ?_
 iterate 7 first | refine op1 tok ?_ | refine op2 tok ?_
 refine qA (cnd ?_ ?_)
 ·intro h10
  try simp at h10
  have h10':n<0:=by simpa using h10
  rw [if_pos (.inl h10')]
  refine rgn [] [[]] ?_
  refine op1 tok ?_
  refine qA ?_
  exact AW.ret zG
 intro h10
 try simp at h10
 have h10':¬ n<0:=by simpa using h10
 refine rgn [] [[],[],[]] ?_
 iterate 3 refine op1 tok ?_
 refine qG ?_
 refine qC.stepK [1,2,7,24,27] (zX (z:=0) tok 0 rfl rfl rfl rfl (by conv=>lhs; simp) trivial (by conv=>lhs; simp) trivial (by conv=>lhs; simp) (by simp) rfl) (by conv=>lhs; simp) rfl ?_
 refine qC.stepK [1,2,7,24,28] (zO tok rfl rfl rfl (by conv=>lhs; simp) trivial (by conv=>lhs; simp) rfl) (by conv=>lhs; simp) rfl ?_
 refine qC.run [[],[]] ?_
 iterate 2 refine op1 tok ?_
 refine qG ?_
 refine qC.stepK [1,2,7,24,31] (qY rfl hld (by simp)) (by conv=>lhs; simp) rfl ?_
 refine qC.run [[],[],[1,2,7,23]] ?_
 iterate 3 refine op1 tok ?_
 refine qA (cnd ?_ ?_)
 ·intro h23
  try simp at h23
  have h23':1099511627776-X.2.1<n:=by simpa using h23
  rw [if_pos (.inr h23')]
  refine rgn [] [[]] ?_
  refine op1 tok ?_
  refine qA ?_
  exact AW.ret zG
 intro h23
 try simp at h23
 have h23':¬ 1099511627776-X.2.1<n:=by simpa using h23
 rw [if_neg (by omega)]
 have had:=had (by omega) (by omega)
 refine AW.skip (rgn [] [[],[]] ?_)
 iterate 2 refine op1 tok ?_
 refine qG ?_
 refine qC.stepK [2,36] (zX (z:=0) tok 0 rfl rfl rfl rfl (by conv=>lhs; simp) trivial (by conv=>lhs; simp) trivial (by conv=>lhs; simp) (by simp) rfl) (by conv=>lhs; simp) rfl ?_
 refine qC.stepK [2,37] (zO tok rfl rfl rfl (by conv=>lhs; simp) trivial (by conv=>lhs; simp) rfl) (by conv=>lhs; simp) rfl ?_
 refine qC.run [[],[]] ?_
 iterate 2 refine op1 tok ?_
 refine qG ?_
 refine qC.stepK [] (qY rfl had (by simp)) (by conv=>lhs; simp) rfl ?_
 refine qC.nil ?_
 refine rgn [] [[]] ?_
 refine op1 tok ?_
 refine qA ?_
 exact AW.ret zG
theorem qGX (D:Nat→Int × Int × Int) (n:Int) (hD:DOK (D 0) 999999):AX Tryz.prog G 18 [.ptr 2 0,.p (.int .i64 0),.p (.int .i64 n)] [(2,.vars 71 [.p (.int .i64 5),.p (.int .u32 1),.p (.int .i32 0),.p (.int .u32 0),.ms 975]),(975,.prow 78 [.ptr 961 0,.ptr 962 0,.ptr 963 0,.ptr 964 0,.ptr 965 0]),(961,.vars 77 (qB (D 0))),(962,.vars 77 (qB (D 1))),(963,.vars 77 (qB (D 2))),(964,.vars 77 (qB (D 3))),(965,.vars 77 (qB (D 4)))] (.dead) [2,975,961,962,963,964,965] [(2,.vars 71 [.p (.int .i64 5),.p (.int .u32 1),.p (.int .i32 0),.p (.int .u32 0),.ms 975]),(975,.prow 78 [.ptr 961 0,.ptr 962 0,.ptr 963 0,.ptr 964 0,.ptr 965 0]),(961,.vars 77 (qB (qL (D 0) n))),(962,.vars 77 (qB (D 1))),(963,.vars 77 (qB (D 2))),(964,.vars 77 (qB (D 3))),(965,.vars 77 (qB (D 4)))]:=by
 refine AX.introU tok 740 Tryz.func18 (by kernel_rfl) rfl rfl ?_
 simp only [Tryz.f18,qV,List.map_cons,List.map_nil]
 have hc:=yD (G:=G) D
 have hD:DOK (D 0) 999999:=hD
 obtain ⟨X,hX⟩:∃ X,D 0=X:=⟨_,rfl⟩
 rw [hX] at hc hD
 rw [hX]
 have hnt:qL X n=if n<0∨1099511627776-X.2.1<n then X else (X.1+1,X.2.1+n,wL X.2.2 n):=rfl
 obtain ⟨d1,d2,d3,d4⟩:=hD
 rw [hnt]
 have hld:=qR (G:=G) 961 77 (qB X) 1 X.2.1 rfl
 have had:=fun h1 h2=>qEP (G:=G) X n ⟨d1,by omega⟩ ⟨d3,d4⟩ ⟨h1,h2⟩
 refine rgn [] [[0,1,2]] ?_
 refine op1 tok ?_
 refine qA (rgn [] [[]] ?_)
 refine op1 tok ?_
 refine qG ?_
 refine qC.stepK [1,2,9] (qY rfl hc (by simp)) (by conv=>lhs; simp) rfl ?_
 refine qC.run [[1,2,7]] ?_
 refine op1 tok ?_
 refine qA (AW.seq (AW.block (rgn [] [[],[],[],[],[]] ?_)))
 iterate 3 refine op1 tok ?_
 iterate 2 refine op2 tok ?_
 refine qG ?_
 refine qC.stepYIf (b:=true) [1,2,7,13,14,16] 13 rfl rfl (by simp) (fun _=>yJ tok rfl rfl (by conv=>lhs; simp) (by simp) (by conv=>lhs; simp)) (by conv=>lhs; simp) ?_
 refine qC.run [[],[1,2,7,18],[],[],[],[1,2,7,22],[1,2,7,10]] ?_
 iterate 7 first | refine op1 tok ?_ | refine op2 tok ?_
 refine qA (cnd ?_ ?_)
 ·intro h10
  try simp at h10
  have h10':n<0:=by simpa using h10
  rw [if_pos (.inl h10')]
  refine rgn [] [[]] ?_
  refine op1 tok ?_
  refine qA ?_
  exact AW.ret zG
 intro h10
 try simp at h10
 have h10':¬ n<0:=by simpa using h10
 refine rgn [] [[],[],[]] ?_
 iterate 3 refine op1 tok ?_
 refine qG ?_
 refine qC.stepK [1,2,7,24,27] (zX (z:=0) tok 0 rfl rfl rfl rfl (by conv=>lhs; simp) trivial (by conv=>lhs; simp) trivial (by conv=>lhs; simp) (by simp) rfl) (by conv=>lhs; simp) rfl ?_
 refine qC.stepK [1,2,7,24,28] (zO tok rfl rfl rfl (by conv=>lhs; simp) trivial (by conv=>lhs; simp) rfl) (by conv=>lhs; simp) rfl ?_
 refine qC.run [[],[]] ?_
 iterate 2 refine op1 tok ?_
 refine qG ?_
 refine qC.stepK [1,2,7,24,31] (qY rfl hld (by simp)) (by conv=>lhs; simp) rfl ?_
 refine qC.run [[],[],[1,2,7,23]] ?_
 iterate 3 refine op1 tok ?_
 refine qA (cnd ?_ ?_)
 ·intro h23
  try simp at h23
  have h23':1099511627776-X.2.1<n:=by simpa using h23
  rw [if_pos (.inr h23')]
  refine rgn [] [[]] ?_
  refine op1 tok ?_
  refine qA ?_
  exact AW.ret zG
 intro h23
 try simp at h23
 have h23':¬ 1099511627776-X.2.1<n:=by simpa using h23
 rw [if_neg (by omega)]
 have had:=had (by omega) (by omega)
 refine AW.skip (rgn [] [[],[]] ?_)
 iterate 2 refine op1 tok ?_
 refine qG ?_
 refine qC.stepK [2,36] (zX (z:=0) tok 0 rfl rfl rfl rfl (by conv=>lhs; simp) trivial (by conv=>lhs; simp) trivial (by conv=>lhs; simp) (by simp) rfl) (by conv=>lhs; simp) rfl ?_
 refine qC.stepK [2,37] (zO tok rfl rfl rfl (by conv=>lhs; simp) trivial (by conv=>lhs; simp) rfl) (by conv=>lhs; simp) rfl ?_
 refine qC.run [[],[]] ?_
 iterate 2 refine op1 tok ?_
 refine qG ?_
 refine qC.stepK [] (qY rfl had (by simp)) (by conv=>lhs; simp) rfl ?_
 refine qC.nil ?_
 refine rgn [] [[]] ?_
 refine op1 tok ?_
 refine qA ?_
 exact AW.ret zG
theorem qCC (D:Nat→Int × Int × Int) (n:Int) (hD:DOK (D 1) 999999):AX Tryz.prog G 18 [.ptr 2 0,.p (.int .i64 1),.p (.int .i64 n)] [(2,.vars 71 [.p (.int .i64 5),.p (.int .u32 1),.p (.int .i32 0),.p (.int .u32 0),.ms 975]),(975,.prow 78 [.ptr 961 0,.ptr 962 0,.ptr 963 0,.ptr 964 0,.ptr 965 0]),(961,.vars 77 (qB (D 0))),(962,.vars 77 (qB (D 1))),(963,.vars 77 (qB (D 2))),(964,.vars 77 (qB (D 3))),(965,.vars 77 (qB (D 4)))] (.dead) [2,975,961,962,963,964,965] [(2,.vars 71 [.p (.int .i64 5),.p (.int .u32 1),.p (.int .i32 0),.p (.int .u32 0),.ms 975]),(975,.prow 78 [.ptr 961 0,.ptr 962 0,.ptr 963 0,.ptr 964 0,.ptr 965 0]),(961,.vars 77 (qB (D 0))),(962,.vars 77 (qB (qL (D 1) n))),(963,.vars 77 (qB (D 2))),(964,.vars 77 (qB (D 3))),(965,.vars 77 (qB (D 4)))]:=by
 refine AX.introU tok 740 Tryz.func18 (by kernel_rfl) rfl rfl ?_
 simp only [Tryz.f18,qV,List.map_cons,List.map_nil]
 have hc:=yD (G:=G) D
 have hD:DOK (D 1) 999999:=hD
 obtain ⟨X,hX⟩:∃ X,D 1=X:=⟨_,rfl⟩
 rw [hX] at hc hD
 rw [hX]
 have hnt:qL X n=if n<0∨1099511627776-X.2.1<n then X else (X.1+1,X.2.1+n,wL X.2.2 n):=rfl
 obtain ⟨d1,d2,d3,d4⟩:=hD
 rw [hnt]
 have hld:=qR (G:=G) 962 77 (qB X) 1 X.2.1 rfl
 have had:=fun h1 h2=>qJD (G:=G) X n ⟨d1,by omega⟩ ⟨d3,d4⟩ ⟨h1,h2⟩
 refine rgn [] [[0,1,2]] ?_
 refine op1 tok ?_
 refine qA (rgn [] [[]] ?_)
 refine op1 tok ?_
 refine qG ?_
 refine qC.stepK [1,2,9] (qY rfl hc (by simp)) (by conv=>lhs; simp) rfl ?_
 refine qC.run [[1,2,7]] ?_
 refine op1 tok ?_
 refine qA (AW.seq (AW.block (rgn [] [[],[],[],[],[]] ?_)))
 iterate 3 refine op1 tok ?_
 iterate 2 refine op2 tok ?_
 refine qG ?_
 refine qC.stepYIf (b:=true) [1,2,7,13,14,16] 13 rfl rfl (by simp) (fun _=>yJ tok rfl rfl (by conv=>lhs; simp) (by simp) (by conv=>lhs; simp)) (by conv=>lhs; simp) ?_
 refine qC.run [[],[1,2,7,18],[],[],[],[1,2,7,22],[1,2,7,10]] ?_
 iterate 7 first | refine op1 tok ?_ | refine op2 tok ?_
 refine qA (cnd ?_ ?_)
 ·intro h10
  try simp at h10
  have h10':n<0:=by simpa using h10
  rw [if_pos (.inl h10')]
  refine rgn [] [[]] ?_
  refine op1 tok ?_
  refine qA ?_
  exact AW.ret zG
 intro h10
 try simp at h10
 have h10':¬ n<0:=by simpa using h10
 refine rgn [] [[],[],[]] ?_
 iterate 3 refine op1 tok ?_
 refine qG ?_
 refine qC.stepK [1,2,7,24,27] (zX (z:=1) tok 1 rfl rfl rfl rfl (by conv=>lhs; simp) trivial (by conv=>lhs; simp) trivial (by conv=>lhs; simp) (by simp) rfl) (by conv=>lhs; simp) rfl ?_
 refine qC.stepK [1,2,7,24,28] (zO tok rfl rfl rfl (by conv=>lhs; simp) trivial (by conv=>lhs; simp) rfl) (by conv=>lhs; simp) rfl ?_
 refine qC.run [[],[]] ?_
 iterate 2 refine op1 tok ?_
 refine qG ?_
 refine qC.stepK [1,2,7,24,31] (qY rfl hld (by simp)) (by conv=>lhs; simp) rfl ?_
 refine qC.run [[],[],[1,2,7,23]] ?_
 iterate 3 refine op1 tok ?_
 refine qA (cnd ?_ ?_)
 ·intro h23
  try simp at h23
  have h23':1099511627776-X.2.1<n:=by simpa using h23
  rw [if_pos (.inr h23')]
  refine rgn [] [[]] ?_
  refine op1 tok ?_
  refine qA ?_
  exact AW.ret zG
 intro h23
 try simp at h23
 have h23':¬ 1099511627776-X.2.1<n:=by simpa using h23
 rw [if_neg (by omega)]
 have had:=had (by omega) (by omega)
 refine AW.skip (rgn [] [[],[]] ?_)
 iterate 2 refine op1 tok ?_
 refine qG ?_
 refine qC.stepK [2,36] (zX (z:=1) tok 1 rfl rfl rfl rfl (by conv=>lhs; simp) trivial (by conv=>lhs; simp) trivial (by conv=>lhs; simp) (by simp) rfl) (by conv=>lhs; simp) rfl ?_
 refine qC.stepK [2,37] (zO tok rfl rfl rfl (by conv=>lhs; simp) trivial (by conv=>lhs; simp) rfl) (by conv=>lhs; simp) rfl ?_
 refine qC.run [[],[]] ?_
 iterate 2 refine op1 tok ?_
 refine qG ?_
 refine qC.stepK [] (qY rfl had (by simp)) (by conv=>lhs; simp) rfl ?_
 refine qC.nil ?_
 refine rgn [] [[]] ?_
 refine op1 tok ?_
 refine qA ?_
 exact AW.ret zG
theorem qCB (D:Nat→Int × Int × Int) (n:Int) (hD:DOK (D 2) 999999):AX Tryz.prog G 18 [.ptr 2 0,.p (.int .i64 2),.p (.int .i64 n)] [(2,.vars 71 [.p (.int .i64 5),.p (.int .u32 1),.p (.int .i32 0),.p (.int .u32 0),.ms 975]),(975,.prow 78 [.ptr 961 0,.ptr 962 0,.ptr 963 0,.ptr 964 0,.ptr 965 0]),(961,.vars 77 (qB (D 0))),(962,.vars 77 (qB (D 1))),(963,.vars 77 (qB (D 2))),(964,.vars 77 (qB (D 3))),(965,.vars 77 (qB (D 4)))] (.dead) [2,975,961,962,963,964,965] [(2,.vars 71 [.p (.int .i64 5),.p (.int .u32 1),.p (.int .i32 0),.p (.int .u32 0),.ms 975]),(975,.prow 78 [.ptr 961 0,.ptr 962 0,.ptr 963 0,.ptr 964 0,.ptr 965 0]),(961,.vars 77 (qB (D 0))),(962,.vars 77 (qB (D 1))),(963,.vars 77 (qB (qL (D 2) n))),(964,.vars 77 (qB (D 3))),(965,.vars 77 (qB (D 4)))]:=by
 refine AX.introU tok 740 Tryz.func18 (by kernel_rfl) rfl rfl ?_
 simp only [Tryz.f18,qV,List.map_cons,List.map_nil]
 have hc:=yD (G:=G) D
 have hD:DOK (D 2) 999999:=hD
 obtain ⟨X,hX⟩:∃ X,D 2=X:=⟨_,rfl⟩
 rw [hX] at hc hD
 rw [hX]
 have hnt:qL X n=if n<0∨1099511627776-X.2.1<n then X else (X.1+1,X.2.1+n,wL X.2.2 n):=rfl
 obtain ⟨d1,d2,d3,d4⟩:=hD
 rw [hnt]
 have hld:=qR (G:=G) 963 77 (qB X) 1 X.2.1 rfl
 have had:=fun h1 h2=>qJC (G:=G) X n ⟨d1,by omega⟩ ⟨d3,d4⟩ ⟨h1,h2⟩
 refine rgn [] [[0,1,2]] ?_
 refine op1 tok ?_
 refine qA (rgn [] [[]] ?_)
 refine op1 tok ?_
 refine qG ?_
 refine qC.stepK [1,2,9] (qY rfl hc (by simp)) (by conv=>lhs; simp) rfl ?_
 refine qC.run [[1,2,7]] ?_
 refine op1 tok ?_
 refine qA (AW.seq (AW.block (rgn [] [[],[],[],[],[]] ?_)))
 iterate 3 refine op1 tok ?_
 iterate 2 refine op2 tok ?_
 refine qG ?_
 refine qC.stepYIf (b:=true) [1,2,7,13,14,16] 13 rfl rfl (by simp) (fun _=>yJ tok rfl rfl (by conv=>lhs; simp) (by simp) (by conv=>lhs; simp)) (by conv=>lhs; simp) ?_
 refine qC.run [[],[1,2,7,18],[],[],[],[1,2,7,22],[1,2,7,10]] ?_
 iterate 7 first | refine op1 tok ?_ | refine op2 tok ?_
 refine qA (cnd ?_ ?_)
 ·intro h10
  try simp at h10
  have h10':n<0:=by simpa using h10
  rw [if_pos (.inl h10')]
  refine rgn [] [[]] ?_
  refine op1 tok ?_
  refine qA ?_
  exact AW.ret zG
 intro h10
 try simp at h10
 have h10':¬ n<0:=by simpa using h10
 refine rgn [] [[],[],[]] ?_
 iterate 3 refine op1 tok ?_
 refine qG ?_
 refine qC.stepK [1,2,7,24,27] (zX (z:=2) tok 2 rfl rfl rfl rfl (by conv=>lhs; simp) trivial (by conv=>lhs; simp) trivial (by conv=>lhs; simp) (by simp) rfl) (by conv=>lhs; simp) rfl ?_
 refine qC.stepK [1,2,7,24,28] (zO tok rfl rfl rfl (by conv=>lhs; simp) trivial (by conv=>lhs; simp) rfl) (by conv=>lhs; simp) rfl ?_
 refine qC.run [[],[]] ?_
 iterate 2 refine op1 tok ?_
 refine qG ?_
 refine qC.stepK [1,2,7,24,31] (qY rfl hld (by simp)) (by conv=>lhs; simp) rfl ?_
 refine qC.run [[],[],[1,2,7,23]] ?_
 iterate 3 refine op1 tok ?_
 refine qA (cnd ?_ ?_)
 ·intro h23
  try simp at h23
  have h23':1099511627776-X.2.1<n:=by simpa using h23
  rw [if_pos (.inr h23')]
  refine rgn [] [[]] ?_
  refine op1 tok ?_
  refine qA ?_
  exact AW.ret zG
 intro h23
 try simp at h23
 have h23':¬ 1099511627776-X.2.1<n:=by simpa using h23
 rw [if_neg (by omega)]
 have had:=had (by omega) (by omega)
 refine AW.skip (rgn [] [[],[]] ?_)
 iterate 2 refine op1 tok ?_
 refine qG ?_
 refine qC.stepK [2,36] (zX (z:=2) tok 2 rfl rfl rfl rfl (by conv=>lhs; simp) trivial (by conv=>lhs; simp) trivial (by conv=>lhs; simp) (by simp) rfl) (by conv=>lhs; simp) rfl ?_
 refine qC.stepK [2,37] (zO tok rfl rfl rfl (by conv=>lhs; simp) trivial (by conv=>lhs; simp) rfl) (by conv=>lhs; simp) rfl ?_
 refine qC.run [[],[]] ?_
 iterate 2 refine op1 tok ?_
 refine qG ?_
 refine qC.stepK [] (qY rfl had (by simp)) (by conv=>lhs; simp) rfl ?_
 refine qC.nil ?_
 refine rgn [] [[]] ?_
 refine op1 tok ?_
 refine qA ?_
 exact AW.ret zG
theorem qCA (D:Nat→Int × Int × Int) (n:Int) (hD:DOK (D 3) 999999):AX Tryz.prog G 18 [.ptr 2 0,.p (.int .i64 3),.p (.int .i64 n)] [(2,.vars 71 [.p (.int .i64 5),.p (.int .u32 1),.p (.int .i32 0),.p (.int .u32 0),.ms 975]),(975,.prow 78 [.ptr 961 0,.ptr 962 0,.ptr 963 0,.ptr 964 0,.ptr 965 0]),(961,.vars 77 (qB (D 0))),(962,.vars 77 (qB (D 1))),(963,.vars 77 (qB (D 2))),(964,.vars 77 (qB (D 3))),(965,.vars 77 (qB (D 4)))] (.dead) [2,975,961,962,963,964,965] [(2,.vars 71 [.p (.int .i64 5),.p (.int .u32 1),.p (.int .i32 0),.p (.int .u32 0),.ms 975]),(975,.prow 78 [.ptr 961 0,.ptr 962 0,.ptr 963 0,.ptr 964 0,.ptr 965 0]),(961,.vars 77 (qB (D 0))),(962,.vars 77 (qB (D 1))),(963,.vars 77 (qB (D 2))),(964,.vars 77 (qB (qL (D 3) n))),(965,.vars 77 (qB (D 4)))]:=by
 refine AX.introU tok 740 Tryz.func18 (by kernel_rfl) rfl rfl ?_
 simp only [Tryz.f18,qV,List.map_cons,List.map_nil]
 have hc:=yD (G:=G) D
 have hD:DOK (D 3) 999999:=hD
 obtain ⟨X,hX⟩:∃ X,D 3=X:=⟨_,rfl⟩
 rw [hX] at hc hD
 rw [hX]
 have hnt:qL X n=if n<0∨1099511627776-X.2.1<n then X else (X.1+1,X.2.1+n,wL X.2.2 n):=rfl
 obtain ⟨d1,d2,d3,d4⟩:=hD
 rw [hnt]
 have hld:=qR (G:=G) 964 77 (qB X) 1 X.2.1 rfl
 have had:=fun h1 h2=>qJB (G:=G) X n ⟨d1,by omega⟩ ⟨d3,d4⟩ ⟨h1,h2⟩
 refine rgn [] [[0,1,2]] ?_
 refine op1 tok ?_
 refine qA (rgn [] [[]] ?_)
 refine op1 tok ?_
 refine qG ?_
 refine qC.stepK [1,2,9] (qY rfl hc (by simp)) (by conv=>lhs; simp) rfl ?_
 refine qC.run [[1,2,7]] ?_
 refine op1 tok ?_
 refine qA (AW.seq (AW.block (rgn [] [[],[],[],[],[]] ?_)))
 iterate 3 refine op1 tok ?_
 iterate 2 refine op2 tok ?_
 refine qG ?_
 refine qC.stepYIf (b:=true) [1,2,7,13,14,16] 13 rfl rfl (by simp) (fun _=>yJ tok rfl rfl (by conv=>lhs; simp) (by simp) (by conv=>lhs; simp)) (by conv=>lhs; simp) ?_
 refine qC.run [[],[1,2,7,18],[],[],[],[1,2,7,22],[1,2,7,10]] ?_
 iterate 7 first | refine op1 tok ?_ | refine op2 tok ?_
 refine qA (cnd ?_ ?_)
 ·intro h10
  try simp at h10
  have h10':n<0:=by simpa using h10
  rw [if_pos (.inl h10')]
  refine rgn [] [[]] ?_
  refine op1 tok ?_
  refine qA ?_
  exact AW.ret zG
 intro h10
 try simp at h10
 have h10':¬ n<0:=by simpa using h10
 refine rgn [] [[],[],[]] ?_
 iterate 3 refine op1 tok ?_
 refine qG ?_
 refine qC.stepK [1,2,7,24,27] (zX (z:=3) tok 3 rfl rfl rfl rfl (by conv=>lhs; simp) trivial (by conv=>lhs; simp) trivial (by conv=>lhs; simp) (by simp) rfl) (by conv=>lhs; simp) rfl ?_
 refine qC.stepK [1,2,7,24,28] (zO tok rfl rfl rfl (by conv=>lhs; simp) trivial (by conv=>lhs; simp) rfl) (by conv=>lhs; simp) rfl ?_
 refine qC.run [[],[]] ?_
 iterate 2 refine op1 tok ?_
 refine qG ?_
 refine qC.stepK [1,2,7,24,31] (qY rfl hld (by simp)) (by conv=>lhs; simp) rfl ?_
 refine qC.run [[],[],[1,2,7,23]] ?_
 iterate 3 refine op1 tok ?_
 refine qA (cnd ?_ ?_)
 ·intro h23
  try simp at h23
  have h23':1099511627776-X.2.1<n:=by simpa using h23
  rw [if_pos (.inr h23')]
  refine rgn [] [[]] ?_
  refine op1 tok ?_
  refine qA ?_
  exact AW.ret zG
 intro h23
 try simp at h23
 have h23':¬ 1099511627776-X.2.1<n:=by simpa using h23
 rw [if_neg (by omega)]
 have had:=had (by omega) (by omega)
 refine AW.skip (rgn [] [[],[]] ?_)
 iterate 2 refine op1 tok ?_
 refine qG ?_
 refine qC.stepK [2,36] (zX (z:=3) tok 3 rfl rfl rfl rfl (by conv=>lhs; simp) trivial (by conv=>lhs; simp) trivial (by conv=>lhs; simp) (by simp) rfl) (by conv=>lhs; simp) rfl ?_
 refine qC.stepK [2,37] (zO tok rfl rfl rfl (by conv=>lhs; simp) trivial (by conv=>lhs; simp) rfl) (by conv=>lhs; simp) rfl ?_
 refine qC.run [[],[]] ?_
 iterate 2 refine op1 tok ?_
 refine qG ?_
 refine qC.stepK [] (qY rfl had (by simp)) (by conv=>lhs; simp) rfl ?_
 refine qC.nil ?_
 refine rgn [] [[]] ?_
 refine op1 tok ?_
 refine qA ?_
 exact AW.ret zG
theorem qBZ (D:Nat→Int × Int × Int) (n:Int) (hD:DOK (D 4) 999999):AX Tryz.prog G 18 [.ptr 2 0,.p (.int .i64 4),.p (.int .i64 n)] [(2,.vars 71 [.p (.int .i64 5),.p (.int .u32 1),.p (.int .i32 0),.p (.int .u32 0),.ms 975]),(975,.prow 78 [.ptr 961 0,.ptr 962 0,.ptr 963 0,.ptr 964 0,.ptr 965 0]),(961,.vars 77 (qB (D 0))),(962,.vars 77 (qB (D 1))),(963,.vars 77 (qB (D 2))),(964,.vars 77 (qB (D 3))),(965,.vars 77 (qB (D 4)))] (.dead) [2,975,961,962,963,964,965] [(2,.vars 71 [.p (.int .i64 5),.p (.int .u32 1),.p (.int .i32 0),.p (.int .u32 0),.ms 975]),(975,.prow 78 [.ptr 961 0,.ptr 962 0,.ptr 963 0,.ptr 964 0,.ptr 965 0]),(961,.vars 77 (qB (D 0))),(962,.vars 77 (qB (D 1))),(963,.vars 77 (qB (D 2))),(964,.vars 77 (qB (D 3))),(965,.vars 77 (qB (qL (D 4) n)))]:=by
 refine AX.introU tok 740 Tryz.func18 (by kernel_rfl) rfl rfl ?_
 simp only [Tryz.f18,qV,List.map_cons,List.map_nil]
 have hc:=yD (G:=G) D
 have hD:DOK (D 4) 999999:=hD
 obtain ⟨X,hX⟩:∃ X,D 4=X:=⟨_,rfl⟩
 rw [hX] at hc hD
 rw [hX]
 have hnt:qL X n=if n<0∨1099511627776-X.2.1<n then X else (X.1+1,X.2.1+n,wL X.2.2 n):=rfl
 obtain ⟨d1,d2,d3,d4⟩:=hD
 rw [hnt]
 have hld:=qR (G:=G) 965 77 (qB X) 1 X.2.1 rfl
 have had:=fun h1 h2=>qJA (G:=G) X n ⟨d1,by omega⟩ ⟨d3,d4⟩ ⟨h1,h2⟩
 refine rgn [] [[0,1,2]] ?_
 refine op1 tok ?_
 refine qA (rgn [] [[]] ?_)
 refine op1 tok ?_
 refine qG ?_
 refine qC.stepK [1,2,9] (qY rfl hc (by simp)) (by conv=>lhs; simp) rfl ?_
 refine qC.run [[1,2,7]] ?_
 refine op1 tok ?_
 refine qA (AW.seq (AW.block (rgn [] [[],[],[],[],[]] ?_)))
 iterate 3 refine op1 tok ?_
 iterate 2 refine op2 tok ?_
 refine qG ?_
 refine qC.stepYIf (b:=true) [1,2,7,13,14,16] 13 rfl rfl (by simp) (fun _=>yJ tok rfl rfl (by conv=>lhs; simp) (by simp) (by conv=>lhs; simp)) (by conv=>lhs; simp) ?_
 refine qC.run [[],[1,2,7,18],[],[],[],[1,2,7,22],[1,2,7,10]] ?_
 iterate 7 first | refine op1 tok ?_ | refine op2 tok ?_
 refine qA (cnd ?_ ?_)
 ·intro h10
  try simp at h10
  have h10':n<0:=by simpa using h10
  rw [if_pos (.inl h10')]
  refine rgn [] [[]] ?_
  refine op1 tok ?_
  refine qA ?_
  exact AW.ret zG
 intro h10
 try simp at h10
 have h10':¬ n<0:=by simpa using h10
 refine rgn [] [[],[],[]] ?_
 iterate 3 refine op1 tok ?_
 refine qG ?_
 refine qC.stepK [1,2,7,24,27] (zX (z:=4) tok 4 rfl rfl rfl rfl (by conv=>lhs; simp) trivial (by conv=>lhs; simp) trivial (by conv=>lhs; simp) (by simp) rfl) (by conv=>lhs; simp) rfl ?_
 refine qC.stepK [1,2,7,24,28] (zO tok rfl rfl rfl (by conv=>lhs; simp) trivial (by conv=>lhs; simp) rfl) (by conv=>lhs; simp) rfl ?_
 refine qC.run [[],[]] ?_
 iterate 2 refine op1 tok ?_
 refine qG ?_
 refine qC.stepK [1,2,7,24,31] (qY rfl hld (by simp)) (by conv=>lhs; simp) rfl ?_
 refine qC.run [[],[],[1,2,7,23]] ?_
 iterate 3 refine op1 tok ?_
 refine qA (cnd ?_ ?_)
 ·intro h23
  try simp at h23
  have h23':1099511627776-X.2.1<n:=by simpa using h23
  rw [if_pos (.inr h23')]
  refine rgn [] [[]] ?_
  refine op1 tok ?_
  refine qA ?_
  exact AW.ret zG
 intro h23
 try simp at h23
 have h23':¬ 1099511627776-X.2.1<n:=by simpa using h23
 rw [if_neg (by omega)]
 have had:=had (by omega) (by omega)
 refine AW.skip (rgn [] [[],[]] ?_)
 iterate 2 refine op1 tok ?_
 refine qG ?_
 refine qC.stepK [2,36] (zX (z:=4) tok 4 rfl rfl rfl rfl (by conv=>lhs; simp) trivial (by conv=>lhs; simp) trivial (by conv=>lhs; simp) (by simp) rfl) (by conv=>lhs; simp) rfl ?_
 refine qC.stepK [2,37] (zO tok rfl rfl rfl (by conv=>lhs; simp) trivial (by conv=>lhs; simp) rfl) (by conv=>lhs; simp) rfl ?_
 refine qC.run [[],[]] ?_
 iterate 2 refine op1 tok ?_
 refine qG ?_
 refine qC.stepK [] (qY rfl had (by simp)) (by conv=>lhs; simp) rfl ?_
 refine qC.nil ?_
 refine rgn [] [[]] ?_
 refine op1 tok ?_
 refine qA ?_
 exact AW.ret zG
theorem qKG  : AX Tryz.prog G 31 [.ptr 2 0,.p (.int .i64 0)] [(2,.vars 71 [.p (.int .i64 5),.p (.int .u32 0),.p (.int .i32 0),.p (.int .u32 0),.nilsl])] (.tuple [.p (.int .i64 (D0 0).1),.p (.int .i64 (D0 0).2.1),.p (.int .i64 (D0 0).2.2)]) [2] [(2,.vars 71 [.p (.int .i64 5),.p (.int .u32 1),.p (.int .i32 0),.p (.int .u32 0),.ms 975]),(975,.prow 78 [.ptr 961 0,.ptr 962 0,.ptr 963 0,.ptr 964 0,.ptr 965 0]),(961,.vars 77 (qB (D0 0))),(962,.vars 77 (qB (D0 1))),(963,.vars 77 (qB (D0 2))),(964,.vars 77 (qB (D0 3))),(965,.vars 77 (qB (D0 4)))]:=by
 refine AX.introU tok 740 Tryz.func31 (by kernel_rfl) rfl rfl ?_
 simp only [Tryz.f31,qV,List.map_cons,List.map_nil]
 have hc:=qGI (G:=G)
 obtain ⟨X,hX⟩:∃ X,D0 0=X:=⟨_,rfl⟩
 rw [hX] at hc
 rw [hX]
 have l0:=qR (G:=G) 961 77 (qB X) 0 X.1 rfl
 have l1:=qR (G:=G) 961 77 (qB X) 1 X.2.1 rfl
 have l2:=qR (G:=G) 961 77 (qB X) 2 X.2.2 rfl
 refine rgn [] [[],[],[0,1]] ?_
 iterate 3 refine op1 tok ?_
 refine qA (rgn [] [[]] ?_)
 refine op1 tok ?_
 refine qG ?_
 refine qC.stepK [1,10] (qY rfl hc (by simp)) (by conv=>lhs; simp) rfl ?_
 refine qC.run [[1,7]] ?_
 refine op1 tok ?_
 refine qA (AW.seq (rgn [] [[],[],[],[],[]] ?_))
 iterate 3 refine op1 tok ?_
 iterate 2 refine op2 tok ?_
 refine qG ?_
 refine qC.stepYIf (b:=true) [1,7,13,14,16] 13 rfl rfl (by simp) (fun _=>yJ tok rfl rfl (by conv=>lhs; simp) (by simp) (by conv=>lhs; simp)) (by conv=>lhs; simp) ?_
 refine qC.run [[],[1,7,18]] ?_
 refine op2 tok ?_
 refine op1 tok ?_
 refine qA (cnd ?_ ?_)
 ·intro h18
  try simp at h18
 intro h18
 try simp at h18
 refine AW.skip (rgn [] [[],[]] ?_)
 iterate 2 refine op1 tok ?_
 refine qG ?_
 refine qC.stepK [21] (zX (z:=0) tok 0 rfl rfl rfl rfl (by conv=>lhs; simp) trivial (by conv=>lhs; simp) trivial (by conv=>lhs; simp) (by simp) rfl) (by conv=>lhs; simp) rfl ?_
 refine qC.stepK [22] (zO tok rfl rfl rfl (by conv=>lhs; simp) trivial (by conv=>lhs; simp) rfl) (by conv=>lhs; simp) rfl ?_
 refine qC.run [[8]] ?_
 refine op1 tok ?_
 refine qA ?_
 refine AW.seqDrawR mixed 14 [[8],[23],[24],[25],[8],[27],[28],[29],[8],[31],[32],[33],[26],[30]] [] (by kernel_rfl) ?_
 iterate 3 refine qJ.one tok (orc:=[]) (by intro C; conv=>lhs; simp) (by first | with_reducible exact True.intro | omega | simp | (simp +contextual; omega)) rfl (by kernel_rfl) ?_
 refine qJ.callQ l0 rfl rfl (by simp) (by simp) (by simp) (by simp) (by first | (simp; done) | (simp; omega)) (by first | (simp; done) | (simp; omega)) (by kernel_rfl) (by conv=>lhs; simp) ?_
 iterate 3 refine qJ.one tok (orc:=[]) (by intro C; conv=>lhs; simp) (by first | with_reducible exact True.intro | omega | simp | (simp +contextual; omega)) rfl (by kernel_rfl) ?_
 refine qJ.callQ l1 rfl rfl (by simp) (by simp) (by simp) (by simp) (by first | (simp; done) | (simp; omega)) (by first | (simp; done) | (simp; omega)) (by kernel_rfl) (by conv=>lhs; simp) ?_
 iterate 3 refine qJ.one tok (orc:=[]) (by intro C; conv=>lhs; simp) (by first | with_reducible exact True.intro | omega | simp | (simp +contextual; omega)) rfl (by kernel_rfl) ?_
 refine qJ.callQ l2 rfl rfl (by simp) (by simp) (by simp) (by simp) (by first | (simp; done) | (simp; omega)) (by first | (simp; done) | (simp; omega)) (by kernel_rfl) (by conv=>lhs; simp) ?_
 iterate 2 refine qJ.one tok (orc:=[]) (by intro C; conv=>lhs; simp) (by first | with_reducible exact True.intro | omega | simp | (simp +contextual; omega)) rfl (by kernel_rfl) ?_
 refine qJ.nil (by kernel_rfl) ⟨by kernel_rfl, ?_⟩
 refine qC.run [[4,5,6]] ?_
 refine op1 tok ?_
 refine qA ?_
 exact AW.ret zG
theorem qKF (D:Nat→Int × Int × Int):AX Tryz.prog G 31 [.ptr 2 0,.p (.int .i64 0)] [(2,.vars 71 [.p (.int .i64 5),.p (.int .u32 1),.p (.int .i32 0),.p (.int .u32 0),.ms 975]),(975,.prow 78 [.ptr 961 0,.ptr 962 0,.ptr 963 0,.ptr 964 0,.ptr 965 0]),(961,.vars 77 (qB (D 0))),(962,.vars 77 (qB (D 1))),(963,.vars 77 (qB (D 2))),(964,.vars 77 (qB (D 3))),(965,.vars 77 (qB (D 4)))] (.tuple [.p (.int .i64 (D 0).1),.p (.int .i64 (D 0).2.1),.p (.int .i64 (D 0).2.2)]) [2,975,961,962,963,964,965] [(2,.vars 71 [.p (.int .i64 5),.p (.int .u32 1),.p (.int .i32 0),.p (.int .u32 0),.ms 975]),(975,.prow 78 [.ptr 961 0,.ptr 962 0,.ptr 963 0,.ptr 964 0,.ptr 965 0]),(961,.vars 77 (qB (D 0))),(962,.vars 77 (qB (D 1))),(963,.vars 77 (qB (D 2))),(964,.vars 77 (qB (D 3))),(965,.vars 77 (qB (D 4)))]:=by
 refine AX.introU tok 740 Tryz.func31 (by kernel_rfl) rfl rfl ?_
 simp only [Tryz.f31,qV,List.map_cons,List.map_nil]
 have hc:=yD (G:=G) D
 obtain ⟨X,hX⟩:∃ X,D 0=X:=⟨_,rfl⟩
 rw [hX] at hc
 rw [hX]
 have l0:=qR (G:=G) 961 77 (qB X) 0 X.1 rfl
 have l1:=qR (G:=G) 961 77 (qB X) 1 X.2.1 rfl
 have l2:=qR (G:=G) 961 77 (qB X) 2 X.2.2 rfl
 refine rgn [] [[],[],[0,1]] ?_
 iterate 3 refine op1 tok ?_
 refine qA (rgn [] [[]] ?_)
 refine op1 tok ?_
 refine qG ?_
 refine qC.stepK [1,10] (qY rfl hc (by simp)) (by conv=>lhs; simp) rfl ?_
 refine qC.run [[1,7]] ?_
 refine op1 tok ?_
 refine qA (AW.seq (rgn [] [[],[],[],[],[]] ?_))
 iterate 3 refine op1 tok ?_
 iterate 2 refine op2 tok ?_
 refine qG ?_
 refine qC.stepYIf (b:=true) [1,7,13,14,16] 13 rfl rfl (by simp) (fun _=>yJ tok rfl rfl (by conv=>lhs; simp) (by simp) (by conv=>lhs; simp)) (by conv=>lhs; simp) ?_
 refine qC.run [[],[1,7,18]] ?_
 refine op2 tok ?_
 refine op1 tok ?_
 refine qA (cnd ?_ ?_)
 ·intro h18
  try simp at h18
 intro h18
 try simp at h18
 refine AW.skip (rgn [] [[],[]] ?_)
 iterate 2 refine op1 tok ?_
 refine qG ?_
 refine qC.stepK [21] (zX (z:=0) tok 0 rfl rfl rfl rfl (by conv=>lhs; simp) trivial (by conv=>lhs; simp) trivial (by conv=>lhs; simp) (by simp) rfl) (by conv=>lhs; simp) rfl ?_
 refine qC.stepK [22] (zO tok rfl rfl rfl (by conv=>lhs; simp) trivial (by conv=>lhs; simp) rfl) (by conv=>lhs; simp) rfl ?_
 refine qC.run [[8]] ?_
 refine op1 tok ?_
 refine qA ?_
 refine AW.seqDrawR mixed 14 [[8],[23],[24],[25],[8],[27],[28],[29],[8],[31],[32],[33],[26],[30]] [] (by kernel_rfl) ?_
 iterate 3 refine qJ.one tok (orc:=[]) (by intro C; conv=>lhs; simp) (by first | with_reducible exact True.intro | omega | simp | (simp +contextual; omega)) rfl (by kernel_rfl) ?_
 refine qJ.callQ l0 rfl rfl (by simp) (by simp) (by simp) (by simp) (by first | (simp; done) | (simp; omega)) (by first | (simp; done) | (simp; omega)) (by kernel_rfl) (by conv=>lhs; simp) ?_
 iterate 3 refine qJ.one tok (orc:=[]) (by intro C; conv=>lhs; simp) (by first | with_reducible exact True.intro | omega | simp | (simp +contextual; omega)) rfl (by kernel_rfl) ?_
 refine qJ.callQ l1 rfl rfl (by simp) (by simp) (by simp) (by simp) (by first | (simp; done) | (simp; omega)) (by first | (simp; done) | (simp; omega)) (by kernel_rfl) (by conv=>lhs; simp) ?_
 iterate 3 refine qJ.one tok (orc:=[]) (by intro C; conv=>lhs; simp) (by first | with_reducible exact True.intro | omega | simp | (simp +contextual; omega)) rfl (by kernel_rfl) ?_
 refine qJ.callQ l2 rfl rfl (by simp) (by simp) (by simp) (by simp) (by first | (simp; done) | (simp; omega)) (by first | (simp; done) | (simp; omega)) (by kernel_rfl) (by conv=>lhs; simp) ?_
 iterate 2 refine qJ.one tok (orc:=[]) (by intro C; conv=>lhs; simp) (by first | with_reducible exact True.intro | omega | simp | (simp +contextual; omega)) rfl (by kernel_rfl) ?_
 refine qJ.nil (by kernel_rfl) ⟨by kernel_rfl, ?_⟩
 refine qC.run [[4,5,6]] ?_
 refine op1 tok ?_
 refine qA ?_
 exact AW.ret zG
theorem qFZ (D:Nat→Int × Int × Int):AX Tryz.prog G 31 [.ptr 2 0,.p (.int .i64 1)] [(2,.vars 71 [.p (.int .i64 5),.p (.int .u32 1),.p (.int .i32 0),.p (.int .u32 0),.ms 975]),(975,.prow 78 [.ptr 961 0,.ptr 962 0,.ptr 963 0,.ptr 964 0,.ptr 965 0]),(961,.vars 77 (qB (D 0))),(962,.vars 77 (qB (D 1))),(963,.vars 77 (qB (D 2))),(964,.vars 77 (qB (D 3))),(965,.vars 77 (qB (D 4)))] (.tuple [.p (.int .i64 (D 1).1),.p (.int .i64 (D 1).2.1),.p (.int .i64 (D 1).2.2)]) [2,975,961,962,963,964,965] [(2,.vars 71 [.p (.int .i64 5),.p (.int .u32 1),.p (.int .i32 0),.p (.int .u32 0),.ms 975]),(975,.prow 78 [.ptr 961 0,.ptr 962 0,.ptr 963 0,.ptr 964 0,.ptr 965 0]),(961,.vars 77 (qB (D 0))),(962,.vars 77 (qB (D 1))),(963,.vars 77 (qB (D 2))),(964,.vars 77 (qB (D 3))),(965,.vars 77 (qB (D 4)))]:=by
 refine AX.introU tok 740 Tryz.func31 (by kernel_rfl) rfl rfl ?_
 simp only [Tryz.f31,qV,List.map_cons,List.map_nil]
 have hc:=yD (G:=G) D
 obtain ⟨X,hX⟩:∃ X,D 1=X:=⟨_,rfl⟩
 rw [hX] at hc
 rw [hX]
 have l0:=qR (G:=G) 962 77 (qB X) 0 X.1 rfl
 have l1:=qR (G:=G) 962 77 (qB X) 1 X.2.1 rfl
 have l2:=qR (G:=G) 962 77 (qB X) 2 X.2.2 rfl
 refine rgn [] [[],[],[0,1]] ?_
 iterate 3 refine op1 tok ?_
 refine qA (rgn [] [[]] ?_)
 refine op1 tok ?_
 refine qG ?_
 refine qC.stepK [1,10] (qY rfl hc (by simp)) (by conv=>lhs; simp) rfl ?_
 refine qC.run [[1,7]] ?_
 refine op1 tok ?_
 refine qA (AW.seq (rgn [] [[],[],[],[],[]] ?_))
 iterate 3 refine op1 tok ?_
 iterate 2 refine op2 tok ?_
 refine qG ?_
 refine qC.stepYIf (b:=true) [1,7,13,14,16] 13 rfl rfl (by simp) (fun _=>yJ tok rfl rfl (by conv=>lhs; simp) (by simp) (by conv=>lhs; simp)) (by conv=>lhs; simp) ?_
 refine qC.run [[],[1,7,18]] ?_
 refine op2 tok ?_
 refine op1 tok ?_
 refine qA (cnd ?_ ?_)
 ·intro h18
  try simp at h18
 intro h18
 try simp at h18
 refine AW.skip (rgn [] [[],[]] ?_)
 iterate 2 refine op1 tok ?_
 refine qG ?_
 refine qC.stepK [21] (zX (z:=1) tok 1 rfl rfl rfl rfl (by conv=>lhs; simp) trivial (by conv=>lhs; simp) trivial (by conv=>lhs; simp) (by simp) rfl) (by conv=>lhs; simp) rfl ?_
 refine qC.stepK [22] (zO tok rfl rfl rfl (by conv=>lhs; simp) trivial (by conv=>lhs; simp) rfl) (by conv=>lhs; simp) rfl ?_
 refine qC.run [[8]] ?_
 refine op1 tok ?_
 refine qA ?_
 refine AW.seqDrawR mixed 14 [[8],[23],[24],[25],[8],[27],[28],[29],[8],[31],[32],[33],[26],[30]] [] (by kernel_rfl) ?_
 iterate 3 refine qJ.one tok (orc:=[]) (by intro C; conv=>lhs; simp) (by first | with_reducible exact True.intro | omega | simp | (simp +contextual; omega)) rfl (by kernel_rfl) ?_
 refine qJ.callQ l0 rfl rfl (by simp) (by simp) (by simp) (by simp) (by first | (simp; done) | (simp; omega)) (by first | (simp; done) | (simp; omega)) (by kernel_rfl) (by conv=>lhs; simp) ?_
 iterate 3 refine qJ.one tok (orc:=[]) (by intro C; conv=>lhs; simp) (by first | with_reducible exact True.intro | omega | simp | (simp +contextual; omega)) rfl (by kernel_rfl) ?_
 refine qJ.callQ l1 rfl rfl (by simp) (by simp) (by simp) (by simp) (by first | (simp; done) | (simp; omega)) (by first | (simp; done) | (simp; omega)) (by kernel_rfl) (by conv=>lhs; simp) ?_
 iterate 3 refine qJ.one tok (orc:=[]) (by intro C; conv=>lhs; simp) (by first | with_reducible exact True.intro | omega | simp | (simp +contextual; omega)) rfl (by kernel_rfl) ?_
 refine qJ.callQ l2 rfl rfl (by simp) (by simp) (by simp) (by simp) (by first | (simp; done) | (simp; omega)) (by first | (simp; done) | (simp; omega)) (by kernel_rfl) (by conv=>lhs; simp) ?_
 iterate 2 refine qJ.one tok (orc:=[]) (by intro C; conv=>lhs; simp) (by first | with_reducible exact True.intro | omega | simp | (simp +contextual; omega)) rfl (by kernel_rfl) ?_
 refine qJ.nil (by kernel_rfl) ⟨by kernel_rfl, ?_⟩
 refine qC.run [[4,5,6]] ?_
 refine op1 tok ?_
 refine qA ?_
 exact AW.ret zG
theorem qFY (D:Nat→Int × Int × Int):AX Tryz.prog G 31 [.ptr 2 0,.p (.int .i64 2)] [(2,.vars 71 [.p (.int .i64 5),.p (.int .u32 1),.p (.int .i32 0),.p (.int .u32 0),.ms 975]),(975,.prow 78 [.ptr 961 0,.ptr 962 0,.ptr 963 0,.ptr 964 0,.ptr 965 0]),(961,.vars 77 (qB (D 0))),(962,.vars 77 (qB (D 1))),(963,.vars 77 (qB (D 2))),(964,.vars 77 (qB (D 3))),(965,.vars 77 (qB (D 4)))] (.tuple [.p (.int .i64 (D 2).1),.p (.int .i64 (D 2).2.1),.p (.int .i64 (D 2).2.2)]) [2,975,961,962,963,964,965] [(2,.vars 71 [.p (.int .i64 5),.p (.int .u32 1),.p (.int .i32 0),.p (.int .u32 0),.ms 975]),(975,.prow 78 [.ptr 961 0,.ptr 962 0,.ptr 963 0,.ptr 964 0,.ptr 965 0]),(961,.vars 77 (qB (D 0))),(962,.vars 77 (qB (D 1))),(963,.vars 77 (qB (D 2))),(964,.vars 77 (qB (D 3))),(965,.vars 77 (qB (D 4)))]:=by
 refine AX.introU tok 740 Tryz.func31 (by kernel_rfl) rfl rfl ?_
 simp only [Tryz.f31,qV,List.map_cons,List.map_nil]
 have hc:=yD (G:=G) D
 obtain ⟨X,hX⟩:∃ X,D 2=X:=⟨_,rfl⟩
 rw [hX] at hc
 rw [hX]
 have l0:=qR (G:=G) 963 77 (qB X) 0 X.1 rfl
 have l1:=qR (G:=G) 963 77 (qB X) 1 X.2.1 rfl
 have l2:=qR (G:=G) 963 77 (qB X) 2 X.2.2 rfl
 refine rgn [] [[],[],[0,1]] ?_
 iterate 3 refine op1 tok ?_
 refine qA (rgn [] [[]] ?_)
 refine op1 tok ?_
 refine qG ?_
 refine qC.stepK [1,10] (qY rfl hc (by simp)) (by conv=>lhs; simp) rfl ?_
 refine qC.run [[1,7]] ?_
 refine op1 tok ?_
 refine qA (AW.seq (rgn [] [[],[],[],[],[]] ?_))
 iterate 3 refine op1 tok ?_
 iterate 2 refine op2 tok ?_
 refine qG ?_
 refine qC.stepYIf (b:=true) [1,7,13,14,16] 13 rfl rfl (by simp) (fun _=>yJ tok rfl rfl (by conv=>lhs; simp) (by simp) (by conv=>lhs; simp)) (by conv=>lhs; simp) ?_
 refine qC.run [[],[1,7,18]] ?_
 refine op2 tok ?_
 refine op1 tok ?_
 refine qA (cnd ?_ ?_)
 ·intro h18
  try simp at h18
 intro h18
 try simp at h18
 refine AW.skip (rgn [] [[],[]] ?_)
 iterate 2 refine op1 tok ?_
 refine qG ?_
 refine qC.stepK [21] (zX (z:=2) tok 2 rfl rfl rfl rfl (by conv=>lhs; simp) trivial (by conv=>lhs; simp) trivial (by conv=>lhs; simp) (by simp) rfl) (by conv=>lhs; simp) rfl ?_
 refine qC.stepK [22] (zO tok rfl rfl rfl (by conv=>lhs; simp) trivial (by conv=>lhs; simp) rfl) (by conv=>lhs; simp) rfl ?_
 refine qC.run [[8]] ?_
 refine op1 tok ?_
 refine qA ?_
 refine AW.seqDrawR mixed 14 [[8],[23],[24],[25],[8],[27],[28],[29],[8],[31],[32],[33],[26],[30]] [] (by kernel_rfl) ?_
 iterate 3 refine qJ.one tok (orc:=[]) (by intro C; conv=>lhs; simp) (by first | with_reducible exact True.intro | omega | simp | (simp +contextual; omega)) rfl (by kernel_rfl) ?_
 refine qJ.callQ l0 rfl rfl (by simp) (by simp) (by simp) (by simp) (by first | (simp; done) | (simp; omega)) (by first | (simp; done) | (simp; omega)) (by kernel_rfl) (by conv=>lhs; simp) ?_
 iterate 3 refine qJ.one tok (orc:=[]) (by intro C; conv=>lhs; simp) (by first | with_reducible exact True.intro | omega | simp | (simp +contextual; omega)) rfl (by kernel_rfl) ?_
 refine qJ.callQ l1 rfl rfl (by simp) (by simp) (by simp) (by simp) (by first | (simp; done) | (simp; omega)) (by first | (simp; done) | (simp; omega)) (by kernel_rfl) (by conv=>lhs; simp) ?_
 iterate 3 refine qJ.one tok (orc:=[]) (by intro C; conv=>lhs; simp) (by first | with_reducible exact True.intro | omega | simp | (simp +contextual; omega)) rfl (by kernel_rfl) ?_
 refine qJ.callQ l2 rfl rfl (by simp) (by simp) (by simp) (by simp) (by first | (simp; done) | (simp; omega)) (by first | (simp; done) | (simp; omega)) (by kernel_rfl) (by conv=>lhs; simp) ?_
 iterate 2 refine qJ.one tok (orc:=[]) (by intro C; conv=>lhs; simp) (by first | with_reducible exact True.intro | omega | simp | (simp +contextual; omega)) rfl (by kernel_rfl) ?_
 refine qJ.nil (by kernel_rfl) ⟨by kernel_rfl, ?_⟩
 refine qC.run [[4,5,6]] ?_
 refine op1 tok ?_
 refine qA ?_
 exact AW.ret zG
theorem qFX (D:Nat→Int × Int × Int):AX Tryz.prog G 31 [.ptr 2 0,.p (.int .i64 3)] [(2,.vars 71 [.p (.int .i64 5),.p (.int .u32 1),.p (.int .i32 0),.p (.int .u32 0),.ms 975]),(975,.prow 78 [.ptr 961 0,.ptr 962 0,.ptr 963 0,.ptr 964 0,.ptr 965 0]),(961,.vars 77 (qB (D 0))),(962,.vars 77 (qB (D 1))),(963,.vars 77 (qB (D 2))),(964,.vars 77 (qB (D 3))),(965,.vars 77 (qB (D 4)))] (.tuple [.p (.int .i64 (D 3).1),.p (.int .i64 (D 3).2.1),.p (.int .i64 (D 3).2.2)]) [2,975,961,962,963,964,965] [(2,.vars 71 [.p (.int .i64 5),.p (.int .u32 1),.p (.int .i32 0),.p (.int .u32 0),.ms 975]),(975,.prow 78 [.ptr 961 0,.ptr 962 0,.ptr 963 0,.ptr 964 0,.ptr 965 0]),(961,.vars 77 (qB (D 0))),(962,.vars 77 (qB (D 1))),(963,.vars 77 (qB (D 2))),(964,.vars 77 (qB (D 3))),(965,.vars 77 (qB (D 4)))]:=by
 refine AX.introU tok 740 Tryz.func31 (by kernel_rfl) rfl rfl ?_
 simp only [Tryz.f31,qV,List.map_cons,List.map_nil]
 have hc:=yD (G:=G) D
 obtain ⟨X,hX⟩:∃ X,D 3=X:=⟨_,rfl⟩
 rw [hX] at hc
 rw [hX]
 have l0:=qR (G:=G) 964 77 (qB X) 0 X.1 rfl
 have l1:=qR (G:=G) 964 77 (qB X) 1 X.2.1 rfl
 have l2:=qR (G:=G) 964 77 (qB X) 2 X.2.2 rfl
 refine rgn [] [[],[],[0,1]] ?_
 iterate 3 refine op1 tok ?_
 refine qA (rgn [] [[]] ?_)
 refine op1 tok ?_
 refine qG ?_
 refine qC.stepK [1,10] (qY rfl hc (by simp)) (by conv=>lhs; simp) rfl ?_
 refine qC.run [[1,7]] ?_
 refine op1 tok ?_
 refine qA (AW.seq (rgn [] [[],[],[],[],[]] ?_))
 iterate 3 refine op1 tok ?_
 iterate 2 refine op2 tok ?_
 refine qG ?_
 refine qC.stepYIf (b:=true) [1,7,13,14,16] 13 rfl rfl (by simp) (fun _=>yJ tok rfl rfl (by conv=>lhs; simp) (by simp) (by conv=>lhs; simp)) (by conv=>lhs; simp) ?_
 refine qC.run [[],[1,7,18]] ?_
 refine op2 tok ?_
 refine op1 tok ?_
 refine qA (cnd ?_ ?_)
 ·intro h18
  try simp at h18
 intro h18
 try simp at h18
 refine AW.skip (rgn [] [[],[]] ?_)
 iterate 2 refine op1 tok ?_
 refine qG ?_
 refine qC.stepK [21] (zX (z:=3) tok 3 rfl rfl rfl rfl (by conv=>lhs; simp) trivial (by conv=>lhs; simp) trivial (by conv=>lhs; simp) (by simp) rfl) (by conv=>lhs; simp) rfl ?_
 refine qC.stepK [22] (zO tok rfl rfl rfl (by conv=>lhs; simp) trivial (by conv=>lhs; simp) rfl) (by conv=>lhs; simp) rfl ?_
 refine qC.run [[8]] ?_
 refine op1 tok ?_
 refine qA ?_
 refine AW.seqDrawR mixed 14 [[8],[23],[24],[25],[8],[27],[28],[29],[8],[31],[32],[33],[26],[30]] [] (by kernel_rfl) ?_
 iterate 3 refine qJ.one tok (orc:=[]) (by intro C; conv=>lhs; simp) (by first | with_reducible exact True.intro | omega | simp | (simp +contextual; omega)) rfl (by kernel_rfl) ?_
 refine qJ.callQ l0 rfl rfl (by simp) (by simp) (by simp) (by simp) (by first | (simp; done) | (simp; omega)) (by first | (simp; done) | (simp; omega)) (by kernel_rfl) (by conv=>lhs; simp) ?_
 iterate 3 refine qJ.one tok (orc:=[]) (by intro C; conv=>lhs; simp) (by first | with_reducible exact True.intro | omega | simp | (simp +contextual; omega)) rfl (by kernel_rfl) ?_
 refine qJ.callQ l1 rfl rfl (by simp) (by simp) (by simp) (by simp) (by first | (simp; done) | (simp; omega)) (by first | (simp; done) | (simp; omega)) (by kernel_rfl) (by conv=>lhs; simp) ?_
 iterate 3 refine qJ.one tok (orc:=[]) (by intro C; conv=>lhs; simp) (by first | with_reducible exact True.intro | omega | simp | (simp +contextual; omega)) rfl (by kernel_rfl) ?_
 refine qJ.callQ l2 rfl rfl (by simp) (by simp) (by simp) (by simp) (by first | (simp; done) | (simp; omega)) (by first | (simp; done) | (simp; omega)) (by kernel_rfl) (by conv=>lhs; simp) ?_
 iterate 2 refine qJ.one tok (orc:=[]) (by intro C; conv=>lhs; simp) (by first | with_reducible exact True.intro | omega | simp | (simp +contextual; omega)) rfl (by kernel_rfl) ?_
 refine qJ.nil (by kernel_rfl) ⟨by kernel_rfl, ?_⟩
 refine qC.run [[4,5,6]] ?_
 refine op1 tok ?_
 refine qA ?_
 exact AW.ret zG
theorem qFW (D:Nat→Int × Int × Int):AX Tryz.prog G 31 [.ptr 2 0,.p (.int .i64 4)] [(2,.vars 71 [.p (.int .i64 5),.p (.int .u32 1),.p (.int .i32 0),.p (.int .u32 0),.ms 975]),(975,.prow 78 [.ptr 961 0,.ptr 962 0,.ptr 963 0,.ptr 964 0,.ptr 965 0]),(961,.vars 77 (qB (D 0))),(962,.vars 77 (qB (D 1))),(963,.vars 77 (qB (D 2))),(964,.vars 77 (qB (D 3))),(965,.vars 77 (qB (D 4)))] (.tuple [.p (.int .i64 (D 4).1),.p (.int .i64 (D 4).2.1),.p (.int .i64 (D 4).2.2)]) [2,975,961,962,963,964,965] [(2,.vars 71 [.p (.int .i64 5),.p (.int .u32 1),.p (.int .i32 0),.p (.int .u32 0),.ms 975]),(975,.prow 78 [.ptr 961 0,.ptr 962 0,.ptr 963 0,.ptr 964 0,.ptr 965 0]),(961,.vars 77 (qB (D 0))),(962,.vars 77 (qB (D 1))),(963,.vars 77 (qB (D 2))),(964,.vars 77 (qB (D 3))),(965,.vars 77 (qB (D 4)))]:=by
 refine AX.introU tok 740 Tryz.func31 (by kernel_rfl) rfl rfl ?_
 simp only [Tryz.f31,qV,List.map_cons,List.map_nil]
 have hc:=yD (G:=G) D
 obtain ⟨X,hX⟩:∃ X,D 4=X:=⟨_,rfl⟩
 rw [hX] at hc
 rw [hX]
 have l0:=qR (G:=G) 965 77 (qB X) 0 X.1 rfl
 have l1:=qR (G:=G) 965 77 (qB X) 1 X.2.1 rfl
 have l2:=qR (G:=G) 965 77 (qB X) 2 X.2.2 rfl
 refine rgn [] [[],[],[0,1]] ?_
 iterate 3 refine op1 tok ?_
 refine qA (rgn [] [[]] ?_)
 refine op1 tok ?_
 refine qG ?_
 refine qC.stepK [1,10] (qY rfl hc (by simp)) (by conv=>lhs; simp) rfl ?_
 refine qC.run [[1,7]] ?_
 refine op1 tok ?_
 refine qA (AW.seq (rgn [] [[],[],[],[],[]] ?_))
 iterate 3 refine op1 tok ?_
 iterate 2 refine op2 tok ?_
 refine qG ?_
 refine qC.stepYIf (b:=true) [1,7,13,14,16] 13 rfl rfl (by simp) (fun _=>yJ tok rfl rfl (by conv=>lhs; simp) (by simp) (by conv=>lhs; simp)) (by conv=>lhs; simp) ?_
 refine qC.run [[],[1,7,18]] ?_
 refine op2 tok ?_
 refine op1 tok ?_
 refine qA (cnd ?_ ?_)
 ·intro h18
  try simp at h18
 intro h18
 try simp at h18
 refine AW.skip (rgn [] [[],[]] ?_)
 iterate 2 refine op1 tok ?_
 refine qG ?_
 refine qC.stepK [21] (zX (z:=4) tok 4 rfl rfl rfl rfl (by conv=>lhs; simp) trivial (by conv=>lhs; simp) trivial (by conv=>lhs; simp) (by simp) rfl) (by conv=>lhs; simp) rfl ?_
 refine qC.stepK [22] (zO tok rfl rfl rfl (by conv=>lhs; simp) trivial (by conv=>lhs; simp) rfl) (by conv=>lhs; simp) rfl ?_
 refine qC.run [[8]] ?_
 refine op1 tok ?_
 refine qA ?_
 refine AW.seqDrawR mixed 14 [[8],[23],[24],[25],[8],[27],[28],[29],[8],[31],[32],[33],[26],[30]] [] (by kernel_rfl) ?_
 iterate 3 refine qJ.one tok (orc:=[]) (by intro C; conv=>lhs; simp) (by first | with_reducible exact True.intro | omega | simp | (simp +contextual; omega)) rfl (by kernel_rfl) ?_
 refine qJ.callQ l0 rfl rfl (by simp) (by simp) (by simp) (by simp) (by first | (simp; done) | (simp; omega)) (by first | (simp; done) | (simp; omega)) (by kernel_rfl) (by conv=>lhs; simp) ?_
 iterate 3 refine qJ.one tok (orc:=[]) (by intro C; conv=>lhs; simp) (by first | with_reducible exact True.intro | omega | simp | (simp +contextual; omega)) rfl (by kernel_rfl) ?_
 refine qJ.callQ l1 rfl rfl (by simp) (by simp) (by simp) (by simp) (by first | (simp; done) | (simp; omega)) (by first | (simp; done) | (simp; omega)) (by kernel_rfl) (by conv=>lhs; simp) ?_
 iterate 3 refine qJ.one tok (orc:=[]) (by intro C; conv=>lhs; simp) (by first | with_reducible exact True.intro | omega | simp | (simp +contextual; omega)) rfl (by kernel_rfl) ?_
 refine qJ.callQ l2 rfl rfl (by simp) (by simp) (by simp) (by simp) (by first | (simp; done) | (simp; omega)) (by first | (simp; done) | (simp; omega)) (by kernel_rfl) (by conv=>lhs; simp) ?_
 iterate 2 refine qJ.one tok (orc:=[]) (by intro C; conv=>lhs; simp) (by first | with_reducible exact True.intro | omega | simp | (simp +contextual; omega)) rfl (by kernel_rfl) ?_
 refine qJ.nil (by kernel_rfl) ⟨by kernel_rfl, ?_⟩
 refine qC.run [[4,5,6]] ?_
 refine op1 tok ?_
 refine qA ?_
 exact AW.ret zG
theorem qIZ  : AX Tryz.prog G 19 [.ptr 2 0] [(2,.vars 71 [.p (.int .i64 5),.p (.int .u32 0),.p (.int .i32 0),.p (.int .u32 0),.nilsl])] (.ms 900) [] [(900,.row 35 3 [qP (D0 0),qP (D0 1),qP (D0 2),qP (D0 3),qP (D0 4)])]:=by
 refine AX.introU tok 740 Tryz.func19 (by kernel_rfl) rfl rfl ?_
 simp only [Tryz.f19,qV,List.map_cons,List.map_nil]
 refine rgn [] [[0]] ?_
 refine op1 tok ?_
 refine qA (rgn [] [[]] ?_)
 refine op1 tok ?_
 refine qA (AW.seq (rgn [] [[],[],[],[],[0,3,11,12]] ?_))
 iterate 5 refine op1 tok ?_
 refine qA (AW.block ?_)
 refine AW.beginE 3 900 35 3 (by simp) (by simp) (by conv=>lhs; simp) ?_
 refine AW.loopL [⟨zA 31 [(0,.ptr 2 0),(3,.ms 900),(11,.p (.int .i64 5)),(12,.p (.int .i64 1))],[2],[(2,.vars 71 [.p (.int .i64 5),.p (.int .u32 1),.p (.int .i32 0),.p (.int .u32 0),.ms 975]),(975,.prow 78 [.ptr 961 0,.ptr 962 0,.ptr 963 0,.ptr 964 0,.ptr 965 0]),(961,.vars 77 (qB (D0 0))),(962,.vars 77 (qB (D0 1))),(963,.vars 77 (qB (D0 2))),(964,.vars 77 (qB (D0 3))),(965,.vars 77 (qB (D0 4))),(900,.row 35 3 [qP (D0 0)])],740⟩,⟨zA 31 [(0,.ptr 2 0),(3,.ms 900),(11,.p (.int .i64 5)),(12,.p (.int .i64 2))],[2],[(2,.vars 71 [.p (.int .i64 5),.p (.int .u32 1),.p (.int .i32 0),.p (.int .u32 0),.ms 975]),(975,.prow 78 [.ptr 961 0,.ptr 962 0,.ptr 963 0,.ptr 964 0,.ptr 965 0]),(961,.vars 77 (qB (D0 0))),(962,.vars 77 (qB (D0 1))),(963,.vars 77 (qB (D0 2))),(964,.vars 77 (qB (D0 3))),(965,.vars 77 (qB (D0 4))),(900,.row 35 3 [qP (D0 0),qP (D0 1)])],740⟩,⟨zA 31 [(0,.ptr 2 0),(3,.ms 900),(11,.p (.int .i64 5)),(12,.p (.int .i64 3))],[2],[(2,.vars 71 [.p (.int .i64 5),.p (.int .u32 1),.p (.int .i32 0),.p (.int .u32 0),.ms 975]),(975,.prow 78 [.ptr 961 0,.ptr 962 0,.ptr 963 0,.ptr 964 0,.ptr 965 0]),(961,.vars 77 (qB (D0 0))),(962,.vars 77 (qB (D0 1))),(963,.vars 77 (qB (D0 2))),(964,.vars 77 (qB (D0 3))),(965,.vars 77 (qB (D0 4))),(900,.row 35 3 [qP (D0 0),qP (D0 1),qP (D0 2)])],740⟩,⟨zA 31 [(0,.ptr 2 0),(3,.ms 900),(11,.p (.int .i64 5)),(12,.p (.int .i64 4))],[2],[(2,.vars 71 [.p (.int .i64 5),.p (.int .u32 1),.p (.int .i32 0),.p (.int .u32 0),.ms 975]),(975,.prow 78 [.ptr 961 0,.ptr 962 0,.ptr 963 0,.ptr 964 0,.ptr 965 0]),(961,.vars 77 (qB (D0 0))),(962,.vars 77 (qB (D0 1))),(963,.vars 77 (qB (D0 2))),(964,.vars 77 (qB (D0 3))),(965,.vars 77 (qB (D0 4))),(900,.row 35 3 [qP (D0 0),qP (D0 1),qP (D0 2),qP (D0 3)])],740⟩,⟨zA 31 [(0,.ptr 2 0),(3,.ms 900),(11,.p (.int .i64 5)),(12,.p (.int .i64 5))],[2],[(2,.vars 71 [.p (.int .i64 5),.p (.int .u32 1),.p (.int .i32 0),.p (.int .u32 0),.ms 975]),(975,.prow 78 [.ptr 961 0,.ptr 962 0,.ptr 963 0,.ptr 964 0,.ptr 965 0]),(961,.vars 77 (qB (D0 0))),(962,.vars 77 (qB (D0 1))),(963,.vars 77 (qB (D0 2))),(964,.vars 77 (qB (D0 3))),(965,.vars 77 (qB (D0 4))),(900,.row 35 3 [qP (D0 0),qP (D0 1),qP (D0 2),qP (D0 3),qP (D0 4)])],740⟩] (⟨zA 31 [(0,.ptr 2 0),(3,.ms 900),(11,.p (.int .i64 5)),(12,.p (.int .i64 0))],[2],[(2,.vars 71 [.p (.int .i64 5),.p (.int .u32 0),.p (.int .i32 0),.p (.int .u32 0),.nilsl]),(900,.row 35 3 [])],740⟩) ⟨qM (by simp),rfl,by simp,by simp⟩ ?_
 refine ⟨?_, ?_, ?_, ?_, ?_, ?_⟩
 ·
  refine rgn [] [[]] ?_
  refine op1 tok ?_
  refine qA (AW.seq (cnd ?_ ?_))
  ·intro h13
   try simp at h13
   skip
   refine AW.skip (AW.seq (AW.block (rgn [] [[],[0,3,4,11,12]] ?_)))
   iterate 2 refine op1 tok ?_
   refine qA (rgn [] [[],[]] ?_)
   iterate 2 refine op1 tok ?_
   refine qG ?_
   refine qC.stepK [0,3,11,12,18] (qY rfl (qKG (G:=G)) (by simp)) (by conv=>lhs; simp) rfl ?_
   refine qC.run [[],[],[],[],[],[0,3,5,6,11,12,21],[0,3,5,6,7,11,12]] ?_
   iterate 7 refine op1 tok ?_
   refine qA (rgz [qP (D0 0)] [[],[],[],[0,11,12,22,23,24,25]] ?_)
   iterate 4 refine op1 tok ?_ (h:=by intro C; conv=>lhs; simp [qP])
   refine qG ?_
   refine qC.stepK [0,11,12,22,26] (zL tok rfl rfl rfl rfl rfl rfl rfl (by conv=>lhs; simp) trivial rfl (by conv=>lhs; simp) trivial rfl (by conv=>lhs; simp) trivial rfl) (by conv=>lhs; simp) rfl ?_
   refine qC.run [[],[],[0,3,11,12]] ?_
   iterate 3 refine op1 tok ?_ (h:=by intro C; conv=>lhs; simp [qP])
   refine qA (rgz [] [[],[0,3,11,12]] ?_)
   iterate 2 refine op1 tok ?_
   refine qA ?_
   exact ⟨qM (by simp [qP]),rfl,by simp [qP],by simp [qP]⟩
  intro h13
  try simp at h13
 ·
  refine rgn [] [[]] ?_
  refine op1 tok ?_
  refine qA (AW.seq (cnd ?_ ?_))
  ·intro h13
   try simp at h13
   skip
   refine AW.skip (AW.seq (AW.block (rgn [] [[],[0,3,4,11,12]] ?_)))
   iterate 2 refine op1 tok ?_
   refine qA (rgn [] [[],[]] ?_)
   iterate 2 refine op1 tok ?_
   refine qG ?_
   refine qC.stepK [0,3,11,12,18] (qY rfl (qFZ (G:=G) D0) (by simp)) (by conv=>lhs; simp) rfl ?_
   refine qC.run [[],[],[],[],[],[0,3,5,6,11,12,21],[0,3,5,6,7,11,12]] ?_
   iterate 7 refine op1 tok ?_
   refine qA (rgz [qP (D0 1)] [[],[],[],[0,11,12,22,23,24,25]] ?_)
   iterate 4 refine op1 tok ?_ (h:=by intro C; conv=>lhs; simp [qP])
   refine qG ?_
   refine qC.stepK [0,11,12,22,26] (zL tok rfl rfl rfl rfl rfl rfl rfl (by conv=>lhs; simp) trivial rfl (by conv=>lhs; simp) trivial rfl (by conv=>lhs; simp) trivial rfl) (by conv=>lhs; simp) rfl ?_
   refine qC.run [[],[],[0,3,11,12]] ?_
   iterate 3 refine op1 tok ?_ (h:=by intro C; conv=>lhs; simp [qP])
   refine qA (rgz [] [[],[0,3,11,12]] ?_)
   iterate 2 refine op1 tok ?_
   refine qA ?_
   exact ⟨qM (by simp [qP]),rfl,by simp [qP],by simp [qP]⟩
  intro h13
  try simp at h13
 ·
  refine rgn [] [[]] ?_
  refine op1 tok ?_
  refine qA (AW.seq (cnd ?_ ?_))
  ·intro h13
   try simp at h13
   skip
   refine AW.skip (AW.seq (AW.block (rgn [] [[],[0,3,4,11,12]] ?_)))
   iterate 2 refine op1 tok ?_
   refine qA (rgn [] [[],[]] ?_)
   iterate 2 refine op1 tok ?_
   refine qG ?_
   refine qC.stepK [0,3,11,12,18] (qY rfl (qFY (G:=G) D0) (by simp)) (by conv=>lhs; simp) rfl ?_
   refine qC.run [[],[],[],[],[],[0,3,5,6,11,12,21],[0,3,5,6,7,11,12]] ?_
   iterate 7 refine op1 tok ?_
   refine qA (rgz [qP (D0 2)] [[],[],[],[0,11,12,22,23,24,25]] ?_)
   iterate 4 refine op1 tok ?_ (h:=by intro C; conv=>lhs; simp [qP])
   refine qG ?_
   refine qC.stepK [0,11,12,22,26] (zL tok rfl rfl rfl rfl rfl rfl rfl (by conv=>lhs; simp) trivial rfl (by conv=>lhs; simp) trivial rfl (by conv=>lhs; simp) trivial rfl) (by conv=>lhs; simp) rfl ?_
   refine qC.run [[],[],[0,3,11,12]] ?_
   iterate 3 refine op1 tok ?_ (h:=by intro C; conv=>lhs; simp [qP])
   refine qA (rgz [] [[],[0,3,11,12]] ?_)
   iterate 2 refine op1 tok ?_
   refine qA ?_
   exact ⟨qM (by simp [qP]),rfl,by simp [qP],by simp [qP]⟩
  intro h13
  try simp at h13
 ·
  refine rgn [] [[]] ?_
  refine op1 tok ?_
  refine qA (AW.seq (cnd ?_ ?_))
  ·intro h13
   try simp at h13
   skip
   refine AW.skip (AW.seq (AW.block (rgn [] [[],[0,3,4,11,12]] ?_)))
   iterate 2 refine op1 tok ?_
   refine qA (rgn [] [[],[]] ?_)
   iterate 2 refine op1 tok ?_
   refine qG ?_
   refine qC.stepK [0,3,11,12,18] (qY rfl (qFX (G:=G) D0) (by simp)) (by conv=>lhs; simp) rfl ?_
   refine qC.run [[],[],[],[],[],[0,3,5,6,11,12,21],[0,3,5,6,7,11,12]] ?_
   iterate 7 refine op1 tok ?_
   refine qA (rgz [qP (D0 3)] [[],[],[],[0,11,12,22,23,24,25]] ?_)
   iterate 4 refine op1 tok ?_ (h:=by intro C; conv=>lhs; simp [qP])
   refine qG ?_
   refine qC.stepK [0,11,12,22,26] (zL tok rfl rfl rfl rfl rfl rfl rfl (by conv=>lhs; simp) trivial rfl (by conv=>lhs; simp) trivial rfl (by conv=>lhs; simp) trivial rfl) (by conv=>lhs; simp) rfl ?_
   refine qC.run [[],[],[0,3,11,12]] ?_
   iterate 3 refine op1 tok ?_ (h:=by intro C; conv=>lhs; simp [qP])
   refine qA (rgz [] [[],[0,3,11,12]] ?_)
   iterate 2 refine op1 tok ?_
   refine qA ?_
   exact ⟨qM (by simp [qP]),rfl,by simp [qP],by simp [qP]⟩
  intro h13
  try simp at h13
 ·
  refine rgn [] [[]] ?_
  refine op1 tok ?_
  refine qA (AW.seq (cnd ?_ ?_))
  ·intro h13
   try simp at h13
   skip
   refine AW.skip (AW.seq (AW.block (rgn [] [[],[0,3,4,11,12]] ?_)))
   iterate 2 refine op1 tok ?_
   refine qA (rgn [] [[],[]] ?_)
   iterate 2 refine op1 tok ?_
   refine qG ?_
   refine qC.stepK [0,3,11,12,18] (qY rfl (qFW (G:=G) D0) (by simp)) (by conv=>lhs; simp) rfl ?_
   refine qC.run [[],[],[],[],[],[0,3,5,6,11,12,21],[0,3,5,6,7,11,12]] ?_
   iterate 7 refine op1 tok ?_
   refine qA (rgz [qP (D0 4)] [[],[],[],[0,11,12,22,23,24,25]] ?_)
   iterate 4 refine op1 tok ?_ (h:=by intro C; conv=>lhs; simp [qP])
   refine qG ?_
   refine qC.stepK [0,11,12,22,26] (zL tok rfl rfl rfl rfl rfl rfl rfl (by conv=>lhs; simp) trivial rfl (by conv=>lhs; simp) trivial rfl (by conv=>lhs; simp) trivial rfl) (by conv=>lhs; simp) rfl ?_
   refine qC.run [[],[],[0,3,11,12]] ?_
   iterate 3 refine op1 tok ?_ (h:=by intro C; conv=>lhs; simp [qP])
   refine qA (rgz [] [[],[0,3,11,12]] ?_)
   iterate 2 refine op1 tok ?_
   refine qA ?_
   exact ⟨qM (by simp [qP]),rfl,by simp [qP],by simp [qP]⟩
  intro h13
  try simp at h13
 ·
  refine rgn [] [[]] ?_
  refine op1 tok ?_
  refine qA (AW.seq (cnd ?_ ?_))
  ·intro h13
   try simp at h13
  intro h13
  try simp at h13
  skip
  refine AW.exit ?_
  simp
  refine rgn [] [[],[2]] ?_
  iterate 2 refine op1 tok ?_
  refine qA ?_
  exact AW.ret zG
theorem qIY (D:Nat→Int × Int × Int):AX Tryz.prog G 19 [.ptr 2 0] [(2,.vars 71 [.p (.int .i64 5),.p (.int .u32 1),.p (.int .i32 0),.p (.int .u32 0),.ms 975]),(975,.prow 78 [.ptr 961 0,.ptr 962 0,.ptr 963 0,.ptr 964 0,.ptr 965 0]),(961,.vars 77 (qB (D 0))),(962,.vars 77 (qB (D 1))),(963,.vars 77 (qB (D 2))),(964,.vars 77 (qB (D 3))),(965,.vars 77 (qB (D 4)))] (.ms 900) [] [(900,.row 35 3 [qP (D 0),qP (D 1),qP (D 2),qP (D 3),qP (D 4)])]:=by
 refine AX.introU tok 740 Tryz.func19 (by kernel_rfl) rfl rfl ?_
 simp only [Tryz.f19,qV,List.map_cons,List.map_nil]
 refine rgn [] [[0]] ?_
 refine op1 tok ?_
 refine qA (rgn [] [[]] ?_)
 refine op1 tok ?_
 refine qA (AW.seq (rgn [] [[],[],[],[],[0,3,11,12]] ?_))
 iterate 5 refine op1 tok ?_
 refine qA (AW.block ?_)
 refine AW.beginE 3 900 35 3 (by simp) (by simp) (by conv=>lhs; simp) ?_
 refine AW.loopL [⟨zA 31 [(0,.ptr 2 0),(3,.ms 900),(11,.p (.int .i64 5)),(12,.p (.int .i64 1))],[2,975,961,962,963,964,965],[(2,.vars 71 [.p (.int .i64 5),.p (.int .u32 1),.p (.int .i32 0),.p (.int .u32 0),.ms 975]),(975,.prow 78 [.ptr 961 0,.ptr 962 0,.ptr 963 0,.ptr 964 0,.ptr 965 0]),(961,.vars 77 (qB (D 0))),(962,.vars 77 (qB (D 1))),(963,.vars 77 (qB (D 2))),(964,.vars 77 (qB (D 3))),(965,.vars 77 (qB (D 4))),(900,.row 35 3 [qP (D 0)])],740⟩,⟨zA 31 [(0,.ptr 2 0),(3,.ms 900),(11,.p (.int .i64 5)),(12,.p (.int .i64 2))],[2,975,961,962,963,964,965],[(2,.vars 71 [.p (.int .i64 5),.p (.int .u32 1),.p (.int .i32 0),.p (.int .u32 0),.ms 975]),(975,.prow 78 [.ptr 961 0,.ptr 962 0,.ptr 963 0,.ptr 964 0,.ptr 965 0]),(961,.vars 77 (qB (D 0))),(962,.vars 77 (qB (D 1))),(963,.vars 77 (qB (D 2))),(964,.vars 77 (qB (D 3))),(965,.vars 77 (qB (D 4))),(900,.row 35 3 [qP (D 0),qP (D 1)])],740⟩,⟨zA 31 [(0,.ptr 2 0),(3,.ms 900),(11,.p (.int .i64 5)),(12,.p (.int .i64 3))],[2,975,961,962,963,964,965],[(2,.vars 71 [.p (.int .i64 5),.p (.int .u32 1),.p (.int .i32 0),.p (.int .u32 0),.ms 975]),(975,.prow 78 [.ptr 961 0,.ptr 962 0,.ptr 963 0,.ptr 964 0,.ptr 965 0]),(961,.vars 77 (qB (D 0))),(962,.vars 77 (qB (D 1))),(963,.vars 77 (qB (D 2))),(964,.vars 77 (qB (D 3))),(965,.vars 77 (qB (D 4))),(900,.row 35 3 [qP (D 0),qP (D 1),qP (D 2)])],740⟩,⟨zA 31 [(0,.ptr 2 0),(3,.ms 900),(11,.p (.int .i64 5)),(12,.p (.int .i64 4))],[2,975,961,962,963,964,965],[(2,.vars 71 [.p (.int .i64 5),.p (.int .u32 1),.p (.int .i32 0),.p (.int .u32 0),.ms 975]),(975,.prow 78 [.ptr 961 0,.ptr 962 0,.ptr 963 0,.ptr 964 0,.ptr 965 0]),(961,.vars 77 (qB (D 0))),(962,.vars 77 (qB (D 1))),(963,.vars 77 (qB (D 2))),(964,.vars 77 (qB (D 3))),(965,.vars 77 (qB (D 4))),(900,.row 35 3 [qP (D 0),qP (D 1),qP (D 2),qP (D 3)])],740⟩,⟨zA 31 [(0,.ptr 2 0),(3,.ms 900),(11,.p (.int .i64 5)),(12,.p (.int .i64 5))],[2,975,961,962,963,964,965],[(2,.vars 71 [.p (.int .i64 5),.p (.int .u32 1),.p (.int .i32 0),.p (.int .u32 0),.ms 975]),(975,.prow 78 [.ptr 961 0,.ptr 962 0,.ptr 963 0,.ptr 964 0,.ptr 965 0]),(961,.vars 77 (qB (D 0))),(962,.vars 77 (qB (D 1))),(963,.vars 77 (qB (D 2))),(964,.vars 77 (qB (D 3))),(965,.vars 77 (qB (D 4))),(900,.row 35 3 [qP (D 0),qP (D 1),qP (D 2),qP (D 3),qP (D 4)])],740⟩] (⟨zA 31 [(0,.ptr 2 0),(3,.ms 900),(11,.p (.int .i64 5)),(12,.p (.int .i64 0))],[2,975,961,962,963,964,965],[(2,.vars 71 [.p (.int .i64 5),.p (.int .u32 1),.p (.int .i32 0),.p (.int .u32 0),.ms 975]),(975,.prow 78 [.ptr 961 0,.ptr 962 0,.ptr 963 0,.ptr 964 0,.ptr 965 0]),(961,.vars 77 (qB (D 0))),(962,.vars 77 (qB (D 1))),(963,.vars 77 (qB (D 2))),(964,.vars 77 (qB (D 3))),(965,.vars 77 (qB (D 4))),(900,.row 35 3 [])],740⟩) ⟨qM (by simp),rfl,by simp,by simp⟩ ?_
 refine ⟨?_, ?_, ?_, ?_, ?_, ?_⟩
 ·
  refine rgn [] [[]] ?_
  refine op1 tok ?_
  refine qA (AW.seq (cnd ?_ ?_))
  ·intro h13
   try simp at h13
   skip
   refine AW.skip (AW.seq (AW.block (rgn [] [[],[0,3,4,11,12]] ?_)))
   iterate 2 refine op1 tok ?_
   refine qA (rgn [] [[],[]] ?_)
   iterate 2 refine op1 tok ?_
   refine qG ?_
   refine qC.stepK [0,3,11,12,18] (qY rfl (qKF (G:=G) D) (by simp)) (by conv=>lhs; simp) rfl ?_
   refine qC.run [[],[],[],[],[],[0,3,5,6,11,12,21],[0,3,5,6,7,11,12]] ?_
   iterate 7 refine op1 tok ?_
   refine qA (rgz [qP (D 0)] [[],[],[],[0,11,12,22,23,24,25]] ?_)
   iterate 4 refine op1 tok ?_ (h:=by intro C; conv=>lhs; simp [qP])
   refine qG ?_
   refine qC.stepK [0,11,12,22,26] (zL tok rfl rfl rfl rfl rfl rfl rfl (by conv=>lhs; simp) trivial rfl (by conv=>lhs; simp) trivial rfl (by conv=>lhs; simp) trivial rfl) (by conv=>lhs; simp) rfl ?_
   refine qC.run [[],[],[0,3,11,12]] ?_
   iterate 3 refine op1 tok ?_ (h:=by intro C; conv=>lhs; simp [qP])
   refine qA (rgz [] [[],[0,3,11,12]] ?_)
   iterate 2 refine op1 tok ?_
   refine qA ?_
   exact ⟨qM (by simp [qP]),rfl,by simp [qP],by simp [qP]⟩
  intro h13
  try simp at h13
 ·
  refine rgn [] [[]] ?_
  refine op1 tok ?_
  refine qA (AW.seq (cnd ?_ ?_))
  ·intro h13
   try simp at h13
   skip
   refine AW.skip (AW.seq (AW.block (rgn [] [[],[0,3,4,11,12]] ?_)))
   iterate 2 refine op1 tok ?_
   refine qA (rgn [] [[],[]] ?_)
   iterate 2 refine op1 tok ?_
   refine qG ?_
   refine qC.stepK [0,3,11,12,18] (qY rfl (qFZ (G:=G) D) (by simp)) (by conv=>lhs; simp) rfl ?_
   refine qC.run [[],[],[],[],[],[0,3,5,6,11,12,21],[0,3,5,6,7,11,12]] ?_
   iterate 7 refine op1 tok ?_
   refine qA (rgz [qP (D 1)] [[],[],[],[0,11,12,22,23,24,25]] ?_)
   iterate 4 refine op1 tok ?_ (h:=by intro C; conv=>lhs; simp [qP])
   refine qG ?_
   refine qC.stepK [0,11,12,22,26] (zL tok rfl rfl rfl rfl rfl rfl rfl (by conv=>lhs; simp) trivial rfl (by conv=>lhs; simp) trivial rfl (by conv=>lhs; simp) trivial rfl) (by conv=>lhs; simp) rfl ?_
   refine qC.run [[],[],[0,3,11,12]] ?_
   iterate 3 refine op1 tok ?_ (h:=by intro C; conv=>lhs; simp [qP])
   refine qA (rgz [] [[],[0,3,11,12]] ?_)
   iterate 2 refine op1 tok ?_
   refine qA ?_
   exact ⟨qM (by simp [qP]),rfl,by simp [qP],by simp [qP]⟩
  intro h13
  try simp at h13
 ·
  refine rgn [] [[]] ?_
  refine op1 tok ?_
  refine qA (AW.seq (cnd ?_ ?_))
  ·intro h13
   try simp at h13
   skip
   refine AW.skip (AW.seq (AW.block (rgn [] [[],[0,3,4,11,12]] ?_)))
   iterate 2 refine op1 tok ?_
   refine qA (rgn [] [[],[]] ?_)
   iterate 2 refine op1 tok ?_
   refine qG ?_
   refine qC.stepK [0,3,11,12,18] (qY rfl (qFY (G:=G) D) (by simp)) (by conv=>lhs; simp) rfl ?_
   refine qC.run [[],[],[],[],[],[0,3,5,6,11,12,21],[0,3,5,6,7,11,12]] ?_
   iterate 7 refine op1 tok ?_
   refine qA (rgz [qP (D 2)] [[],[],[],[0,11,12,22,23,24,25]] ?_)
   iterate 4 refine op1 tok ?_ (h:=by intro C; conv=>lhs; simp [qP])
   refine qG ?_
   refine qC.stepK [0,11,12,22,26] (zL tok rfl rfl rfl rfl rfl rfl rfl (by conv=>lhs; simp) trivial rfl (by conv=>lhs; simp) trivial rfl (by conv=>lhs; simp) trivial rfl) (by conv=>lhs; simp) rfl ?_
   refine qC.run [[],[],[0,3,11,12]] ?_
   iterate 3 refine op1 tok ?_ (h:=by intro C; conv=>lhs; simp [qP])
   refine qA (rgz [] [[],[0,3,11,12]] ?_)
   iterate 2 refine op1 tok ?_
   refine qA ?_
   exact ⟨qM (by simp [qP]),rfl,by simp [qP],by simp [qP]⟩
  intro h13
  try simp at h13
 ·
  refine rgn [] [[]] ?_
  refine op1 tok ?_
  refine qA (AW.seq (cnd ?_ ?_))
  ·intro h13
   try simp at h13
   skip
   refine AW.skip (AW.seq (AW.block (rgn [] [[],[0,3,4,11,12]] ?_)))
   iterate 2 refine op1 tok ?_
   refine qA (rgn [] [[],[]] ?_)
   iterate 2 refine op1 tok ?_
   refine qG ?_
   refine qC.stepK [0,3,11,12,18] (qY rfl (qFX (G:=G) D) (by simp)) (by conv=>lhs; simp) rfl ?_
   refine qC.run [[],[],[],[],[],[0,3,5,6,11,12,21],[0,3,5,6,7,11,12]] ?_
   iterate 7 refine op1 tok ?_
   refine qA (rgz [qP (D 3)] [[],[],[],[0,11,12,22,23,24,25]] ?_)
   iterate 4 refine op1 tok ?_ (h:=by intro C; conv=>lhs; simp [qP])
   refine qG ?_
   refine qC.stepK [0,11,12,22,26] (zL tok rfl rfl rfl rfl rfl rfl rfl (by conv=>lhs; simp) trivial rfl (by conv=>lhs; simp) trivial rfl (by conv=>lhs; simp) trivial rfl) (by conv=>lhs; simp) rfl ?_
   refine qC.run [[],[],[0,3,11,12]] ?_
   iterate 3 refine op1 tok ?_ (h:=by intro C; conv=>lhs; simp [qP])
   refine qA (rgz [] [[],[0,3,11,12]] ?_)
   iterate 2 refine op1 tok ?_
   refine qA ?_
   exact ⟨qM (by simp [qP]),rfl,by simp [qP],by simp [qP]⟩
  intro h13
  try simp at h13
 ·
  refine rgn [] [[]] ?_
  refine op1 tok ?_
  refine qA (AW.seq (cnd ?_ ?_))
  ·intro h13
   try simp at h13
   skip
   refine AW.skip (AW.seq (AW.block (rgn [] [[],[0,3,4,11,12]] ?_)))
   iterate 2 refine op1 tok ?_
   refine qA (rgn [] [[],[]] ?_)
   iterate 2 refine op1 tok ?_
   refine qG ?_
   refine qC.stepK [0,3,11,12,18] (qY rfl (qFW (G:=G) D) (by simp)) (by conv=>lhs; simp) rfl ?_
   refine qC.run [[],[],[],[],[],[0,3,5,6,11,12,21],[0,3,5,6,7,11,12]] ?_
   iterate 7 refine op1 tok ?_
   refine qA (rgz [qP (D 4)] [[],[],[],[0,11,12,22,23,24,25]] ?_)
   iterate 4 refine op1 tok ?_ (h:=by intro C; conv=>lhs; simp [qP])
   refine qG ?_
   refine qC.stepK [0,11,12,22,26] (zL tok rfl rfl rfl rfl rfl rfl rfl (by conv=>lhs; simp) trivial rfl (by conv=>lhs; simp) trivial rfl (by conv=>lhs; simp) trivial rfl) (by conv=>lhs; simp) rfl ?_
   refine qC.run [[],[],[0,3,11,12]] ?_
   iterate 3 refine op1 tok ?_ (h:=by intro C; conv=>lhs; simp [qP])
   refine qA (rgz [] [[],[0,3,11,12]] ?_)
   iterate 2 refine op1 tok ?_
   refine qA ?_
   exact ⟨qM (by simp [qP]),rfl,by simp [qP],by simp [qP]⟩
  intro h13
  try simp at h13
 ·
  refine rgn [] [[]] ?_
  refine op1 tok ?_
  refine qA (AW.seq (cnd ?_ ?_))
  ·intro h13
   try simp at h13
  intro h13
  try simp at h13
  skip
  refine AW.exit ?_
  simp
  refine rgn [] [[],[2]] ?_
  iterate 2 refine op1 tok ?_
  refine qA ?_
  exact AW.ret zG
end Go.Proofs.YtcfcfblbpnpclaaGreatDoor
