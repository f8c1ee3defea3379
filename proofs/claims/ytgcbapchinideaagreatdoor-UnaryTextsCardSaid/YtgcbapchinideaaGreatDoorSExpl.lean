import Derived.Test.YtgcbapchinideaaGreatDoorSExplL
import Derived.Test.YtgcbapchinideaaGreatDoorK2
import Derived.Test.YtgcbapchinideaaGreatDoorSSplit
import Derived.Test.YtgcbapchinideaaGreatDoorK1
namespace Go.Proofs.YtgcbapchinideaaGreatDoor
open Sy Go
set_option maxRecDepth 100000
set_option maxHeartbeats 4000000
set_option linter.unusedSimpArgs false
set_option linter.unusedVariables false
variable {G:qJ}
theorem qNV (s:List UInt8) (hG:U8 G) (hs:s.length≤1000000):AX Tryz.prog G 152 [.p (.str s),.p (.int .i64 (-1))] [] (.ms 81) [] [(81,.row 9 1 ((wL s).map PD.str))]:=by
 refine AX.introU tok 60 Tryz.func152 (by kernel_rfl) rfl rfl ?_
 simp only [Tryz.f152,qK,List.map_cons,List.map_nil]
 have hC:=qBS (G:=G) s hs
 have hle:=qKN s
 have hD:=fun r h=>qGT (G:=G) hG r h
 have hR:wL s=kQ (Lib.runeCountL s) s:=rfl
 rw [hR]
 have hcs:Lib.runeCountL s=Lib.runeCountL s:=rfl
 generalize hN:Lib.runeCountL s=N at *
 have hlt:¬ (N:Int) < -1:=by omega
 refine rgn [] [[0,1]] ?_
 refine op1 tok ?_
 refine qA (rgn [.nilp,.int .i64 N] [[],[],[0,1,5]] ?_)
 iterate 3 refine oq1 tok hC ?_
 refine qA (AW.seq (rgn [] [[],[],[],[],[],[0,1,5,14,17],[0,1,5,18]] ?_))
 iterate 3 refine op1 tok ?_
 iterate 3 refine op2 tok ?_
 refine op1 tok ?_
 refine qA (cnd ?_ ?_)
 ·intro h18
  try simp at h18
  refine rgz [] [[],[0,1]] ?_
  iterate 2 refine op1 tok ?_
  refine qA (rgn [.str []] [[],[],[0,1,6]] ?_)
  iterate 3 refine op1 tok ?_
  refine qA (AW.seq (rgn [] [[]] ?_))
  refine op1 tok ?_
  refine qA (AW.block ?_)
  refine AW.loop (α:=List (List UInt8) × List UInt8) (fun a=>kQ N s=a.1++kQ (N-a.1.length) a.2∧a.1.length+Lib.runeCountL a.2=N∧a.2.length≤s.length∧(0<N→a.1.length<N)) (fun a=>⟨zA 50 [(0,.p (.str a.2)),(1,.p (.int .i64 N)),(6,.ms 81),(7,.p (.int .i64 a.1.length))],[],[(81,.row 9 1 (a.1.map PD.str++List.replicate (N-a.1.length) (.str [])))],60⟩) (fun a=>N-a.1.length) (([],s)) ⟨by simp,by simp [hN],by simp,by simp⟩ ⟨qG (by simp),rfl,by simp,by simp⟩ ?_
  rintro ⟨done,r⟩ ⟨hsp,hcn,hrl,hpos⟩
  simp only at hsp hcn hrl hpos
  refine AW.seq (rgn [] [[],[],[],[0,1,6,7,25]] ?_)
  iterate 4 refine op1 tok ?_
  refine qA (cnd ?_ ?_)
  ·intro h25
   try simp at h25
   have hr0:r≠[]:=by rintro rfl; rw [qKL] at hcn; omega
   have hD:=hD r hr0
   have hst:=qCD r hr0
   have hk1:=qFM r hr0
   have hk2:=Lib.decodeL_le r hr0
   have hnx:=qNX (n:=N-done.length) (by omega) r
   have hrep:List.replicate (N-done.length) (PD.str [])=PD.str []::List.replicate (N-(done.length+1)) (PD.str []):=by
    rw [show N-done.length=(N-(done.length+1))+1 by omega,List.replicate_succ]
   generalize (Lib.decodeL r).2=k at *
   generalize (Lib.decodeL r).1=c at *
   refine AW.skip (AW.seq (AW.block (rgn [.nilp,.tup [.int .i32 c,.int .i64 k]] [[],[],[],[],[],[0,1,6,7,32],[0,1,6,7,9]] ?_)))
   iterate 7 refine oq1 tok hD ?_
   refine qA (rgn [.str [],.str (r.take k)] [[],[],[],[],[],[0,1,6,7,9,37,38],[0,1,6,7,9]] ?_)
   iterate 7 refine op1 tok ?_ (hv:=by first | with_reducible exact True.intro | (first | (simp [hrep,jO]; done) | (simp [hrep,jO]; omega) | omega; done) | omega | simp | (simp +contextual; omega))
   refine qA (rgz [] [[],[],[1,6,7,41],[0,1,6,7]] ?_)
   iterate 4 refine op1 tok ?_
   refine qA (rgz [] [[],[],[0,1,6,7]] ?_)
   iterate 3 refine op1 tok ?_
   refine qA ?_
   exact ⟨(done++[r.take k],r.drop k),⟨by rw [hsp,hnx]; simp [Nat.sub_sub],by simp; omega,by simp; omega,by simp; omega⟩,by simp; omega,qG (by simp [xK,hrep]),rfl,by simp [xK,hrep],by simp [xK,hrep]⟩
  intro h25
  try simp at h25
  refine AW.exit ?_
  simp
  refine AW.seq (rgn [] [[],[0,1,6,43]] ?_)
  iterate 2 refine op1 tok ?_
  refine qA (cnd ?_ ?_)
  ·intro h43
   try simp at h43
   have hd1:done.length+1=N:=by have:=hpos (by omega); omega
   have hrep:List.replicate (N-done.length) (PD.str [])=[PD.str []]:=by rw [show N-done.length=1 by omega]; rfl
   have hfin:kQ N s=done++[r]:=by rw [hsp,show N-done.length=1 by omega]; rfl
   rw [hfin]
   subst hd1
   refine rgz [.str [],.str r] [[],[],[],[],[6,47,48],[6]] ?_
   iterate 6 refine op1 tok ?_ (hv:=by first | with_reducible exact True.intro | (first | (simp [hrep,jO]; done) | (simp [hrep,jO]; omega) | omega; done) | omega | simp | (simp +contextual; omega))
   refine qA (rgn [] [[],[4]] ?_)
   iterate 2 refine op1 tok ?_
   refine qA ?_
   exact AW.ret wD
  intro h43
  try simp at h43
  have hN0:N=0:=by omega
  subst hN0
  obtain rfl:done=[]:=List.eq_nil_of_length_eq_zero (by omega)
  rw [show kQ 0 s=[] from rfl]
  refine AW.skip (rgn [] [[],[4]] ?_)
  iterate 2 refine op1 tok ?_
  refine qA ?_
  exact AW.ret wD
 intro h18
 try simp at h18
theorem qNW (hG:U8 G) (s:List UInt8) (hs:s.length≤1000000):AR Tryz.prog G 152 [.str s,.int .i64 (-1)] 9 1 ((wL s).map PD.str):=AR.of_AX (k:=81) (by simpa using qNV s hG hs)
theorem qIX (s:List UInt8) (hG:U8 G) (hs:s.length≤1000000):AX Tryz.prog G 109 [.p (.str s),.p (.str []),.p (.int .i64 0),.p (.int .i64 (-1))] [] (.ms 78) [] [(78,.row 9 1 ((wL s).map PD.str))]:=by
 refine AX.introU tok 60 Tryz.func109 (by kernel_rfl) rfl rfl ?_
 simp only [Tryz.f109,qK,List.map_cons,List.map_nil]
 have hE:=qNW (G:=G) hG s hs
 refine rgn [] [[0,1,2,3]] ?_
 refine op1 tok ?_
 refine qA (AW.seq (rgn [] [[],[0,1,2,3,13]] ?_))
 iterate 2 refine op1 tok ?_
 refine qA (cnd ?_ ?_)
 ·intro h13
  try simp at h13
 intro h13
 try simp at h13
 refine AW.skip (AW.seq (rgn [] [[],[0,1,2,3,15]] ?_))
 iterate 2 refine op1 tok ?_
 refine qA (cnd ?_ ?_)
 ·intro h15
  try simp at h15
  refine rgn [.nilf,.sl 1 ((wL s).map PD.str),.clo 9 []] [[],[],[18],[8]] ?_
  iterate 4 refine op1 tok ?_ (hv:=by first | with_reducible exact True.intro | (first | exact hE | (simp; exact hE); done) | omega | simp | (simp +contextual; omega))
  refine qA ?_
  exact AW.ret wD
 intro h15
 try simp at h15
theorem qIY (hG:U8 G) (s:List UInt8) (hs:s.length≤1000000):AR Tryz.prog G 109 [.str s,.str [],.int .i64 0,.int .i64 (-1)] 9 1 ((wL s).map PD.str):=AR.of_AX (k:=78) (by simpa using qIX s hG hs)
theorem qRV (s:List UInt8) (hG:U8 G) (hs:s.length≤1000000):AX Tryz.prog G 75 [.p (.str s),.p (.str [])] [] (.ms 67) [] [(67,.row 9 1 ((wL s).map PD.str))]:=by
 refine AX.introU tok 60 Tryz.func75 (by kernel_rfl) rfl rfl ?_
 simp only [Tryz.f75,qK,List.map_cons,List.map_nil]
 have hE:=qIY (G:=G) hG s hs
 refine rgn [] [[0,1]] ?_
 refine op1 tok ?_
 refine qA (rgn [.nilf,.sl 1 ((wL s).map PD.str),.clo 9 []] [[],[],[7],[4]] ?_)
 iterate 4 refine op1 tok ?_ (hv:=by first | with_reducible exact True.intro | (first | exact hE | (simp; exact hE); done) | omega | simp | (simp +contextual; omega))
 refine qA ?_
 exact AW.ret wD
theorem qRU (hG:U8 G) (s:List UInt8) (hs:s.length≤1000000):AFn Tryz.prog G 75 [.str s,.str []] (.sl 1 ((wL s).map PD.str)):=AFn.of_AX (k:=67) (by simpa using qRV s hG hs)
end Go.Proofs.YtgcbapchinideaaGreatDoor
