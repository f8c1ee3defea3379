import Derived.Test.YtgcbapchinideaaGreatDoorK1
import Derived.Test.YtgcbapchinideaaGreatDoorK2
import Derived.Test.YtgcbapchinideaaGreatDoorSStr3
namespace Go.Proofs.YtgcbapchinideaaGreatDoor
open Sy Go
set_option maxRecDepth 100000
set_option maxHeartbeats 4000000
set_option linter.unusedSimpArgs false
set_option linter.unusedVariables false
variable {G:qK}
theorem zAJ:qVI Tryz.prog 196 Extern.BytealgCount.count:=fun args w=>run_callFunc_extern Tryz.func196 (by kernel_rfl) (by kernel_rfl) (by kernel_rfl) (by kernel_rfl) args w
theorem zBQ (s:List UInt8) (c:UInt8):AFn Tryz.prog G 153 [.str s,.str [c]] (.int .i64 (s.count c:Nat)):=by
 refine AFn.introU tok Tryz.func153 (by kernel_rfl) rfl rfl ?_
 simp only [Tryz.f153,qH,List.map_cons,List.map_nil]
 refine rgn [] [[0,1]] ?_
 refine op1 tok ?_
 refine qA (AW.seq (rgn [] [[],[],[0,1,9]] ?_))
 iterate 3 refine op1 tok ?_
 refine qA (cnd ?_ ?_)
 ·intro h9
  try simp at h9
 intro h9
 try simp at h9
 refine AW.skip (AW.seq (rgn [] [[],[],[0,1,15]] ?_))
 iterate 3 refine op1 tok ?_
 refine qA (cnd ?_ ?_)
 ·intro h15
  try simp at h15
  refine rgn [.int .u8 c.toNat] [[],[],[]] ?_
  iterate 3 refine op1 tok ?_
  refine zX ?_
  refine qF.stepK [19] (qKH (s:=s) (n:=c.toNat) (p:=True) (q:=True) (r:=True) zAJ rfl (by simp) trivial (by simp) trivial (by simp) trivial) (by conv=>lhs; simp) rfl ?_
  refine qF.run [[4]] ?_
  refine op1 tok ?_
  exact qA (AW.ret qG)
 intro h15
 try simp at h15
theorem qWC (s:List UInt8) (c:UInt8):AFn Tryz.prog G 197 [.str s,.str [c]] (.int .i64 (Lib.indexByte s c)):=by
 refine AFn.introU tok Tryz.func197 (by kernel_rfl) rfl rfl ?_
 simp only [Tryz.f197,qH,List.map_cons,List.map_nil]
 refine rgn [] [[0,1]] ?_
 refine op1 tok ?_
 refine qA (rgn [] [[],[],[0,1,5]] ?_)
 iterate 3 refine op1 tok ?_
 refine qA (AW.seq (AW.block (rgn [] [[],[],[],[],[],[0,1,5,19,22],[],[0,1,5,16]] ?_)))
 iterate 3 refine op1 tok ?_
 iterate 3 refine op2 tok ?_
 iterate 2 refine op1 tok ?_
 refine qA (cnd ?_ ?_)
 ·intro h16
  try simp at h16
  subst h16
  refine rgn [] [[]] ?_
  refine op1 tok ?_
  refine qA ?_
  exact AW.ret (qG (k:=by simp [Lib.indexByte]))
 intro h16
 try simp at h16
 refine rgn [] [[],[],[0,1,5,24]] ?_
 iterate 3 refine op1 tok ?_
 refine qA (cnd ?_ ?_)
 ·intro h24
  try simp at h24
  refine rgn [.int .u8 c.toNat,.nilp,.int .i64 (Lib.indexByte s c)] [[],[],[],[30],[4]] ?_
  iterate 5 refine op1 tok ?_ (hv:=by first | with_reducible exact True.intro | (first | (have:=qKJ (G:=G) s c.toNat; simpa using this) | simp; done) | omega | simp | (simp +contextual; omega))
  exact qA (AW.ret qG)
 intro h24
 try simp at h24
theorem zBO (s:List UInt8) (c:UInt8):AFn Tryz.prog G 154 [.str s,.str [c]] (.int .i64 (Lib.indexByte s c)):=by
 refine AFn.introU tok Tryz.func154 (by kernel_rfl) rfl rfl ?_
 simp only [Tryz.f154,qH,List.map_cons,List.map_nil]
 refine rgn [] [[0,1]] ?_
 refine op1 tok ?_
 refine qA (rgn [.nilp,.int .i64 (Lib.indexByte s c)] [[],[],[7],[4]] ?_)
 iterate 4 refine op1 tok ?_ (hv:=by first | with_reducible exact True.intro | (exact qWC s c; done) | omega | simp | (simp +contextual; omega))
 exact qA (AW.ret qG)
theorem qHK {α β:Type} (f:α→β) (l:List α) (x y:β) (r:List β):(l.map f++x::r).set l.length y=l.map f++y::r:=by
 rw [List.set_append_right _ _ (by simp)]; simp
theorem qHO {α β:Type} (f:α→β) (l:List α) (x:β) (r:List β):(l.map f++x::r)[l.length]?=some x:=by
 rw [List.getElem?_append_right (by simp)]; simp
theorem qQI (s:List UInt8) (c:UInt8) (hs:s.length≤1000000000):AX Tryz.prog G 109 [.p (.str s),.p (.str [c]),.p (.int .i64 0),.p (.int .i64 (-1))] [] (.ms 91) [] [(91,.row 9 1 ((wO c s).map PD.str))]:=by
 refine AX.introU tok 60 Tryz.func109 (by kernel_rfl) rfl rfl ?_
 simp only [Tryz.f109,qH,List.map_cons,List.map_nil]
 have hC:=zBQ (G:=G) s c
 have hcl:s.count c≤s.length:=List.count_le_length
 have hsl:=qIH c s
 generalize hN:s.count c=N at *
 have hlt:¬ s.length<N:=by omega
 refine rgn [] [[0,1,2,3]] ?_
 refine op1 tok ?_
 refine qA (AW.seq (rgn [] [[],[0,1,2,3,13]] ?_))
 iterate 2 refine op1 tok ?_
 refine qA (cnd ?_ ?_)
 ·intro h13
  try simp at h13
 intro h13
 try simp at h13
 refine AW.skip (AW.seq (rgn [] [[],[0,1,2,3,15]] ?_))
 iterate 2 refine op1 tok ?_
 refine qA (cnd ?_ ?_)
 ·intro h15
  try simp at h15
 intro h15
 try simp at h15
 refine AW.skip (AW.seq (rgn [] [[],[0,1,2,3,20]] ?_))
 iterate 2 refine op1 tok ?_
 refine qA (cnd ?_ ?_)
 ·intro h20
  try simp at h20
  refine rgz [.nilp,.int .i64 N] [[],[],[],[],[0,1,2,3]] ?_
  iterate 5 refine oq1 tok hC ?_
  refine qA (rgn [] [[],[],[],[],[0,1,2,29],[0,1,2,3]] ?_)
  iterate 6 refine op1 tok ?_
  refine qA (rgn [.str []] [[],[],[0,1,2,3,9]] ?_)
  iterate 3 refine op1 tok ?_
  refine qA (rgn [] [[],[],[0,1,2,3,9]] ?_)
  iterate 3 refine op1 tok ?_
  refine qA (rgn [] [[]] ?_)
  refine op1 tok ?_
  refine qA (AW.seq (AW.block ?_))
  refine AW.loop (α:=List (List UInt8) × List UInt8) (fun a=>wO c s=a.1++wO c a.2∧a.1.length+a.2.count c=N∧a.2.length≤s.length) (fun a=>⟨qS 66 [(0,.p (.str a.2)),(1,.p (.str [c])),(2,.p (.int .i64 0)),(3,.p (.int .i64 N)),(9,.ms 91),(10,.p (.int .i64 a.1.length))],[],[(91,.row 9 1 (a.1.map PD.str ++ .str []::List.replicate (N-a.1.length) (.str [])))],60⟩) (fun a=>N-a.1.length) (([],s)) ⟨by simp,by simpa using hN,by simp⟩ ⟨qB (by simp [hlt]),rfl,by simp [hlt,List.replicate_succ],by simp [hlt]⟩ ?_
  rintro ⟨done,r⟩ ⟨hsp,hcn,hrl⟩
  simp only at hsp hcn hrl
  have hI:=zBO (G:=G) r c
  refine AW.seq (rgn [] [[],[],[0,1,2,3,9,10,36]] ?_)
  iterate 3 refine op1 tok ?_
  refine qA (cnd ?_ ?_)
  ·intro h36
   try simp at h36
   have hm:c∈r:=by
    apply Classical.byContradiction; intro h
    have:=List.count_eq_zero.2 h; omega
   obtain ⟨a,q,rfl,hn⟩:=qWQ hm
   rw [qLB hn] at hsp
   rw [zAR hn] at hcn
   simp only [List.length_append,List.length_cons] at hrl
   rw [qMA hn] at hI
   have hrep:List.replicate (N-done.length) (PD.str [])=PD.str []::List.replicate (N-(done.length+1)) (PD.str []):=by
    rw [show N-done.length=(N-(done.length+1))+1 by omega,List.replicate_succ]
   have hdq:List.drop (a.length+1) (List.take ((a.length:Int)+((q.length:Int)+1)).toNat (a++c::q))=q:=by
    rw [List.take_of_length_le (by simp; omega)]; simp
   refine AW.skip (AW.block (rgn [.nilp,.int .i64 a.length] [[],[],[],[0,1,2,3,9,10,11]] ?_))
   iterate 4 refine oq1 tok hI ?_
   refine qA (AW.seq (rgn [] [[],[0,1,2,3,9,10,11,41]] ?_))
   iterate 2 refine op1 tok ?_
   refine qA (cnd ?_ ?_)
   ·intro h41
    try simp at h41
    omega
   intro h41
   try simp at h41
   refine AW.skip (rgn [.str [],.str a] [[],[],[],[],[],[],[0,1,2,3,9,10,11,42,43,48],[],[0,1,2,3,9,10,11]] ?_)
   iterate 9 refine op1 tok ?_ (hv:=by first | with_reducible exact True.intro | (first | (simp [qHO]; done) | (simp [qHO]; omega); done) | omega | simp | (simp +contextual; omega))
   refine qA (rgn [] [[],[],[],[],[1,2,3,9,10,50,54],[],[0,1,2,3,9,10]] ?_)
   iterate 7 refine op1 tok ?_
   refine qA (rgz [] [[],[],[0,1,2,3,9,10]] ?_)
   iterate 3 refine op1 tok ?_
   refine qA ?_
   exact ⟨(done++[a],q),⟨by simp [hsp],by simp; omega,by simp only []; omega⟩,by simp; omega,qB (by simp [qHK,hrep,hdq]),rfl,by simp [qHK,hrep,hdq],by simp [qHK,hrep,hdq]⟩
  intro h36
  try simp at h36
  have hm:c ∉ r:=by
   intro h
   have:=List.count_pos_iff.2 h; omega
  rw [qLA hm] at hsp
  have hdl:done.length=N:=by have:=List.count_eq_zero.2 hm; omega
  subst hdl
  have hfin:List.take (done.length+1) (List.map PD.str done++[PD.str r])=List.map PD.str (wO c s):=by
   rw [hsp,List.take_of_length_le (by simp)]; simp
  refine AW.exit ?_
  simp
  refine rgn [.str [],.str r] [[],[],[],[],[9,10]] ?_
  iterate 5 refine op1 tok ?_ (hv:=by first | with_reducible exact True.intro | (first | (simp [qHO]; done) | (simp [qHO]; omega); done) | omega | simp | (simp +contextual; omega))
  refine qA (rgn [] [[],[],[]] ?_)
  iterate 3 refine op1 tok ?_
  refine zX ?_
  refine qF.stepK [65] (qOM tok rfl rfl (done.length+1) (by conv=>lhs; simp) trivial (by conv=>lhs; simp) trivial rfl (by conv=>lhs; simp [qHK]) (by simp) (by omega)) (by conv=>lhs; simp [hfin]) rfl ?_
  refine qF.run [[8]] ?_
  refine op1 tok ?_
  refine qA ?_
  exact AW.ret uU
 intro h20
 try simp at h20
theorem qQJ (s:List UInt8) (c:UInt8) (hs:s.length≤1000000000):AR Tryz.prog G 109 [.str s,.str [c],.int .i64 0,.int .i64 (-1)] 9 1 ((wO c s).map PD.str):=AR.of_AX (k:=91) (by simpa using qQI s c hs)
theorem zBL (s:List UInt8) (c:UInt8) (hs:s.length≤1000000000):AX Tryz.prog G 75 [.p (.str s),.p (.str [c])] [] (.ms 67) [] [(67,.row 9 1 ((wO c s).map PD.str))]:=by
 refine AX.introU tok 60 Tryz.func75 (by kernel_rfl) rfl rfl ?_
 simp only [Tryz.f75,qH,List.map_cons,List.map_nil]
 have hG:=qQJ (G:=G) s c hs
 refine rgn [] [[0,1]] ?_
 refine op1 tok ?_
 refine qA (rgn [.nilf,.sl 1 ((wO c s).map PD.str),.clo 9 []] [[],[],[7],[4]] ?_)
 iterate 4 refine op1 tok ?_ (hv:=by first | with_reducible exact True.intro | (first | exact hG | (simp; exact hG); done) | omega | simp | (simp +contextual; omega))
 refine qA ?_
 exact AW.ret uU
end Go.Proofs.YtgcbapchinideaaGreatDoor
