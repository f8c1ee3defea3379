import Derived.Test.YtgcbapchinideaaGreatDoorK1
import Derived.Test.YtgcbapchinideaaGreatDoorM4
import Derived.Test.YtgcbapchinideaaGreatDoorM3
import Derived.Test.YtgcbapchinideaaGreatDoorM1
import Derived.Lib.ValidU
import Derived.Lib.LaidU8T
import Derived.Lib.MapLaws
import Derived.Lib.ValidLaws
set_option linter.all false
namespace Go.Proofs.YtgcbapchinideaaGreatDoor
open Sy Go
set_option maxRecDepth 100000
set_option maxHeartbeats 4000000
variable {G:qT}
@[simp] def rsC (s:RG):List V:=[.ptr 5 0,.p (.sl 1 (s.left.map Sy.pr)),.p (.int .i64 s.deep),.p (.bool s.bad)]
@[simp] theorem zYQ (n:Nat) (s:RG):(wY n s).ss=s.ss:=rfl
@[simp] theorem drop_left (n:Nat) (s:RG):(wY n s).left=s.left.drop n:=rfl
@[simp] theorem qXP (n:Nat) (s:RG):(wY n s).deep=s.deep:=rfl
@[simp] theorem wHB (n:Nat) (s:RG):(wY n s).bad=s.bad:=rfl
@[simp] theorem bad_ss (s:RG):(qVC s).ss=s.ss:=rfl
@[simp] theorem wHG (s:RG):(qVC s).left=s.left:=rfl
@[simp] theorem wHH (s:RG):(qVC s).deep=s.deep:=rfl
@[simp] theorem wHO (s:RG):(qVC s).bad=true:=rfl
@[simp] theorem wAH (b:Bool) (s:RG):(wR b s).ss=s.ss:=rfl
@[simp] theorem or_left (b:Bool) (s:RG):(wR b s).left=s.left:=rfl
@[simp] theorem qZP (b:Bool) (s:RG):(wR b s).deep=s.deep:=rfl
@[simp] theorem wBY (b:Bool) (s:RG):(wR b s).bad=(s.bad || b):=rfl
@[simp] theorem qSM (ss:List XS) (s:RG):(wQ ss s).ss=ss:=rfl
@[simp] theorem qLN (ss:List XS) (s:RG):(wQ ss s).left=s.left:=rfl
@[simp] theorem wGR (ss:List XS) (s:RG):(wQ ss s).deep=s.deep:=rfl
@[simp] theorem wHL (ss:List XS) (s:RG):(wQ ss s).bad=s.bad:=rfl
@[simp] theorem zYS (n:Int) (s:RG):(jA n s).ss=s.ss:=rfl
@[simp] theorem qIX (n:Int) (s:RG):(jA n s).left=s.left:=rfl
@[simp] theorem qOC (n:Int) (s:RG):(jA n s).deep=s.deep+n:=rfl
@[simp] theorem wHD (n:Int) (s:RG):(jA n s).bad=s.bad:=rfl
@[simp] theorem wDM (l:List Int):(List.take l.length (List.map Sy.pr l)).tail=List.map Sy.pr l.tail:=by rw[bK (by simp)];simp
theorem qTL {l:List Int} (h:0<l.length):l[0]?=some (l.headD 0):=by
 cases l with
 | nil=>cases h
 | cons t l=>rfl
theorem qZN {s:RG} (h:qDT s.left):zL s<=1114111:=by
 unfold zL;split
 ·omega
 rename_i e;cases hl:s.left with
 | nil=>exact(e (.inr hl)).elim
 | cons c l=>exact(h c (by simp[hl])).2
theorem qLP (s:RG):AX Tryz.prog G 235 [.ptr 2 0] [(2,.vars 209 (rsC s)),(5,.vars 207 [.ms 6]),(6,.mach 215 3 (s.ss.map XS.ms))] (.p (.int .i32 (zL s))) [2,5,6] [(2,.vars 209 (rsC s)),(5,.vars 207 [.ms 6]),(6,.mach 215 3 (s.ss.map XS.ms))]:=by
 refine AX.introU tok 900 Tryz.func235 (by kernel_rfl) rfl rfl ?_;simp only[Tryz.f235,qG,bA,bC];refine rgn [] [[0]] ?_;refine op3 ?_;refine qA (AW.seq (rgn [] [[],[],[],[],[0,7],[],[],[],[],[0,7,12],[],[0,14]] ?_));iterate 5 refine op3 ?_
 iterate 6 refine op4 ?_
 refine op3 ?_;refine qA (cnd ?_ ?_)
 ·intro h14;try simp at h14
  rw[show zL s = -1 from by rcases h14 with h|h <;> simp[zL,h]];refine rgn [] [[]] ?_;refine op3 ?_;refine qA ?_;exact AW.ret zC
 intro h14;try simp at h14
 rw[show zL s=s.left.headD 0 from by simp[zL,h14.1,h14.2]];have hix:=qTL (l:=s.left) (bV.2 h14.2);generalize s.left.headD 0=t at *;refine AW.skip (rgn [.int .i32 t] [[],[],[],[18],[],[],[2]] ?_);iterate 7 refine op3 ?_ (hv:=by first|exact True.intro|(simp[hix];done)|(simp[hix];omega)|(simp;exact bV.2 h14.2);done|omega|simp)
 refine qA ?_;exact AW.ret zC
theorem qHH (w:List UInt8) (s:RG) (hr:qDT s.left) (hw:∀ b∈w,b.toNat<128) (hl:w.length<=100):AX Tryz.prog G 217 [.ptr 2 0,.p (.str w)] [(2,.vars 209 (rsC s)),(5,.vars 207 [.ms 6]),(6,.mach 215 3 (s.ss.map XS.ms))] (.tuple [.p (.int .i32 (zL s)),.p (.bool (wD w s))]) [2,5,6] [(2,.vars 209 (rsC (qW w s))),(5,.vars 207 [.ms 6]),(6,.mach 215 3 ((qW w s).ss.map XS.ms))]:=by
 refine AX.introU tok 900 Tryz.func217 (by kernel_rfl) rfl rfl ?_;simp only[Tryz.f217,qG,bA,bC];have c1:=qLP (G:=G) s;have hp:=qZN hr;have hC:=fun h0=>qFZ (G:=G) w (zL s) h0 hp hw hl;have hT:wD w s = !(decide (zL s<0) || !qEW w (zL s)):=rfl;have hN:qW w s=if wD w s=true then wY 1 s else s:=rfl
 refine rgn [] [[],[0,1]] ?_;iterate 2 refine op3 ?_
 refine qA (rgn [] [[]] ?_);refine op3 ?_;refine qJ ?_;refine qB.stepK [0,1,8] (zI rfl c1 (by simp)) (by conv=>lhs;simp) rfl ?_;refine qB.run [[0,1,6]] ?_;refine op3 ?_;refine qA (AW.seq (rgn [.nilp,.bool (qEW w (zL s))] [[],[],[],[],[],[0,6,11,14],[],[0,6,16]] ?_));iterate 3 refine op3 ?_ (hv:=by first|exact True.intro|(exact fun h=>⟨h,hC h⟩;done)|omega|simp)
 iterate 4 refine op4 ?_ (hv:=by first|exact True.intro|(exact fun h=>⟨h,hC h⟩;done)|omega|simp)
 refine op3 ?_ (hv:=by first|exact True.intro|(exact fun h=>⟨h,hC h⟩;done)|omega|simp);refine qA (cnd ?_ ?_)
 ·intro h16;try simp at h16
  rw[show wD w s=false from by rw[hT];rcases h16 with h|h <;> simp[h]]at *;rw[show qW w s=s from by rw[hN];rfl];refine rgn [] [[],[],[4,5]] ?_;iterate 3 refine op3 ?_
  refine qA ?_;exact AW.ret zC
 intro h16;try simp at h16
 have hf:wD w s=true:=by rw[hT];simp at h16 ⊢; omega
 have hlf:=bV.2 (qJX hf).1;rw[hf];rw[show qW w s=wY 1 s from by rw[hN,bE hf]];refine AW.skip (rgn [] [[],[],[],[],[6,18,22],[],[],[],[6]] ?_);iterate 9 refine op3 ?_
 refine qA (rgn [] [[],[],[4,5]] ?_);iterate 3 refine op3 ?_
 refine qA ?_;exact AW.ret zC
theorem qTQ (s:RG):AX Tryz.prog G 259 [.ptr 2 0] [(2,.vars 209 (rsC s)),(5,.vars 207 [.ms 6]),(6,.mach 215 3 (s.ss.map XS.ms))] (.p (.int .i32 (zM s).1)) [2,5,6] [(2,.vars 209 (rsC ((zM s).2))),(5,.vars 207 [.ms 6]),(6,.mach 215 3 (((zM s).2).ss.map XS.ms))]:=by
 refine AX.introU tok 900 Tryz.func259 (by kernel_rfl) rfl rfl ?_;simp only[Tryz.f259,qG,bA,bC];have c1:=qLP (G:=G) s;have hi:=zTR (G:=G) qTB (zL s);refine rgn [] [[0]] ?_;refine op3 ?_;refine qA (rgn [] [[]] ?_);refine op3 ?_;refine qJ ?_;refine qB.stepK [0,6] (zI rfl c1 (by simp)) (by conv=>lhs;simp) rfl ?_;refine qB.run [[0,3]] ?_;refine op3 ?_;refine qA (rgn [.agg [.int .i32 48,.int .i32 57],.agg [.int .i32 97,.int .i32 122],.agg [.int .i32 65,.int .i32 90],.nilp,.bool (inR qTB (zL s))] [[],[],[],[],[],[0,3,12],[0,3,4]] ?_);iterate 7 refine oq1 tok hi ?_
 refine qA (AW.seq (AW.block (rgn [] [[],[],[0,3,4,13]] ?_)));iterate 3 refine op3 ?_
 refine qA (cnd ?_ ?_)
 ·intro h13;try simp at h13
  have hE:zM s=(10,wY 1 s):=by simp[zM,h13]
  have hlf:=bV.2 (kB (s:=s) (by omega)).1;rw[hE];refine rgz [] [[]] ?_;refine op3 ?_;refine qA (rgn [] [[],[],[],[],[3,32,36],[],[],[],[3]] ?_);iterate 9 refine op3 ?_
  refine qA (rgn [] [[],[2]] ?_);iterate 2 refine op3 ?_
  refine qA ?_;exact AW.ret zC
 intro h13;try simp at h13
 refine rgn [] [[],[],[0,3,4,16]] ?_;iterate 3 refine op3 ?_
 refine qA (cnd ?_ ?_)
 ·intro h16;try simp at h16
  have hE:zM s=(9,wY 1 s):=by simp[zM,h16]
  have hlf:=bV.2 (kB (s:=s) (by omega)).1;rw[hE];refine rgz [] [[]] ?_;refine op3 ?_;refine qA (rgn [] [[],[],[],[],[3,32,36],[],[],[],[3]] ?_);iterate 9 refine op3 ?_
  refine qA (rgn [] [[],[2]] ?_);iterate 2 refine op3 ?_
  refine qA ?_;exact AW.ret zC
 intro h16;try simp at h16
 refine rgn [] [[],[],[],[],[],[0,3,4,25],[],[],[0,3,28],[0,3,19]] ?_;iterate 10 first|refine op3 ?_|refine op4 ?_
 refine qA (cnd ?_ ?_)
 ·intro h19;try simp at h19
  have hE:zM s=(0,qVC s):=by
   unfold zM;rw[bD h13,bD h16,bE (by simpa[or_assoc]using h19)]
  rw[hE];refine rgn [] [[],[],[],[41]] ?_;iterate 4 refine op3 ?_
  refine qA (rgn [] [[]] ?_);refine op3 ?_;refine qA ?_;exact AW.ret zC
 intro h19;try simp at h19
 have hE:zM s=(zL s,wY 1 s):=by
  unfold zM;rw[bD h13,bD h16,bD (by simpa[and_assoc]using h19)]
 have hlf:=bV.2 (kB (s:=s) (by omega)).1;rw[hE];refine AW.skip (rgn [] [[],[],[],[],[3,32,36],[],[],[],[3]] ?_);iterate 9 refine op3 ?_
 refine qA (rgn [] [[],[2]] ?_);iterate 2 refine op3 ?_
 refine qA ?_;exact AW.ret zC
theorem qIN (s:RG) (hr:qDT s.left):AX Tryz.prog G 255 [.ptr 2 0] [(2,.vars 209 (rsC s)),(5,.vars 207 [.ms 6]),(6,.mach 215 3 (s.ss.map XS.ms))] (.p (.int .i32 (zH s).1)) [2,5,6] [(2,.vars 209 (rsC ((zH s).2))),(5,.vars 207 [.ms 6]),(6,.mach 215 3 (((zH s).2).ss.map XS.ms))]:=by
 refine AX.introU tok 900 Tryz.func255 (by kernel_rfl) rfl rfl ?_;simp only[Tryz.f255,qG,bA,bC];have c1:=qHH (G:=G) [92] s hr (by decide) (by decide);have hN:wD [92] s=false->qW [92] s=s:=fun h=>by unfold qW;rw[bD (by simp[h])]
 have c2:=qTQ (G:=G) (qW [92] s);have c3:=qLP (G:=G) s;have hp:=qZN hr;have hC:=fun h0=>qFZ (G:=G) [91,93,94,45] (zL s) h0 hp (by decide) (by decide);have hS1:wD [92] s=true->zH s=zM (qW [92] s):=fun h=>by unfold zH;rw[bE h]
 have hS2:wD [92] s=false->(zL s<0\/qEW [91,93,94,45] (zL s)=true)->zH s=(0,qVC s):=fun h k=>by unfold zH;rw[bD (by simp[h]),bE k]
 have hS3:wD [92] s=false->¬ (zL s<0\/qEW [91,93,94,45] (zL s)=true)->zH s=(zL s,wY 1 s):=fun h k=>by unfold zH;rw[bD (by simp[h]),bD k]
 generalize qW [92] s=s1 at *;generalize wD [92] s=b at *;refine rgn [] [[0]] ?_;refine op3 ?_;refine qA (AW.seq (rgn [] [[]] ?_));refine op3 ?_;refine qJ ?_;refine qB.stepK [0,8] (zI rfl c1 (by simp)) (by conv=>lhs;simp) rfl ?_;refine qB.run [[],[],[],[0,10],[0,4]] ?_;iterate 5 refine op3 ?_
 refine qA (rgn [] [[0,11]] ?_);refine op3 ?_;refine qA (cnd ?_ ?_)
 ·intro h11;try simp at h11
  rw[hS1 h11];refine rgn [] [[]] ?_;refine op3 ?_;refine qJ ?_;refine qB.stepK [13] (zI rfl c2 (by simp)) (by conv=>lhs;simp) rfl ?_;refine qB.run [[2]] ?_;refine op3 ?_;refine qA ?_;exact AW.ret zC
 intro h11;try simp at h11
 obtain rfl:=hN h11;refine AW.skip (rgn [] [[]] ?_);refine op3 ?_;refine qJ ?_;refine qB.stepK [0,15] (zI rfl c3 (by simp)) (by conv=>lhs;simp) rfl ?_;refine qB.run [[0,5]] ?_;refine op3 ?_;refine qA (AW.seq (rgn [.nilp,.bool (qEW [91,93,94,45] (zL s1))] [[],[],[],[],[],[0,5,21]] ?_));iterate 3 refine op3 ?_ (hv:=by first|exact True.intro|(exact fun h=>⟨h,hC h⟩;done)|omega|simp)
 iterate 2 refine op4 ?_ (hv:=by first|exact True.intro|(exact fun h=>⟨h,hC h⟩;done)|omega|simp)
 refine op3 ?_ (hv:=by first|exact True.intro|(exact fun h=>⟨h,hC h⟩;done)|omega|simp);refine qA (cnd ?_ ?_)
 ·intro h21;try simp at h21
  rw[hS2 h11 (by simpa using h21)];refine rgn [] [[],[],[],[34]] ?_;iterate 4 refine op3 ?_
  refine qA (rgn [] [[]] ?_);refine op3 ?_;refine qA ?_;exact AW.ret zC
 intro h21;try simp at h21
 have hk:¬ (zL s1<0\/qEW [91,93,94,45] (zL s1)=true):=by simpa using h21
 rw[hS3 h11 hk];have hlf:=bV.2 (kB (s:=s1) (by omega)).1;refine AW.skip (rgn [] [[],[],[],[],[5,25,29],[],[],[],[5]] ?_);iterate 9 refine op3 ?_
 refine qA (rgn [] [[],[2]] ?_);iterate 2 refine op3 ?_
 refine qA ?_;exact AW.ret zC
theorem qMG:∀ H:List (Nat × Box),zN [] H=H
 | []=>rfl
 | (k,c)::r=>by simp[zN,qMG r]
theorem zZZ {P:Program} {st:St} {o:Oper} {x:Operand} {args:Array Operand} {tys:Array TypeId} {f:FuncId} {xs:List V} {r:V} (ho:o.op = .call { callee := .value x,args:=args,argTypes:=tys }) (hc:AX P G f xs [] r [] []) (h:CX G st x args.toList f xs [] r [] []):Sy.Yields P G o st r st:=by
 have y:=zI ho hc h;have e:({ St.rest st [] []with H:=[]++(St.rest st [] []).H }:St)=st:=by
  simp only[St.rest,bC,List.filter_nil,St.killAll,qMG,dH]
 rw[e]at y;exact y
def zJE (c:Int):V:=if wJ c=[] then .nilsl else .p (.sl 2 ((wJ c).map spC))
theorem qMO {c:Int} (h:wJ c=[]):zJE c = .nilsl:=bE h
theorem qFD {c:Int} (h:wJ c≠[]):zJE c = .p (.sl 2 ((wJ c).map spC)):=bD h
@[simp] theorem wEC (c:Int):V.cells (zJE c)=some [zJE c]:=by unfold zJE;split <;> rfl
theorem zMF (c:Int):zDP (zJE c)=some (!decide (wJ c≠[])):=by
 by_cases h:wJ c=[]
 ·rw[qMO h];simp[zDP,h]
 rw[qFD h];cases hl:wJ c with
 | nil=>exact(h hl).elim
 | cons a l=>simp[zDP]
theorem zFR (c:Int):AX Tryz.prog G 254 [.p (.int .i32 c)] [] (zJE c) [] []:=by
 by_cases h:wJ c=[]
 ·rw[qMO h];exact zQA c h
 rw[qFD h];exact pE (zFQ c h) (by simp[iP,iS])
theorem qTP (s:RG):(zM s).2.ss=s.ss:=by
 unfold zM;split;rfl;split;rfl;split <;> rfl
theorem zSR (c:Int) (s:RG) (hl:s.ss.length<=50000):AX Tryz.prog G 251 [.ptr 2 0,.p (.int .i32 c)] [(2,.vars 209 (rsC s)),(5,.vars 207 [.ms 6]),(6,.mach 215 3 (s.ss.map XS.ms))] (.agg [.p (.int .i64 (qLQ c s).1.1),.p (.int .i64 (qLQ c s).1.2)]) [2,5] [(2,.vars 209 (rsC ((qLQ c s).2))),(5,.vars 207 [.ms 6]),(6,.mach 215 3 (((qLQ c s).2).ss.map XS.ms))]:=by
 refine AX.introU tok 900 Tryz.func251 (by kernel_rfl) rfl rfl ?_;simp only[Tryz.f251,qG,bA,bC];refine rgn [] [[],[0,3,4]] ?_;iterate 2 refine op3 ?_
 refine qA (rgn [] [[],[],[],[3,4,8],[]] ?_);iterate 5 refine op3 ?_
 refine qJ ?_;refine qB.freezeV 903 (by conv=>lhs;simp) ?_;refine qB.stepK [4,10] (zI rfl (zCX s.ss (.one c) 260 [.int .i32 c] rfl hl) (by simp)) (by conv=>lhs;simp) rfl ?_;refine qB.run [[4]] ?_;refine op3 ?_;refine qA ?_;exact AW.ret (zC (k:=by simp[qLQ]) (b:=by simp[qLQ]))
theorem zHC (s:RG) (hl:s.ss.length<=50000):AX Tryz.prog G 250 [.ptr 2 0] [(2,.vars 209 (rsC s)),(5,.vars 207 [.ms 6]),(6,.mach 215 3 (s.ss.map XS.ms))] (.agg [.p (.int .i64 (kK s).1.1),.p (.int .i64 (kK s).1.2)]) [2,5] [(2,.vars 209 (rsC ((kK s).2))),(5,.vars 207 [.ms 6]),(6,.mach 215 3 (((kK s).2).ss.map XS.ms))]:=by
 refine AX.introU tok 900 Tryz.func250 (by kernel_rfl) rfl rfl ?_;simp only[Tryz.f250,qG,bA,bC];have c1:=qLP (G:=G) s;have c2:=zFR (G:=G) (zL s);have c3:=qTQ (G:=G) s;have c4:=zSR (G:=G) (zM s).1 (zM s).2 (by rw[qTP];exact hl);refine rgn [] [[]] ?_;refine op3 ?_;refine qA (AW.seq ?_);by_cases hs1:wJ (zL s)≠[]
 ·
  rw[qFD hs1]at c2;refine rgn [] [[]] ?_;refine op3 ?_;refine qJ ?_;refine qB.stepK [0,2,5] (zI rfl c1 (by simp)) (by conv=>lhs;simp) rfl ?_;refine qB.stepK [0,2,6] (zI rfl c2 (by simp)) (by conv=>lhs;simp) rfl ?_;refine qB.run [[],[0,2,3]] ?_;iterate 2 refine op3 ?_
  refine qA (rgn [] [[]] ?_);refine op3 ?_;refine qJ ?_;refine qB.stepK [0,2,3,8] (qYK tok true rfl rfl (by conv=>lhs;simp) trivial (by rw[<-qFD hs1,zMF];simp[hs1])) (by conv=>lhs;simp) rfl ?_;refine qB.nil ?_;refine cnd ?_ ?_
  ·intro h8;try simp at h8
   have hS:kK s=(yF s.ss,wQ (uF s.ss (.cls (wJ (zL s)))) (wY 1 s)):=by unfold kK;rw[bE hs1]
   rw[hS];have hp0:0<=zL s:=by
    refine Int.not_lt.1 fun h=>hs1 ?_;unfold wJ;rw[bD (by omega),bD (by omega),bD (by omega)]
   have hlf:=bV.2 (kB (s:=s) hp0).1;refine rgn [] [[],[],[],[],[],[0,2,3,9,14],[],[],[0,2,3]] ?_;iterate 9 refine op3 ?_
   refine qA (rgn [] [[],[],[],[2,3,20],[]] ?_);iterate 5 refine op3 ?_
   refine qJ ?_;refine qB.freezeV 903 (by conv=>lhs;simp) ?_;refine qB.stepK [2,22] (zI rfl (zCX s.ss (.cls (wJ (zL s))) 258 [.sl 2 ((wJ (zL s)).map spC)] rfl hl) (by simp)) (by conv=>lhs;simp) rfl ?_;refine qB.run [[2]] ?_;refine op3 ?_;refine qA ?_;exact AW.ret zC
  intro h8;try simp at h8
 ·
  rw[qMO (Classical.not_not.1 hs1)]at c2;refine rgn [] [[]] ?_;refine op3 ?_;refine qJ ?_;refine qB.stepK [0,2,5] (zI rfl c1 (by simp)) (by conv=>lhs;simp) rfl ?_;refine qB.stepK [0,2,6] (zI rfl c2 (by simp)) (by conv=>lhs;simp) rfl ?_;refine qB.run [[],[0,2,3]] ?_;iterate 2 refine op3 ?_
  refine qA (rgn [] [[]] ?_);refine op3 ?_;refine qJ ?_;refine qB.stepK [0,2,3,8] (qYK tok false rfl rfl (by conv=>lhs;simp) trivial rfl) (by conv=>lhs;simp) rfl ?_;refine qB.nil ?_;refine cnd ?_ ?_
  ·intro h8;try simp at h8
  intro h8;try simp at h8
  have hS:kK s=qLQ (zM s).1 (zM s).2:=by unfold kK;rw[bD hs1]
  rw[hS];refine AW.skip (rgn [] [[],[]] ?_);iterate 2 refine op3 ?_
  refine qJ ?_;refine qB.stepK [2,23,25] (zI rfl c3 (by simp)) (by conv=>lhs;simp) rfl ?_;refine qB.stepK [2,26] (zI rfl c4 (by simp)) (by conv=>lhs;simp) rfl ?_;refine qB.run [[2]] ?_;refine op3 ?_;refine qA ?_;exact AW.ret zC
theorem qRW (s:RG):(zH s).2.bad=true\/(zH s).2.left.length+1<=s.left.length:=by
 have he:∀ s:RG,(zM s).2.bad=true\/(zM s).2.left.length+1<=s.left.length:=fun s=>by
  unfold zM;split
  ·rename_i h;have:=bV.2 (kB (s:=s) (by omega)).1;right;simp;omega
  split
  ·rename_i h;have:=bV.2 (kB (s:=s) (by omega)).1;right;simp;omega
  split
  ·left;rfl
  rename_i h;have:=bV.2 (kB (s:=s) (by omega)).1;right;simp;omega
 unfold zH;split
 ·rename_i h;have:=qSU h;rcases he (qW [92] s)with h1|h1
  ·exact .inl h1
  right;omega
 split
 ·left;rfl
 rename_i h;have:=bV.2 (kB (s:=s) (by omega)).1;right;simp;omega
theorem zDQ {w:List UInt8} {s:RG} (h:s.bad=true):(qW w s).bad=true:=by unfold qW;split <;> exact h
theorem zHD {s:RG} (h:s.bad=true):(zH s).2.bad=true:=by
 have hp:zL s = -1:=by unfold zL;rw[bE (.inl h)]
 have ht:wD [92] s=false:=by unfold wD;simp[hp]
 unfold zH;rw[bD (by simp[ht]),bE (.inl (by omega))];rfl
theorem zRQ (s:RG):(jO s).2.bad=true\/(jO s).2.left.length+1<=s.left.length:=by
 have h1:=qRW s;have g2:=(Gr.next [45] (zH s).2).left;unfold jO;simp only[wBY,or_left,cX];split
 ·rcases h1 with h1|h1
  ·exact .inl (.inl (zHD (zDQ h1)))
  rcases qRW (qW [45] (zH s).2)with h2|h2
  ·exact .inl (.inl h2)
  right;omega
 rcases h1 with h1|h1
 ·exact .inl (.inl (zDQ h1))
 right;simp only;omega
theorem zPD {s:RG} (h:s.bad=true) (n:Nat) (l:List Sp):kF n l s=(l,s):=by
 cases n with
 | zero=>rfl
 | succ n=>unfold kF;rw[bE h]
@[simp] theorem zXC (l:List Int):List.take l.length (List.map Sy.pr l)=List.map Sy.pr l:=bK (by simp)
theorem qNL (s:RG):(zH s).2.ss=s.ss:=by
 unfold zH;split
 ·rw[qTP];unfold qW;split <;> rfl
 split <;> rfl
theorem zKZ (w:List UInt8) (s:RG):(qW w s).ss=s.ss:=by unfold qW;split <;> rfl
theorem zKQ (s:RG):(jO s).2.ss=s.ss:=by
 unfold jO;simp only[wAH];split
 ·rw[qNL,zKZ,qNL]
 rw[zKZ,qNL]
def qJK (s:RG):Nat:=s.left.length+if s.bad=true then 0 else 1
theorem zPZ (c:Int):(wJ c).length<=4:=by unfold wJ;split;simp;split;simp;split <;> simp
theorem qVX {s:RG} (h:s.bad=false):qJK (jO s).2+1<=qJK s:=by
 have h1:=zRQ s;have h2:=(oA s).left;simp only[qJK,h,eC,if_false];split
 ·omega
 rename_i hb;rcases h1 with h1|h1
 ·exact(hb h1).elim
 omega
theorem zTN (s:RG) (hr:qDT s.left) (hl:s.ss.length<=50000) (hn:s.left.length<=1000):AX Tryz.prog G 244 [.ptr 2 0] [(2,.vars 209 (rsC s)),(5,.vars 207 [.ms 6]),(6,.mach 215 3 (s.ss.map XS.ms))] (.agg [.p (.int .i64 (qCT s).1.1),.p (.int .i64 (qCT s).1.2)]) [2,5] [(2,.vars 209 (rsC ((qCT s).2))),(5,.vars 207 [.ms 6]),(6,.mach 215 3 (((qCT s).2).ss.map XS.ms))]:=by
 refine AX.introU tok 900 Tryz.func244 (by kernel_rfl) rfl rfl ?_;simp only[Tryz.f244,qG,bA,bC];have c1:=qHH (G:=G) [94] s hr (by decide) (by decide);have g0:=Gr.next [94] s;have e0:(qW [94] s).ss=s.ss:=by unfold qW;split <;> rfl
 have hI:qCT s=(let a:=kF ((qW [94] s).left.length+1) [] (qW [94] s);let b:=wR (decide (a.1.length=0)) a.2;(yF b.ss,wQ (uF b.ss (.items a.1 (wD [94] s))) b)):=rfl;have hr0:=g0.runes hr;have hn0:=g0.left;rw[hI];clear hI g0
 generalize qW [94] s=s0 at *;generalize wD [94] s=ng at *;generalize hN:s0.left.length+1=N at *;refine rgn [] [[]] ?_;refine op3 ?_;refine qA (rgn [] [[]] ?_);refine op3 ?_;refine qJ ?_;refine qB.stepK [0,2,13] (zI rfl c1 (by simp)) (by conv=>lhs;simp) rfl ?_;refine qB.run [[],[],[],[],[0,2,4,15],[0,2,4]] ?_;iterate 6 refine op3 ?_
 refine qA (rgn [] [[]] ?_);refine op3 ?_;refine qA (AW.seq (AW.block ?_));refine AW.beginBox 905 990 0 268 2 (by simp;exact⟨rfl,rfl⟩) (by simp) (by simp) (by conv=>lhs;simp) ?_;refine AW.loop (α:=Nat × List Sp × RG) (fun a=>kF N [] s0=kF a.1 a.2.1 a.2.2/\qJK a.2.2<=a.1/\qDT a.2.2.left/\a.2.1.length+4 * qJK a.2.2<=5000/\a.2.2.ss.length<=50000) (fun a=>⟨qZ 120 [(0,.ptr 2 0),(2,.ptr 902 0),(4,.ptr 904 0),(5,.ptr 905 0)],[2,5,6],[(2,.vars 209 (rsC a.2.2)),(5,.vars 207 [.ms 6]),(6,.mach 215 3 (a.2.2.ss.map XS.ms)),(902,.vars 151 [.p (.int .i64 0),.p (.int .i64 0)]),(904,.vars 4 [.p (.bool ng)]),(905,.vars 265 [.ms 990]),(990,.row 268 2 (a.2.1.map spC))],900⟩) (fun a=>a.1) ((N,[],s0)) ⟨rfl,by simp[qJK];split <;> omega,hr0,by simp[qJK];split <;> omega,by simp only;rw[e0];exact hl⟩ ⟨qE (by simp),rfl,by simp,by simp⟩ ?_;rintro⟨n,l,t⟩ ⟨h1,h2,h3,h4,h5⟩;simp only at h1 h2 h3 h4 h5;refine AW.seq (rgn [] [[],[],[],[],[0,2,4,5,20]] ?_);iterate 5 refine op3 ?_
 refine qA (cnd ?_ ?_)
 ·intro h20;try simp at h20
  obtain⟨k,rfl⟩:∃ k,n=k+1:=⟨n-1,by simp[qJK,h20]at h2;omega⟩;have c3:=qHH (G:=G) [93] t h3 (by decide) (by decide);have hT1:wD [93] t=true->kF (k+1) l t=(l,qW [93] t):=fun h=>by
   conv=>lhs;unfold kF
   rw[bD (by simp[h20]),bE h]
  have hN1:wD [93] t=false->qW [93] t=t:=fun h=>by unfold qW;rw[bD (by simp[h])]
  have hT2:wD [93] t=false->kF (k+1) l t=if 1<t.left.length/\t.left.headD 0=92/\wJ (t.left.getD 1 0)≠[] then kF k (l++wJ (t.left.getD 1 0)) (wY 2 t) else kF k (l++[(jO t).1]) (jO t).2:=fun h=>by
   conv=>lhs;unfold kF
   rw[bD (by simp[h20]),bD (by simp[h])];simp only[hN1 h]
  have hG1:(qW [93] t).ss=t.ss:=by unfold qW;split <;> rfl
  refine AW.skip (AW.block (AW.seq (rgn [] [[]] ?_)));refine op3 ?_;refine qJ ?_;refine qB.stepK [0,2,4,5,23] (zI rfl c3 (by simp)) (by conv=>lhs;simp) rfl ?_;refine qB.run [[],[],[],[0,2,4,5,25],[0,2,4,5,7]] ?_;iterate 5 refine op3 ?_
  refine qA (rgn [] [[0,2,4,5,26]] ?_);refine op3 ?_;refine qA (cnd ?_ ?_)
  ·intro h26;try simp at h26
   have hE:kF N [] s0=(l,qW [93] t):=by rw[h1,hT1 h26]
   have h5':(qW [93] t).ss.length<=50000:=by rw[hG1];exact h5
   rw[hE];clear h1 h2 h3 h4 h5 h20 hT1 hN1 hT2 hG1 c3 hE h26
   generalize qW [93] t=t at *;have h5:=h5';refine AW.exit ?_;simp;refine rgn [] [[],[],[],[],[],[0,2,4,5,102,107],[],[],[],[0,2,4,5,102,111],[],[],[0,2,4,5]] ?_;iterate 6 refine op3 ?_
   iterate 3 refine op4 ?_
   iterate 4 refine op3 ?_
   refine qA (rgn [] [[],[],[],[2,4,5,117],[]] ?_);iterate 5 refine op3 ?_
   refine qJ ?_;refine qB.freeze 990 (by conv=>lhs;simp) ?_;refine qB.freezeV 905 (by conv=>lhs;simp) ?_;refine qB.freezeV 904 (by conv=>lhs;simp) ?_;refine qB.stepK [2,119] (zI rfl (zCW t.ss (.items l ng) 256 [.sl 2 (l.map spC)] [.bool ng] rfl h5) (by simp)) (by conv=>lhs;simp) rfl ?_;refine qB.run [[2]] ?_;refine op3 ?_;refine qA ?_;exact AW.ret zC
  intro h26;try simp at h26
  have hNN:=hN1 h26;have hT:=hT2 h26;rw[hNN];clear hT1 hN1 hT2 hG1 c3
  have hh0:1<t.left.length->t.left[0]?=some (t.left.headD 0):=fun h=>qTL (by omega);have hh1:1<t.left.length->t.left[1]?=some (t.left.getD 1 0):=fun h=>by simp[bJ,h]
  have c2:=zFR (G:=G) (t.left.getD 1 0);generalize t.left.headD 0=a0 at *;generalize t.left.getD 1 0=a1 at *;refine AW.skip (AW.seq ?_);by_cases hs6:wJ a1≠[]
  ·
   rw[qFD hs6]at c2;refine rgn [.int .i32 a0,.int .i32 a1] [[],[],[],[],[0,2,4,5,31],[],[],[],[],[0,2,4,5,33,36],[],[],[],[0,2,4,5,33,40],[],[],[],[0,2,4,5,42,44],[],[],[],[0,2,4,5,42,48]] ?_;iterate 22 first|refine op3 ?_ (hv:=by first|exact True.intro|(intros;exact⟨by omega,hh0 (by omega)⟩)|(intros;exact⟨by omega,hh1 (by omega)⟩)|(intros;exact⟨⟨by omega,by assumption⟩,hh1 (by omega)⟩);done|omega|simp)|refine op4 ?_ (hv:=by first|exact True.intro|(first|(intros;exact⟨by omega,hh0 (by omega)⟩)|(intros;exact⟨by omega,hh1 (by omega)⟩)|(intros;exact⟨⟨by omega,by assumption⟩,hh1 (by omega)⟩);done)|omega|simp)
   refine qJ ?_;refine lS [0,2,4,5,42,49] 42 (b:=decide (1<(t.left.length:Int)) && decide (a0=92)) rfl rfl (by simp) (fun hb=>zZZ rfl c2 (by simp;simpa using hb)) (by conv=>lhs;simp) ?_;refine lS [0,2,4,5,42,50] 42 (b:=decide (1<(t.left.length:Int)) && decide (a0=92)) rfl rfl (by simp) (fun hb=>qYK tok true rfl rfl (by conv=>lhs;simp) (by simpa using hb) (by rw[<-qFD hs6,zMF];simp[hs6])) (by conv=>lhs;simp) ?_;refine qB.run [[0,2,4,5,51]] ?_;refine op3 ?_ (hv:=by first|exact True.intro|(intros;exact⟨by omega,hh0 (by omega)⟩)|(intros;exact⟨by omega,hh1 (by omega)⟩)|(intros;exact⟨⟨by omega,by assumption⟩,hh1 (by omega)⟩);done|omega|simp);refine qA (cnd ?_ ?_)
   ·intro h51;try simp at h51
    obtain⟨g1,g2⟩:1<t.left.length/\a0=92:=⟨by omega,h51.2⟩;have hcl:=zPZ a1;have cc:=zFQ (G:=G) a1 hs6;have hh:=hh1 g1;rw[bE ⟨g1,g2,hs6⟩]at hT;refine lF mixed 9 [[5],[0],[53],[54],[55],[56],[57],[58],[52,59]] [] (by kernel_rfl) ?_;iterate 5 refine iN tok (hv:=by first|exact True.intro|exact cc|(simp[hh];done)|(simp;omega);done|omega|simp) (k := ?_)
    refine iW tok (orc:=[.int .i32 a1]) (hv:=by first|exact True.intro|exact cc|(simp[hh];done)|(simp;omega);done|omega|simp) (k := ?_);refine iN tok (hv:=by first|exact True.intro|exact cc|(simp[hh];done)|(simp;omega);done|omega|simp) (k := ?_);refine iW tok (orc:=[.nilp,.sl 2 ((wJ a1).map spC)]) (hv:=by first|exact True.intro|exact cc|(simp[hh];done)|(simp;omega);done|omega|simp) (k := ?_);refine iN tok (hv:=by first|exact True.intro|exact cc|(simp[hh];done)|(simp;omega);done|omega|simp) (k := ?_);refine wI.nil (by kernel_rfl) ⟨by kernel_rfl, ?_⟩;refine qB.run [[0,2,4,5]] ?_;refine op3 ?_;refine qA ?_;refine mW [0,2,4,5] (by conv=>lhs;simp) ?_;refine lI 960 990 (by simp) (by conv=>lhs;simp) ?_;refine rgn [] [[],[],[],[],[],[0,2,4,5,61,66],[],[],[0,2,4,5]] ?_;iterate 9 refine op3 ?_
    refine qA ?_;refine AW.exit ?_;simp only[inBlock, ↓reduceIte];exact⟨(k,l++wJ a1,wY 2 t),⟨by rw[h1,hT],by simp[qJK,h20]at h2 ⊢; omega,fun c hc=>h3 c (cQ hc),by simp[qJK,h20]at h4 ⊢; omega,h5⟩,by simp,qE (by simp),rfl,by simp,by simp⟩
   intro h51;try simp at h51
   have hT':kF (k+1) l t=kF k (l++[(jO t).1]) (jO t).2:=by rw[hT,bD (by rintro⟨q1,q2,q3⟩;first|exact hs6 q3|(simp[q2]at h51;omega)|omega)]
   have c4:=qIN (G:=G) t h3;have r4:=(mY t).runes h3;have c5:=qHH (G:=G) [45] (zH t).2 r4 (by decide) (by decide);have c6:=qIN (G:=G) (qW [45] (zH t).2) ((Gr.next [45] _).runes r4);have hlv:=qVX h20;have gr:=(oA t).runes h3;have e5:(jO t).2.ss.length<=50000:=by rw[zKQ];exact h5
   have hsp:jO t=(let c:Int × RG:=if wD [45] (zH t).2=true then zH (qW [45] (zH t).2) else((zH t).1,qW [45] (zH t).2);(⟨(zH t).1,c.1⟩,wR (decide (c.1<(zH t).1)) c.2)):=rfl;clear hT h51 c2 hh0 hh1
   generalize jO t=S at *;generalize zH t=A at *;generalize wD [45] A.2=tk at *;generalize qW [45] A.2=B at *;generalize zH B=C at *;refine AW.skip (rgn [] [[]] ?_);refine op3 ?_;refine qJ ?_;refine qB.stepK [0,2,4,5,70] (zI rfl c4 (by simp)) (by conv=>lhs;simp) rfl ?_;refine qB.run [[],[],[0,2,4,5,8]] ?_;iterate 3 refine op3 ?_
   refine qA (rgn [] [[],[],[],[0,2,4,5,8]] ?_);iterate 4 refine op3 ?_
   refine qA (AW.seq (rgn [] [[]] ?_));refine op3 ?_;refine qJ ?_;refine qB.stepK [0,2,4,5,8,77] (zI rfl c5 (by simp)) (by conv=>lhs;simp) rfl ?_;refine qB.run [[],[],[],[0,2,4,5,8,79],[0,2,4,5,8,10]] ?_;iterate 5 refine op3 ?_
   refine qA (rgn [] [[0,2,4,5,8,80]] ?_);refine op3 ?_;refine qA (cnd ?_ ?_)
   ·intro h80;try simp at h80
    simp only[h80, ↓reduceIte]at hsp;subst hsp;simp only at hT' hlv gr e5;refine rgz [] [[]] ?_;refine op3 ?_;refine qJ ?_;refine qB.stepK [0,2,4,5,8,82] (zI rfl c6 (by simp)) (by conv=>lhs;simp) rfl ?_;refine qB.run [[],[0,2,4,5,8]] ?_;iterate 2 refine op3 ?_
    refine qA (rgn [] [[],[],[],[],[],[0,2,4,5,8,84,89],[],[],[],[],[0,2,4,5,8,84,89,94],[],[],[0,2,4,5,8,95,97],[0,2,4,5,8]] ?_);iterate 6 refine op3 ?_
    iterate 5 refine op4 ?_
    iterate 4 refine op3 ?_
    refine qA (rgz [.agg [.int .i32 A.1,.int .i32 C.1]] [[],[],[],[0,2,4,5,101],[0,2,4,5]] ?_);iterate 5 refine op3 ?_
    refine qA ?_;exact⟨(k,l++[⟨A.1,C.1⟩],wR (decide (C.1<A.1)) C.2),⟨by rw[h1,hT'],by simp only;omega,gr,by simp only[bU,dA];omega,e5⟩,by simp,qE (by simp[spC]),rfl,by simp[spC],by simp[spC]⟩
   intro h80;try simp at h80
   simp only[h80,eC, ↓reduceIte]at hsp;subst hsp;simp only at hT' hlv gr e5;refine AW.skip (rgn [] [[],[],[],[],[],[0,2,4,5,8,84,89],[],[],[],[],[0,2,4,5,8,84,89,94],[],[],[0,2,4,5,8,95,97],[0,2,4,5,8]] ?_);iterate 6 refine op3 ?_
   iterate 5 refine op4 ?_
   iterate 4 refine op3 ?_
   refine qA (rgz [.agg [.int .i32 A.1,.int .i32 A.1]] [[],[],[],[0,2,4,5,101],[0,2,4,5]] ?_);iterate 5 refine op3 ?_
   refine qA ?_;exact⟨(k,l++[⟨A.1,A.1⟩],wR (decide (A.1<A.1)) B),⟨by rw[h1,hT'],by simp only;omega,gr,by simp only[bU,dA];omega,e5⟩,by simp,qE (by simp[spC]),rfl,by simp[spC],by simp[spC]⟩
  ·
   rw[qMO (Classical.not_not.1 hs6)]at c2;refine rgn [.int .i32 a0,.int .i32 a1] [[],[],[],[],[0,2,4,5,31],[],[],[],[],[0,2,4,5,33,36],[],[],[],[0,2,4,5,33,40],[],[],[],[0,2,4,5,42,44],[],[],[],[0,2,4,5,42,48]] ?_;iterate 22 first|refine op3 ?_ (hv:=by first|exact True.intro|(intros;exact⟨by omega,hh0 (by omega)⟩)|(intros;exact⟨by omega,hh1 (by omega)⟩)|(intros;exact⟨⟨by omega,by assumption⟩,hh1 (by omega)⟩);done|omega|simp)|refine op4 ?_ (hv:=by first|exact True.intro|(first|(intros;exact⟨by omega,hh0 (by omega)⟩)|(intros;exact⟨by omega,hh1 (by omega)⟩)|(intros;exact⟨⟨by omega,by assumption⟩,hh1 (by omega)⟩);done)|omega|simp)
   refine qJ ?_;refine lS [0,2,4,5,42,49] 42 (b:=decide (1<(t.left.length:Int)) && decide (a0=92)) rfl rfl (by simp) (fun hb=>zZZ rfl c2 (by simp;simpa using hb)) (by conv=>lhs;simp) ?_;refine lS [0,2,4,5,42,50] 42 (b:=decide (1<(t.left.length:Int)) && decide (a0=92)) rfl rfl (by simp) (fun hb=>qYK tok false rfl rfl (by conv=>lhs;simp) (by simpa using hb) rfl) (by conv=>lhs;simp) ?_;refine qB.run [[0,2,4,5,51]] ?_;refine op3 ?_ (hv:=by first|exact True.intro|(intros;exact⟨by omega,hh0 (by omega)⟩)|(intros;exact⟨by omega,hh1 (by omega)⟩)|(intros;exact⟨⟨by omega,by assumption⟩,hh1 (by omega)⟩);done|omega|simp);refine qA (cnd ?_ ?_)
   ·intro h51;try simp at h51
   intro h51;try simp at h51
   have hT':kF (k+1) l t=kF k (l++[(jO t).1]) (jO t).2:=by rw[hT,bD (by rintro⟨q1,q2,q3⟩;first|exact hs6 q3|(simp[q2]at h51;omega)|omega)]
   have c4:=qIN (G:=G) t h3;have r4:=(mY t).runes h3;have c5:=qHH (G:=G) [45] (zH t).2 r4 (by decide) (by decide);have c6:=qIN (G:=G) (qW [45] (zH t).2) ((Gr.next [45] _).runes r4);have hlv:=qVX h20;have gr:=(oA t).runes h3;have e5:(jO t).2.ss.length<=50000:=by rw[zKQ];exact h5
   have hsp:jO t=(let c:Int × RG:=if wD [45] (zH t).2=true then zH (qW [45] (zH t).2) else((zH t).1,qW [45] (zH t).2);(⟨(zH t).1,c.1⟩,wR (decide (c.1<(zH t).1)) c.2)):=rfl;clear hT h51 c2 hh0 hh1
   generalize jO t=S at *;generalize zH t=A at *;generalize wD [45] A.2=tk at *;generalize qW [45] A.2=B at *;generalize zH B=C at *;refine AW.skip (rgn [] [[]] ?_);refine op3 ?_;refine qJ ?_;refine qB.stepK [0,2,4,5,70] (zI rfl c4 (by simp)) (by conv=>lhs;simp) rfl ?_;refine qB.run [[],[],[0,2,4,5,8]] ?_;iterate 3 refine op3 ?_
   refine qA (rgn [] [[],[],[],[0,2,4,5,8]] ?_);iterate 4 refine op3 ?_
   refine qA (AW.seq (rgn [] [[]] ?_));refine op3 ?_;refine qJ ?_;refine qB.stepK [0,2,4,5,8,77] (zI rfl c5 (by simp)) (by conv=>lhs;simp) rfl ?_;refine qB.run [[],[],[],[0,2,4,5,8,79],[0,2,4,5,8,10]] ?_;iterate 5 refine op3 ?_
   refine qA (rgn [] [[0,2,4,5,8,80]] ?_);refine op3 ?_;refine qA (cnd ?_ ?_)
   ·intro h80;try simp at h80
    simp only[h80, ↓reduceIte]at hsp;subst hsp;simp only at hT' hlv gr e5;refine rgz [] [[]] ?_;refine op3 ?_;refine qJ ?_;refine qB.stepK [0,2,4,5,8,82] (zI rfl c6 (by simp)) (by conv=>lhs;simp) rfl ?_;refine qB.run [[],[0,2,4,5,8]] ?_;iterate 2 refine op3 ?_
    refine qA (rgn [] [[],[],[],[],[],[0,2,4,5,8,84,89],[],[],[],[],[0,2,4,5,8,84,89,94],[],[],[0,2,4,5,8,95,97],[0,2,4,5,8]] ?_);iterate 6 refine op3 ?_
    iterate 5 refine op4 ?_
    iterate 4 refine op3 ?_
    refine qA (rgz [.agg [.int .i32 A.1,.int .i32 C.1]] [[],[],[],[0,2,4,5,101],[0,2,4,5]] ?_);iterate 5 refine op3 ?_
    refine qA ?_;exact⟨(k,l++[⟨A.1,C.1⟩],wR (decide (C.1<A.1)) C.2),⟨by rw[h1,hT'],by simp only;omega,gr,by simp only[bU,dA];omega,e5⟩,by simp,qE (by simp[spC]),rfl,by simp[spC],by simp[spC]⟩
   intro h80;try simp at h80
   simp only[h80,eC, ↓reduceIte]at hsp;subst hsp;simp only at hT' hlv gr e5;refine AW.skip (rgn [] [[],[],[],[],[],[0,2,4,5,8,84,89],[],[],[],[],[0,2,4,5,8,84,89,94],[],[],[0,2,4,5,8,95,97],[0,2,4,5,8]] ?_);iterate 6 refine op3 ?_
   iterate 5 refine op4 ?_
   iterate 4 refine op3 ?_
   refine qA (rgz [.agg [.int .i32 A.1,.int .i32 A.1]] [[],[],[],[0,2,4,5,101],[0,2,4,5]] ?_);iterate 5 refine op3 ?_
   refine qA ?_;exact⟨(k,l++[⟨A.1,A.1⟩],wR (decide (A.1<A.1)) B),⟨by rw[h1,hT'],by simp only;omega,gr,by simp only[bU,dA];omega,e5⟩,by simp,qE (by simp[spC]),rfl,by simp[spC],by simp[spC]⟩
 intro h20;try simp at h20
 have hE:kF N [] s0=(l,t):=by rw[h1,zPD h20]
 rw[hE];refine AW.exit ?_;simp;refine rgn [] [[],[],[],[],[],[0,2,4,5,102,107],[],[],[],[0,2,4,5,102,111],[],[],[0,2,4,5]] ?_;iterate 6 refine op3 ?_
 iterate 3 refine op4 ?_
 iterate 4 refine op3 ?_
 refine qA (rgn [] [[],[],[],[2,4,5,117],[]] ?_);iterate 5 refine op3 ?_
 refine qJ ?_;refine qB.freeze 990 (by conv=>lhs;simp) ?_;refine qB.freezeV 905 (by conv=>lhs;simp) ?_;refine qB.freezeV 904 (by conv=>lhs;simp) ?_;refine qB.stepK [2,119] (zI rfl (zCW t.ss (.items l ng) 256 [.sl 2 (l.map spC)] [.bool ng] rfl h5) (by simp)) (by conv=>lhs;simp) rfl ?_;refine qB.run [[2]] ?_;refine op3 ?_;refine qA ?_;exact AW.ret zC
structure InR (c:Int) (s:RG):Prop where
 runes:qDT s.left
 few:(W s.ss:Int)+8 * s.left.length+c<=40000
 d0:0<=s.deep
 d1:s.deep+s.left.length<=5000
 ln:s.left.length<=1000
theorem InR.le {c k:Int} (c':Int) {s s':RG} (h:InR c s) (g:Gr k s s') (hc:k+c'<=c):InR c' s' :=
 ⟨g.runes h.runes,by have:=h.few;have:=g.few;omega,by have:=h.d0;have:=g.d0;omega,by have:=h.d1;have:=g.d1;omega,by have:=h.ln;have:=g.left;omega⟩
theorem InR.w {c:Int} {s:RG} (h:InR c s) (hc : -1000<=c):W s.ss<=41000/\s.ss.length<=41000:=by
 have:=h.few;have:=wAL s.ss;omega
structure RegAll (G:qT) (n:Nat):Prop where
 alt:∀ s,InR 1 s->4 * s.left.length+3<=n->AX Tryz.prog G 188 [.ptr 2 0] [(2,.vars 209 (rsC s)),(5,.vars 207 [.ms 6]),(6,.mach 215 3 (s.ss.map XS.ms))] (.agg [.p (.int .i64 (qBO n s).1.1),.p (.int .i64 (qBO n s).1.2)]) [2,5] [(2,.vars 209 (rsC ((qBO n s).2))),(5,.vars 207 [.ms 6]),(6,.mach 215 3 (((qBO n s).2).ss.map XS.ms))]
 seq:∀ s,InR 1 s->4 * s.left.length+2<=n->AX Tryz.prog G 216 [.ptr 2 0] [(2,.vars 209 (rsC s)),(5,.vars 207 [.ms 6]),(6,.mach 215 3 (s.ss.map XS.ms))] (.agg [.p (.int .i64 (xX n s).1.1),.p (.int .i64 (xX n s).1.2)]) [2,5] [(2,.vars 209 (rsC ((xX n s).2))),(5,.vars 207 [.ms 6]),(6,.mach 215 3 (((xX n s).2).ss.map XS.ms))]
 atom:∀ s,InR 0 s->s.left≠[]->4 * s.left.length<=n->AX Tryz.prog G 236 [.ptr 2 0] [(2,.vars 209 (rsC s)),(5,.vars 207 [.ms 6]),(6,.mach 215 3 (s.ss.map XS.ms))] (.agg [.p (.int .i64 (qDE n s).1.1),.p (.int .i64 (qDE n s).1.2)]) [2,5] [(2,.vars 209 (rsC ((qDE n s).2))),(5,.vars 207 [.ms 6]),(6,.mach 215 3 (((qDE n s).2).ss.map XS.ms))]
theorem zZN (ss:List XS) (l:List Nat) (hl:ss.length<=100000):AX Tryz.prog G 218 [.ptr 5 0,.ms 934] [(5,.vars 207 [.ms 6]),(6,.mach 215 3 (ss.map XS.ms)),(934,.row 3 1 (bN l))] (.p (.int .i64 ss.length)) [5] [(5,.vars 207 [.ms 996]),(996,.mach 215 3 ((ss++[XS.mk .no .no l]).map XS.ms))]:=by
 refine AX.introU tok 2000 Tryz.func218 (by kernel_rfl) rfl rfl ?_;simp only[Tryz.f218,qG,bA,bC];refine rgn [] [[0,1]] ?_;refine op3 ?_;refine qA (rgn [] [[],[],[],[],[],[0,5,9,10],[]] ?_);iterate 7 refine op3 ?_
 refine qJ ?_;refine qB.stepK [0,5,9,12] (qHB tok rfl rfl rfl rfl rfl rfl (by conv=>lhs;simp) trivial (by conv=>lhs;simp) (wAK l) 2007 (by conv=>lhs;simp) (by conv=>lhs;simp)) (by conv=>lhs;simp) rfl ?_;refine qB.stepK [0,5,13] (qFJ tok rfl (by conv=>lhs;simp) trivial (by conv=>lhs;simp) trivial (by decide) rfl rfl rfl rfl rfl rfl (by decide) (by conv=>lhs;simp) (by conv=>lhs;simp) (by simp) (by simp;omega) 996 (by conv=>lhs;simp) (by conv=>lhs;simp)) (by conv=>lhs;simp) rfl ?_;refine qB.run [[],[],[0]] ?_;iterate 3 refine op3 ?_
 refine qA (rgn [] [[],[],[],[19]] ?_);iterate 4 refine op3 ?_
 refine qJ ?_;refine qB.stepK [20] (qMX tok rfl rfl (by conv=>lhs;simp) trivial (by conv=>lhs;simp)) (by conv=>lhs;simp) rfl ?_;refine qB.run [[],[4]] ?_;iterate 2 refine op3 ?_
 refine qA ?_;exact AW.ret (zC (k:=by simp) (b:=by simp[XS.ms,Tk.enc,Pl.enc]))
theorem zQL (n:Nat) (s:RG) (ih:RegAll G n) (hi:InR 0 s) (hne:s.left≠[]) (hf:4 * s.left.length<=n+1):AX Tryz.prog G 236 [.ptr 2 0] [(2,.vars 209 (rsC s)),(5,.vars 207 [.ms 6]),(6,.mach 215 3 (s.ss.map XS.ms))] (.agg [.p (.int .i64 (qDE (n+1) s).1.1),.p (.int .i64 (qDE (n+1) s).1.2)]) [2,5] [(2,.vars 209 (rsC ((qDE (n+1) s).2))),(5,.vars 207 [.ms 6]),(6,.mach 215 3 (((qDE (n+1) s).2).ss.map XS.ms))]:=by
 refine AX.introU tok 900 Tryz.func236 (by kernel_rfl) rfl rfl ?_;simp only[Tryz.f236,qG,bA,bC];have hpos:=bV.2 hne;have hix:=qTL (l:=s.left) hpos;have gd:=nL hne;have hdl:(wY 1 s).left.length+1=s.left.length:=by simp;omega
 have hit:=hi.le 8 gd (by omega);have hc:=hi.runes (s.left.headD 0) (bH hix);have hu:InR 1 (wR (decide (6<s.deep+1)) (jA 1 (wY 1 s))):=⟨hit.runes,by have:=hit.few;simp only[wAH,zYS,or_left,qIX];omega,by have:=hit.d0;simp only[qZP,qOC];omega,by have:=hi.d1;simp only[qZP,qOC,or_left,qIX,qXP];omega,hit.ln⟩;have hul:(wR (decide (6<s.deep+1)) (jA 1 (wY 1 s))).left.length+1=s.left.length:=hdl;have hA:qDE (n+1) s=if s.left.headD 0=40 then(if(wR (decide (6<s.deep+1)) (jA 1 (wY 1 s))).bad=true then((0,0),wR (decide (6<s.deep+1)) (jA 1 (wY 1 s))) else((qBO n (wR (decide (6<s.deep+1)) (jA 1 (wY 1 s)))).1,jA (-1) (wR (!wD [41] (qBO n (wR (decide (6<s.deep+1)) (jA 1 (wY 1 s)))).2) (qW [41] (qBO n (wR (decide (6<s.deep+1)) (jA 1 (wY 1 s)))).2)))) else if s.left.headD 0=91 then qCT (wY 1 s) else if s.left.headD 0=46 then(yF s.ss,wQ (uF s.ss .any) (wY 1 s)) else if s.left.headD 0=94 then(yF s.ss,wQ (qAT s.ss .beg) (wY 1 s)) else if s.left.headD 0=36 then(yF s.ss,wQ (qAT s.ss .fin) (wY 1 s)) else if s.left.headD 0=92 then kK (wY 1 s) else qLQ (s.left.headD 0) (wR (qEW [41,93,123,125,42,43,63,124] (s.left.headD 0)) (wY 1 s)):=rfl
 generalize s.left.headD 0=c at *;have hw:=hit.w (by omega);have hsl:s.ss.length<=50000:=by have:=hw.2;simp only[zYQ]at this;omega
 have hd0:=hi.d0;have hd1:=hi.d1;refine rgn [] [[]] ?_;refine op3 ?_;refine qA (rgn [.int .i32 c] [[],[],[],[],[0,2,11],[],[0,2,3]] ?_);iterate 7 refine op3 ?_ (hv:=by first|exact True.intro|(simp[hix];done)|(simp[hix];omega);done|omega|simp)
 refine qA (rgn [] [[],[],[],[],[],[0,2,3,13,18],[],[],[0,2,3]] ?_);iterate 9 refine op3 ?_
 refine qA (AW.seq (rgn [] [[]] ?_));refine op3 ?_;refine qA (AW.block (rgn [] [[],[0,2,3,21,22]] ?_));iterate 2 refine op3 ?_
 refine qA (cnd ?_ ?_)
 ·intro h22;try simp at h22
  rw[bE h22]at hA;refine rgn [] [[],[],[],[],[],[0,2,28,29],[],[0,2]] ?_;iterate 8 refine op3 ?_
  refine qA (rgn [.nilp] [[],[],[],[],[],[0,2,31,36],[],[],[],[],[0,2,31,36,41],[],[],[0,2,42,44],[0,2]] ?_);iterate 6 refine op3 ?_
  iterate 5 refine op4 ?_
  iterate 4 refine op3 ?_
  refine qA (AW.seq (rgn [] [[],[],[],[0,2,48]] ?_));iterate 4 refine op3 ?_
  refine qA (cnd ?_ ?_)
  ·intro h48;try simp at h48
   rw[hA,bE (by simpa using h48)];refine rgn [] [[],[2]] ?_;iterate 2 refine op3 ?_
   refine qA ?_;exact AW.ret zC
  intro h48;try simp at h48
  rw[bD (by simpa using h48)]at hA;rw[hA];clear hA
  have g1:=(qHF n).alt (wR (decide (6<s.deep+1)) (jA 1 (wY 1 s)));have c1:=ih.alt _ hu (by omega);have hq:=hu.le 0 g1.1 (by omega);have hq0:=g1.1.d0;simp only[qZP,qOC,qXP]at hq0;generalize qBO n (wR (decide (6<s.deep+1)) (jA 1 (wY 1 s)))=q at *;have c2:=qHH (G:=G) [41] q.2 hq.runes (by decide) (by decide);have hz:=hq.le 0 (Gr.next [41] q.2) (by omega);have hz0:=(Gr.next [41] q.2).d0;generalize qW [41] q.2=z at *;generalize wD [41] q.2=ok at *;have hz1:=hz.d1;refine AW.skip (rgn [] [[]] ?_);refine op3 ?_;refine qJ ?_;refine qB.stepK [0,2,51] (zI rfl c1 (by simp)) (by conv=>lhs;simp) rfl ?_;refine qB.run [[],[0,2,4]] ?_;iterate 2 refine op3 ?_
  refine qA (rgn [] [[]] ?_);refine op3 ?_;refine qJ ?_;refine qB.stepK [0,2,4,54] (zI rfl c2 (by simp)) (by conv=>lhs;simp) rfl ?_;refine qB.run [[],[],[],[0,2,4,56],[0,2,4,6]] ?_;iterate 5 refine op3 ?_
  refine qA (rgn [] [[],[],[],[],[],[0,2,4,6,57,62],[],[],[0,2,4,57,65],[],[],[0,2,4]] ?_);iterate 6 refine op3 ?_
  iterate 2 refine op4 ?_
  iterate 4 refine op3 ?_
  refine qA (rgn [] [[],[],[],[],[2,4,68,72],[],[],[2,4]] ?_);iterate 8 refine op3 ?_
  refine qA (rgn [] [[],[2]] ?_);iterate 2 refine op3 ?_
  refine qA ?_;exact AW.ret (zC (k:=by simp) (b:=by simp;omega))
 intro h22;try simp at h22
 rw[bD h22]at hA;refine rgn [] [[],[0,2,3,21,76]] ?_;iterate 2 refine op3 ?_
 refine qA (cnd ?_ ?_)
 ·intro h76;try simp at h76
  rw[bE h76]at hA;rw[hA];have c1:=zTN (G:=G) (wY 1 s) hit.runes (by simpa using hsl) hit.ln;refine rgn [] [[]] ?_;refine op3 ?_;refine qJ ?_;refine qB.stepK [2,79] (zI rfl c1 (by simp)) (by conv=>lhs;simp) rfl ?_;refine qB.run [[2]] ?_;refine op3 ?_;refine qA ?_;exact AW.ret zC
 intro h76;try simp at h76
 rw[bD h76]at hA;refine rgn [] [[],[0,2,3,21,80]] ?_;iterate 2 refine op3 ?_
 refine qA (cnd ?_ ?_)
 ·intro h80;try simp at h80
  rw[bE h80]at hA;rw[hA];have c1:=zRY (G:=G) s.ss .any 246 rfl hsl;refine rgn [] [[],[],[],[2,85]] ?_;iterate 4 refine op3 ?_
  refine qJ ?_;refine qB.stepK [2,86] (zI rfl c1 (by simp)) (by conv=>lhs;simp) rfl ?_;refine qB.run [[2]] ?_;refine op3 ?_;refine qA ?_;exact AW.ret zC
 intro h80;try simp at h80
 rw[bD h80]at hA;refine rgn [] [[],[0,2,3,21,87]] ?_;iterate 2 refine op3 ?_
 refine qA (cnd ?_ ?_)
 ·intro h87;try simp at h87
  rw[bE h87]at hA;rw[hA];have c1:=qWH (G:=G) s.ss .beg 248 rfl hsl;refine rgn [] [[],[],[],[2,92]] ?_;iterate 4 refine op3 ?_
  refine qJ ?_;refine qB.stepK [2,93] (zI rfl c1 (by simp)) (by conv=>lhs;simp) rfl ?_;refine qB.run [[2]] ?_;refine op3 ?_;refine qA ?_;exact AW.ret zC
 intro h87;try simp at h87
 rw[bD h87]at hA;refine rgn [] [[],[0,2,3,21,94]] ?_;iterate 2 refine op3 ?_
 refine qA (cnd ?_ ?_)
 ·intro h94;try simp at h94
  rw[bE h94]at hA;rw[hA];have c1:=qWH (G:=G) s.ss .fin 249 rfl hsl;refine rgn [] [[],[],[],[2,99]] ?_;iterate 4 refine op3 ?_
  refine qJ ?_;refine qB.stepK [2,100] (zI rfl c1 (by simp)) (by conv=>lhs;simp) rfl ?_;refine qB.run [[2]] ?_;refine op3 ?_;refine qA ?_;exact AW.ret zC
 intro h94;try simp at h94
 rw[bD h94]at hA;refine rgn [] [[],[0,2,3,101]] ?_;iterate 2 refine op3 ?_
 refine qA (cnd ?_ ?_)
 ·intro h101;try simp at h101
  rw[bE h101]at hA;rw[hA];have c1:=zHC (G:=G) (wY 1 s) hsl;refine rgn [] [[]] ?_;refine op3 ?_;refine qJ ?_;refine qB.stepK [2,104] (zI rfl c1 (by simp)) (by conv=>lhs;simp) rfl ?_;refine qB.run [[2]] ?_;refine op3 ?_;refine qA ?_;exact AW.ret zC
 intro h101;try simp at h101
 rw[bD h101]at hA;rw[hA];have hC:=qFZ (G:=G) [41,93,123,125,42,43,63,124] c hc.1 hc.2 (by decide) (by decide);have c1:=zSR (G:=G) c (wR (qEW [41,93,123,125,42,43,63,124] c) (wY 1 s)) hsl;refine AW.skip (rgn [.nilp,.bool (qEW [41,93,123,125,42,43,63,124] c)] [[],[],[],[],[],[0,2,3,105,110],[],[],[],[0,2,3,113,114],[],[0,2,3]] ?_);iterate 6 refine op3 ?_ (hv:=by first|exact True.intro|exact hC|exact fun _=>hC|exact fun h=>⟨h,hC⟩|(intros;exact⟨by assumption,hC⟩);done|omega|simp)
 iterate 2 refine op4 ?_ (hv:=by first|exact True.intro|exact hC|exact fun _=>hC|exact fun h=>⟨h,hC⟩|(intros;exact⟨by assumption,hC⟩);done|omega|simp)
 iterate 4 refine op3 ?_ (hv:=by first|exact True.intro|exact hC|exact fun _=>hC|exact fun h=>⟨h,hC⟩|(intros;exact⟨by assumption,hC⟩);done|omega|simp)
 refine qA (rgn [] [[],[]] ?_);iterate 2 refine op3 ?_
 refine qJ ?_;refine qB.stepK [2,118] (zI rfl c1 (by simp)) (by conv=>lhs;simp) rfl ?_;refine qB.run [[2]] ?_;refine op3 ?_;refine qA ?_;exact AW.ret zC
theorem zVO (n:Nat) (s:RG) (ih:∀ m,m<=n->RegAll G m) (hi:InR 1 s) (hf:4 * s.left.length+3<=n+1):AX Tryz.prog G 188 [.ptr 2 0] [(2,.vars 209 (rsC s)),(5,.vars 207 [.ms 6]),(6,.mach 215 3 (s.ss.map XS.ms))] (.agg [.p (.int .i64 (qBO (n+1) s).1.1),.p (.int .i64 (qBO (n+1) s).1.2)]) [2,5] [(2,.vars 209 (rsC ((qBO (n+1) s).2))),(5,.vars 207 [.ms 6]),(6,.mach 215 3 (((qBO (n+1) s).2).ss.map XS.ms))]:=by
 refine AX.introU tok 900 Tryz.func188 (by kernel_rfl) rfl rfl ?_;simp only[Tryz.f188,qG,bA,bC];have hA:qBO (n+1) s=qMS n (xX n s).1 (xX n s).2:=rfl;rw[hA];clear hA
 have g1:=(qHF n).seq s;have c1:=(ih n (bP n)).seq s hi (by omega);have hq:=hi.le 0 g1.1 (by omega);have hql:=g1.1.left;have hqp:=g1.2;clear g1
 generalize xX n s=q0 at *;refine rgn [] [[]] ?_;refine op3 ?_;refine qA (rgn [] [[]] ?_);refine op3 ?_;refine qJ ?_;refine qB.stepK [0,2,10] (zI rfl c1 (by simp)) (by conv=>lhs;simp) rfl ?_;refine qB.run [[],[0,2,3]] ?_;iterate 2 refine op3 ?_
 refine qA (AW.block ?_);refine AW.loop (α:=Nat × Pt × RG) (fun a=>qMS n q0.1 q0.2=qMS a.1 a.2.1 a.2.2/\a.1<=n/\4 * a.2.2.left.length+2<=a.1/\InR 0 a.2.2/\qAP a.2.2.ss a.2.1) (fun a=>⟨qZ 55 [(0,.ptr 2 0),(2,.ptr 902 0),(3,.ptr 903 0)],[2,5],[(2,.vars 209 (rsC a.2.2)),(5,.vars 207 [.ms 6]),(6,.mach 215 3 (a.2.2.ss.map XS.ms)),(902,.vars 151 [.p (.int .i64 0),.p (.int .i64 0)]),(903,.vars 151 [.p (.int .i64 a.2.1.1),.p (.int .i64 a.2.1.2)])],900⟩) (fun a=>a.1) ((n,q0.1,q0.2)) ⟨rfl,bP _,by simp only;omega,hq,hqp⟩ ⟨qE (by simp),rfl,by simp,by simp⟩ ?_;rintro⟨m,p,t⟩ ⟨h1,h2,h3,h4,h5⟩;simp only at h1 h2 h3 h4 h5;obtain⟨k,rfl⟩:∃ k,m=k+1:=⟨m-1,by omega⟩;have c2:=qHH (G:=G) [124] t h4.runes (by decide) (by decide);refine AW.block (AW.seq (rgn [] [[]] ?_));refine op3 ?_;refine qJ ?_;refine qB.stepK [0,2,3,13] (zI rfl c2 (by simp)) (by conv=>lhs;simp) rfl ?_;refine qB.run [[],[],[],[0,2,3,15],[0,2,3,5]] ?_;iterate 5 refine op3 ?_
 refine qA (rgn [] [[],[0,2,3,17]] ?_);iterate 2 refine op3 ?_
 refine qA (cnd ?_ ?_)
 ·intro h17;try simp at h17
  have hE:qMS n q0.1 q0.2=(p,qW [124] t):=by
   rw[h1];conv=>lhs;unfold qMS
   rw[bD (by simp[h17])]
  rw[hE];refine rgn [] [[],[2]] ?_;iterate 2 refine op3 ?_
  refine qA ?_;exact AW.ret zC
 intro h17;try simp at h17
 have hE:qMS (k+1) p t=(let q:=xX k (qW [124] t);qMS k (yF q.2.ss) (wQ (qOL q.2.ss p q.1) q.2)):=by
  conv=>lhs;unfold qMS
  rw[bE h17]
 have hn1:=h4.le 8 (mD h17) (by omega);have hnl:=qSU h17;have hp1:=h5.le (mD h17).len;clear c2
 generalize qW [124] t=u at *;have g1:=(qHF k).seq u;have c1:=(ih k (by omega)).seq u (hn1.le 1 (Gr.refl u) (by omega)) (by omega);have hv:=hn1.le 7 g1.1 (by omega);have hvl:=g1.1.left;have hp2:=hp1.le g1.1.len;have hq2:=g1.2;clear g1
 simp only at hE;generalize xX k u=q at *;have hw:=hv.w (by omega);have hg7:InR 1 (wQ (qOL q.2.ss p q.1) q.2):=hv.le 1 (k:=6) (Gr.put (by simp) (by have:=wAM q.2.ss p q.1;omega) fun h=>h.alt hp2 hq2) (by omega);have hpn:qAP (qOL q.2.ss p q.1) (yF q.2.ss):=qFS _ (by simp);have hX:qOL q.2.ss p q.1=toX (toX (q.2.ss++[noX]++[XS.mk .no .no [p.1,q.1.1]]) p.2 q.2.ss.length) q.1.2 q.2.ss.length:=by unfold qOL;rw[cD];rfl
 have a1:=qGO (G:=G) q.2.ss (by omega);have a2:=zZN (G:=G) (q.2.ss++[noX]) [p.1,q.1.1] (by simp;omega);have l1:(q.2.ss++[noX]).length=q.2.ss.length+1:=by simp
 have l2:(q.2.ss++[noX]++[XS.mk .no .no [p.1,q.1.1]]).length=q.2.ss.length+2:=by simp
 have w2:W (q.2.ss++[noX]++[XS.mk .no .no [p.1,q.1.1]])<=W q.2.ss+4:=by simp[qUI,W] <;> omega
 rw[hX]at hE hg7 hpn;clear hX
 generalize q.2.ss++[noX]=S1 at *;rw[l1]at a2;generalize S1++[XS.mk .no .no [p.1,q.1.1]]=A at *;have hp21:=hp2.2;have hq21:=hq2.2;obtain⟨x,hx,hxn⟩:=qHP (ss:=A) (i:=p.2) (by omega);have a3:=qOS (G:=G) A p.2 q.2.ss.length x hx (by omega) (by omega);have w3:=qQE A p.2 q.2.ss.length;have l3:=qFN A p.2 q.2.ss.length;generalize toX A p.2 q.2.ss.length=B at *;obtain⟨y,hy,hyn⟩:=qHP (ss:=B) (i:=q.1.2) (by omega);have a4:=qOS (G:=G) B q.1.2 q.2.ss.length y hy (by omega) (by omega);have l4:=qFN B q.1.2 q.2.ss.length;generalize toX B q.1.2 q.2.ss.length=C1 at *;refine AW.skip (rgn [] [[]] ?_);refine op3 ?_;refine qJ ?_;refine qB.stepK [0,2,3,20] (zI rfl c1 (by simp)) (by conv=>lhs;simp) rfl ?_;refine qB.run [[],[0,2,3,6]] ?_;iterate 2 refine op3 ?_
 refine qA (rgn [] [[],[],[],[]] ?_);iterate 4 refine op3 ?_
 refine qJ ?_;refine qB.stepK [0,2,3,6,25] (zI rfl a1 (by simp)) (by conv=>lhs;simp) rfl ?_;refine qB.run [[0,2,3,6,7]] ?_;refine op3 ?_;refine qA ?_;refine lF mixed 10 [[0],[26],[27],[28],[3],[30],[6],[32],[31,33],[29,34]] [] (by kernel_rfl) ?_;iterate 8 refine iN tok (k := ?_)
 refine iW tok (orc:=[.int .i64 p.1,.int .i64 q.1.1]) (k := ?_);refine wI.call [996] a2 rfl rfl (by simp) (by simp) (by simp) (by simp) (by simp) (by first|(simp;done)|(simp;omega)) (by first|(simp;done)|(simp;omega)) (by kernel_rfl) (by conv=>lhs;simp) ?_;refine wI.nil (by kernel_rfl) ⟨by kernel_rfl, ?_⟩;refine qB.run [[0,2,3,6,7,8]] ?_;refine op3 ?_;refine qA ?_;refine mW [0,2,3,6,7,8] (by conv=>lhs;simp) ?_;refine lI 996 6 (by simp) (by conv=>lhs;simp) ?_;refine lF mixed 8 [[0],[36],[37],[38],[3],[40],[7],[39,41,42]] [] (by kernel_rfl) ?_;iterate 7 refine iN tok (k := ?_)
 refine wI.call [] a3 rfl rfl (by simp) (by simp) (by simp) (by simp) (by simp) (by first|(simp;done)|(simp;omega)) (by first|(simp;done)|(simp;omega)) (by kernel_rfl) (by conv=>lhs;simp) ?_;refine wI.nil (by kernel_rfl) ⟨by kernel_rfl, ?_⟩;refine qB.nil ?_;refine lF mixed 8 [[0],[44],[45],[46],[6],[48],[7],[47,49,50]] [] (by kernel_rfl) ?_;iterate 7 refine iN tok (k := ?_)
 refine wI.call [] a4 rfl rfl (by simp) (by simp) (by simp) (by simp) (by simp) (by first|(simp;done)|(simp;omega)) (by first|(simp;done)|(simp;omega)) (by kernel_rfl) (by conv=>lhs;simp) ?_;refine wI.nil (by kernel_rfl) ⟨by kernel_rfl, ?_⟩;refine qB.nil ?_;refine rgz [] [[],[],[0,2,3,54],[0,2,3]] ?_;iterate 4 refine op3 ?_
 refine qA ?_;exact⟨(k,yF q.2.ss,wQ C1 q.2),⟨by rw[h1,hE],by simp only;omega,by simp only[qLN];omega,hg7.le 0 (Gr.refl _) (by omega),hpn⟩,by simp,qE (by simp[yF]),rfl,by simp[yF],by simp[yF]⟩
theorem zVJ (n:Nat) (s:RG) (h:s.left≠[]):(qDE n s).2.left.length+1<=s.left.length:=by
 have hl:(wY 1 s).left.length+1=s.left.length:=by have:=bV.2 h;simp;omega
 have key:∀ {k:Int} {u v:RG},Gr k u v->u.left=(wY 1 s).left->v.left.length+1<=s.left.length:=fun g e=>by have:=g.left;rw[e]at this;omega
 cases n with
 | zero=>simp only[qDE];omega
 | succ n =>
  simp only[qDE];split
  ·split
   ·simp only[or_left,qIX];omega
   have g:=((qHF n).alt (wR (decide (6<(wY 1 s).deep+1)) (jA 1 (wY 1 s)))).1.trans (Gr.next [41] _);have:=g.left;simp only[or_left,qIX]at this ⊢;omega
  split
  ·exact key (zEN _).1 rfl
  split
  ·exact key (Gr.refl _) rfl
  split
  ·exact key (Gr.refl _) rfl
  split
  ·exact key (Gr.refl _) rfl
  split
  ·exact key (qRV _).1 rfl
  exact key (zHN _ (wR _ (wY 1 s))).1 rfl
theorem zRV (n:Nat) (s:RG) (ih:∀ m,m<=n->RegAll G m) (hi:InR 1 s) (hf:4 * s.left.length+2<=n+1):AX Tryz.prog G 216 [.ptr 2 0] [(2,.vars 209 (rsC s)),(5,.vars 207 [.ms 6]),(6,.mach 215 3 (s.ss.map XS.ms))] (.agg [.p (.int .i64 (xX (n+1) s).1.1),.p (.int .i64 (xX (n+1) s).1.2)]) [2,5] [(2,.vars 209 (rsC ((xX (n+1) s).2))),(5,.vars 207 [.ms 6]),(6,.mach 215 3 (((xX (n+1) s).2).ss.map XS.ms))]:=by
 refine AX.introU tok 900 Tryz.func216 (by kernel_rfl) rfl rfl ?_;simp only[Tryz.f216,qG,bA,bC];have hA:xX (n+1) s=qJB n (s.ss.length,s.ss.length) (wQ (s.ss++[noX]) s):=rfl;rw[hA];clear hA
 have hw0:=hi.w (by omega);have c1:=qGO (G:=G) s.ss (by omega);have hq:InR 0 (wQ (s.ss++[noX]) s):=hi.le 0 (k:=1) (Gr.put (by simp) (by rw[zMP];omega) fun h=>h.new) (by omega);have hqp:qAP (wQ (s.ss++[noX]) s).ss (s.ss.length,s.ss.length):=⟨by simp,by simp⟩;refine rgn [] [[]] ?_;refine op3 ?_;refine qA (rgn [] [[],[],[],[]] ?_);iterate 4 refine op3 ?_
 refine qJ ?_;refine qB.stepK [0,2,12] (zI rfl c1 (by simp)) (by conv=>lhs;simp) rfl ?_;refine qB.run [[0,2,3]] ?_;refine op3 ?_;refine qA (rgn [] [[],[],[],[],[0,2,4]] ?_);iterate 5 refine op3 ?_
 refine qA (AW.seq (AW.block ?_));refine AW.loop (α:=Nat × Pt × RG) (fun a=>qJB n (s.ss.length,s.ss.length) (wQ (s.ss++[noX]) s)=qJB a.1 a.2.1 a.2.2/\a.1<=n/\4 * a.2.2.left.length+1<=a.1/\InR 0 a.2.2/\qAP a.2.2.ss a.2.1) (fun a=>⟨qZ 53 [(0,.ptr 2 0),(2,.ptr 902 0),(4,.ptr 904 0)],[2,5],[(2,.vars 209 (rsC a.2.2)),(5,.vars 207 [.ms 6]),(6,.mach 215 3 (a.2.2.ss.map XS.ms)),(902,.vars 151 [.p (.int .i64 0),.p (.int .i64 0)]),(904,.vars 151 [.p (.int .i64 a.2.1.1),.p (.int .i64 a.2.1.2)])],900⟩) (fun a=>a.1) ((n,(s.ss.length,s.ss.length),wQ (s.ss++[noX]) s)) ⟨rfl,bP _,by simp only[qLN];omega,hq,hqp⟩ ⟨qE (by simp),rfl,by simp,by simp⟩ ?_;rintro⟨m,p,t⟩ ⟨h1,h2,h3,h4,h5⟩;simp only at h1 h2 h3 h4 h5;obtain⟨k,rfl⟩:∃ k,m=k+1:=⟨m-1,by omega⟩;have c1:=qLP (G:=G) t;have hpk:=qZN h4.runes;have hC:=fun h0=>qFZ (G:=G) [124,41] (zL t) h0 hpk (by decide) (by decide);refine AW.seq ?_;by_cases hs3:0<=zL t
 ·
  refine rgn [.nilp,.bool (qEW [124,41] (zL t))] [[]] ?_;refine op3 ?_ (hv:=by first|exact True.intro|exact fun _=>hC hs3|exact fun h=>⟨h,hC h⟩|exact fun h=>⟨hs3,hC hs3⟩;done|omega|simp);refine qJ ?_;refine qB.stepK [0,2,4,17] (zI rfl c1 (by simp)) (by conv=>lhs;simp) rfl ?_;refine qB.run [[],[],[]] ?_;iterate 2 refine op3 ?_ (hv:=by first|exact True.intro|exact fun _=>hC hs3|exact fun h=>⟨h,hC h⟩|exact fun h=>⟨hs3,hC hs3⟩;done|omega|simp)
  refine op4 ?_ (hv:=by first|exact True.intro|exact fun _=>hC hs3|exact fun h=>⟨h,hC h⟩|exact fun h=>⟨hs3,hC hs3⟩;done|omega|simp);refine qJ ?_;refine oI [0,2,4,19,21] 19 rfl rfl (zI rfl c1 (by simp;exact hs3)) (by simp[hs3]) (by conv=>lhs;simp) ?_;refine qB.run [[],[],[0,2,4,24]] ?_;iterate 2 refine op4 ?_ (hv:=by first|exact True.intro|exact fun _=>hC hs3|exact fun h=>⟨h,hC h⟩|exact fun h=>⟨hs3,hC hs3⟩;done|omega|simp)
  refine op3 ?_ (hv:=by first|exact True.intro|exact fun _=>hC hs3|exact fun h=>⟨h,hC h⟩|exact fun h=>⟨hs3,hC hs3⟩;done|omega|simp);refine qA (cnd ?_ ?_)
  ·intro h24;try simp at h24
   have hnb:qEW [124,41] (zL t)=false:=by simpa[hs3]using h24
   have hE:qJB (k+1) p t=(let q:=qDE k t;let u:=qW [42,43,63] q.2;let K:Pt × RG:=if wD [42,43,63] q.2=true then(yF u.ss,wQ (qBC u.ss q.1 (zL q.2)) u) else(q.1,u);qJB k (p.1,K.1.2) (wQ (toX K.2.ss p.2 K.1.1) K.2)):=by
    conv=>lhs;unfold qJB
    rw[bE ⟨hs3,hnb⟩]
   have hne:=(kB hs3).1;have g1:=(qHF k).atom t (by have:=h5.1;omega) hne;have a1:=(ih k (by omega)).atom t h4 hne (by omega);have hv:=h4.le 4 g1.1 (by omega);have hvl:(qDE k t).2.left.length+1<=t.left.length:=zVJ k t hne;have hp1:=h5.le g1.1.len;have hq1:=g1.2;clear g1 c1 hC hpk
   simp only at hE;generalize qDE k t=q at *;have a2:=qHH (G:=G) [42,43,63] q.2 hv.runes (by decide) (by decide);have hpk2:=kB (s:=q.2);refine AW.skip (AW.block (rgn [] [[]] ?_));refine op3 ?_;refine qJ ?_;refine qB.stepK [0,2,4,26] (zI rfl a1 (by simp)) (by conv=>lhs;simp) rfl ?_;refine qB.run [[],[0,2,4,5]] ?_;iterate 2 refine op3 ?_
   refine qA (AW.seq (rgn [] [[]] ?_));refine op3 ?_;refine qJ ?_;refine qB.stepK [0,2,4,5,29] (zI rfl a2 (by simp)) (by conv=>lhs;simp) rfl ?_;refine qB.run [[],[],[],[],[0,2,4,5,6,7]] ?_;iterate 5 refine op3 ?_
   refine qA (rgn [] [[0,2,4,5,6,32]] ?_);refine op3 ?_;refine qA (cnd ?_ ?_)
   ·intro h32;try simp at h32
    rw[bE h32]at hE;have hn:=hv.le 12 (mD h32) (by omega);have hnl:=qSU h32;have hp2:=hp1.le (mD h32).len;have hq2:=hq1.le (mD h32).len;clear a2 h32
    generalize qW [42,43,63] q.2=u at *;have hw:=hn.w (by omega);have a3:=AX.ren 6 996 (zTC (G:=G) u.ss q.1 (zL q.2) hq2 (by omega)) (by simp);simp only[V.ren,lL,qQA,Box.ren]at a3;have hg:InR 6 (wQ (qBC u.ss q.1 (zL q.2)) u):=hn.le 6 (k:=6) (Gr.put (by simp) (by have:=zVT u.ss q.1 (zL q.2);omega) fun h=>h.many hq2 _) (by omega);have hlM:=zOV u.ss q.1 (zL q.2);generalize qBC u.ss q.1 (zL q.2)=Mx at *;have hw2:=hg.w (by omega);simp only[qSM]at hw2 hE;have hp22:=hp2.2;obtain⟨x,hx,hxn⟩:=qHP (ss:=Mx) (i:=p.2) (by omega);have a4:=qOS (G:=G) Mx p.2 (yF u.ss).1 x hx (by simp[yF];omega) (by omega);have hg4:InR 0 (wQ (toX Mx p.2 (yF u.ss).1) u):=by
     have:=hg.le 0 (s':=wQ (toX Mx p.2 (yF u.ss).1) (wQ Mx u)) (k:=1) (Gr.put (by simp) (by have:=qQE Mx p.2 (yF u.ss).1;simp only[qSM];omega) fun h=>h.to (by simp[yF];omega)) (by omega);exact this
    have hl4:=qFN Mx p.2 (yF u.ss).1;generalize toX Mx p.2 (yF u.ss).1=C1 at *;refine lR mixed 7 [[0],[33],[34],[35],[5],[6],[36,37,38]] [] (by kernel_rfl) ?_;iterate 6 refine iN tok (k := ?_)
    refine wI.call [996] a3 rfl rfl (by simp) (by simp) (by simp) (by simp) (by simp) (by first|(simp;done)|(simp;omega)) (by first|(simp;done)|(simp;omega)) (by kernel_rfl) (by conv=>lhs;simp) ?_;refine wI.nil (by kernel_rfl) ⟨by kernel_rfl, ?_⟩;refine qB.run [[0,2,4,5]] ?_;refine op3 ?_;refine qA ?_;refine mW [0,2,4,5] (by conv=>lhs;simp) ?_;refine lI 996 6 (by simp) (by conv=>lhs;simp) ?_;refine lF mixed 9 [[0],[40],[41],[42],[4],[44],[5],[46],[43,45,47]] [] (by kernel_rfl) ?_;iterate 8 refine iN tok (k := ?_)
    refine wI.call [] a4 rfl rfl (by simp) (by simp) (by simp) (by simp) (by simp) (by first|(simp;done)|(simp;omega)) (by first|(simp;done)|(simp;omega)) (by kernel_rfl) (by conv=>lhs;simp) ?_;refine wI.nil (by kernel_rfl) ⟨by kernel_rfl, ?_⟩;refine qB.nil ?_;refine rgz [] [[],[],[],[0,2,4]] ?_;iterate 4 refine op3 ?_
    refine qA ?_;exact⟨(k,(p.1,(yF u.ss).2),wQ C1 u),⟨by rw[h1,hE];rfl,by simp only;omega,by simp only[qLN];omega,hg4,⟨by simp only[qSM];have:=hp2.1;omega,by simp[yF];omega⟩⟩,by simp,qE (by simp[yF]),rfl,by simp[yF],by simp[yF]⟩
   intro h32;try simp at h32
   rw[bD (by simp[h32])]at hE;have hnn:qW [42,43,63] q.2=q.2:=by unfold qW;rw[bD (by simp[h32])]
   rw[hnn]at hE a2 ⊢;simp only at hE;have hw:=hv.w (by omega);have hp12:=hp1.2;have hq11:=hq1.1;obtain⟨x,hx,hxn⟩:=qHP (ss:=q.2.ss) (i:=p.2) (by omega);have a4:=qOS (G:=G) q.2.ss p.2 q.1.1 x hx (by omega) (by omega);have hg4:InR 0 (wQ (toX q.2.ss p.2 q.1.1) q.2):=hv.le 0 (k:=1) (Gr.put (by simp) (by have:=qQE q.2.ss p.2 q.1.1;omega) fun h=>h.to hq1.1) (by omega);have hl4:=qFN q.2.ss p.2 q.1.1;generalize toX q.2.ss p.2 q.1.1=C1 at *;refine AW.skip ?_;refine lF mixed 9 [[0],[40],[41],[42],[4],[44],[5],[46],[43,45,47]] [] (by kernel_rfl) ?_;iterate 8 refine iN tok (k := ?_)
   refine wI.call [] a4 rfl rfl (by simp) (by simp) (by simp) (by simp) (by simp) (by first|(simp;done)|(simp;omega)) (by first|(simp;done)|(simp;omega)) (by kernel_rfl) (by conv=>lhs;simp) ?_;refine wI.nil (by kernel_rfl) ⟨by kernel_rfl, ?_⟩;refine qB.nil ?_;refine rgz [] [[],[],[],[0,2,4]] ?_;iterate 4 refine op3 ?_
   refine qA ?_;exact⟨(k,(p.1,q.1.2),wQ C1 q.2),⟨by rw[h1,hE],by simp only;omega,by simp only[qLN];omega,hg4,⟨by simp only[qSM];have:=hp1.1;omega,by simp only[qSM];have:=hq1.2;omega⟩⟩,by simp,qE (by simp),rfl,by simp,by simp⟩
  intro h24;try simp at h24
  have hE:qJB (k+1) p t=(p,t):=by
   conv=>lhs;unfold qJB
   rw[bD (by rintro⟨_,h⟩;simp[h]at h24;omega)]
  rw[h1,hE];refine AW.exit ?_;simp;refine rgn [] [[],[2]] ?_;iterate 2 refine op3 ?_
  refine qA ?_;exact AW.ret zC
 ·
  refine rgn [.nilp,.bool false] [[]] ?_;refine op3 ?_ (hv:=by first|exact True.intro|(exact fun h=>(hs3 h).elim;done)|omega|simp);refine qJ ?_;refine qB.stepK [0,2,4,17] (zI rfl c1 (by simp)) (by conv=>lhs;simp) rfl ?_;refine qB.run [[],[],[]] ?_;iterate 2 refine op3 ?_ (hv:=by first|exact True.intro|(exact fun h=>(hs3 h).elim;done)|omega|simp)
  refine op4 ?_ (hv:=by first|exact True.intro|(exact fun h=>(hs3 h).elim;done)|omega|simp);refine qJ ?_;refine lS [0,2,4,19,21] 19 (b:=false) (x := .p (.int .i32 0)) rfl rfl (by simp[hs3]) (fun h=>by cases h) (by conv=>lhs;simp) ?_;refine qB.run [[],[],[0,2,4,24]] ?_;iterate 2 refine op4 ?_ (hv:=by first|exact True.intro|(exact fun h=>(hs3 h).elim;done)|omega|simp)
  refine op3 ?_ (hv:=by first|exact True.intro|(exact fun h=>(hs3 h).elim;done)|omega|simp);refine qA (cnd ?_ ?_)
  ·intro h24;try simp at h24
   (first|omega|(simp at h24;omega))
  intro h24;try simp at h24
  have hE:qJB (k+1) p t=(p,t):=by
   conv=>lhs;unfold qJB
   rw[bD (by rintro⟨h,_⟩;exact hs3 h)]
  rw[h1,hE];refine AW.exit ?_;simp;refine rgn [] [[],[2]] ?_;iterate 2 refine op3 ?_
  refine qA ?_;exact AW.ret zC
theorem zKT:∀ n,(∀ m,m<=n->RegAll G m)
 | 0,m,hm=>by
  obtain rfl:m=0:=by omega
  exact⟨fun s _ h=>by omega,fun s _ h=>by omega,fun s _ hne h=>by have:=bV.2 hne;omega⟩
 | n+1,m,hm=>by
  have ih:=zKT n;rcases Nat.lt_or_eq_of_le hm with h|rfl
  ·exact ih m (by omega)
  exact⟨fun s hi hf=>zVO n s ih hi hf,fun s hi hf=>zRV n s ih hi hf,fun s hi hne hf=>zQL n s (ih n (bP n)) hi hne hf⟩
theorem oF {P:Program} {f:FuncId} {args:List PD} {r:V} {d:PD} (h:AX P G f (args.map .p) [] r [] []) (hfit:iS [] r d):AFn P G f args d:=by
 refine⟨h.1,fun M w vs hg hmem hsz hrd=>(h.2 M (fun _=>default) w vs hg (Rel.plain _ hmem hsz hrd)).mono ?_⟩;rintro e' w' ⟨v,M',μ',rfl,r'⟩;have hno:∀ b, ¬ yI (fun _=>(default:Sy.Loc)) [] b:=fun b ⟨i,hi,_⟩=>by simp[qM]at hi
 have hv:=kZ (r'.slots.2 0 v r (by simp) (by simp)) hfit;exact⟨v,M',rfl,hv,r'.mem,r'.ext,fun b o hb=>r'.old b o fun hm=>hm.elim (fun h=>by simp at h;omega) (hno b),⟨r'.below.os,r'.below.tape,r'.below.output,r'.below.size,fun j hj=>r'.below.block j fun hm=>hm.elim (fun h=>by simp at h;omega) (hno j)⟩⟩
def XS.pd (x:XS):PD := .agg [x.tk.enc,x.pl.enc,.sl 1 (bN x.next)]
theorem oS (x:XS):MS.pd x.ms=x.pd:=by simp[MS.pd,XS.ms,XS.pd,bN]
theorem ms_pd (ss:List XS):(ss.map XS.ms).map MS.pd=ss.map XS.pd:=by
 rw[dT];exact dE fun x _=>oS x
theorem wCD (ss:List XS):List.map (MS.pd ∘ XS.ms) ss=List.map XS.pd ss:=dE fun x _=>oS x
def jB (re:List UInt8):Pt × RG:=qBO (4 * (wG re).length+3) ⟨[],wG re,0,false⟩
def qOF (re:List UInt8):PD:=if 100<re.length then .tup [.nilp,.agg [.int .i64 0,.int .i64 0],.int .i64 3] else if(jB re).2.bad=true\/(jB re).2.left≠[] then .tup [.nilp,.agg [.int .i64 0,.int .i64 0],.int .i64 32]
 else .tup [.ref [.sl 3 ((jB re).2.ss.map XS.pd)],.agg [.int .i64 (jB re).1.1,.int .i64 (jB re).1.2],.int .i64 0]
def zMA (re:List UInt8):V:=if 100<re.length then .tuple [.p .nilp,.agg [.p (.int .i64 0),.p (.int .i64 0)],.p (.int .i64 3)] else if(jB re).2.bad=true\/(jB re).2.left≠[] then .tuple [.p .nilp,.agg [.p (.int .i64 0),.p (.int .i64 0)],.p (.int .i64 32)]
 else .tuple [.cptr [.sl 3 ((jB re).2.ss.map XS.pd)],.agg [.p (.int .i64 (jB re).1.1),.p (.int .i64 (jB re).1.2)],.p (.int .i64 0)]
theorem zKU (re:List UInt8) (h:re.length<=100):InR 1 ⟨[],wG re,0,false⟩:=by
 have:=qKD re;exact⟨qWA re,by simp[W];omega,by simp,by simp only;omega,by simp only;omega⟩
theorem zFK (re:List UInt8) (hl:re.length<=1000000):AX Tryz.prog G 141 [.p (.str re)] [] (zMA re) [] []:=by
 refine AX.introU tok 900 Tryz.func141 (by kernel_rfl) rfl rfl ?_;simp only[Tryz.f141,qG,bA,bC];refine rgn [] [[],[],[0,3]] ?_;iterate 3 refine op3 ?_
 refine qA (AW.seq (rgn [] [[],[],[0,3,9]] ?_));iterate 3 refine op3 ?_
 refine qA (cnd ?_ ?_)
 ·intro h9;try simp at h9
  rw[show zMA re = .tuple [.p .nilp,.agg [.p (.int .i64 0),.p (.int .i64 0)],.p (.int .i64 3)] from bE (by omega)];refine rgn [] [[],[],[],[2,3,4]] ?_;iterate 4 refine op3 ?_
  refine qA ?_;exact AW.ret zC
 intro h9;try simp at h9
 have hV:zMA re=if(jB re).2.bad=true\/(jB re).2.left≠[] then .tuple [.p .nilp,.agg [.p (.int .i64 0),.p (.int .i64 0)],.p (.int .i64 32)] else .tuple [.cptr [.sl 3 ((jB re).2.ss.map XS.pd)],.agg [.p (.int .i64 (jB re).1.1),.p (.int .i64 (jB re).1.2)],.p (.int .i64 0)]:=bD (by omega)
 rw[hV];clear hV
 have h0:=zKU re (by omega);have c1:=(zKT (G:=G) (4 * (wG re).length+3) _ (bP _)).alt ⟨[],wG re,0,false⟩ h0 (bP _);have hg:=(qHF (4 * (wG re).length+3)).alt ⟨[],wG re,0,false⟩;have hR:qBO (4 * (wG re).length+3) ⟨[],wG re,0,false⟩=jB re:=rfl;rw[hR]at c1 hg;clear hR
 generalize jB re=q at *;refine AW.skip (rgn [] [[],[],[]] ?_);iterate 3 refine op3 ?_
 refine qJ ?_;refine qB.stepK [3,12,14] (qVH tok rfl (by conv=>lhs;simp) trivial rfl rfl rfl (by omega) 914 (by conv=>lhs;simp) (by conv=>lhs;simp)) (by conv=>lhs;simp) rfl ?_;refine qB.run [[],[],[3,5]] ?_;iterate 3 refine op3 ?_
 refine qA ?_;refine lD 914 (by conv=>lhs;simp) ?_;refine lI 916 2 (by simp) (by conv=>lhs;simp) ?_;refine lI 912 5 (by simp) (by conv=>lhs;simp) ?_;refine AW.beginMach 5 6 0 215 3 (by simp;exact⟨rfl,rfl⟩) (by simp) (by simp) (by conv=>lhs;simp) ?_;refine rgn [] [[]] ?_;refine op3 ?_;refine qJ ?_;refine qB.stepK [3,5,18] (zI rfl c1 (by simp)) (by conv=>lhs;simp) rfl ?_;refine qB.run [[],[3,5,6]] ?_;iterate 2 refine op3 ?_
 refine qA (AW.seq (rgn [] [[],[],[],[],[3,5,6,23],[],[],[],[],[3,5,6,23,28],[],[3,5,6,30]] ?_));iterate 5 refine op3 ?_
 iterate 6 refine op4 ?_
 refine op3 ?_;refine qA (cnd ?_ ?_)
 ·intro h30;try simp at h30
  have hb:q.2.bad=true\/q.2.left≠[]:=by
   rcases h30 with h|h
   ·exact .inl h
   exact .inr fun e=>by simp[e]at h
  rw[bE hb];refine rgn [] [[],[],[],[2,3,4]] ?_;iterate 4 refine op3 ?_
  refine qA ?_;exact AW.ret zC
 intro h30;try simp at h30
 have hb:¬ (q.2.bad=true\/q.2.left≠[]):=by
  rintro(h|h)
  ·simp[h]at h30
  first|exact h h30.2|(have:=bV.2 h;have:=h30.2;omega)
 rw[bD hb];refine AW.skip ?_;refine pD 6 (es:=215) (en:=3) (ss:=q.2.ss.map XS.ms) (by simp) (by simp[XS.ms]) (by conv=>lhs;simp[wCD]) ?_;refine AW.freezeV 5 (by conv=>lhs;simp) ?_;refine iL tok mixed [2,3,4] 6 [[5],[32],[33],[34],[6],[35]] [] [] (by kernel_rfl) (by intro C;conv=>lhs;simp) (by first|exact True.intro|omega|simp) (by simp[Sm.sum,Sm.foot,Sm.tch,Sm.refs];kernel_rfl) (by intro C;conv=>lhs;simp) (by first|exact True.intro|omega|simp) ?_;exact AW.ret zC
theorem zFJ (re:List UInt8) (hl:re.length<=1000000):AFn Tryz.prog G 141 [.str re] (qOF re):=by
 refine oF (zFK re hl) ?_;unfold zMA qOF;split
 ·simp[iS,iP]
 split
 ·simp[iS,iP]
 simp[iS,iP]
def qJI (x:XS) (a e:Int):Bool:=x.tk.is || !x.pl.run a e
def wE:Nat->List XS->List Bool->Nat->Int->Int->List Bool
 | 0,_,set,_,_,_=>set
 | n+1,ss,set,i,a,e=>if set.getD i true=true then set else if qJI (ss.getD i noX) a e=true then set.set i true else
  (ss.getD i noX).next.foldl (fun st k=>wE n ss st k a e) (set.set i true)
def vI (l:List Bool):Nat:=l.countP fun b => !b
theorem qTM:∀ (l:List Bool) (i:Nat),l[i]?=some false->vI (l.set i true)+1=vI l
 | [],i,h=>by simp at h
 | b::l,0,h=>by simp at h;subst h;simp[vI]
 | b::l,i+1,h=>by
  simp at h;have:=qTM l i h;simp only[vI,List.set_cons_succ,List.countP_cons]at this ⊢;omega
theorem qGA {α β:Type} (P:β->Prop) (f:β->α->β) (hf:∀ b a,P b->P (f b a)):∀ (l:List α) (b:β),P b->P (l.foldl f b)
 | [],b,h=>h
 | a::l,b,h=>qGA P f hf l (f b a) (hf b a h)
theorem qAE (ss:List XS) (a e:Int):∀ n set i,(wE n ss set i a e).length=set.length/\vI (wE n ss set i a e)<=vI set
 | 0,set,i=>⟨rfl,bP _⟩
 | n+1,set,i=>by
  have hs:(set.set i true).length=set.length/\vI (set.set i true)<=vI set:=by
   refine⟨by simp, ?_⟩;by_cases h:set[i]?=some false
   ·have:=qTM set i h;omega
   have:set.set i true=set:=by
    apply dP;intro j;rw[dO];split
    ·rename_i e;subst e;cases hx:set[i]? with
     | none=>split <;> first|rfl|(rename_i hl;simp at hx;omega)
     | some b =>
      cases b with
      | false=>exact(h hx).elim
      | true=>split <;> first|rfl|(rename_i hl;have:=(bB.1 hx).1;omega)
    rfl
   rw[this];exact bP _
  unfold wE;split
  ·exact⟨rfl,bP _⟩
  split
  ·exact hs
  refine qGA (fun st=>st.length=set.length/\vI st<=vI set) _ (fun st k h => ?_) _ _ hs;obtain⟨h1,h2⟩:=qAE ss a e n st k;exact⟨h1.trans h.1,dB h2 h.2⟩
abbrev bT (l:List Bool):List PD:=l.map PD.bool
theorem zJY {ss:List XS} (hg:GS ss) {x:XS} (hx:x∈ss):(x.tk.enc = .nilf/\x.pl.enc = .nilf/\x.tk.is=false/\∀ a e,qJI x a e=false) \/
  (∃ f,x.tk.enc = .nilf/\x.pl.enc = .fn f/\x.tk.is=false/\∀ a e,AFn Tryz.prog G f [.int .i64 a,.int .i64 e] (.bool (!qJI x a e))) \/
  (∃ f,x.tk.enc = .fn f/\x.pl.enc = .nilf/\x.tk.is=true/\(∀ a e,qJI x a e=true)/\x.next≠[]/\∀ c,AFn Tryz.prog G f [.int .i32 c] (.bool (x.tk.run c))) \/
  (∃ f c1,x.tk.enc = .clo f [.ref [c1]]/\x.pl.enc = .nilf/\x.tk.is=true/\(∀ a e,qJI x a e=true)/\x.next≠[]/\∀ c,AFn Tryz.prog G f [.int .i32 c,.ref [c1]] (.bool (x.tk.run c))) \/
  (∃ f c1 c2,x.tk.enc = .clo f [.ref [c1],.ref [c2]]/\x.pl.enc = .nilf/\x.tk.is=true/\(∀ a e,qJI x a e=true)/\x.next≠[]/\∀ c,AFn Tryz.prog G f [.int .i32 c,.ref [c1],.ref [c2]] (.bool (x.tk.run c))):=by
 have h:=(hg x hx).2;obtain⟨t,p,nx⟩:=x;cases t with
 | no =>
  cases p with
  | no=>exact .inl ⟨rfl,rfl,rfl,fun a e=>rfl⟩
  | beg=>exact .inr (.inl ⟨_,rfl,rfl,rfl,fun a e=>by simpa[qJI,Tk.is]using wCU (G:=G) a e⟩)
  | fin=>exact .inr (.inl ⟨_,rfl,rfl,rfl,fun a e=>by simpa[qJI,Tk.is]using wCJ (G:=G) a e⟩)
 | any =>
  obtain⟨h1,h2⟩:=h rfl;simp only at h2;subst h2;exact .inr (.inr (.inl ⟨_,rfl,rfl,rfl,fun a e=>rfl,h1,fun c=>wDC c⟩))
 | one d =>
  obtain⟨h1,h2⟩:=h rfl;simp only at h2;subst h2;exact .inr (.inr (.inr (.inl ⟨_,_,rfl,rfl,rfl,fun a e=>rfl,h1,fun c=>zXU d c⟩)))
 | cls l =>
  obtain⟨h1,h2⟩:=h rfl;simp only at h2;subst h2;exact .inr (.inr (.inr (.inl ⟨_,_,rfl,rfl,rfl,fun a e=>rfl,h1,fun c=>zZA l c⟩)))
 | items l b =>
  obtain⟨h1,h2⟩:=h rfl;simp only at h2;subst h2;exact .inr (.inr (.inr (.inr ⟨_,_,_,rfl,rfl,rfl,fun a e=>rfl,h1,fun c=>zPE l b c⟩)))
theorem zCK (n:Nat) (ss:List XS) (set:List Bool) (i:Nat) (a e:Int) (hg:GS ss) (hn:∀ x∈ss,x.next.length<=1000000) (hl:set.length=ss.length) (hi:i<ss.length) (hf:vI set<=n+1) (ih:∀ set i,set.length=ss.length->i<ss.length->vI set<=n->AX Tryz.prog G 189 [.cptr [.sl 3 (ss.map XS.pd)],.ms 3,.p (.int .i64 i),.p (.int .i64 a),.p (.int .i64 e)] [(3,.row 4 1 (bT set))] (.tuple []) [3] [(3,.row 4 1 (bT (wE n ss set i a e)))]):AX Tryz.prog G 189 [.cptr [.sl 3 (ss.map XS.pd)],.ms 3,.p (.int .i64 i),.p (.int .i64 a),.p (.int .i64 e)] [(3,.row 4 1 (bT set))] (.tuple []) [3] [(3,.row 4 1 (bT (wE (n+1) ss set i a e)))]:=by
 refine AX.introU tok 900 Tryz.func189 (by kernel_rfl) rfl rfl ?_;simp only[Tryz.f189,qG,bA,bC];obtain⟨b,hb⟩:∃ b,set[i]?=some b:=⟨set[i]'(by omega),by simp⟩;obtain⟨x,hx⟩:∃ x,ss[i]?=some x:=⟨ss[i],by simp[hi]⟩;have hxm:=bH hx;have hS:wE (n+1) ss set i a e=if b=true then set else if qJI x a e=true then set.set i true else x.next.foldl (fun st k=>wE n ss st k a e) (set.set i true):=by
  conv=>lhs;unfold wE
  rw[show set.getD i true=b from by simp[bJ,hb],show ss.getD i noX=x from by simp[bJ,hx]]
 rw[hS];clear hS
 have hil:i<set.length:=by omega
 have hpd:x.pd = .agg [x.tk.enc,x.pl.enc,.sl 1 (bN x.next)]:=rfl;have hst:=qGA (fun t=>t.length=ss.length/\vI t<=n) (fun st k=>wE n ss st k a e) (fun t k h=>⟨(qAE ss a e n t k).1.trans h.1,dB (qAE ss a e n t k).2 h.2⟩);have hxg:=(hg x hxm).1;have hnx0:=hn x hxm;have hbm:(bT set)[i]?=some (.bool b):=by simp[hb]
 have hxs:(ss.map XS.pd)[i]?=some x.pd:=by simp[hx]
 refine AW.seq (rgn [.bool b] [[],[],[],[0,1,2,3,4,16]] ?_);iterate 4 refine op3 ?_ (hv:=by first|exact True.intro|(simp[hb];done)|(simp[hb];omega)|omega;done|omega|simp)
 refine qA (cnd ?_ ?_)
 ·intro h16;try simp at h16
  rw[bE h16];exact AW.ret zC
 intro h16;try simp at h16
 rw[bD (by simp[h16])];subst h16;have hfr:=qTM set i hb;have hst0:(set.set i true).length=ss.length/\vI (set.set i true)<=n:=⟨by simp[hl],by omega⟩;refine AW.skip (rgn [.bool false,.bool true] [[],[],[],[0,1,2,3,4]] ?_);iterate 4 refine op3 ?_ (hv:=by first|exact True.intro|(simp[hb];done)|(simp[hb];omega)|omega;done|omega|simp)
 refine qA ?_;rcases zJY (G:=G) hg hxm with⟨e1,e2,_,e3⟩|⟨f,e1,e2,_,e3⟩|⟨f,e1,e2,_,e3,_⟩|⟨f,c1,e1,e2,_,e3,_⟩|⟨f,c1,c2,e1,e2,_,e3,_⟩
 ·
  refine rgn [.agg [.nilf,.nilf,.sl 1 (bN x.next)]] [[],[],[],[],[0,1,3,4,23,24],[],[],[],[0,1,3,4,10]] ?_;iterate 9 refine op3 ?_ (hv:=by first|exact True.intro|(exact⟨x,hx,by simp[XS.pd,e1,e2]⟩;done)|omega|simp)
  refine qA (AW.seq (rgn [.nilp,.bool true] [[],[],[],[],[],[0,1,3,4,10,30,32],[],[],[],[],[],[],[0,1,3,4,10,30,34,39],[],[],[0,1,3,4,10,42]] ?_));iterate 4 refine op3 ?_
  iterate 11 refine op4 ?_
  refine op3 ?_;refine qA (cnd ?_ ?_)
  ·intro h42;try simp at h42
  intro h42;try simp at h42
  rw[bD (by simp[e3])];refine AW.skip (rgn [] [[],[],[],[0,1,3,4,44,45,46]] ?_);iterate 4 refine op3 ?_
  refine qA (AW.block ?_);refine AW.loop (α:=Nat) (fun j=>j<=x.next.length) (fun j=>⟨qZ 57 [(0,.cptr [.sl 3 (ss.map XS.pd)]),(1,.ms 3),(3,.p (.int .i64 a)),(4,.p (.int .i64 e)),(44,.p (.sl 1 (bN x.next))),(45,.p (.int .i64 x.next.length)),(46,.p (.int .i64 j))],[3],[(3,.row 4 1 (bT ((x.next.take j).foldl (fun st k=>wE n ss st k a e) (set.set i true))))],900⟩) (fun j=>x.next.length-j) (0) (by omega) ⟨qE (by simp),rfl,by simp,by simp⟩ ?_;rintro j hj;obtain⟨ht1,ht2⟩:=hst (x.next.take j) _ hst0;refine rgn [] [[]] ?_;refine op3 ?_;refine qA (AW.seq (cnd ?_ ?_))
  ·intro h47;try simp at h47
   obtain⟨k,hk⟩:∃ k,x.next[j]?=some k:=⟨x.next[j],by simp[h47]⟩;have hkl:=hxg k (bH hk);have c5:=ih _ k ht1 hkl ht2;have hnx:(x.next.take (j+1)).foldl (fun st k=>wE n ss st k a e) (set.set i true)=wE n ss ((x.next.take j).foldl (fun st k=>wE n ss st k a e) (set.set i true)) k a e:=by
    rw[bX,hk];simp[gT]
   generalize (x.next.take j).foldl (fun st k=>wE n ss st k a e) (set.set i true)=cur at *;refine AW.skip (AW.seq (AW.block (rgn [.int .i64 k] [[],[],[0,1,3,4,12,44,45,46]] ?_)));iterate 3 refine op3 ?_ (hv:=by first|exact True.intro|(simp[hk];done)|(simp[hk];omega);done|omega|simp)
   refine qA (rgz [] [[],[],[],[],[]] ?_);iterate 5 refine op3 ?_
   refine qJ ?_;refine qB.stepK [0,1,3,4,44,45,46] (zI rfl c5 (by simp)) (by conv=>lhs;simp) rfl ?_;refine qB.nil ?_;refine rgz [] [[],[0,1,3,4,44,45,46]] ?_;iterate 2 refine op3 ?_
   refine qA ?_;exact⟨j+1,by omega,by omega,qE (by simp[hnx]),rfl,by simp[hnx],by simp[hnx]⟩
  intro h47;try simp at h47
  rw[bK (by omega)];refine AW.exit ?_;simp;exact qDP
 ·
  refine rgn [.agg [.nilf,.fn f,.sl 1 (bN x.next)]] [[],[],[],[],[0,1,3,4,23,24],[],[],[],[0,1,3,4,10]] ?_;iterate 9 refine op3 ?_ (hv:=by first|exact True.intro|(exact⟨x,hx,by simp[XS.pd,e1,e2]⟩;done)|omega|simp)
  refine qA (AW.seq (rgn [.nilp,.bool (!qJI x a e)] [[],[],[],[],[],[0,1,3,4,10,30,32],[],[],[],[],[],[],[0,1,3,4,10,30,34,39],[],[],[0,1,3,4,10,42]] ?_));iterate 4 refine op3 ?_ (hv:=by first|exact True.intro|exact e3 a e|exact fun _=>e3 a e|exact fun h=>⟨h,e3 a e⟩;done|omega|simp)
  iterate 11 refine op4 ?_ (hv:=by first|exact True.intro|exact e3 a e|exact fun _=>e3 a e|exact fun h=>⟨h,e3 a e⟩;done|omega|simp)
  refine op3 ?_ (hv:=by first|exact True.intro|exact e3 a e|exact fun _=>e3 a e|exact fun h=>⟨h,e3 a e⟩;done|omega|simp);refine qA (cnd ?_ ?_)
  ·intro h42;try simp at h42
   rw[bE (by simpa using h42)];exact AW.ret zC
  intro h42;try simp at h42
  rw[bD (by simpa using h42)];refine AW.skip (rgn [] [[],[],[],[0,1,3,4,44,45,46]] ?_);iterate 4 refine op3 ?_
  refine qA (AW.block ?_);refine AW.loop (α:=Nat) (fun j=>j<=x.next.length) (fun j=>⟨qZ 57 [(0,.cptr [.sl 3 (ss.map XS.pd)]),(1,.ms 3),(3,.p (.int .i64 a)),(4,.p (.int .i64 e)),(44,.p (.sl 1 (bN x.next))),(45,.p (.int .i64 x.next.length)),(46,.p (.int .i64 j))],[3],[(3,.row 4 1 (bT ((x.next.take j).foldl (fun st k=>wE n ss st k a e) (set.set i true))))],900⟩) (fun j=>x.next.length-j) (0) (by omega) ⟨qE (by simp),rfl,by simp,by simp⟩ ?_;rintro j hj;obtain⟨ht1,ht2⟩:=hst (x.next.take j) _ hst0;refine rgn [] [[]] ?_;refine op3 ?_;refine qA (AW.seq (cnd ?_ ?_))
  ·intro h47;try simp at h47
   obtain⟨k,hk⟩:∃ k,x.next[j]?=some k:=⟨x.next[j],by simp[h47]⟩;have hkl:=hxg k (bH hk);have c5:=ih _ k ht1 hkl ht2;have hnx:(x.next.take (j+1)).foldl (fun st k=>wE n ss st k a e) (set.set i true)=wE n ss ((x.next.take j).foldl (fun st k=>wE n ss st k a e) (set.set i true)) k a e:=by
    rw[bX,hk];simp[gT]
   generalize (x.next.take j).foldl (fun st k=>wE n ss st k a e) (set.set i true)=cur at *;refine AW.skip (AW.seq (AW.block (rgn [.int .i64 k] [[],[],[0,1,3,4,12,44,45,46]] ?_)));iterate 3 refine op3 ?_ (hv:=by first|exact True.intro|(simp[hk];done)|(simp[hk];omega);done|omega|simp)
   refine qA (rgz [] [[],[],[],[],[]] ?_);iterate 5 refine op3 ?_
   refine qJ ?_;refine qB.stepK [0,1,3,4,44,45,46] (zI rfl c5 (by simp)) (by conv=>lhs;simp) rfl ?_;refine qB.nil ?_;refine rgz [] [[],[0,1,3,4,44,45,46]] ?_;iterate 2 refine op3 ?_
   refine qA ?_;exact⟨j+1,by omega,by omega,qE (by simp[hnx]),rfl,by simp[hnx],by simp[hnx]⟩
  intro h47;try simp at h47
  rw[bK (by omega)];refine AW.exit ?_;simp;exact qDP
 ·
  refine rgn [.agg [.fn f,.nilf,.sl 1 (bN x.next)]] [[],[],[],[],[0,1,3,4,23,24],[],[],[],[0,1,3,4,10]] ?_;iterate 9 refine op3 ?_ (hv:=by first|exact True.intro|(exact⟨x,hx,by simp[XS.pd,e1,e2]⟩;done)|omega|simp)
  refine qA (AW.seq (rgn [.nilp,.bool true] [[],[],[],[],[],[0,1,3,4,10,30,32],[],[],[],[],[],[],[0,1,3,4,10,30,34,39],[],[],[0,1,3,4,10,42]] ?_));iterate 4 refine op3 ?_
  iterate 11 refine op4 ?_
  refine op3 ?_;refine qA (cnd ?_ ?_)
  ·intro h42;try simp at h42
   rw[bE (e3 a e)];exact AW.ret zC
  intro h42;try simp at h42
 ·
  refine rgn [.agg [.clo f [.ref [c1]],.nilf,.sl 1 (bN x.next)]] [[],[],[],[],[0,1,3,4,23,24],[],[],[],[0,1,3,4,10]] ?_;iterate 9 refine op3 ?_ (hv:=by first|exact True.intro|(exact⟨x,hx,by simp[XS.pd,e1,e2]⟩;done)|omega|simp)
  refine qA (AW.seq (rgn [.nilp,.bool true] [[],[],[],[],[],[0,1,3,4,10,30,32],[],[],[],[],[],[],[0,1,3,4,10,30,34,39],[],[],[0,1,3,4,10,42]] ?_));iterate 4 refine op3 ?_
  iterate 11 refine op4 ?_
  refine op3 ?_;refine qA (cnd ?_ ?_)
  ·intro h42;try simp at h42
   rw[bE (e3 a e)];exact AW.ret zC
  intro h42;try simp at h42
 ·
  refine rgn [.agg [.clo f [.ref [c1],.ref [c2]],.nilf,.sl 1 (bN x.next)]] [[],[],[],[],[0,1,3,4,23,24],[],[],[],[0,1,3,4,10]] ?_;iterate 9 refine op3 ?_ (hv:=by first|exact True.intro|(exact⟨x,hx,by simp[XS.pd,e1,e2]⟩;done)|omega|simp)
  refine qA (AW.seq (rgn [.nilp,.bool true] [[],[],[],[],[],[0,1,3,4,10,30,32],[],[],[],[],[],[],[0,1,3,4,10,30,34,39],[],[],[0,1,3,4,10,42]] ?_));iterate 4 refine op3 ?_
  iterate 11 refine op4 ?_
  refine op3 ?_;refine qA (cnd ?_ ?_)
  ·intro h42;try simp at h42
   rw[bE (e3 a e)];exact AW.ret zC
  intro h42;try simp at h42
theorem zHB (ss:List XS) (set:List Bool) (i:Nat) (a e:Int) (hb:set[i]?=some true):AX Tryz.prog G 189 [.cptr [.sl 3 (ss.map XS.pd)],.ms 3,.p (.int .i64 i),.p (.int .i64 a),.p (.int .i64 e)] [(3,.row 4 1 (bT set))] (.tuple []) [3] [(3,.row 4 1 (bT set))]:=by
 refine AX.introU tok 900 Tryz.func189 (by kernel_rfl) rfl rfl ?_;simp only[Tryz.f189,qG,bA,bC];have hil:=(bB.1 hb).1;refine AW.seq (rgn [.bool true] [[],[],[],[0,1,2,3,4,16]] ?_);iterate 4 refine op3 ?_ (hv:=by first|exact True.intro|(simp[hb];done)|(simp[hb];omega)|omega;done|omega|simp)
 refine qA (cnd ?_ ?_)
 ·intro h16;try simp at h16
  exact AW.ret zC
 intro h16;try simp at h16
theorem zPK {l:List Bool} (h:vI l=0) {i:Nat} (hi:i<l.length):l[i]?=some true:=by
 have h1:=List.countP_eq_zero.1 h l[i] (dV hi);rw[cI hi];cases hb:l[i]with
 | true=>rfl
 | false=>rw[hb]at h1;exact(h1 rfl).elim
theorem qEG (ss:List XS) (hg:GS ss) (hn:∀ x∈ss,x.next.length<=1000000) (a e:Int):∀ (n:Nat) (set:List Bool) (i:Nat),set.length=ss.length->i<ss.length->vI set<=n->AX Tryz.prog G 189 [.cptr [.sl 3 (ss.map XS.pd)],.ms 3,.p (.int .i64 i),.p (.int .i64 a),.p (.int .i64 e)] [(3,.row 4 1 (bT set))] (.tuple []) [3] [(3,.row 4 1 (bT (wE n ss set i a e)))]
 | 0,set,i,hl,hi,hf=>zHB ss set i a e (zPK (Nat.le_zero.1 hf) (by omega))
 | n+1,set,i,hl,hi,hf=>zCK n ss set i a e hg hn hl hi hf fun set' j h1 h2 h3=>qEG ss hg hn a e n set' j h1 h2 h3
theorem pM {P:Program} {c:Code} {Q:Exit->St->Prop} {st st':St} (i j:Nat) (h:(st.kill j).ren i j=st') (k:AW P G c Q st'):AW P G c Q st:=AW.take i j (h ▸ k)
def stepK (ss:List XS) (now:List Bool) (c a e:Int) (k:Nat):List Bool :=
 (List.range k).foldl (fun nx i=>if(now.getD i false && (ss.getD i noX).tk.run c)=true then wE ss.length ss nx ((ss.getD i noX).next.headD 0) a e else nx) (List.replicate ss.length false)
theorem qNH (ss:List XS) (now:List Bool) (c a e:Int) (k:Nat):(stepK ss now c a e k).length=ss.length/\vI (stepK ss now c a e k)<=ss.length:=by
 have h0:vI (List.replicate ss.length false)<=ss.length:=by have:=List.countP_le_length (p:=fun b:Bool => !b) (l:=List.replicate ss.length false);simpa[vI]using this
 refine qGA (fun t=>t.length=ss.length/\vI t<=ss.length) _ (fun t i h => ?_) _ _ ⟨by simp,h0⟩;split
 ·obtain⟨h1,h2⟩:=qAE ss a e ss.length t ((ss.getD i noX).next.headD 0);exact⟨h1.trans h.1,dB h2 h.2⟩
 exact h
theorem zHA (ss:List XS) (now:List Bool) (c a e:Int) (k:Nat) {on:Bool} {x:XS} (h1:now[k]?=some on) (h2:ss[k]?=some x) :
  stepK ss now c a e (k+1)=if(on && x.tk.run c)=true then wE ss.length ss (stepK ss now c a e k) (x.next.headD 0) a e else stepK ss now c a e k:=by
 unfold stepK;rw[List.range_succ,gT];simp only[fH,List.foldl_nil];rw[show now.getD k false=on from by simp[bJ,h1],show ss.getD k noX=x from by simp[bJ,h2]]
def qGV (ss:List XS) (l:Nat) (s:List Int):Nat->Nat->List Bool->Int->Int
 | 0,_,_,to=>to
 | n+1,a,now,to =>
  let t:=if now.getD l false=true then(a:Int) else to
  if a=s.length then t else qGV ss l s n (a+1) (stepK ss now (s.getD a 0) (a+1) s.length ss.length) t
theorem wGL (x:XS):x.tk.is=false->∀ c,x.tk.run c=false:=by
 obtain⟨t,p,nx⟩:=x;cases t <;> simp[Tk.is,Tk.run]
theorem zXA (a x:Int):AX Tryz.prog G 143 [.p (.int .i64 a),.ptr 7 0] [(7,.vars 3 [.p (.int .i64 x)])] (.tuple []) [7] [(7,.vars 3 [.p (.int .i64 a)])]:=by
 refine AX.introU tok 1900 Tryz.func143 (by kernel_rfl) rfl rfl ?_;simp only[Tryz.f143,qG,bA,bC];refine rgz [] [[],[4]] ?_;iterate 2 refine op3 ?_
 refine qA ?_;exact qDP
theorem zYO (ss:List XS) (p:Pt) (s:List Int) (from_:Nat) (to:Int) (hg:GS ss) (hn:∀ x∈ss,x.next.length<=1000000) (hp:qAP ss p) (hl:ss.length<=100000) (hs:s.length<=100000) (hf:from_<=s.length):AX Tryz.prog G 142 [.cptr [.sl 3 (ss.map XS.pd)],.p (.agg [.int .i64 p.1,.int .i64 p.2]),.p (.sl 1 (s.map Sy.pr)),.p (.int .i64 from_),.func (.func 143) [] [.ptr 7 0]] [(7,.vars 3 [.p (.int .i64 to)])] (.tuple []) [7] [(7,.vars 3 [.p (.int .i64 (qGV ss p.2 s (s.length+1-from_) from_ (wE ss.length ss (List.replicate ss.length false) p.1 from_ s.length) to))])]:=by
 refine AX.introU tok 900 Tryz.func142 (by kernel_rfl) rfl rfl ?_;simp only[Tryz.f142,qG,bA,bC];have h0:(List.replicate ss.length false).length=ss.length/\vI (List.replicate ss.length false)<=ss.length:=qNH ss [] 0 0 0 0;have c1:=qEG (G:=G) ss hg hn from_ s.length ss.length (List.replicate ss.length false) p.1 h0.1 hp.1 h0.2;have hk1:=(qAE ss from_ s.length ss.length (List.replicate ss.length false) p.1).1;rw[h0.1]at hk1;have hrep:bT (List.replicate ss.length false)=List.replicate ss.length (PD.bool false):=by simp
 rw[hrep]at c1;generalize wE ss.length ss (List.replicate ss.length false) p.1 from_ s.length=now0 at *;refine rgn [] [[0,2,3,4,6]] ?_;refine op3 ?_;refine qA (rgn [.bool false] [[],[],[],[],[0,2,3,4,6,20],[],[0,2,3,4,6,10]] ?_);iterate 7 refine op3 ?_
 refine qA ?_;refine lI 921 3 (by simp) (by conv=>lhs;simp) ?_;refine rgn [] [[],[],[],[],[],[],[]] ?_;iterate 7 refine op3 ?_
 refine qJ ?_;refine qB.stepK [0,2,3,4,6,10] (zI rfl c1 (by simp)) (by conv=>lhs;simp) rfl ?_;refine qB.nil ?_;refine rgn [] [[],[0,2,4,6,10,11]] ?_;iterate 2 refine op3 ?_
 refine qA (AW.block ?_);refine lI 3 8 (by simp) (by conv=>lhs;simp) ?_;refine AW.loop (α:=Nat × List Bool × Int) (fun q=>qGV ss p.2 s (s.length+1-from_) from_ now0 to=qGV ss p.2 s (s.length+1-q.1) q.1 q.2.1 q.2.2/\q.1<=s.length/\q.2.1.length=ss.length) (fun q=>⟨qZ 93 [(0,.cptr [.sl 3 (ss.map XS.pd)]),(2,.p (.sl 1 (s.map Sy.pr))),(4,.func (.func 143) [] [.ptr 7 0]),(6,.ptr 906 0),(10,.ms 8),(11,.p (.int .i64 q.1))],[7],[(7,.vars 3 [.p (.int .i64 q.2.2)]),(906,.vars 151 [.p (.int .i64 p.1),.p (.int .i64 p.2)]),(8,.row 4 1 (bT q.2.1))],900⟩) (fun q=>s.length+1-q.1) ((from_,now0,to)) ⟨rfl,hf,hk1⟩ ⟨qE (by simp),rfl,by simp,by simp⟩ ?_;rintro⟨a,now,t⟩ ⟨h1,h2,h3⟩;simp only at h1 h2 h3;have hp2:=hp.2;obtain⟨b,hb⟩:∃ b,now[p.2]?=some b:=⟨now[p.2]'(by omega),by simp⟩;have hE:qGV ss p.2 s (s.length+1-a) a now t=if a=s.length then(if b=true then(a:Int) else t) else qGV ss p.2 s (s.length-a) (a+1) (stepK ss now (s.getD a 0) (a+1) s.length ss.length) (if b=true then(a:Int) else t):=by
  rw[show s.length+1-a=(s.length-a)+1 by omega];conv=>lhs;unfold qGV
  rw[show now.getD p.2 false=b from by simp[bJ,hb]]
 rw[hE]at h1;clear hE
 have c2:=fun x=>zXA (G:=G) a x;refine AW.seq (AW.block ?_);refine AW.join (α:=Unit) (fun _=>True) (fun u=>⟨qZ 93 [(0,.cptr [.sl 3 (ss.map XS.pd)]),(2,.p (.sl 1 (s.map Sy.pr))),(4,.func (.func 143) [] [.ptr 7 0]),(6,.ptr 906 0),(10,.ms 8),(11,.p (.int .i64 a))],[7],[(7,.vars 3 [.p (.int .i64 (if b=true then(a:Int) else t))]),(906,.vars 151 [.p (.int .i64 p.1),.p (.int .i64 p.2)]),(8,.row 4 1 (bT now))],900⟩) ?_ ?_
 ·
  refine rgn [.bool b] [[],[],[],[],[0,2,4,6,10,11,37]] ?_;iterate 5 refine op3 ?_ (hv:=by first|exact True.intro|(simp[hb];done)|(simp[hb];omega)|omega;done|omega|simp)
  refine qA (cnd ?_ ?_)
  ·intro h37;try simp at h37
   refine rgz [] [[],[]] ?_;iterate 2 refine op3 ?_
   refine qJ ?_;refine qB.stepK [0,2,4,6,10,11] (zI rfl (c2 t) (by simp)) (by conv=>lhs;simp) rfl ?_;refine qB.nil ?_;exact⟨(),trivial,qE (by simp[h37]),rfl,by simp[h37],by simp[h37]⟩
  intro h37;try simp at h37
  refine AW.skip ?_;exact⟨(),trivial,qE (by simp[h37]),rfl,by simp[h37],by simp[h37]⟩
 ·
  rintro u hu;generalize (if b=true then(a:Int) else t)=t1 at *;refine AW.seq (rgn [] [[],[],[],[0,2,4,6,10,11,44]] ?_);iterate 4 refine op3 ?_
  refine qA (cnd ?_ ?_)
  ·intro h44;try simp at h44
   rw[h1,bE (by omega)];exact AW.ret zC
  intro h44;try simp at h44
  have hlt:a<s.length:=by omega
  rw[bD (by omega)]at h1;obtain⟨c,hc⟩:∃ c,s[a]?=some c:=⟨s[a],by simp[hlt]⟩;rw[show s.getD a 0=c from by simp[bJ,hc]]at h1;refine AW.skip (rgn [.bool false] [[],[],[],[],[0,2,4,6,10,11,49],[],[0,2,4,6,10,11,12]] ?_);iterate 7 refine op3 ?_
  refine qA (AW.seq (rgn [] [[],[],[0,2,4,6,11,12,51,52,53]] ?_));iterate 3 refine op3 ?_
  refine qA (AW.block ?_);refine lI 950 3 (by simp) (by conv=>lhs;simp) ?_;refine AW.loop (α:=Nat) (fun k=>k<=ss.length) (fun k=>⟨qZ 93 [(0,.cptr [.sl 3 (ss.map XS.pd)]),(2,.p (.sl 1 (s.map Sy.pr))),(4,.func (.func 143) [] [.ptr 7 0]),(6,.ptr 906 0),(11,.p (.int .i64 a)),(12,.ms 3),(51,.ms 8),(52,.p (.int .i64 ss.length)),(53,.p (.int .i64 k))],[7],[(7,.vars 3 [.p (.int .i64 t1)]),(906,.vars 151 [.p (.int .i64 p.1),.p (.int .i64 p.2)]),(8,.row 4 1 (bT now)),(3,.row 4 1 (bT (stepK ss now c (a+1) s.length k)))],900⟩) (fun k=>ss.length-k) (0) (by omega) ⟨qE (by simp[h3]),rfl,by simp[stepK,h3],by simp⟩ ?_;rintro k hk;refine rgn [] [[]] ?_;refine op3 ?_;refine qA (AW.seq (cnd ?_ ?_))
  ·intro h54;try simp at h54
   obtain⟨on,hon⟩:∃ on,now[k]?=some on:=⟨now[k]'(by omega),by simp⟩;obtain⟨x,hx⟩:∃ x,ss[k]?=some x:=⟨ss[k],by simp[h54]⟩;have hxm:=bH hx;have hsx:=zHA ss now c (a+1) s.length k hon hx;have hlen:=qNH ss now c (a+1) s.length k;have hin:=hg x hxm;have hru:=wGL x;generalize stepK ss now c (a+1) s.length k=cur at *;refine AW.skip (AW.seq (AW.block (rgn [.bool on] [[],[],[],[],[0,2,4,6,11,12,13,14,51,52,53]] ?_)));iterate 5 refine op3 ?_ (hv:=by first|exact True.intro|(simp[hon];done)|(simp[hon];omega)|omega;done|omega|simp)
   refine qA ?_;rcases zJY (G:=G) hg hxm with⟨e1,e2,e4,_⟩|⟨f,e1,e2,e4,_⟩|⟨f,e1,e2,e4,_,e5,e6⟩|⟨f,c1,e1,e2,e4,_,e5,e6⟩|⟨f,c1,c2,e1,e2,e4,_,e5,e6⟩
   ·
    refine rgn [.agg [.nilf,.nilf,.sl 1 (bN x.next)]] [[],[],[],[],[0,2,4,6,11,12,14,51,52,53,61,62],[],[],[],[0,2,4,6,11,12,14,15,51,52,53]] ?_;iterate 9 refine op3 ?_ (hv:=by first|exact True.intro|(exact⟨x,hx,by simp[XS.pd,e1,e2]⟩;done)|omega|simp)
    refine qA ?_;refine iL tok mixed [0,2,4,6,11,12,15,51,52,53,79] 15 [[14],[65],[15,66],[67,66],[68,66],[66,69],[70],[15,71],[72,71],[2,71],[11,71],[74,75,71],[76,71],[73,77,71],[71,78]] [.int .i32 c,.nilp,.bool (x.tk.run c)] [] (by kernel_rfl) (by intro C;conv=>lhs;simp) (by first|exact True.intro|omega|simp) (by simp[Sm.sum,Sm.foot,Sm.tch,Sm.refs];kernel_rfl) (by intro C;conv=>lhs;simp) (by first|exact True.intro|omega|simp) ?_;refine cnd ?_ ?_
    ·intro h79;try simp at h79
    intro h79;try simp at h79
    rw[hru e4,fA,bD (by simp)]at hsx;refine AW.skip (rgz [] [[],[0,2,4,6,11,12,51,52,53]] ?_);iterate 2 refine op3 ?_
    refine qA ?_;exact⟨k+1,by omega,by omega,qE (by simp[hsx]),rfl,by simp[hsx],by simp[hsx]⟩
   ·
    refine rgn [.agg [.nilf,.fn f,.sl 1 (bN x.next)]] [[],[],[],[],[0,2,4,6,11,12,14,51,52,53,61,62],[],[],[],[0,2,4,6,11,12,14,15,51,52,53]] ?_;iterate 9 refine op3 ?_ (hv:=by first|exact True.intro|(exact⟨x,hx,by simp[XS.pd,e1,e2]⟩;done)|omega|simp)
    refine qA ?_;refine iL tok mixed [0,2,4,6,11,12,15,51,52,53,79] 15 [[14],[65],[15,66],[67,66],[68,66],[66,69],[70],[15,71],[72,71],[2,71],[11,71],[74,75,71],[76,71],[73,77,71],[71,78]] [.int .i32 c,.nilp,.bool (x.tk.run c)] [] (by kernel_rfl) (by intro C;conv=>lhs;simp) (by first|exact True.intro|omega|simp) (by simp[Sm.sum,Sm.foot,Sm.tch,Sm.refs];kernel_rfl) (by intro C;conv=>lhs;simp) (by first|exact True.intro|omega|simp) ?_;refine cnd ?_ ?_
    ·intro h79;try simp at h79
    intro h79;try simp at h79
    rw[hru e4,fA,bD (by simp)]at hsx;refine AW.skip (rgz [] [[],[0,2,4,6,11,12,51,52,53]] ?_);iterate 2 refine op3 ?_
    refine qA ?_;exact⟨k+1,by omega,by omega,qE (by simp[hsx]),rfl,by simp[hsx],by simp[hsx]⟩
   ·
    refine rgn [.agg [.fn f,.nilf,.sl 1 (bN x.next)]] [[],[],[],[],[0,2,4,6,11,12,14,51,52,53,61,62],[],[],[],[0,2,4,6,11,12,14,15,51,52,53]] ?_;iterate 9 refine op3 ?_ (hv:=by first|exact True.intro|(exact⟨x,hx,by simp[XS.pd,e1,e2]⟩;done)|omega|simp)
    refine qA ?_;refine iL tok mixed [0,2,4,6,11,12,15,51,52,53,79] 15 [[14],[65],[15,66],[67,66],[68,66],[66,69],[70],[15,71],[72,71],[2,71],[11,71],[74,75,71],[76,71],[73,77,71],[71,78]] [.int .i32 c,.nilp,.bool (x.tk.run c)] [] (by kernel_rfl) (by intro C;conv=>lhs;simp) (by exact⟨fun h=>⟨h,hc⟩,fun h=>⟨h,e6 c⟩⟩) (by simp[Sm.sum,Sm.foot,Sm.tch,Sm.refs];kernel_rfl) (by intro C;conv=>lhs;simp) (by first|exact True.intro|omega|simp) ?_;refine cnd ?_ ?_
    ·intro h79;try simp at h79
     rw[bE (by simpa using h79)]at hsx;obtain⟨k0,nx,hnx⟩:=gW e5;have hk0:=hin.1 k0 (by rw[hnx];simp);have c6:=qEG (G:=G) ss hg hn ((a:Int)+1) s.length ss.length cur k0 hlen.1 hk0 hlen.2;rw[show x.next.headD 0=k0 from by rw[hnx];rfl]at hsx;refine rgz [.int .i64 k0] [[],[],[],[],[],[0,2,4,6,11,12,51,52,53,80,81,85],[],[],[],[]] ?_;iterate 10 refine op3 ?_ (hv:=by first|exact True.intro|(simp[hnx];done)|(simp[hnx];omega);done|omega|simp)
     refine qJ ?_;refine qB.stepK [0,2,4,6,11,12,51,52,53] (zI rfl c6 (by simp)) (by conv=>lhs;simp) rfl ?_;refine qB.nil ?_;refine rgz [] [[],[0,2,4,6,11,12,51,52,53]] ?_;iterate 2 refine op3 ?_
     refine qA ?_;exact⟨k+1,by omega,by omega,qE (by simp[hsx]),rfl,by simp[hsx],by simp[hsx]⟩
    intro h79;try simp at h79
    rw[bD (by simpa using h79)]at hsx;refine AW.skip (rgz [] [[],[0,2,4,6,11,12,51,52,53]] ?_);iterate 2 refine op3 ?_
    refine qA ?_;exact⟨k+1,by omega,by omega,qE (by simp[hsx]),rfl,by simp[hsx],by simp[hsx]⟩
   ·
    refine rgn [.agg [.clo f [.ref [c1]],.nilf,.sl 1 (bN x.next)]] [[],[],[],[],[0,2,4,6,11,12,14,51,52,53,61,62],[],[],[],[0,2,4,6,11,12,14,15,51,52,53]] ?_;iterate 9 refine op3 ?_ (hv:=by first|exact True.intro|(exact⟨x,hx,by simp[XS.pd,e1,e2]⟩;done)|omega|simp)
    refine qA ?_;refine iL tok mixed [0,2,4,6,11,12,15,51,52,53,79] 15 [[14],[65],[15,66],[67,66],[68,66],[66,69],[70],[15,71],[72,71],[2,71],[11,71],[74,75,71],[76,71],[73,77,71],[71,78]] [.int .i32 c,.nilp,.bool (x.tk.run c)] [] (by kernel_rfl) (by intro C;conv=>lhs;simp) (by exact⟨fun h=>⟨h,hc⟩,fun h=>⟨h,e6 c⟩⟩) (by simp[Sm.sum,Sm.foot,Sm.tch,Sm.refs];kernel_rfl) (by intro C;conv=>lhs;simp) (by first|exact True.intro|omega|simp) ?_;refine cnd ?_ ?_
    ·intro h79;try simp at h79
     rw[bE (by simpa using h79)]at hsx;obtain⟨k0,nx,hnx⟩:=gW e5;have hk0:=hin.1 k0 (by rw[hnx];simp);have c6:=qEG (G:=G) ss hg hn ((a:Int)+1) s.length ss.length cur k0 hlen.1 hk0 hlen.2;rw[show x.next.headD 0=k0 from by rw[hnx];rfl]at hsx;refine rgz [.int .i64 k0] [[],[],[],[],[],[0,2,4,6,11,12,51,52,53,80,81,85],[],[],[],[]] ?_;iterate 10 refine op3 ?_ (hv:=by first|exact True.intro|(simp[hnx];done)|(simp[hnx];omega);done|omega|simp)
     refine qJ ?_;refine qB.stepK [0,2,4,6,11,12,51,52,53] (zI rfl c6 (by simp)) (by conv=>lhs;simp) rfl ?_;refine qB.nil ?_;refine rgz [] [[],[0,2,4,6,11,12,51,52,53]] ?_;iterate 2 refine op3 ?_
     refine qA ?_;exact⟨k+1,by omega,by omega,qE (by simp[hsx]),rfl,by simp[hsx],by simp[hsx]⟩
    intro h79;try simp at h79
    rw[bD (by simpa using h79)]at hsx;refine AW.skip (rgz [] [[],[0,2,4,6,11,12,51,52,53]] ?_);iterate 2 refine op3 ?_
    refine qA ?_;exact⟨k+1,by omega,by omega,qE (by simp[hsx]),rfl,by simp[hsx],by simp[hsx]⟩
   ·
    refine rgn [.agg [.clo f [.ref [c1],.ref [c2]],.nilf,.sl 1 (bN x.next)]] [[],[],[],[],[0,2,4,6,11,12,14,51,52,53,61,62],[],[],[],[0,2,4,6,11,12,14,15,51,52,53]] ?_;iterate 9 refine op3 ?_ (hv:=by first|exact True.intro|(exact⟨x,hx,by simp[XS.pd,e1,e2]⟩;done)|omega|simp)
    refine qA ?_;refine iL tok mixed [0,2,4,6,11,12,15,51,52,53,79] 15 [[14],[65],[15,66],[67,66],[68,66],[66,69],[70],[15,71],[72,71],[2,71],[11,71],[74,75,71],[76,71],[73,77,71],[71,78]] [.int .i32 c,.nilp,.bool (x.tk.run c)] [] (by kernel_rfl) (by intro C;conv=>lhs;simp) (by exact⟨fun h=>⟨h,hc⟩,fun h=>⟨h,e6 c⟩⟩) (by simp[Sm.sum,Sm.foot,Sm.tch,Sm.refs];kernel_rfl) (by intro C;conv=>lhs;simp) (by first|exact True.intro|omega|simp) ?_;refine cnd ?_ ?_
    ·intro h79;try simp at h79
     rw[bE (by simpa using h79)]at hsx;obtain⟨k0,nx,hnx⟩:=gW e5;have hk0:=hin.1 k0 (by rw[hnx];simp);have c6:=qEG (G:=G) ss hg hn ((a:Int)+1) s.length ss.length cur k0 hlen.1 hk0 hlen.2;rw[show x.next.headD 0=k0 from by rw[hnx];rfl]at hsx;refine rgz [.int .i64 k0] [[],[],[],[],[],[0,2,4,6,11,12,51,52,53,80,81,85],[],[],[],[]] ?_;iterate 10 refine op3 ?_ (hv:=by first|exact True.intro|(simp[hnx];done)|(simp[hnx];omega);done|omega|simp)
     refine qJ ?_;refine qB.stepK [0,2,4,6,11,12,51,52,53] (zI rfl c6 (by simp)) (by conv=>lhs;simp) rfl ?_;refine qB.nil ?_;refine rgz [] [[],[0,2,4,6,11,12,51,52,53]] ?_;iterate 2 refine op3 ?_
     refine qA ?_;exact⟨k+1,by omega,by omega,qE (by simp[hsx]),rfl,by simp[hsx],by simp[hsx]⟩
    intro h79;try simp at h79
    rw[bD (by simpa using h79)]at hsx;refine AW.skip (rgz [] [[],[0,2,4,6,11,12,51,52,53]] ?_);iterate 2 refine op3 ?_
    refine qA ?_;exact⟨k+1,by omega,by omega,qE (by simp[hsx]),rfl,by simp[hsx],by simp[hsx]⟩
  intro h54;try simp at h54
  obtain hkk:k=ss.length:=by omega
  subst hkk;refine AW.exit ?_;simp only[inBlock, ↓reduceIte];refine rgz [] [[],[0,2,4,6,10,11]] ?_;iterate 2 refine op3 ?_
  refine qA ?_;refine pM 3 8 (by conv=>lhs;simp) ?_;refine rgz [] [[],[],[0,2,4,6,10,11]] ?_;iterate 3 refine op3 ?_
  refine qA ?_;exact⟨(a+1,stepK ss now c ((a:Int)+1) s.length ss.length,t1),⟨by rw[h1,show s.length+1-(a+1)=s.length-a by omega],by simp only;omega,(qNH _ _ _ _ _ _).1⟩,by simp only;omega,qE (by simp),rfl,by simp,by simp⟩
def qHT (ss:List XS) (p:Pt) (s:List Int):Nat->Nat->Int × Int
 | 0,_=>(-1, -1)
 | n+1,f=>if 0<=qGV ss p.2 s (s.length+1-f) f (wE ss.length ss (List.replicate ss.length false) p.1 f s.length) (-1) then((f:Int),qGV ss p.2 s (s.length+1-f) f (wE ss.length ss (List.replicate ss.length false) p.1 f s.length) (-1)) else qHT ss p s n (f+1)
def xV (re t:List UInt8):Int × Int × Int:=if 100<re.length then(0,0,3) else if(jB re).2.bad=true\/(jB re).2.left≠[] then(0,0,32)
 else((qHT (jB re).2.ss (jB re).1 (wG t) ((wG t).length+1) 0).1,(qHT (jB re).2.ss (jB re).1 (wG t) ((wG t).length+1) 0).2,0)
theorem zIN (re t:List UInt8):(qOF re = .tup [.nilp,.agg [.int .i64 0,.int .i64 0],.int .i64 3]/\xV re t=(0,0,3))\/(qOF re = .tup [.nilp,.agg [.int .i64 0,.int .i64 0],.int .i64 32]/\xV re t=(0,0,32)) \/
  (re.length<=100/\qOF re = .tup [.ref [.sl 3 ((jB re).2.ss.map XS.pd)],.agg [.int .i64 (jB re).1.1,.int .i64 (jB re).1.2],.int .i64 0]/\xV re t=((qHT (jB re).2.ss (jB re).1 (wG t) ((wG t).length+1) 0).1,(qHT (jB re).2.ss (jB re).1 (wG t) ((wG t).length+1) 0).2,0)):=by
 unfold qOF xV;by_cases h:100<re.length
 ·rw[bE h,bE h];exact .inl ⟨rfl,rfl⟩
 rw[bD h,bD h];by_cases h2:(jB re).2.bad=true\/(jB re).2.left≠[]
 ·rw[bE h2,bE h2];exact .inr (.inl ⟨rfl,rfl⟩)
 rw[bD h2,bD h2];exact .inr (.inr ⟨by omega,rfl,rfl⟩)
theorem wBO (re:List UInt8) (h:re.length<=100):GS (jB re).2.ss/\qAP (jB re).2.ss (jB re).1/\(jB re).2.ss.length<=100000/\∀ x∈(jB re).2.ss,x.next.length<=1000000:=by
 obtain⟨g1,g2⟩:=(qHF (4 * (wG re).length+3)).alt ⟨[],wG re,0,false⟩;have h0:=(zKU re h).le 0 g1 (by omega);have hw:=h0.w (by omega);exact⟨g1.g (fun x hx=>by simp at hx),g2,by have:=hw.2;show(qBO _ _).2.ss.length<=_;omega,fun x hx=>by have:=zVS hx;have:=hw.1;show x.next.length<=_;have e:W (jB re).2.ss<=41000:=hw.1;omega⟩
theorem zZV (re t:List UInt8) (hl:re.length<=1000000) (ht:t.length<=10000):AX Tryz.prog G 102 [.p (.str re),.p (.str t)] [] (.tuple [.p (.int .i64 (xV re t).1),.p (.int .i64 (xV re t).2.1),.p (.int .i64 (xV re t).2.2)]) [] []:=by
 refine AX.introU tok 900 Tryz.func102 (by kernel_rfl) rfl rfl ?_;simp only[Tryz.f102,qG,bA,bC];have c1:=zFJ (G:=G) re hl;have hlr:=qKD t;refine rgn [] [[],[],[0,1,5]] ?_;iterate 3 refine op3 ?_
 refine qA ?_;rcases zIN re t with⟨e1,e2⟩|⟨e1,e2⟩|⟨h0,e1,e2⟩
 ·
  rw[e1]at c1;rw[e2];refine rgn [.nilp,.tup [.nilp,.agg [.int .i64 0,.int .i64 0],.int .i64 3]] [[],[],[],[],[],[1,5,13,14,15],[],[],[],[1,5,6,7,8]] ?_;iterate 10 refine oq1 tok c1 ?_
  refine qA (AW.seq (rgn [] [[],[1,5,6,7,8,17]] ?_));iterate 2 refine op3 ?_
  refine qA (cnd ?_ ?_)
  ·intro h17;try simp at h17
   refine rgn [] [[],[],[],[4,5,6]] ?_;iterate 4 refine op3 ?_
   refine qA ?_;exact AW.ret zC
  intro h17;try simp at h17
 ·
  rw[e1]at c1;rw[e2];refine rgn [.nilp,.tup [.nilp,.agg [.int .i64 0,.int .i64 0],.int .i64 32]] [[],[],[],[],[],[1,5,13,14,15],[],[],[],[1,5,6,7,8]] ?_;iterate 10 refine oq1 tok c1 ?_
  refine qA (AW.seq (rgn [] [[],[1,5,6,7,8,17]] ?_));iterate 2 refine op3 ?_
  refine qA (cnd ?_ ?_)
  ·intro h17;try simp at h17
   refine rgn [] [[],[],[],[4,5,6]] ?_;iterate 4 refine op3 ?_
   refine qA ?_;exact AW.ret zC
  intro h17;try simp at h17
 ·
  rw[e1]at c1;rw[e2];obtain⟨hg,hp,hln,hnx⟩:=wBO re h0;generalize (jB re).2.ss=ss at *;generalize (jB re).1=q at *;refine rgn [.nilp,.tup [.ref [.sl 3 (ss.map XS.pd)],.agg [.int .i64 q.1,.int .i64 q.2],.int .i64 0]] [[],[],[],[],[],[1,5,13,14,15],[],[],[],[1,5,6,7,8]] ?_;iterate 10 refine oq1 tok c1 ?_
  refine qA (AW.seq (rgn [] [[],[1,5,6,7,8,17]] ?_));iterate 2 refine op3 ?_
  refine qA (cnd ?_ ?_)
  ·intro h17;try simp at h17
  intro h17;try simp at h17
  refine AW.skip (rgn [] [[]] ?_);refine op3 ?_;refine qJ ?_;refine qB.stepK [5,7,8,20] (qVH tok rfl (by conv=>lhs;simp) trivial rfl rfl rfl (by omega) 919 (by conv=>lhs;simp) (by conv=>lhs;simp)) (by conv=>lhs;simp) rfl ?_;refine qB.run [[5,7,8,9]] ?_;refine op3 ?_;refine qA (AW.seq ?_);refine lD 919 (by conv=>lhs;simp) ?_;refine lI 905 7 (by simp) (by conv=>lhs;simp) ?_;generalize wG t=s at *;refine rgn [] [[],[],[],[5,7,8,9,23,24]] ?_;iterate 4 refine op3 ?_
  refine qA (AW.block ?_);refine AW.loop (α:=Nat × Int) (fun a=>qHT ss q s (s.length+1) 0=qHT ss q s (s.length+1-a.1) a.1/\a.1<=s.length+1) (fun a=>⟨qZ 38 [(5,.ptr 7 0),(7,.p (.ref [.sl 3 (ss.map XS.pd)])),(8,.ptr 908 0),(9,.p (.sl 1 (s.map Sy.pr))),(23,.p (.int .i64 ((s.length:Int)+1))),(24,.p (.int .i64 a.1))],[],[(7,.vars 3 [.p (.int .i64 a.2)]),(908,.vars 151 [.p (.int .i64 q.1),.p (.int .i64 q.2)])],900⟩) (fun a=>s.length+1-a.1) ((0,0)) ⟨rfl,by omega⟩ ⟨qE (by simp),rfl,by simp,by simp⟩ ?_;rintro⟨f,y⟩ ⟨h1,h2⟩;simp only at h1 h2;refine rgn [] [[]] ?_;refine op3 ?_;refine qA (AW.seq (cnd ?_ ?_))
  ·intro h25;try simp at h25
   have hf:f<=s.length:=by omega
   have c2:=zYO (G:=G) ss q s f (-1) hg hnx hp hln (by omega) hf;have hF:qHT ss q s (s.length+1-f) f=if 0<=qGV ss q.2 s (s.length+1-f) f (wE ss.length ss (List.replicate ss.length false) q.1 f s.length) (-1) then((f:Int),qGV ss q.2 s (s.length+1-f) f (wE ss.length ss (List.replicate ss.length false) q.1 f s.length) (-1)) else qHT ss q s (s.length-f) (f+1):=by
    conv=>lhs;rw[show s.length+1-f=(s.length-f)+1 by omega]
    conv=>lhs;unfold qHT
   rw[hF]at h1;clear hF
   generalize qGV ss q.2 s (s.length+1-f) f (wE ss.length ss (List.replicate ss.length false) q.1 f s.length) (-1)=z at *;refine AW.skip (AW.seq (AW.block (rgn [] [[],[4,5,7,8,9,23,24]] ?_)));iterate 2 refine op3 ?_
   refine qA (rgn [] [[]] ?_);refine op3 ?_;refine qA (rgn [] [[],[],[],[],[]] ?_);iterate 5 refine op3 ?_
   refine qJ ?_;refine qB.stepK [4,5,7,8,9,23,24] (zI rfl c2 (by simp)) (by conv=>lhs;simp) rfl ?_;refine qB.nil ?_;refine rgn [] [[],[4,5,7,8,9,23,24,34]] ?_;iterate 2 refine op3 ?_
   refine qA (cnd ?_ ?_)
   ·intro h34;try simp at h34
    rw[h1,bE (by omega)];refine iL tok mixed [4,5,6] 3 [[4],[5],[35]] [] [] (by kernel_rfl) (by intro C;conv=>lhs;simp) (by first|exact True.intro|omega|simp) (by simp[Sm.sum,Sm.foot,Sm.tch,Sm.refs];kernel_rfl) (by intro C;conv=>lhs;simp) (by first|exact True.intro|omega|simp) ?_;exact AW.ret zC
   intro h34;try simp at h34
   rw[bD (by omega)]at h1;refine AW.skip (rgz [] [[],[5,7,8,9,23,24]] ?_);iterate 2 refine op3 ?_
   refine qA ?_;exact⟨(f+1,z),⟨by rw[h1,show s.length+1-(f+1)=s.length-f by omega],by simp only;omega⟩,by simp only;omega,qE (by simp),rfl,by simp,by simp⟩
  intro h25;try simp at h25
  obtain rfl:f=s.length+1:=by omega
  rw[h1,show qHT ss q s (s.length+1-(s.length+1)) (s.length+1)=(-1, -1) from by rw[gL];rfl];refine AW.exit ?_;simp;refine rgn [] [[],[],[]] ?_;iterate 3 refine op3 ?_
  refine qA ?_;exact AW.ret zC
theorem zZU (re t:List UInt8) (hl:re.length<=1000000) (ht:t.length<=10000):AFn Tryz.prog G 102 [.str re,.str t] (.tup [.int .i64 (xV re t).1,.int .i64 (xV re t).2.1,.int .i64 (xV re t).2.2]) :=
 oF (zZV re t hl ht) (by simp[iS,iP])
def qVS (re t:List UInt8):Bool:=decide ((xV re t).2.2=0) && decide (0<=(xV re t).1)
theorem zZQ (re t:List UInt8) (hl:re.length<=1000000) (ht:t.length<=10000):AFn Tryz.prog G 71 [.str re,.str t] (.tup [.bool (qVS re t),.int .i64 (xV re t).2.2]):=by
 refine AFn.introU tok Tryz.func71 (by kernel_rfl) rfl rfl ?_;simp only[Tryz.f71,qG,bA,bC];have c1:=zZU (G:=G) re t hl ht;have e:qVS re t=(decide ((xV re t).2.2=0) && decide (0<=(xV re t).1)):=rfl;rw[e];clear e
 generalize xV re t=q at *;refine rgn [] [[],[0,1]] ?_;iterate 2 refine op3 ?_
 refine qA (rgn [.nilp,.tup [.int .i64 q.1,.int .i64 q.2.1,.int .i64 q.2.2]] [[],[],[12],[],[],[],[],[],[6,15],[6,8]] ?_);iterate 10 refine oq1 tok c1 ?_
 refine qA (rgn [] [[],[],[],[],[8,18,20],[],[],[4,22],[4,5]] ?_);iterate 3 refine op3 ?_
 iterate 2 refine op4 ?_
 iterate 4 refine op3 ?_
 exact qA (AW.ret qI)
end Go.Proofs.YtgcbapchinideaaGreatDoor
namespace Go.Proofs.YtgcbapchinideaaGreatDoor.Sy
open Go
section
variable {P:Program} {T:Tab} {G:qT} {st:St}
theorem qXN {M:qY} {μ:Mu}:∀ (us:List Value) (ys:List V) (i:Nat) (arr:Array Value) (cs:List V),Cells M μ arr cs->us.length=ys.length->(∀ (k:Nat) u y,us[k]?=some u->ys[k]?=some y->Cells M μ u.cells [y])->i+us.length<=cs.length ->
  ∃ arr' cs',Cells M μ arr' cs'/\Instr.fill (fun i=>some (i * 1,1)) arr ((us.zipIdx i).map fun x=>(x.2,x.1))=some arr'/\cs'.length=cs.length/\(∀ k:Nat,i<=k->k<i+us.length->cs'[k]?=ys[k-i]?)/\∀ k:Nat,k<i->cs'[k]?=cs[k]?
 | [],[],i,arr,cs,hc,_,_,_=>⟨arr,cs,hc,rfl,rfl,fun k h1 h2=>by simp at h2;omega,fun _ _=>rfl⟩
 | u::us,y::ys,i,arr,cs,hc,hl,hg,hi=>by
  obtain⟨a1,k1,g1⟩:=zUB (i:=i) (rest:=(us.zipIdx (i+1)).map fun x=>(x.2,x.1)) hc (hg 0 u y rfl rfl) (by simp at hi;omega);obtain⟨a2,c2,k2,g2,l2,p2,q2⟩:=qXN us ys (i+1) a1 (cs.set i y) k1 (by simpa using hl) (fun k u' y' h1 h2=>hg (k+1) u' y' (by simpa using h1) (by simpa using h2)) (by simp at hi ⊢; omega);refine⟨a2,c2,k2,by rw[List.zipIdx_cons,bA,g1,g2],by simpa using l2,fun k h1 h2 => ?_,fun k hk => ?_⟩
  ·rcases Nat.eq_or_lt_of_le h1 with e|e
   ·subst e;rw[q2 i (by omega),gK (by simp at hi;omega),gL];rfl
   rw[p2 k (by omega) (by simp at h2;omega),show k-i=(k-(i+1))+1 by omega];simp
  rw[q2 k (by omega),fB (by omega)]
 | [],_::_,_,_,_,_,h,_,_=>by simp at h
 | _::_,[],_,_,_,_,h,_,_=>by simp at h
theorem zBN (hT:TOK P T) {o:Oper} {t:TypeId} {parts:Array (Nat × Operand)} (xs:List Operand) (ys:List V) (ho:o.op = .build t parts) (hpt:parts.toList=xs.zipIdx.map fun x=>(x.2,x.1)) {ti:TI} (ht:T t=some ti) {n:Nat} {el:TypeId} (hk:ti.k = .ar n el) {te:TI} (hel:T el=some te) (hs:te.size=1) {zs:List V} (hz:ti.zero.cells=some zs) (hl:zs.length=xs.length)
  (hxl:xs.length=ys.length) (hy:∀ (k:Nat) x y,xs[k]?=some x->ys[k]?=some y->st.arg G x=(True,y)/\y.cells=some [y]):Yields P G o st (.agg ys) st:=by
 intro c M μ tmps w hg r;obtain⟨i0,d0,hi0,hd,hd2,_,_,hzero,_⟩:=hT.get ht;obtain⟨i1,d1,hi1,hd1,_,hsz1,_,_,_⟩:=hT.get hel;cases hzz:i0.zero with
 | none=>rw[hzz]at hzero;simp at hzero;rw[<-hzero]at hz;simp[V.cells]at hz
 | some z0 =>
  rw[hzz]at hzero;simp only[eV,dM]at hzero;rw[<-hzero]at hz;have hc0:=Cells.of (vG M μ z0) hz;rw[hk]at hd2;have hdd:∃ n' e',d0 = .array n' e'/\e'=el:=by
   cases d0 <;> simp[TK.of]at hd2
   exact⟨_,_,rfl,hd2.2⟩
  obtain⟨n',e',rfl,rfl⟩:=hdd;obtain⟨a3,c3,k3,g3,l3,p3,_⟩:=qXN (M:=M) (μ:=μ) (xs.map (Act.eval ⟨tmps,[]⟩)) ys 0 z0.cells zs hc0 (by simpa using hxl) (fun k u y h1 h2=>by
   rw[bG]at h1;obtain⟨x,hx,rfl⟩:=bF.1 h1;obtain⟨e1,e2⟩:=hy k x y hx h2;exact Cells.of (qF hg r e1 trivial) e2) (by simp;omega)
  have hpm:(parts.map fun(x:Nat × Operand)=>(x.1,Act.eval ⟨tmps,[]⟩ x.2)).toList=((xs.map (Act.eval ⟨tmps,[]⟩)).zipIdx 0).map fun x=>(x.2,x.1):=by
   rw[gF,hpt,dT,List.zipIdx_map,dT];rfl
  have hbuilt:P.built t (parts.map fun(x:Nat × Operand)=>(x.1,Act.eval ⟨tmps,[]⟩ x.2)).toList=some a3:=by
   simp only[Program.built,hi0,hd,hzz,hi1,hsz1,hs];rw[hpm,g3]
  have:=run_build (P:=P) w t (parts.map fun(x:Nat × Operand)=>(x.1,Act.eval ⟨tmps,[]⟩ x.2)) _ hbuilt;have e1:(execOp (Act.eval ⟨tmps,[]⟩) o).run P w = .ok (.value (.agg a3)) w:=by
   simp only[execOp,ho];rw[Sem.run_bind];simp only[this];rfl
  rw[e1];have e3:c3=ys:=by
   apply dP;intro k;by_cases hkl:k<xs.length
   ·have:=p3 k (fC _) (by simp;omega);rw[this,Nat.sub_zero]
   rw[cL (by omega),cL (by omega)]
  rw[e3]at k3;exact⟨M,μ,r,.agg k3.size k3.one k3.get⟩
theorem wAV {o:Oper} {x y:Operand} {tys:Array TypeId} (ho:o.op = .call { callee := .builtin .min,args := #[x,y],argTypes:=tys }) {p q:Prop} {k:IntKind} {a b:Int} (h1:st.arg G x=(p,.p (.int k a))) (hp:p) (h2:st.arg G y=(q,.p (.int k b))) (hq:q):Yields P G o st (.p (.int k (if b<a then b else a))) st:=by
 intro c M μ tmps w hg r;have e1:=(qF hg r h1 hp).p_inv;have e2:=(qF hg r h2 hq).p_inv;generalize hu1:Act.eval ⟨tmps,[]⟩ x=u1 at e1;generalize hu2:Act.eval ⟨tmps,[]⟩ y=u2 at e2;cases e1 with
 | int a1 a2 =>
 cases e2 with
 | int b1 b2 =>
 have e:(execOp (Act.eval ⟨tmps,[]⟩) o).run P w = .ok (.value (.int k (if b<a then b else a))) w:=by
  simp[execOp,ho,resolve,invoke,builtin,hu1,hu2,Builtin.min_,Builtin.min2,Result.andThen]
 rw[e];exact⟨M,μ,r,.p (by split;exact .int b1 b2;exact .int a1 a2)⟩
theorem wAW {o:Oper} {x y:Operand} {tys:Array TypeId} (ho:o.op = .call { callee := .builtin .max,args := #[x,y],argTypes:=tys }) {p q:Prop} {k:IntKind} {a b:Int} (h1:st.arg G x=(p,.p (.int k a))) (hp:p) (h2:st.arg G y=(q,.p (.int k b))) (hq:q):Yields P G o st (.p (.int k (if b > a then b else a))) st:=by
 intro c M μ tmps w hg r;have e1:=(qF hg r h1 hp).p_inv;have e2:=(qF hg r h2 hq).p_inv;generalize hu1:Act.eval ⟨tmps,[]⟩ x=u1 at e1;generalize hu2:Act.eval ⟨tmps,[]⟩ y=u2 at e2;cases e1 with
 | int a1 a2 =>
 cases e2 with
 | int b1 b2 =>
 have e:(execOp (Act.eval ⟨tmps,[]⟩) o).run P w = .ok (.value (.int k (if b > a then b else a))) w:=by
  simp[execOp,ho,resolve,invoke,builtin,hu1,hu2,Builtin.max_,Builtin.max2,Result.andThen]
 rw[e];exact⟨M,μ,r,.p (by split;exact .int b1 b2;exact .int a1 a2)⟩
end
end Go.Proofs.YtgcbapchinideaaGreatDoor.Sy
namespace Go.Proofs.YtgcbapchinideaaGreatDoor
open Sy Go
set_option maxRecDepth 100000
structure Dc where
 neg:Bool
 digits:List UInt8
 scale:Int
 deriving DecidableEq
@[simp] def Dc.enc (d:Dc):PD := .agg [.bool d.neg,.str d.digits,.int .i64 d.scale]
inductive Val where
 | mk (kind mask:Int) (num:Dc) (text:List UInt8) (keys:List (List UInt8)) (kids:List Val) (code:Int)
def Val.kind:Val->Int
 | .mk k _ _ _ _ _ _=>k
def Val.mask:Val->Int
 | .mk _ m _ _ _ _ _=>m
def Val.num:Val->Dc
 | .mk _ _ n _ _ _ _=>n
def Val.text:Val->List UInt8
 | .mk _ _ _ t _ _ _=>t
def Val.keys:Val->List (List UInt8)
 | .mk _ _ _ _ ks _ _=>ks
def Val.kids:Val->List Val
 | .mk _ _ _ _ _ vs _=>vs
def Val.code:Val->Int
 | .mk _ _ _ _ _ _ c=>c
@[simp] theorem nT (k m:Int) (n:Dc) (t:List UInt8) (ks:List (List UInt8)) (vs:List Val) (c:Int):(Val.mk k m n t ks vs c).kind=k:=rfl
@[simp] theorem mT (k m:Int) (n:Dc) (t:List UInt8) (ks:List (List UInt8)) (vs:List Val) (c:Int):(Val.mk k m n t ks vs c).mask=m:=rfl
@[simp] theorem oB (k m:Int) (n:Dc) (t:List UInt8) (ks:List (List UInt8)) (vs:List Val) (c:Int):(Val.mk k m n t ks vs c).num=n:=rfl
@[simp] theorem nS (k m:Int) (n:Dc) (t:List UInt8) (ks:List (List UInt8)) (vs:List Val) (c:Int):(Val.mk k m n t ks vs c).text=t:=rfl
@[simp] theorem mU (k m:Int) (n:Dc) (t:List UInt8) (ks:List (List UInt8)) (vs:List Val) (c:Int):(Val.mk k m n t ks vs c).keys=ks:=rfl
@[simp] theorem lN (k m:Int) (n:Dc) (t:List UInt8) (ks:List (List UInt8)) (vs:List Val) (c:Int):(Val.mk k m n t ks vs c).kids=vs:=rfl
@[simp] theorem nU (k m:Int) (n:Dc) (t:List UInt8) (ks:List (List UInt8)) (vs:List Val) (c:Int):(Val.mk k m n t ks vs c).code=c:=rfl
mutual
def Val.enc:Val->PD
 | .mk k m n t ks vs c => .agg [.int .i64 k,.int .u64 m,.bool n.neg,.str n.digits,.int .i64 n.scale,.str t,.sl 1 (ks.map PD.str),.sl 9 (mV vs),.int .i64 c]
def mV:List Val->List PD
 | []=>[]
 | v::vs=>Val.enc v::mV vs
end
def dc0:Dc:=⟨false,[],0⟩
def qPC:Val := .mk 1 0 dc0 [] [] [] 0
theorem nG:∀ l,mV l=l.map Val.enc
 | []=>by simp only[mV,bC]
 | v::vs=>by simp only[mV,bA,nG vs]
@[simp] theorem iK (v:Val):v.enc = .agg [.int .i64 v.kind,.int .u64 v.mask,.bool v.num.neg,.str v.num.digits,.int .i64 v.num.scale,.str v.text,.sl 1 (v.keys.map PD.str),.sl 9 (v.kids.map Val.enc),.int .i64 v.code]:=by
 cases v;simp only[Val.enc,nG,Val.kind,Val.mask,Val.num,Val.text,Val.keys,Val.kids,Val.code]
mutual
def iR:Val->Nat
 | .mk _ _ _ _ _ vs _=>1+iT vs
def iT:List Val->Nat
 | []=>0
 | v::vs=>iR v+iT vs
end
theorem mS {k:Val}:∀ {l:List Val},k∈l->iR k<=iT l
 | v::vs,h=>by
  simp only[iT];rcases bM.1 h with rfl|h
  ·omega
  have:=mS h;omega
theorem mB {v k:Val} (h:k∈v.kids):iR k<iR v:=by
 cases v;simp only[Val.kids]at h;simp only[iR];have:=mS h;omega
theorem iV {p:Val->Prop} (h:∀ v,(∀ k∈v.kids,p k)->p v) (v:Val):p v:=by
 have key:∀ n v,iR v=n->p v:=by
  intro n;induction n using Nat.strongRecOn with
  | _ n ih=>intro v hv;exact h v fun k hk=>ih _ (hv ▸ mB hk) k rfl
 exact key _ v rfl
theorem Val.ext {a b:Val} (h1:a.kind=b.kind) (h2:a.mask=b.mask) (h3:a.num=b.num) (h4:a.text=b.text) (h5:a.keys=b.keys) (h6:a.kids=b.kids) (h7:a.code=b.code):a=b:=by
 cases a;cases b;simp_all[Val.kind,Val.mask,Val.num,Val.text,Val.keys,Val.kids,Val.code]
theorem Dc.ext' {a b:Dc} (h1:a.neg=b.neg) (h2:a.digits=b.digits) (h3:a.scale=b.scale):a=b:=by cases a;cases b;simp_all
set_option maxHeartbeats 4000000
variable {G:qT}
theorem zPW (ks:List (List UInt8)) (hn:ks.length<=1000000):AX Tryz.prog G 140 [.p (.sl 1 (ks.map PD.str))] [] (.ms 905) [] [(905,.row 9 1 (ks.map PD.str))]:=by
 refine AX.introU tok 900 Tryz.func140 (by kernel_rfl) rfl rfl ?_;simp only[Tryz.f140,qG,bA,bC];refine rgn [] [[0]] ?_;refine op3 ?_;refine qA (AW.seq (rgn [] [[]] ?_));refine op3 ?_;refine qJ ?_;refine nX tok [0,4] rfl rfl (by conv=>lhs;simp) trivial rfl ?_;intro bn1 hbn1;refine qB.same (by conv=>lhs;simp) ?_;refine qB.nil ?_;refine cnd ?_ ?_
 ·intro h4;try simp at h4
  have hks:ks=[]:=by
   by_cases h:ks=[]
   ·exact h
   rw[hbn1 (by simpa using h)]at h4;cases h4
  subst hks;refine rgn [] [[]] ?_;refine op3 ?_;refine qA ?_;refine lJ 2 905 9 1 (by simp) (by simp) (by conv=>lhs;simp) ?_;exact AW.ret zC
 intro h4;try simp at h4
 refine AW.skip (rgn [] [[],[],[],[2]] ?_);iterate 4 refine op3 ?_
 refine qA ?_;exact AW.ret zC
theorem zPX (ks:List (List UInt8)) (hn:ks.length<=1000000):AR Tryz.prog G 140 [.sl 1 (ks.map PD.str)] 9 1 (ks.map PD.str):=AR.of_AX (k:=905) (by simpa using zPW ks hn)
theorem zPV (vs:List Val) (hn:vs.length<=1000000):AX Tryz.prog G 38 [.p (.sl 9 (vs.map Val.enc))] [] (.ms 905) [] [(905,.row 31 9 (vs.map Val.enc))]:=by
 refine AX.introU tok 900 Tryz.func38 (by kernel_rfl) rfl rfl ?_;simp only[Tryz.f38,qG,bA,bC];refine rgn [] [[0]] ?_;refine op3 ?_;refine qA (AW.seq (rgn [] [[]] ?_));refine op3 ?_;refine qJ ?_;refine nX tok [0,4] rfl rfl (by conv=>lhs;simp) trivial rfl ?_;intro bn1 hbn1;refine qB.same (by conv=>lhs;simp) ?_;refine qB.nil ?_;refine cnd ?_ ?_
 ·intro h4;try simp at h4
  have hks:vs=[]:=by
   by_cases h:vs=[]
   ·exact h
   rw[hbn1 (by simpa using h)]at h4;cases h4
  subst hks;refine rgn [] [[]] ?_;refine op3 ?_;refine qA ?_;refine lJ 2 905 31 9 (by simp) (by simp) (by conv=>lhs;simp) ?_;exact AW.ret zC
 intro h4;try simp at h4
 refine AW.skip (rgn [] [[],[],[],[2]] ?_);iterate 4 refine op3 ?_
 refine qA ?_;exact AW.ret zC
theorem xT (vs:List Val) (hn:vs.length<=1000000):AR Tryz.prog G 38 [.sl 9 (vs.map Val.enc)] 31 9 (vs.map Val.enc):=AR.of_AX (k:=905) (by simpa using zPV vs hn)
theorem zAG (s:List UInt8) (g:FuncId) (p:Int->Bool) (hg:∀ n:Int,AFn Tryz.prog G g [.int .i32 n] (.bool (p n))):AFn Tryz.prog G 190 [.str s,.fn g,.bool true] (.int .i64 (qDY p s)):=by
 refine AFn.introU tok Tryz.func190 (by kernel_rfl) rfl rfl ?_;simp only[Tryz.f190,qG,bA,bC];refine rgn [] [[0,1,2]] ?_;refine op3 ?_;refine qA (AW.seq (rgn [] [[],[1,2,10]] ?_));iterate 2 refine op3 ?_
 refine qA (AW.block ?_);refine AW.loop (α:=Nat) (fun pos=>qGU p s pos=qDY p s) (fun pos=>⟨qZ 21 [(1,.p (.fn g)),(2,.p (.bool true)),(10,.it 10)],[],[(10,.iter s pos)],0⟩) (fun pos=>s.length-pos) (0) (qXG p s).symm ⟨qE (by simp),rfl,by simp,by simp⟩ ?_;rintro pos hi;have hpos:pos<s.length->1<=(qAW s pos).2:=qMI;by_cases hs2:pos<s.length
 ·
  refine rgn [.bool true] [[],[]] ?_;iterate 2 refine oq1 tok hs2 ?_
  refine qA (AW.seq (cnd ?_ ?_))
  ·intro h12;try simp at h12
   refine AW.skip (AW.block (rgn [] [[],[],[],[1,2,7,8,10]] ?_));iterate 4 refine op3 ?_
   refine qA (rgn [.nilp,.bool (p (qAW s pos).1)] [[],[],[],[],[1,2,7,10,19]] ?_);iterate 5 refine op3 ?_ (hv:=by first|exact True.intro|(exact hg _;done)|omega|simp)
   refine qA (cnd ?_ ?_)
   ·intro h19;try simp at h19
    have hI:qDY p s=pos:=by rw[<-hi,qNU hs2 (by simpa using h19)]
    refine rgn [] [[],[6]] ?_;iterate 2 refine op3 ?_
    refine qA ?_;exact AW.ret (qI (k:=by simp[hI]))
   intro h19;try simp at h19
   have hnx:qGU p s (pos+(qAW s pos).2)=qDY p s:=by rw[<-qTK hs2 (by simpa using h19)];exact hi
   refine AW.skip ?_;exact⟨pos+(qAW s pos).2,hnx,by have:=hpos hs2;omega,qE (by simp),rfl,by simp,by simp⟩
  intro h12;try simp at h12
 ·
  refine rgn [.bool false] [[],[]] ?_;iterate 2 refine oq1 tok hs2 ?_
  refine qA (AW.seq (cnd ?_ ?_))
  ·intro h12;try simp at h12
  intro h12;try simp at h12
  refine AW.exit ?_;simp;refine rgn [] [[]] ?_;refine op3 ?_;refine qA ?_;exact AW.ret (qI (k:=by simp[<-hi,qXJ hs2]))
theorem zBF (s:List UInt8) (g:FuncId) (p:Int->Bool) (hg:∀ n:Int,AFn Tryz.prog G g [.int .i32 n] (.bool (p n))):AFn Tryz.prog G 145 [.str s,.fn g] (.int .i64 (qDY p s)):=by
 refine AFn.introU tok Tryz.func145 (by kernel_rfl) rfl rfl ?_;simp only[Tryz.f145,qG,bA,bC];refine rgn [] [[0,1]] ?_;refine op3 ?_;refine qA (rgn [.nilp,.int .i64 (qDY p s)] [[],[],[7],[4]] ?_);iterate 4 refine op3 ?_ (hv:=by first|exact True.intro|(exact zAG s g p hg;done)|omega|simp)
 exact qA (AW.ret qI)
def xZ (n:Int):Bool:=decide (48<=n) && decide (n<=57)
def qO (b:UInt8):Bool:=xZ b.toNat
def qFM (D:List UInt8):Nat:=D.foldl (fun n c=>n * 10+(c.toNat-48)) 0
theorem zEZ (n:Int):AFn Tryz.prog G 57 [.int .u8 n] (.bool (xZ n)):=by
 refine AFn.introU tok Tryz.func57 (by kernel_rfl) rfl rfl ?_;simp only[Tryz.f57,qG,bA,bC];refine rgn [] [[0]] ?_;refine op3 ?_;refine qA (rgn [] [[],[],[],[],[5,7],[],[2]] ?_);iterate 3 refine op3 ?_
 iterate 2 refine op4 ?_
 iterate 2 refine op3 ?_
 refine qA ?_;exact AW.ret (qI (k:=by simp[xZ]))
def qS (s:List UInt8) (i:Nat):Int:=((s.getD i 0).toNat:Int)
theorem xM {s:List UInt8} {i:Nat} (h:i<s.length):s[i]?=some (s.getD i 0):=by simp[bJ,h]
def zT (s:List UInt8) (k:Nat):Nat:=((s.drop k).takeWhile fun b=>xZ b.toNat).length
theorem qLF {p:UInt8->Bool}:∀ {l:List UInt8} {n:Nat},n<=(l.takeWhile p).length->((n<(l.takeWhile p).length)↔∃ b,l[n]?=some b/\p b=true)
 | [],n,h=>by simp at h;subst h;simp
 | a::l,n,h=>by
  rw[fJ]at h ⊢;by_cases ha:p a=true
  ·rw[bE ha]at h ⊢;cases n with
   | zero=>simp[ha]
   | succ n=>simpa using qLF (l:=l) (n:=n) (by simpa using h)
  rw[bD ha]at h ⊢;simp at h;subst h;simp[ha]
theorem qZC {s:List UInt8} {k n:Nat} (h:n<=zT s k):n<zT s k↔(k+n<s.length/\xZ (qS s (k+n))=true):=by
 unfold zT at h ⊢;rw[qLF h];constructor
 ·rintro⟨b,hb,hd⟩;rw[bZ]at hb;have:=(bB.1 hb).1;refine⟨this, ?_⟩;rw[qS,bJ,hb];exact hd
 rintro⟨h1,h2⟩;exact⟨s.getD (k+n) 0,by rw[bZ];exact xM h1,h2⟩
theorem qZD (s:List UInt8) (k:Nat):zT s k<=s.length:=by
 unfold zT;have:=(List.takeWhile_sublist (l:=s.drop k) fun b:UInt8=>xZ b.toNat).length_le;simp at this;omega
theorem wBN (s:List UInt8) (k:Nat) (hs:s.length<=1000000) (hk:k<=1000000):AFn Tryz.prog G 62 [.str s,.int .i64 k] (.int .i64 (zT s k)):=by
 refine AFn.introU tok Tryz.func62 (by kernel_rfl) rfl rfl ?_;simp only[Tryz.f62,qG,bA,bC];refine rgn [] [[0,1]] ?_;refine op3 ?_;refine qA (rgn [] [[]] ?_);refine op3 ?_;refine qA (AW.seq (AW.block ?_));refine AW.loop (α:=Nat) (fun n=>n<=zT s k) (fun n=>⟨qZ 23 [(0,.p (.str s)),(1,.p (.int .i64 k)),(5,.p (.int .i64 n))],[],[],0⟩) (fun n=>zT s k-n) (0) (by omega) ⟨qE (by simp),rfl,by simp,by simp⟩ ?_;rintro n hn;have hrl:=qZD s k;have hlt:=qZC hn;have hd:=zEZ (G:=G) (qS s (k+n));have hix:k+n<s.length->s[((k:Int)+n).toNat]?=some (s.getD (k+n) 0):=fun h=>by rw[show((k:Int)+n).toNat=k+n by omega];exact xM h
 refine AW.seq (rgn [.int .u8 (qS s (k+n)),.nilp,.bool (xZ (qS s (k+n)))] [[],[],[],[],[],[0,1,5,11],[],[],[],[],[],[0,1,5,12,17],[],[0,1,5,19]] ?_);iterate 7 refine op3 ?_ (hv:=by first|exact True.intro|exact fun h=>⟨h,by omega,_,hix (by omega),rfl⟩|simp[hd];done|omega|simp)
 iterate 6 refine op4 ?_ (hv:=by first|exact True.intro|exact fun h=>⟨h,by omega,_,hix (by omega),rfl⟩|simp[hd];done|omega|simp)
 refine op3 ?_ (hv:=by first|exact True.intro|exact fun h=>⟨h,by omega,_,hix (by omega),rfl⟩|simp[hd];done|omega|simp);refine qA (cnd ?_ ?_)
 ·intro h19;try simp at h19
  have hlt':=hlt.2 ⟨by omega,h19.2⟩;refine AW.skip (AW.block (rgz [] [[],[],[0,1,5]] ?_));iterate 3 refine op3 ?_
  refine qA ?_;exact⟨n+1,by omega,by omega,qE (by simp),rfl,by simp,by simp⟩
 intro h19;try simp at h19
 have hge:n=zT s k:=by
  refine Nat.le_antisymm hn (Nat.not_lt.1 fun h => ?_);have:=hlt.1 h;have:=h19 (by omega);simp_all
 subst hge;refine AW.exit ?_;simp;refine rgn [] [[],[4]] ?_;iterate 2 refine op3 ?_
 exact qA (AW.ret qI)
def wB (n:Nat):List UInt8:=List.replicate n 48
theorem zQW (n:Int) (hn:n<=1000000):AFn Tryz.prog G 63 [.int .i64 n] (.str (wB n.toNat)):=by
 refine AFn.introU tok Tryz.func63 (by kernel_rfl) rfl rfl ?_;simp only[Tryz.f63,qG,bA,bC];refine rgn [] [[0]] ?_;refine op3 ?_;refine qA (rgn [] [[]] ?_);refine op3 ?_;refine qA (AW.seq (rgn [] [[]] ?_));refine op3 ?_;refine qA (AW.block ?_);refine AW.loop (α:=Nat) (fun k=>k<=n.toNat) (fun k=>⟨qZ 13 [(0,.p (.int .i64 n)),(3,.p (.str (wB k))),(4,.p (.int .i64 k))],[],[],0⟩) (fun k=>n.toNat-k) (0) (by omega) ⟨qE (by simp[wB]),rfl,by simp,by simp⟩ ?_;rintro k hk;refine AW.seq (rgn [] [[],[],[0,3,4,7]] ?_);iterate 3 refine op3 ?_
 refine qA (cnd ?_ ?_)
 ·intro h7;try simp at h7
  refine AW.skip (AW.seq (AW.block (rgz [] [[],[],[0,3,4]] ?_)));iterate 3 refine op3 ?_ (hv:=by first|exact True.intro|(simp[wB];omega;done)|omega|simp)
  refine qA (rgz [] [[],[],[0,3,4]] ?_);iterate 3 refine op3 ?_
  refine qA ?_;exact⟨k+1,by omega,by omega,qE (by simp[wB,eD]),rfl,by simp[wB,eD],by simp[wB,eD]⟩
 intro h7;try simp at h7
 have hkn:k=n.toNat:=by omega
 subst hkn;refine AW.exit ?_;simp;refine rgn [] [[],[2]] ?_;iterate 2 refine op3 ?_
 exact qA (AW.ret qI)
def zA (s:List UInt8):List UInt8:=s.dropWhile (· == 48)
def wN (d:List UInt8):Nat->List UInt8 × Nat
 | 0=>(d,0)
 | k+1=>if d.getLast?=some 48 then wN d.dropLast k else(d,k+1)
def yA (neg:Bool) (digits:List UInt8) (scale:Nat):Dc × Int :=
 let x:=wN (zA digits) scale
 if x.1=[] then(⟨false,[48],0⟩,0) else if 60<x.1.length\/60<x.2 then(⟨false,[],0⟩,3) else(⟨neg,x.1,x.2⟩,0)
theorem qDQ {d:List UInt8} (h:0<d.length):qS d (d.length-1)=48↔d.getLast?=some 48:=by
 rw[List.getLast?_eq_getElem?,qS,bJ,xM (by omega)];simp only[dM,Option.some.injEq];constructor
 ·intro h2;exact dU.1 (by have:((d.getD (d.length-1) 0).toNat:Int)=48:=h2;show(d.getD (d.length-1) 0).toNat=48;omega)
 intro h2;rw[h2];rfl
theorem qBS (d:List UInt8):d.take (d.length-1)=d.dropLast:=(List.dropLast_eq_take).symm
theorem zMQ (neg:Bool) (digits:List UInt8) (scale:Nat) (hd:digits.length<=1000000) (hs:scale<=1000000):AFn Tryz.prog G 59 [.bool neg,.str digits,.int .i64 scale] (.tup [(yA neg digits scale).1.enc,.int .i64 (yA neg digits scale).2]):=by
 refine AFn.introU tok Tryz.func59 (by kernel_rfl) rfl rfl ?_;simp only[Tryz.f59,qG,bA,bC];refine rgn [] [[],[0,1,2,6]] ?_;iterate 2 refine op3 ?_
 refine qA (AW.seq (AW.block ?_));refine AW.loop (α:=List UInt8) (fun r=>zA r=zA digits/\r.length<=digits.length) (fun r=>⟨qZ 55 [(0,.p (.bool neg)),(1,.p (.str r)),(2,.p (.int .i64 scale)),(6,.ptr 6 0)],[],[(6,.vars 26 [.p (.bool false),.p (.str []),.p (.int .i64 0)])],0⟩) (fun r=>r.length) (digits) ⟨rfl,bP _⟩ ⟨qE (by simp),rfl,by simp,by simp⟩ ?_;rintro r ⟨hr,hrl⟩;have hix:0<r.length->r[0]?=some (r.getD 0 0):=fun h=>xM h;refine AW.seq (rgn [.int .u8 (qS r 0)] [[],[],[],[],[],[0,1,2,6,11,13],[],[0,1,2,6,15]] ?_);iterate 4 refine op3 ?_ (hv:=by first|exact True.intro|exact fun h=>⟨h,_,hix (by omega),rfl⟩|simp;done|omega|simp)
 iterate 3 refine op4 ?_ (hv:=by first|exact True.intro|exact fun h=>⟨h,_,hix (by omega),rfl⟩|simp;done|omega|simp)
 refine op3 ?_ (hv:=by first|exact True.intro|exact fun h=>⟨h,_,hix (by omega),rfl⟩|simp;done|omega|simp);refine qA (cnd ?_ ?_)
 ·intro h15;try simp at h15
  obtain⟨b,r,rfl⟩:∃ b r',r=b::r':=by
   cases r with
   | nil=>simp at h15
   | cons b r=>exact⟨b,r,rfl⟩
  have hb:b=48:=dU.1 (by have h9:(b.toNat:Int)=48:=h15.2;show b.toNat=48;omega);have hr':zA r=zA digits:=by rw[<-hr];simp[zA,hb]
  simp at hrl;refine AW.skip (AW.block (rgz [] [[],[],[0,1,2,6]] ?_));iterate 3 refine op3 ?_
  refine qA ?_;exact⟨r,⟨hr',by omega⟩,by simp,qE (by simp),rfl,by simp,by simp⟩
 intro h15;try simp at h15
 have hr':zA digits=r:=by
  rw[<-hr];cases r with
  | nil=>rfl
  | cons b r =>
   have hb:b≠48:=by rintro rfl;simp[qS]at h15
   simp[zA,hb]
 have hN:yA neg digits scale=(if(wN r scale).1=[] then(⟨false,[48],0⟩,0) else if 60<(wN r scale).1.length\/60<(wN r scale).2 then(⟨false,[],0⟩,3) else(⟨neg,(wN r scale).1,(wN r scale).2⟩,0)):=by simp only[yA,hr']
 rw[hN];clear hN hix h15 hr hr'
 refine AW.exit ?_;simp;refine AW.seq (AW.block ?_);refine AW.loop (α:=List UInt8 × Nat) (fun a=>wN r scale=wN a.1 a.2/\a.2<=scale/\a.1.length<=digits.length) (fun a=>⟨qZ 55 [(0,.p (.bool neg)),(1,.p (.str a.1)),(2,.p (.int .i64 a.2)),(6,.ptr 6 0)],[],[(6,.vars 26 [.p (.bool false),.p (.str []),.p (.int .i64 0)])],0⟩) (fun a=>a.2) ((r,scale)) ⟨rfl,bP _,hrl⟩ ⟨qE (by simp),rfl,by simp,by simp⟩ ?_;rintro⟨d,k⟩ ⟨ht,hk,hdl⟩;simp only at ht hk hdl;have hix:0<d.length->d[d.length-1]?=some (d.getD (d.length-1) 0):=fun h=>xM (by omega);refine AW.seq (rgn [.int .u8 (qS d (d.length-1))] [[],[],[],[],[],[0,1,2,6,20,23],[],[],[],[],[0,1,2,6,25,26,28],[],[],[0,1,2,6,25,31],[0,1,2,6,32]] ?_);iterate 15 first|refine op3 ?_ (hv:=by first|exact True.intro|exact fun h1 h2=>⟨⟨h1,h2⟩,by omega,by omega⟩|exact fun h1 h2=>⟨⟨h1,h2⟩,by omega,_,hix h2,rfl⟩|simp;done|omega|simp)|refine op4 ?_ (hv:=by first|exact True.intro|(first|exact fun h1 h2=>⟨⟨h1,h2⟩,by omega,by omega⟩|exact fun h1 h2=>⟨⟨h1,h2⟩,by omega,_,hix h2,rfl⟩|simp;done)|omega|simp)
 refine qA (cnd ?_ ?_)
 ·intro h32;try simp at h32
  obtain⟨k,rfl⟩:∃ k',k=k'+1:=⟨k-1,by omega⟩;have hl:=(qDQ h32.1.2).1 h32.2;have ht':wN r scale=wN d.dropLast k:=by rw[ht];simp only[wN];rw[bE hl]
  refine AW.skip (AW.block (rgn [] [[],[],[],[],[0,2,6,37],[0,1,2,6]] ?_));iterate 6 refine op3 ?_
  refine qA (rgz [] [[],[],[0,1,2,6]] ?_);iterate 3 refine op3 ?_
  refine qA ?_;exact⟨(d.dropLast,k),⟨ht',by simp only[];omega,by simp;omega⟩,by simp,qE (by simp[qBS]),rfl,by simp[qBS],by simp[qBS]⟩
 intro h32;try simp at h32
 have htl:wN d k=(d,k):=by
  cases k with
  | zero=>rfl
  | succ k =>
   simp only[wN];rw[bD];intro hl;have hpos:0<d.length:=by cases d with
    | nil=>simp at hl
    | cons=>simp
   have:=(qDQ hpos).2 hl;simp[hpos,this]at h32
 rw[ht,htl];refine AW.exit ?_;simp;refine AW.seq (rgn [] [[],[0,1,2,6,41]] ?_);iterate 2 refine op3 ?_
 refine qA (cnd ?_ ?_)
 ·intro h41;try simp at h41
  subst h41;refine rgn [] [[],[],[6,7]] ?_;iterate 3 refine op3 ?_
  exact qA (AW.ret qI)
 intro h41;try simp at h41
 refine AW.skip (AW.seq (rgn [] [[],[],[],[],[],[0,1,2,6,46,48],[0,1,2,6,49]] ?_));iterate 4 refine op3 ?_
 iterate 2 refine op4 ?_
 refine op3 ?_;refine qA (cnd ?_ ?_)
 ·intro h49;try simp at h49
  have hbig:60<d.length\/60<k:=by omega
  refine rgn [] [[],[],[6,7]] ?_;iterate 3 refine op3 ?_
  refine qA ?_;exact AW.ret (qI (k:=by simp[h41,hbig]))
 intro h49;try simp at h49
 have hbig:¬ (60<d.length\/60<k):=by omega
 refine AW.skip (rgn [] [[],[],[],[6,54],[],[6,7]] ?_);iterate 6 refine op3 ?_
 refine qA ?_;exact AW.ret (qI (k:=by simp[h41,hbig]))
def qDV (n:Int):Bool:=decide (n<48) || decide (57<n)
theorem zSO (n:Int):AFn Tryz.prog G 146 [.int .i32 n] (.bool (qDV n)):=by
 refine AFn.introU tok Tryz.func146 (by kernel_rfl) rfl rfl ?_;simp only[Tryz.f146,qG,bA,bC];refine rgn [] [[0]] ?_;refine op3 ?_;refine qA (rgn [] [[],[],[],[],[5,7],[],[2]] ?_);iterate 3 refine op3 ?_
 iterate 2 refine op4 ?_
 iterate 2 refine op3 ?_
 refine qA ?_;exact AW.ret (qI (k:=by simp[qDV]))
theorem zOJ (b:UInt8):qDV b.toNat = !qO b:=by
 rw[eM];simp[qDV,qO,xZ]
def zJ (d:Dc):Bool:=d.digits.all qO && decide (1<=d.digits.length/\d.digits.length<=60/\0<=d.scale/\d.scale<=60) &&
 (if d.digits=[48] then decide (d.scale=0) && !d.neg else decide (qS d.digits 0≠48) && (decide (d.scale=0) || decide (qS d.digits (d.digits.length-1)≠48)))
theorem zFG {d:Dc} (h:d.digits.length=0\/60<d.digits.length\/d.scale<0\/60<d.scale\/d.digits.all qO=false):zJ d=false:=by
 unfold zJ;rcases h with h|h|h|h|h
 ·rw[show decide (1<=d.digits.length/\d.digits.length<=60/\0<=d.scale/\d.scale<=60)=false by simp;omega];simp
 ·rw[show decide (1<=d.digits.length/\d.digits.length<=60/\0<=d.scale/\d.scale<=60)=false by simp;omega];simp
 ·rw[show decide (1<=d.digits.length/\d.digits.length<=60/\0<=d.scale/\d.scale<=60)=false by simp;omega];simp
 ·rw[show decide (1<=d.digits.length/\d.digits.length<=60/\0<=d.scale/\d.scale<=60)=false by simp;omega];simp
 simp[h]
theorem qXS {d:Dc} (h:1<=d.digits.length/\d.digits.length<=60/\0<=d.scale/\d.scale<=60) (ha:d.digits.all qO=true) :
  zJ d=(if d.digits=[48] then decide (d.scale=0) && !d.neg else decide (qS d.digits 0≠48) && (decide (d.scale=0) || decide (qS d.digits (d.digits.length-1)≠48))):=by
 unfold zJ;rw[ha,show decide (1<=d.digits.length/\d.digits.length<=60/\0<=d.scale/\d.scale<=60)=true by simpa using h];simp
theorem zDA (d:Dc):AFn Tryz.prog G 23 [d.enc] (.bool (zJ d)):=by
 refine AFn.introU tok Tryz.func23 (by kernel_rfl) rfl rfl ?_;simp only[Tryz.f23,qG,bA,bC];have hdg:=fun k=>zEZ (G:=G) (qS d.digits k);have hix:∀ k:Nat,k<d.digits.length->d.digits[k]?=some (d.digits.getD k 0):=fun k h=>xM h;refine rgn [] [[],[1]] ?_;iterate 2 refine op3 ?_
 refine qA (rgn [] [[],[],[],[1,3]] ?_);iterate 4 refine op3 ?_
 refine qA (AW.seq (rgn [] [[]] ?_));refine op3 ?_;refine qA (AW.block ?_);refine lG (i:=3) rfl (by decide) ?_;intro hlen;simp at hlen;refine AW.loop (α:=Nat) (fun k=>k<=d.digits.length/\(d.digits.take k).all qO=true) (fun k=>⟨qZ 63 [(1,.ptr 1 0),(3,.p (.int .i64 d.digits.length)),(4,.p (.int .i64 k))],[],[(1,.vars 26 [.p (.bool d.neg),.p (.str d.digits),.p (.int .i64 d.scale)])],0⟩) (fun k=>d.digits.length-k) (0) ⟨by omega,rfl⟩ ⟨qE (by simp),rfl,by simp,by simp⟩ ?_;rintro k ⟨hk,hall⟩;refine AW.seq (rgn [] [[],[],[1,3,4,10]] ?_);iterate 3 refine op3 ?_
 refine qA (cnd ?_ ?_)
 ·intro h10;try simp at h10
  refine AW.skip (AW.seq (AW.block (rgn [.int .u8 (qS d.digits k),.nilp,.bool (xZ (qS d.digits k))] [[],[],[],[],[1,3,4,17],[1,3,4,18]] ?_)));iterate 6 refine op3 ?_ (hv:=by first|exact True.intro|exact hdg k|((repeat' (first|with_reducible apply And.intro|intro _)) <;> first|omega|assumption|contradiction|exact⟨_,hix _ (by omega),rfl⟩|simp_all);done|omega|simp)
  refine qA (cnd ?_ ?_)
  ·intro h18;try simp at h18
   have hno:zJ d=false:=zFG (.inr (.inr (.inr (.inr (by rw[List.all_eq_false];exact⟨_,bH (hix k h10),by simpa[qO,qS]using h18⟩)))));refine rgn [] [[]] ?_;refine op3 ?_;refine qA ?_;exact AW.ret (qI (k:=by simp[hno]))
  intro h18;try simp at h18
  refine AW.skip (rgz [] [[],[],[1,3,4]] ?_);iterate 3 refine op3 ?_
  refine qA ?_;exact⟨k+1,⟨by omega,by rw[bX,hix k h10,dJ,hall];simpa[qO,qS]using h18⟩,by omega,qE (by simp),rfl,by simp,by simp⟩
 intro h10;try simp at h10
 rw[bK (by omega)]at hall;refine AW.exit ?_;simp;refine AW.seq (rgn [] [[],[],[],[],[],[1,3,24],[],[],[],[],[1,3,29],[],[],[],[],[1,3,34]] ?_);iterate 16 first|refine op3 ?_|refine op4 ?_
 refine qA (cnd ?_ ?_)
 ·intro h34;try simp at h34
  have hno:zJ d=false:=zFG (by omega);refine rgn [] [[]] ?_;refine op3 ?_;refine qA ?_;exact AW.ret (qI (k:=by simp[hno]))
 intro h34;try simp at h34
 rw[qXS (by omega) hall];refine AW.skip (AW.seq (rgn [] [[],[],[1,3,37]] ?_));iterate 3 refine op3 ?_
 refine qA (cnd ?_ ?_)
 ·intro h37;try simp at h37
  refine rgn [] [[],[],[],[],[41,42],[],[],[45],[2]] ?_;iterate 4 refine op3 ?_
  iterate 3 refine op4 ?_
  iterate 2 refine op3 ?_
  refine qA ?_;exact AW.ret (qI (k:=by simp[h37]))
 intro h37;try simp at h37
 refine AW.skip (rgn [.int .u8 (qS d.digits 0),.int .u8 (qS d.digits (d.digits.length-1))] [[],[],[],[],[1,3,50],[],[],[],[],[3,50,54,55],[],[],[],[50,54,59],[],[],[62],[2]] ?_);iterate 5 refine op3 ?_ (hv:=by first|exact True.intro|(((repeat' (first|with_reducible apply And.intro|intro _)) <;> first|omega|assumption|contradiction|exact⟨_,hix _ (by omega),rfl⟩|simp_all);done)|omega|simp)
 iterate 11 refine op4 ?_ (hv:=by first|exact True.intro|(((repeat' (first|with_reducible apply And.intro|intro _)) <;> first|omega|assumption|contradiction|exact⟨_,hix _ (by omega),rfl⟩|simp_all);done)|omega|simp)
 iterate 2 refine op3 ?_ (hv:=by first|exact True.intro|(((repeat' (first|with_reducible apply And.intro|intro _)) <;> first|omega|assumption|contradiction|exact⟨_,hix _ (by omega),rfl⟩|simp_all);done)|omega|simp)
 refine qA ?_;exact AW.ret (qI (k:=by simp[h37]))
namespace Sy
variable {P:Program} {G:qT}
theorem lY {f:FuncId} {args:List PD} {r:PD} (hc:qDC P f) (h:∀ (M:qY) (w:World) (vs:Array Value),GOK G M w->(∀ b o v,M b o=some v->w.cell? ⟨b,o,none⟩=some v)->vs.size=args.length ->
  (∀ (i:Nat) u d,vs[i]?=some u->args[i]?=some d->Rd M u d)->Calls P f vs w fun e w'=>∃ v,e = .returned v/\Rd M v r/\RowKit.Below w.heap.size w w'):AFn P G f args r:=by
 refine⟨hc,fun M w vs hg hmem hsz hrd=>(h M w vs hg hmem hsz hrd).mono ?_⟩;rintro e w' ⟨v,rfl,hv,hb⟩;refine⟨v,M,rfl,hv,fun b o u hu => ?_,fun _ _ _ h=>h,fun _ _ _=>rfl,hb⟩;have h1:=hmem b o u hu;exact(World.cell?_of_block (w:=w) (hb.block b (kE h1))).trans h1
theorem kO {f : FuncId} {fn : Func} {c : Code} (hf : P.funcs[f]? = some fn) (hn : (fn.name == "runtime.NumGoroutine") = false) (hb : fn.body = some c) : qDC P f := ⟨fn, c, hf, hn, hb⟩
theorem zMN {M:qY} {vs:Array Value} {s:List UInt8} (hsz:vs.size=1) (h:∀ (i:Nat) u d,vs[i]?=some u->[PD.str s][i]?=some d->Rd M u d):∃ b:ByteArray,vs = #[.string b]/\b.data.toList=s/\b.size<=maxLen:=by
 obtain⟨l⟩:=vs;match l,hsz with
 | [u],_ =>
  have:=h 0 u (.str s) rfl rfl;cases this with
  | @str b _ hs hm=>exact⟨b,rfl,hs,by rw[vB hs];exact hm⟩
def qNX:List PD:=(List.range 256).map fun c => .int .u8 (Lib.firstT c)
def zJT:List PD:=(List.range 32).map fun i => .int .u8 (if i % 2=0 then Lib.accLo (i / 2) else Lib.accHi (i / 2))
def zGJ (g3 g4:Nat) (G:qT):Prop:=G g3=some qNX/\G g4=some zJT
theorem zWV {g3 g4:Nat} {M:qY} {w:World} (hG:zGJ g3 g4 G) (hg:GOK G M w) (hmem:∀ b o v,M b o=some v->w.cell? ⟨b,o,none⟩=some v):Lib.Utf8Tabs g3 g4 w:=by
 have key:∀ (g:Nat) (cs:List PD) (j:Nat) (n:Int),G g=some cs->cs[j]?=some (.int .u8 n)->w.cell? ⟨g,j,none⟩=some (.int .u8 n):=by
  intro g cs j n h1 h2;obtain⟨h3,h4⟩:=hg.1 g cs h1;obtain⟨u,hu,_⟩:=h3 j _ h2;have:=h4 j _ u h2 hu;cases this;exact hmem _ _ _ hu
 refine⟨fun c hc=>key _ _ _ _ hG.1 (by simp[qNX,hc]),fun i hi=>⟨key _ _ _ _ hG.2 ?_,key _ _ _ _ hG.2 ?_⟩⟩
 ·simp[zJT,show 2 * i<32 by omega]
 simp only[zJT,bG,iD (show 2 * i+1<32 by omega),eV];rw[bD (by omega),show(2 * i+1) / 2=i by omega]
def u8G (g3 g4:Nat):qT:=fun g=>if g=g3 then some qNX else if g=g4 then some zJT else none
theorem zWW {g3 g4:Nat} (h:g4≠g3):zGJ g3 g4 (u8G g3 g4):=⟨by simp[u8G],by simp[u8G,h]⟩
theorem wBH {g3 g4:Nat} {W:World} (h:Lib.Utf8Tabs g3 g4 W) (hne:g4≠g3):GOK (u8G g3 g4) (qBB W) W:=by
 have one:∀ (g j:Nat) (cs:List PD),(∀ (j:Nat) d,cs[j]?=some d->∃ n:Int,d = .int .u8 n/\0<=n/\n<=255/\W.cell? ⟨g,j,none⟩=some (.int .u8 n)) ->
   (∀ (j:Nat) d,cs[j]?=some d->∃ u,qBB W g j=some u/\u.oneCell'=true)/\(∀ (j:Nat) d u,cs[j]?=some d->qBB W g j=some u->Rd (qBB W) u d):=by
  intro g _ cs hc;refine⟨fun j d hd => ?_,fun j d u hd hu => ?_⟩
  ·obtain⟨n,rfl,_,_,h⟩:=hc j d hd;exact⟨_,h,rfl⟩
  obtain⟨n,rfl,h0,h1,h⟩:=hc j d hd;have:some u=some (Value.int .u8 n):=hu.symm.trans h;cases this;exact .int (by rw[xC];exact h0) (by rw[jI];exact h1)
 have hft:∀ c,(0:Int)<=Lib.firstT c/\(Lib.firstT c:Int)<=255:=fun c=>by
  rcases Lib.firstT_cases c with h|h|h|h|h|h|h|h|h <;> rw[h] <;> omega
 have hno:GX (u8G g3 g4) W:=fun g cs hg ht=>by
  simp only[u8G]at hg;split at hg
  ·cases hg;exact absurd ht (by rw[show zLM qNX=false from rfl];simp)
  split at hg
  ·cases hg;exact absurd ht (by rw[show zLM zJT=false from rfl];simp)
  cases hg
 refine⟨?_,hno⟩;intro g cs hg;simp only[u8G]at hg;split at hg
 ·rename_i e;subst e;cases hg;refine one g 0 _ fun j d hd => ?_;have hj:j<256:=by have:=(bB.1 hd).1;simpa[qNX]using this
  simp[qNX,hj]at hd;exact⟨_,hd.symm,(hft j).1,(hft j).2,h.1 j hj⟩
 split at hg
 ·rename_i _ e;subst e;cases hg;refine one g 0 _ fun j d hd => ?_;have hj:j<32:=by have:=(bB.1 hd).1;simpa[zJT]using this
  simp only[zJT,bG,iD hj,eV,Option.some.injEq]at hd;have hb:=h.2 (j / 2) (by omega);have hacc:∀ i,i<16->(0:Int)<=Lib.accLo i/\(Lib.accLo i:Int)<=255/\(0:Int)<=Lib.accHi i/\(Lib.accHi i:Int)<=255:=by decide
  have hac:=hacc (j / 2) (by omega);by_cases h2:j % 2=0
  ·rw[bE h2]at hd;exact⟨_,hd.symm,hac.1,hac.2.1,by have:=hb.1;rwa [show 2 * (j / 2)=j by omega]at this⟩
  rw[bD h2]at hd;exact⟨_,hd.symm,hac.2.2.1,hac.2.2.2,by have:=hb.2;rwa [show 2 * (j / 2)+1=j by omega]at this⟩
 cases hg
end Sy
abbrev U8 (G:qT):Prop:=zGJ 1 2 G
@[simp] def Val.cells (v:Val):List V:=[.p (.int .i64 v.kind),.p (.int .u64 v.mask),.p (.bool v.num.neg),.p (.str v.num.digits),.p (.int .i64 v.num.scale),.p (.str v.text),.p (.sl 1 (v.keys.map PD.str)),.p (.sl 9 (v.kids.map Val.enc)),.p (.int .i64 v.code)]
def kJ (s:List UInt8):Bool:=decide ((s.length:Int)<=4096) && Lib.validD s
def xU (l:List (List UInt8)):Bool:=l.all kJ && decide l.Nodup
theorem qXB {l:List (List UInt8)} {k:Nat} {s:List UInt8} (h:l[k]?=some s) (hb:kJ s=false\/s∈l.take k):xU l=false:=by
 unfold xU;rcases hb with hb|hb
 ·rw[List.all_eq_false.2 ⟨s,bH h,by simp[hb]⟩];rfl
 have:¬ l.Nodup:=fun hn=>by
  obtain⟨j,hj,hjs⟩:=cP.1 hb;have hk:=(bB.1 h);rw[List.getElem_take]at hjs;have hjk:j<k:=by simp at hj;omega
  exact(List.pairwise_iff_getElem.1 hn) j k (by simp at hj;omega) hk.1 hjk (by rw[hjs,hk.2])
 simp[this]
theorem zIE {l:List (List UInt8)} {k:Nat} {s:List UInt8} (h:l[k]?=some s) (h1:xU (l.take k)=true) (h2:kJ s=true) (h3:s ∉ l.take k):xU (l.take (k+1))=true:=by
 unfold xU at h1 ⊢;rw[bX,h];simp only[bI,bY]at h1 ⊢;refine⟨by rw[dJ,h1.1];simp[h2], ?_⟩;rw[gS];exact⟨h1.2,by simp,by intro a ha b hb;simp at hb;subst hb;rintro rfl;exact h3 ha⟩
def qBI (v:Val):Bool:=if v.kind=4 then zJ v.num else decide (v.num.neg=false/\v.num.digits=[]/\v.num.scale=0)
def jY (v:Val):Bool:=if v.kind=5 then kJ v.text else decide (v.text=[])
def yU (v:Val):Bool:=if v.kind=7 then decide ((v.keys.length:Int)=v.kids.length) && xU v.keys else decide (v.keys=[])
def uS (v:Val):Bool:=decide (v.kids=[]) || decide (v.kind=6) || decide (v.kind=7)
def qBF (v:Val):Bool:=decide (decide (v.kind=8) = !decide (v.code=0))
def yT (v:Val):Bool:=qBF v && qBI v && jY v && yU v && uS v
def yD (v:Val):Bool:=decide (1<=v.kind/\v.kind<=8/\v.kids.length<=200)
mutual
def qU:Val->Bool
 | .mk k m n t ks vs c=>yD (.mk k m n t ks vs c) && yT (.mk k m n t ks vs c) && zEA vs
def zEA:List Val->Bool
 | []=>true
 | v::vs=>qU v && zEA vs
end
theorem qWP:∀ l,zEA l=l.all qU
 | []=>by simp[zEA]
 | v::vs=>by simp[zEA,qWP vs]
theorem yB (v:Val):qU v=(yD v && yT v && v.kids.all qU):=by
 cases v;simp only[qU,qWP,Val.kids]
theorem wCE {α:Type} {l:List α}:((l.length:Int)=0)=(l=[]):=by rw[<-eR];exact propext (by omega)
def qMA (v:Val) (s:List UInt8):Val:=v.kids.getD (v.keys.idxOf s) qPC
theorem qXA {v:Val} (hl:v.keys.length<=v.kids.length) {s:List UInt8} (h:s∈v.keys):v.kids[v.keys.idxOf s]?=some (qMA v s):=by
 have:=List.idxOf_lt_length_of_mem h;simp[qMA,bJ,show v.keys.idxOf s<v.kids.length by omega]
theorem yZ {v k:Val} (h:qU v=true) (hk:k∈v.kids):qU k=true:=by
 rw[yB]at h;simp only[bI,bR]at h;exact h.2 k hk
theorem qFU {v:Val} (h:qU v=true) (h7:v.kind=7):v.keys.length=v.kids.length/\v.keys.length<=200/\v.keys.Nodup:=by
 rw[yB]at h;simp only[bI,yD,yT,yU,bY]at h;obtain⟨⟨h1,⟨⟨_,h2⟩,_⟩⟩,_⟩:=h;rw[bE h7]at h2;simp[xU]at h2;exact⟨by omega,by omega,h2.2.2⟩
theorem xP {v:Val} (h:qU v=true) (h4:v.kind=4):zJ v.num=true:=by
 rw[yB]at h;simp only[bI,yT,qBI]at h;obtain⟨⟨h1,⟨⟨⟨⟨_,h2⟩,_⟩,_⟩,_⟩⟩,_⟩:=h;rw[bE h4]at h2;exact h2
mutual
def qDX (ch:Val->Val):Val->Val
 | .mk k m n t ks vs c=>ch (.mk k m n t ks (zEC ch vs) c)
def zEC (ch:Val->Val):List Val->List Val
 | []=>[]
 | v::vs=>qDX ch v::zEC ch vs
end
theorem qWR (ch:Val->Val):∀ l,zEC ch l=l.map (qDX ch)
 | []=>by simp[zEC]
 | v::vs=>by simp[zEC,qWR ch vs]
theorem qQL (ch:Val->Val) (v:Val):qDX ch v=ch (.mk v.kind v.mask v.num v.text v.keys (v.kids.map (qDX ch)) v.code):=by
 cases v;simp only[qDX,qWR,nT,mT,oB,nS,mU,lN,nU]
theorem qCA {v:Val} (h:qU v=true):v.keys.length<=200/\v.kids.length<=200:=by
 by_cases h7:v.kind=7
 ·have:=qFU h h7;omega
 rw[yB]at h;simp only[bI,yD,yT,yU,bY]at h;obtain⟨⟨h1,⟨⟨_,h2⟩,_⟩⟩,_⟩:=h;rw[bD h7]at h2;simp at h2;rw[h2];simp;omega
def qMR (u:Val):Val := .mk u.kind 0 u.num u.text u.keys u.kids u.code
def qP (v:Val):Val:=qDX qMR v
def InM (a:Int):Prop:=0<=a/\a<18446744073709551616
def kI (a:Int):Nat:=(a % 18446744073709551616).toNat
theorem qQK (a:Int):kI a<2 ^ 64:=by unfold kI;omega
theorem qZU {a:Int} (h:InM a):((kI a:Nat):Int)=a:=by unfold kI;unfold InM at h;omega
theorem qWJ {n:Nat} (h:n<2 ^ 64):kI n=n:=by unfold kI;omega
theorem zTS {n:Nat} (h:n<2 ^ 64):InM n:=by unfold InM;omega
def orM (a b:Int):Int:=((kI a ||| kI b:Nat):Int)
def zZL (a b:Int):Int:=((kI a &&& kI b:Nat):Int)
def qUN (a b:Int):Int:=((kI a &&& (18446744073709551615-kI b):Nat):Int)
theorem zKX (a b:Int):kI a ||| kI b<2 ^ 64:=Nat.or_lt_two_pow (qQK a) (qQK b)
theorem wDD (a b:Int):kI a &&& kI b<2 ^ 64:=Nat.and_lt_two_pow _ (qQK b)
theorem wBM (a b:Int):kI a &&& (18446744073709551615-kI b)<2 ^ 64:=Nat.and_lt_two_pow _ (by omega)
theorem wGV (a b:Int):InM (orM a b):=zTS (zKX a b)
theorem qLU (a b:Int):kI (orM a b)=kI a ||| kI b:=qWJ (zKX a b)
theorem qQU {n:Nat} (h:n<2 ^ 64):IntKind.u64.wrap (n:Int)=n:=by simp[IntKind.wrap,IntKind.bits,IntKind.signed];omega
theorem qZO (a b:Int):IntKind.u64.wrap (((a % 2 ^ IntKind.u64.bits).toNat ||| (b % 2 ^ IntKind.u64.bits).toNat:Nat):Int)=orM a b:=qQU (zKX a b)
theorem vN (a b:Int):IntKind.u64.wrap (((a % 2 ^ IntKind.u64.bits).toNat &&& (b % 2 ^ IntKind.u64.bits).toNat:Nat):Int)=zZL a b:=qQU (wDD a b)
theorem vA (a b:Int):IntKind.u64.wrap (((a % 2 ^ IntKind.u64.bits).toNat &&& (2 ^ IntKind.u64.bits-1-(b % 2 ^ IntKind.u64.bits).toNat):Nat):Int)=qUN a b:=qQU (wBM a b)
theorem or_comm (a b:Int):orM a b=orM b a:=by unfold orM;rw[Nat.or_comm]
theorem or_assoc (a b c:Int):orM (orM a b) c=orM a (orM b c):=by
 show((kI (orM a b) ||| kI c:Nat):Int)=((kI a ||| kI (orM b c):Nat):Int)
 rw[qLU,qLU,Nat.or_assoc]
theorem or_self {a:Int} (h:InM a):orM a a=a:=by unfold orM;rw[Nat.or_self,qZU h]
theorem or_zero {a:Int} (h:InM a):orM a 0=a:=by unfold orM;rw[show kI 0=0 from rfl,Nat.or_zero,qZU h]
theorem zWI {a:Int} (h:InM a):orM 0 a=a:=by rw[or_comm,or_zero h]
def LeM (a b:Int):Prop:=orM a b=b
theorem LeM.or_left (a b:Int):LeM a (orM a b):=by
 unfold LeM;rw[<-or_assoc];unfold orM;rw[qWJ (zKX a a),Nat.or_self]
theorem LeM.or_right (a b:Int):LeM b (orM a b):=by rw[or_comm];exact .or_left b a
theorem LeM.trans {a b c:Int} (h1:LeM a b) (h2:LeM b c):LeM a c:=by
 unfold LeM at *; rw[<-h2,<-or_assoc,h1]
theorem LeM.or {a b c:Int} (h1:LeM a c) (h2:LeM b c):LeM (orM a b) c:=by
 unfold LeM at *; rw[or_assoc,h2,h1]
theorem LeM.refl {a:Int} (h:InM a):LeM a a:=or_self h
theorem LeM.and {a b:Int} (h:LeM a b) (ha:InM a):zZL b a=a:=by
 unfold LeM at h;have h1:kI a ||| kI b=kI b:=by rw[<-qLU,h]
 unfold zZL;have:kI b &&& kI a=kI a:=by
  rw[<-h1];apply Nat.eq_of_testBit_eq;intro i;simp only[Nat.testBit_and,Nat.testBit_or];cases (kI a).testBit i <;> cases (kI b).testBit i <;> rfl
 rw[this,qZU ha]
theorem LeM.sub {a b:Int} (h:LeM a b):qUN a b=0:=by
 unfold LeM at h;have h1:kI a ||| kI b=kI b:=by rw[<-qLU,h]
 have hb:=qQK b;unfold qUN;have:kI a &&& (18446744073709551615-kI b)=0:=by
  apply Nat.eq_of_testBit_eq;intro i;rw[show 18446744073709551615-kI b=2 ^ 64-(kI b+1) by omega];simp only[Nat.testBit_and,Nat.testBit_two_pow_sub_succ hb,Nat.zero_testBit];have h3:(kI a ||| kI b).testBit i=(kI b).testBit i:=by rw[h1]
  rw[Nat.testBit_or]at h3;revert h3
  cases (kI a).testBit i <;> cases (kI b).testBit i <;> simp
 rw[this];rfl
def jN:Val := .mk 0 0 dc0 [] [] [] 0
@[simp] theorem wAQ:jN.kind=0:=rfl
@[simp] theorem wAP:jN.mask=0:=rfl
@[simp] theorem wDJ:jN.num.neg=false:=rfl
@[simp] theorem zWJ:jN.num.digits=[]:=rfl
@[simp] theorem zZY:jN.num.scale=0:=rfl
@[simp] theorem wAO:jN.text=[]:=rfl
@[simp] theorem wAS:jN.keys=[]:=rfl
@[simp] theorem wAR:jN.kids=[]:=rfl
@[simp] theorem wAT:jN.code=0:=rfl
@[simp] def wEF:List V:=[.p (.int .i64 0),.p (.int .u64 0),.p (.bool false),.p (.str []),.p (.int .i64 0),.p (.str []),.nilsl,.nilsl,.p (.int .i64 0)]
def qPY (v:Val) (m:Int):Val := .mk v.kind m v.num v.text v.keys v.kids v.code
@[simp] theorem wDP (u:Val) (m:Int):(qPY u m).kind=u.kind:=rfl
@[simp] theorem wDO (u:Val) (m:Int):(qPY u m).mask=m:=rfl
@[simp] theorem wGJ (u:Val) (m:Int):(qPY u m).num=u.num:=rfl
@[simp] theorem wDN (u:Val) (m:Int):(qPY u m).text=u.text:=rfl
@[simp] theorem wDR (u:Val) (m:Int):(qPY u m).keys=u.keys:=rfl
@[simp] theorem wDQ (u:Val) (m:Int):(qPY u m).kids=u.kids:=rfl
@[simp] theorem wDS (u:Val) (m:Int):(qPY u m).code=u.code:=rfl
def zCR (v:Val) (l:List Val):Val := .mk v.kind v.mask v.num v.text v.keys l v.code
@[simp] theorem wDV (u:Val) (m:List Val):(zCR u m).kind=u.kind:=rfl
@[simp] theorem wDU (u:Val) (m:List Val):(zCR u m).mask=u.mask:=rfl
@[simp] theorem wGK (u:Val) (m:List Val):(zCR u m).num=u.num:=rfl
@[simp] theorem wDT (u:Val) (m:List Val):(zCR u m).text=u.text:=rfl
@[simp] theorem wDX (u:Val) (m:List Val):(zCR u m).keys=u.keys:=rfl
@[simp] theorem wDW (u:Val) (m:List Val):(zCR u m).kids=m:=rfl
@[simp] theorem wDY (u:Val) (m:List Val):(zCR u m).code=u.code:=rfl
def vZ (v:Val) (m:Int):Val:=qPY v (orM v.mask m)
@[simp] theorem wBB (u:Val) (m:Int):(vZ u m).kind=u.kind:=rfl
@[simp] theorem wBA (u:Val) (m:Int):(vZ u m).mask=orM u.mask m:=rfl
@[simp] theorem wDK (u:Val) (m:Int):(vZ u m).num=u.num:=rfl
@[simp] theorem wAZ (u:Val) (m:Int):(vZ u m).text=u.text:=rfl
@[simp] theorem wBD (u:Val) (m:Int):(vZ u m).keys=u.keys:=rfl
@[simp] theorem wBC (u:Val) (m:Int):(vZ u m).kids=u.kids:=rfl
@[simp] theorem wBE (u:Val) (m:Int):(vZ u m).code=u.code:=rfl
theorem jL (v:Val):qP v=zCR (qPY v 0) (v.kids.map qP):=by
 show qDX qMR v=_
 rw[qQL];rfl
@[simp] theorem qCZ (u:Val):(qP u).kind=u.kind:=by rw[jL];rfl
@[simp] theorem qGK (u:Val):(qP u).mask=0:=by rw[jL];rfl
@[simp] theorem qOK (u:Val):(qP u).num=u.num:=by rw[jL];rfl
@[simp] theorem qKS (u:Val):(qP u).text=u.text:=by rw[jL];rfl
@[simp] theorem qUD (u:Val):(qP u).keys=u.keys:=by rw[jL];rfl
@[simp] theorem qGL (u:Val):(qP u).kids=u.kids.map qP:=by rw[jL];rfl
@[simp] theorem zJO (u:Val):(qP u).code=u.code:=by rw[jL];rfl
theorem zYE (v:Val):qDX id v=v:=by
 induction v using iV with
 | h v ih =>
  rw[qQL];have:v.kids.map (qDX id)=v.kids:=by
   conv=>rhs;rw[<-List.map_id v.kids]
   exact dE fun k hk=>ih k hk
  rw[this];cases v;rfl
mutual
def qX:Val->Int
 | .mk _ m _ _ _ vs _=>jD m vs
def jD (m:Int):List Val->Int
 | []=>m
 | v::vs=>jD (orM m (qX v)) vs
end
theorem uN (v:Val):qX v=jD v.mask v.kids:=by cases v;simp only[qX,mT,lN]
theorem zAQ (l:List Val) (x:Val):∀ m,jD m (l++[x])=orM (jD m l) (qX x):=by
 induction l with
 | nil=>intro m;simp only[dH,jD]
 | cons y l ih=>intro m;simp only[cT,jD,ih]
theorem uZ {m:Int} {l:List Val} {k:Nat} {x:Val} (h:l[k]?=some x):jD m (l.take (k+1))=orM (jD m (l.take k)) (qX x):=by
 rw[bX,h];exact zAQ _ _ _
@[simp] theorem wEB (m:Int):jD m []=m:=by simp only[jD]
mutual
def InV:Val->Prop
 | .mk _ m _ _ _ vs _=>InM m/\zWA vs
def zWA:List Val->Prop
 | []=>True
 | v::vs=>InV v/\zWA vs
end
theorem zGI:∀ l,zWA l↔∀ v∈l,InV v
 | []=>by simp[zWA]
 | v::vs=>by simp[zWA,zGI vs]
theorem zBG (v:Val):InV v↔InM v.mask/\∀ k∈v.kids,InV k:=by cases v;simp only[InV,zGI,mT,lN]
theorem qIK {v:Val} (h:InV v):InM v.mask:=((zBG v).1 h).1
theorem zFE:∀ {l:List Val} {m:Int},InM m->InM (jD m l)
 | [],m,h=>by simpa using h
 | v::vs,m,h=>by simp only[jD];exact zFE (wGV _ _)
theorem zLY {v:Val} (h:InV v):InM (qX v):=by rw[uN];exact zFE (qIK h)
theorem zKJ (v:Val):iR v=1+iT v.kids:=by cases v;simp only[iR,lN]
theorem qRN (l m:List Val):iT (l++m)=iT l+iT m:=by
 induction l with
 | nil=>simp[iT]
 | cons y l ih=>simp only[cT,iT,ih];omega
@[simp] theorem zXF:iT []=0:=by simp only[iT]
@[simp] theorem zXE (x:Val):iT [x]=iR x:=by simp only[iT,cH]
theorem wBK (v:Val):1<=iR v:=by rw[zKJ];omega
theorem zKK:∀ l:List Val,l.length<=iT l
 | []=>by simp
 | v::l=>by simp only[iT,cA];have:=zKK l;have:=wBK v;omega
theorem zHY {v:Val} {n:Nat} (h:iR v<=n):v.kids.length<=n:=by rw[zKJ]at h;have:=zKK v.kids;omega
@[simp] theorem wCX (u:Val):(qMR u).kind=u.kind:=rfl
@[simp] theorem wCW (u:Val):(qMR u).mask=0:=rfl
@[simp] theorem wED (u:Val):(qMR u).num=u.num:=rfl
@[simp] theorem wCV (u:Val):(qMR u).text=u.text:=rfl
@[simp] theorem wCZ (u:Val):(qMR u).keys=u.keys:=rfl
@[simp] theorem wCY (u:Val):(qMR u).kids=u.kids:=rfl
@[simp] theorem wDA (u:Val):(qMR u).code=u.code:=rfl
def uW (ch:Val->Val) (v:Val) (k:Nat):List PD:=(v.kids.take k).map (fun u=>(qDX ch u).enc)++(v.kids.drop k).map Val.enc
theorem zIB (ch:Val->Val) (v:Val) (k:Nat):(uW ch v k).length=v.kids.length:=by
 simp only[uW,bU,cV,cK,bQ];omega
@[simp] theorem wAI (ch:Val->Val) (v:Val):uW ch v 0=v.kids.map Val.enc:=by simp only[uW,List.take_zero,bC,dH,gV]
theorem zIC {ch:Val->Val} {v x:Val} {k:Nat} (hx:v.kids[k]?=some x):(uW ch v k)[k]?=some x.enc:=by
 have hk:=(bB.1 hx).1;have h0:((v.kids.take k).map (fun u=>(qDX ch u).enc)).length=k:=by simp only[cV,cK];omega
 rw[uW,cU (by omega),h0,gL,bG,bZ,cH,hx];rfl
theorem zIA {ch:Val->Val} {v x:Val} {k:Nat} (hx:v.kids[k]?=some x):(uW ch v k).set k (qDX ch x).enc=uW ch v (k+1):=by
 have hk:=(bB.1 hx).1;have hxk:=(bB.1 hx).2;have h0:((v.kids.take k).map (fun u=>(qDX ch u).enc)).length=k:=by simp only[cV,cK];omega
 rw[uW,List.set_append_right _ _ (by omega),h0,gL,cJ hk,uW,gA hk,hxk];simp only[bA,List.set_cons_zero,fW,bC,cD,cT,dH]
theorem zEB (g:FuncId) (ch:Val->Val) (v:Val) (hg:∀ u:Val,AX Tryz.prog G g [.ptr 2 0] [(2,.vars 31 u.cells)] (.tuple []) [2] [(2,.vars 31 (ch u).cells)]) (hsm:v.keys.length<=1000000/\v.kids.length<=1000000) (ih:∀ k∈v.kids,AFn Tryz.prog G 100 [k.enc,.fn g] (qDX ch k).enc):AFn Tryz.prog G 100 [v.enc,.fn g] ((qDX ch v).enc):=by
 refine AFn.introU tok Tryz.func100 (by kernel_rfl) rfl rfl ?_;simp only[Tryz.f100,qG,bA,bC];have hck:=zPX (G:=G) v.keys (by omega);have hcv:=xT (G:=G) v.kids (by omega);refine rgn [] [[],[1,2,4]] ?_;iterate 2 refine op3 ?_
 refine qA ?_;refine iL tok mixed [1,2,4] 8 [[2],[7],[8],[2],[10],[11],[2],[13,9]] [.nilf,.sl 1 (v.keys.map PD.str),.clo 9 [],.nilf,.sl 9 (v.kids.map Val.enc),.clo 31 []] [] (by kernel_rfl) (by intro C;conv=>lhs;simp) (by first|exact hck|exact hcv|((repeat' (first|with_reducible apply And.intro|intro _)) <;> first|exact(hck)|exact(hcv)|assumption|omega|contradiction|simp_all)) (by simp[Sm.sum,Sm.foot,Sm.tch,Sm.refs];kernel_rfl) (by intro C;conv=>lhs;simp) (by first|exact True.intro|omega|simp) ?_;refine AW.seq (rgn [] [[],[],[],[1,2,4,16,17,18]] ?_);iterate 4 refine op3 ?_
 refine qA (AW.block ?_);refine AW.loop (α:=Nat) (fun k=>k<=v.kids.length) (fun k=>⟨qZ 34 [(1,.p (.fn g)),(2,.ptr 2 0),(4,.ptr 4 0),(16,.ms 12),(17,.p (.int .i64 v.kids.length)),(18,.p (.int .i64 k))],[],[(2,.vars 31 [.p (.int .i64 v.kind),.p (.int .u64 v.mask),.p (.bool v.num.neg),.p (.str v.num.digits),.p (.int .i64 v.num.scale),.p (.str v.text),.ms 9,.ms 12,.p (.int .i64 v.code)]),(4,.vars 31 [.p (.int .i64 0),.p (.int .u64 0),.p (.bool false),.p (.str []),.p (.int .i64 0),.p (.str []),.nilsl,.nilsl,.p (.int .i64 0)]),(9,.row 9 1 (v.keys.map PD.str)),(12,.row 31 9 (uW ch v k))],0⟩) (fun k=>v.kids.length-k) (0) (by simp) ⟨qE (by simp),rfl,by simp,by simp⟩ ?_;rintro k hk;refine rgn [] [[]] ?_;refine op3 ?_;refine qA (AW.seq (cnd ?_ ?_))
 ·intro h19;try simp at h19
  obtain⟨x,hx⟩:∃ x,v.kids[k]?=some x:=⟨v.kids[k],by simp[h19]⟩;have hx':=zIC (ch:=ch) hx;have hkl:=zIB ch v k;have hix:=ih x (bH hx);have hset:=zIA (ch:=ch) hx;simp only[iK]at hx' hix hset;refine AW.skip (AW.seq (AW.block (rgn [x.enc] [[],[],[],[],[],[1,2,4,5,6,16,17,18]] ?_)));iterate 6 refine oq1 tok hx' ?_
  refine qA ?_;refine mF tok mixed [1,2,4,16,17,18] 6 [[2],[23],[5],[6],[1],[26,27]] [.nilp,(qDX ch x).enc] [x.enc,(qDX ch x).enc] (by kernel_rfl) (by intro C;conv=>lhs;simp) (by first|exact hix|((repeat' (first|with_reducible apply And.intro|intro _)) <;> first|exact(hix)|exact(hx')|assumption|omega|contradiction|simp_all)) (by simp[Sm.sum,Sm.foot,Sm.tch,Sm.refs];kernel_rfl) (by intro C;conv=>lhs;simp) (by exact⟨by omega,hx'⟩) ?_;refine rgz [] [[],[1,2,4,16,17,18]] ?_;iterate 2 refine op3 ?_
  refine qA ?_;exact⟨k+1,(by omega),(by omega),qE (by simp[hset]),rfl,by simp[hset],by simp[hset]⟩
 intro h19;try simp at h19
 obtain rfl:k=v.kids.length:=by omega
 have hfull:uW ch v v.kids.length=(v.kids.map (qDX ch)).map Val.enc:=by simp only[uW,dW,fP,bC,cR,dT];rfl
 rw[hfull];refine AW.exit ?_;simp;refine rgn [] [[]] ?_;refine op3 ?_;refine qJ ?_;refine qB.freeze 9 (by conv=>lhs;simp) ?_;refine qB.freeze 12 (by conv=>lhs;simp) ?_;refine qB.stepK [2,4] (zI rfl (hg (.mk v.kind v.mask v.num v.text v.keys (v.kids.map (qDX ch)) v.code)) (by simp)) (by conv=>lhs;simp) rfl ?_;refine qB.nil ?_;refine rgn [] [[],[4]] ?_;iterate 2 refine op3 ?_
 refine qA ?_;exact AW.ret (qI (k:=by simp[qQL ch v]))
inductive Few:Val->Prop
 | mk {v:Val} (h1:v.keys.length<=1000000) (h2:v.kids.length<=1000000) (h3:∀ k∈v.kids,Few k):Few v
theorem zLR (v:Val) (h:qU v=true):Few v :=
 iV (p:=fun v=>qU v=true->Few v) (fun v ih hv=>by
  have hsm:=qCA hv;exact .mk (by omega) (by omega) fun k hk=>ih k hk (yZ hv hk)) v h
theorem zHW (g:FuncId) (ch:Val->Val) (hg:∀ u:Val,AX Tryz.prog G g [.ptr 2 0] [(2,.vars 31 u.cells)] (.tuple []) [2] [(2,.vars 31 (ch u).cells)]) (v:Val) (hv:Few v):AFn Tryz.prog G 100 [v.enc,.fn g] (qDX ch v).enc:=by
 induction hv with
 | mk h1 h2 h3 ih=>exact zEB g ch _ hg ⟨h1,h2⟩ ih
theorem zPY (u:Val):AX Tryz.prog G 101 [.ptr 2 0] [(2,.vars 31 u.cells)] (.tuple []) [2] [(2,.vars 31 (id u).cells)]:=by
 refine AX.introU tok 900 Tryz.func101 (by kernel_rfl) rfl rfl ?_;simp only[Tryz.f101,qG,bA,bC];refine AW.skip ?_;exact qDP
theorem qXX (v:Val) (hv:Few v):AFn Tryz.prog G 70 [v.enc] (v.enc):=by
 refine AFn.introU tok Tryz.func70 (by kernel_rfl) rfl rfl ?_;simp only[Tryz.f70,qG,bA,bC];have hm:=zHW (G:=G) 101 id zPY v hv;rw[zYE]at hm;simp only[iK]at hm;refine rgn [] [[],[1,2]] ?_;iterate 2 refine op3 ?_
 refine qA (rgn [.nilp,v.enc] [[],[],[2]] ?_);iterate 3 refine oq1 tok hm ?_
 exact qA (AW.ret qI)
theorem zUS (v:Val) (hv:qU v=true):AFn Tryz.prog G 70 [v.enc] v.enc:=qXX v (zLR v hv)
theorem zPQ (v:Val) (ih:∀ k∈v.kids,AFn Tryz.prog G 30 [k.enc] (.int .u64 (qX k))):AFn Tryz.prog G 30 [v.enc] (.int .u64 (qX v)):=by
 refine AFn.introU tok Tryz.func30 (by kernel_rfl) rfl rfl ?_;simp only[Tryz.f30,qG,bA,bC];refine rgn [] [[],[1]] ?_;iterate 2 refine op3 ?_
 refine qA (rgn [] [[],[],[1,3]] ?_);iterate 3 refine op3 ?_
 refine qA (AW.seq (rgn [] [[],[],[],[3,9,10,11]] ?_));iterate 4 refine op3 ?_
 refine qA (AW.block ?_);refine lG (i:=10) rfl (by decide) ?_;intro hlen;simp at hlen;refine AW.loop (α:=Nat) (fun k=>k<=v.kids.length) (fun k=>⟨qZ 21 [(3,.p (.int .u64 (jD v.mask (v.kids.take k)))),(9,.p (.sl 9 (v.kids.map Val.enc))),(10,.p (.int .i64 v.kids.length)),(11,.p (.int .i64 k))],[],[],0⟩) (fun k=>v.kids.length-k) (0) (by omega) ⟨qE (by simp),rfl,by simp,by simp⟩ ?_;rintro k hk;refine rgn [] [[]] ?_;refine op3 ?_;refine qA (AW.seq (cnd ?_ ?_))
 ·intro h12;try simp at h12
  obtain⟨x,hx⟩:∃ x,v.kids[k]?=some x:=⟨v.kids[k],by simp[h12]⟩;have hix:=ih x (bH hx);simp only[iK]at hix;refine AW.skip (AW.seq (AW.block (rgn [x.enc] [[],[],[],[3,5,9,10,11]] ?_)));iterate 4 refine op3 ?_ (hv:=by first|exact True.intro|(simp[hx];done)|omega|simp)
  refine qA (rgz [.nilp,.int .u64 (qX x)] [[],[],[],[9,10,11,18],[3,9,10,11]] ?_);iterate 5 refine oq1 tok hix ?_ (h:=by intro C;conv=>lhs;simp[qZO])
  refine qA (rgz [] [[],[3,9,10,11]] ?_);iterate 2 refine op3 ?_
  refine qA ?_;exact⟨k+1,by omega,by omega,qE (by simp[uZ hx]),rfl,by simp[uZ hx],by simp[uZ hx]⟩
 intro h12;try simp at h12
 rw[bK h12];refine AW.exit ?_;simp;refine rgn [] [[],[2]] ?_;iterate 2 refine op3 ?_
 refine qA ?_;exact AW.ret (qI (k:=by simp[uN v]))
theorem zYT (v:Val):AFn Tryz.prog G 30 [v.enc] (.int .u64 (qX v)):=iV (fun v ih=>zPQ v ih) v
theorem zWS (v:Val) (m:Int) (hv:qU v=true):AFn Tryz.prog G 132 [v.enc,.int .u64 m] ((vZ v m).enc):=by
 refine AFn.introU tok Tryz.func132 (by kernel_rfl) rfl rfl ?_;simp only[Tryz.f132,qG,bA,bC];have hm:=zUS (G:=G) v hv;simp only[iK]at hm;refine rgn [] [[],[1,2,4]] ?_;iterate 2 refine op3 ?_
 refine qA (rgn [.nilp,v.enc] [[],[],[1,2,4]] ?_);iterate 3 refine oq1 tok hm ?_
 refine qA (rgn [] [[],[],[],[2,4,10],[],[2,4]] ?_);iterate 6 refine op3 ?_ (h:=by intro C;conv=>lhs;simp[qZO])
 refine qA (rgn [] [[],[4]] ?_);iterate 2 refine op3 ?_
 exact qA (AW.ret qI)
open Go
open Go.Lib
def qQB (n:Nat):UInt8:=if n<10 then UInt8.ofNat (48+n) else UInt8.ofNat (87+n)
def qb (b:UInt8):List UInt8 :=
 if b=34\/b=92 then[92,b] else if b=10 then[92,110] else if b=13 then[92,114] else if b=9 then[92,116]
 else if b<32\/b=127 then[92,117,48,48,qQB (b.toNat / 16),qQB (b.toNat % 16)] else[b]
def xA (s:List UInt8):List UInt8:=s.flatMap qb
def kQ (s:List UInt8):List UInt8:=34::(xA s++[34])
def hexV (c:UInt8):Option Nat:=if 48<=c/\c<=57 then some (c.toNat-48) else if 97<=c/\c<=102 then some (c.toNat-87) else if 65<=c/\c<=70 then some (c.toNat-55) else none
def wGY:List UInt8->Nat->Option Nat
 | [],x=>some x
 | c::l,x=>match hexV c with
  | none=>none
  | some k=>wGY l (16 * x+k)
def wAB (s:List UInt8):Option Nat:=if s.length<6\/s.take 2≠[92,117] then none else wGY ((s.drop 2).take 4) 0
def escT (c:UInt8):Option Nat:=if c=34 then some 34 else if c=92 then some 92 else if c=47 then some 47 else if c=98 then some 8 else if c=102 then some 12 else if c=110 then some 10 else if c=114 then some 13 else if c=116 then some 9 else none
def escU (u w:Option Nat):Nat × Nat × Bool :=
 if u.isSome=false\/u.getD 0 / 1024≠54 then(u.getD 0,6,u.isSome && decide (u.getD 0 / 1024≠55)) else(65536+u.getD 0 % 1024 * 1024+w.getD 0 % 1024,12,w.isSome && decide (w.getD 0 / 1024=55))
def wCM (s:List UInt8):Nat × Nat × Bool:=match s with
 | _::c::_=>match escT c with
  | some v=>(v,2,true)
  | none=>escU (wAB s) (wAB (s.drop 6))
 | _=>(0,0,false)
def wHA (s:List UInt8):Option (Nat × Nat):=if(wCM s).2.2=true then some ((wCM s).1,(wCM s).2.1) else none
def zBX:Nat->List UInt8->Nat->List UInt8->List UInt8 × Nat × Int
 | 0,_,_,_=>([],0,6)
 | f+1,s,at',out=>if s=[] then([],0,6)
  else if(decodeL s).1=34 then(if 4096<out.length then([],0,3) else(out,at'+1,0))
  else if(decodeL s).1<32\/((decodeL s).1=65533/\(decodeL s).2=1) then([],0,6)
  else if(decodeL s).1=92 then(match wHA s with
   | none=>([],0,6)
   | some (c,n)=>zBX f (s.drop n) (at'+n) (out++encodeRune c))
  else zBX f (s.drop (decodeL s).2) (at'+(decodeL s).2) (out++encodeRune (decodeL s).1)
def qRB (s:List UInt8):List UInt8 × Nat × Int:=if s.head?=some 34 then zBX s.length (s.drop 1) 1 [] else([],0,6)
theorem zJB {b:UInt8} {t:List UInt8} (h:b.toNat<128):decodeL (b::t)=(b.toNat,1):=by
 unfold decodeL;rw[decode_at];have e:(⟨(b::t).toArray⟩:ByteArray).get! 0=b:=rfl;rw[e];unfold decodeN;rw[bE h]
theorem zSS {b:UInt8} (h:b.toNat<128):encodeRune (b.toNat:Int)=[b]:=by
 simp only[encodeRune,encodeRuneZ_one (r:=(b.toNat:Int)) (by omega) (by omega),bA,bC];congr 1
 simp
theorem qPS (l:List UInt8):decodeL l=decodeN l.length (l.getD 0 0).toNat (l.getD 1 0).toNat (l.getD 2 0).toNat (l.getD 3 0).toNat:=by
 unfold decodeL;rw[decode_at];have e:∀ k,(⟨l.toArray⟩:ByteArray).get! k=l.getD k 0:=by
  intro k;show l.toArray[k]! = _
  simp[bJ];rfl
 simp only[e];rfl
theorem zQG (l:List UInt8) (hne:l≠[]) (hv:¬ ((decodeL l).1=65533/\(decodeL l).2=1)) (hb:128<=(l.getD 0 0).toNat):(∀ b∈l.take (decodeL l).2,128<=b.toNat)/\128<=(decodeL l).1:=by
 have hr:=qPS l;have hle:=decodeL_le l hne;have hlen:0<l.length:=by cases l with
  | nil=>exact absurd rfl hne
  | cons a l=>simp
 unfold decodeN at hr;rw[bD (by omega)]at hr;split at hr
 ·rename_i c;split at hr
  ·rw[hr]at hv hle ⊢;simp only at hle ⊢;rw[takeB l (by omega)];refine⟨fun b hb' => ?_,by omega⟩;simp at hb';rcases hb' with h|h <;> (subst h;simp at hb c;omega)
  rw[hr]at hv;exact absurd ⟨rfl,rfl⟩ hv
 split at hr
 ·rename_i c;split at hr
  ·rw[hr]at hv hle ⊢;simp only at hle ⊢;rw[takeC l (by omega)];refine⟨fun b hb' => ?_,by omega⟩;simp at hb';rcases hb' with h|h|h <;> (subst h;simp at hb c;omega)
  rw[hr]at hv;exact absurd ⟨rfl,rfl⟩ hv
 split at hr
 ·rename_i c;split at hr
  ·rw[hr]at hv hle ⊢;simp only at hle ⊢;rw[takeD l (by omega)];refine⟨fun b hb' => ?_,by omega⟩;simp at hb';rcases hb' with h|h|h|h <;> (subst h;simp at hb c;omega)
  rw[hr]at hv;exact absurd ⟨rfl,rfl⟩ hv
 rw[hr]at hv;exact absurd ⟨rfl,rfl⟩ hv
theorem zOB {l:List UInt8} (h:∀ b∈l,128<=b.toNat):xA l=l:=by
 induction l with
 | nil=>rfl
 | cons b l ih =>
  have hb:=h b (by simp);have h1:qb b=[b]:=by
   unfold qb;have ne:∀ c:UInt8,c.toNat<128->b≠c:=fun c hc e=>by subst e;omega
   rw[bD (by rintro(e|e) <;> exact ne _ (by decide) e),bD (ne _ (by decide)),bD (ne _ (by decide)),bD (ne _ (by decide)),bD];rintro(e|e)
   ·rw[fT]at e;simp at e;omega
   exact ne _ (by decide) e
  show qb b++xA l=_
  rw[h1,ih fun b hb=>h b (cZ _ hb)];rfl
theorem qZL (a b:List UInt8):xA (a++b)=xA a++xA b:=by simp[xA]
end Go.Proofs.YtgcbapchinideaaGreatDoor
