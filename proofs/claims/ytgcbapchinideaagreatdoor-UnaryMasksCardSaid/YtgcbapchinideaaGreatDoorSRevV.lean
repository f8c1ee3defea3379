import Derived.Test.YtgcbapchinideaaGreatDoorSRevL
import Derived.Test.YtgcbapchinideaaGreatDoorK2
import Derived.Test.YtgcbapchinideaaGreatDoorK1
set_option linter.all false
namespace Go.Proofs.YtgcbapchinideaaGreatDoor
open Sy Go
set_option maxRecDepth 100000
set_option maxHeartbeats 4000000
variable {G:qT}
theorem zXP (l:List Val) (hl:l.length<=1000000):AX Tryz.prog G 39 [.ms 890] [(890,.row 31 9 (l.map Val.enc))] (.tuple []) [890] [(890,.row 31 9 (l.reverse.map Val.enc))]:=by
 refine AX.introU tok 700 Tryz.func39 (by kernel_rfl) rfl rfl ?_;simp only[Tryz.f39,qG,bA,bC];refine rgn [] [[],[],[],[],[0,2,3]] ?_;iterate 5 refine op3 ?_
 refine qA (AW.block ?_);refine AW.loop (α:=Nat) (fun k=>k<=l.length) (fun k=>⟨qZ 28 [(0,.ms 890),(2,.p (.int .i64 k)),(3,.p (.int .i64 ((l.length:Int)-1-k)))],[890],[(890,.row 31 9 ((qSB jN l k).map Val.enc))],700⟩) (fun k=>l.length-k) (0) (by omega) ⟨qE (by simp),rfl,by simp[zNY],by simp⟩ ?_;rintro k hk;have hlen:=qEK (d:=jN) l k;refine AW.seq (rgn [] [[],[],[0,2,3,9]] ?_);iterate 3 refine op3 ?_
 refine qA (cnd ?_ ?_)
 ·intro h9;try simp at h9
  have h2:2 * k+1<l.length:=by omega
  have g1:=qEL (d:=jN) l k (i:=k) (by omega);have g2:=qEL (d:=jN) l k (i:=l.length-1-k) (by omega);rw[bD (by omega)]at g1 g2;have hst:=zNZ (d:=jN) l h2;generalize l.getD k jN=x at *;generalize l.getD (l.length-1-k) jN=y at *;generalize qSB jN l k=R at *;have hix:((l.length:Int)-1-k).toNat=l.length-1-k:=by omega
  have b1:(R.map Val.enc)[k]?=some x.enc:=by rw[bG,g1];rfl
  have b2:(R.map Val.enc)[l.length-1-k]?=some y.enc:=by rw[bG,g2];rfl
  have b3:((R.map Val.enc).set k y.enc)[l.length-1-k]?=some y.enc:=by rw[fB (by omega)];exact b2
  have hst2:((R.map Val.enc).set k y.enc).set (l.length-1-k) x.enc=(qSB jN l (k+1)).map Val.enc:=by rw[<-hst,gZ,gZ]
  simp only[iK]at b1 b2 b3 hst2;refine AW.skip (AW.seq (AW.block ?_));refine lR mixed 14 [[0],[2],[0],[3],[0],[3],[18,19],[20],[0],[2],[22,23],[24],[14,15],[26,21]] [y.enc,x.enc] (by kernel_rfl) ?_;iterate 2 refine iN tok (hv:=by first|exact True.intro|exact⟨y,g2,rfl,rfl,rfl,rfl,rfl,rfl,rfl,rfl,rfl⟩|exact⟨x,g1,rfl,rfl,rfl,rfl,rfl,rfl,rfl,rfl,rfl⟩|(simp[b1,b2,hix,hlen];done)|(simp[b1,b2,hix,hlen];omega);done|omega|simp) (k := ?_)
  refine wI.q [890] (.ms 890) rfl (qFI tok (orc:=[]) (orc':=[]) (v:=True) (by conv=>lhs;simp) trivial) (by simp) (by kernel_rfl) (by conv=>lhs;simp) ?_;iterate 4 refine iN tok (hv:=by first|exact True.intro|exact⟨y,g2,rfl,rfl,rfl,rfl,rfl,rfl,rfl,rfl,rfl⟩|exact⟨x,g1,rfl,rfl,rfl,rfl,rfl,rfl,rfl,rfl,rfl⟩|(simp[b1,b2,hix,hlen];done)|(simp[b1,b2,hix,hlen];omega);done|omega|simp) (k := ?_)
  refine iW tok (orc:=[y.enc]) (hv:=by first|exact True.intro|exact⟨y,g2,rfl,rfl,rfl,rfl,rfl,rfl,rfl,rfl,rfl⟩|exact⟨x,g1,rfl,rfl,rfl,rfl,rfl,rfl,rfl,rfl,rfl⟩|(simp[b1,b2,hix,hlen];done)|(simp[b1,b2,hix,hlen];omega);done|omega|simp) (k := ?_);iterate 3 refine iN tok (hv:=by first|exact True.intro|exact⟨y,g2,rfl,rfl,rfl,rfl,rfl,rfl,rfl,rfl,rfl⟩|exact⟨x,g1,rfl,rfl,rfl,rfl,rfl,rfl,rfl,rfl,rfl⟩|(simp[b1,b2,hix,hlen];done)|(simp[b1,b2,hix,hlen];omega);done|omega|simp) (k := ?_)
  refine iW tok (orc:=[x.enc]) (hv:=by first|exact True.intro|exact⟨y,g2,rfl,rfl,rfl,rfl,rfl,rfl,rfl,rfl,rfl⟩|exact⟨x,g1,rfl,rfl,rfl,rfl,rfl,rfl,rfl,rfl,rfl⟩|(simp[b1,b2,hix,hlen];done)|(simp[b1,b2,hix,hlen];omega);done|omega|simp) (k := ?_);refine iN tok (hv:=by first|exact True.intro|exact⟨y,g2,rfl,rfl,rfl,rfl,rfl,rfl,rfl,rfl,rfl⟩|exact⟨x,g1,rfl,rfl,rfl,rfl,rfl,rfl,rfl,rfl,rfl⟩|(simp[b1,b2,hix,hlen];done)|(simp[b1,b2,hix,hlen];omega);done|omega|simp) (k := ?_);refine iW tok (orc:=[x.enc,y.enc]) (hv:=by first|exact True.intro|exact⟨y,g2,rfl,rfl,rfl,rfl,rfl,rfl,rfl,rfl,rfl⟩|exact⟨x,g1,rfl,rfl,rfl,rfl,rfl,rfl,rfl,rfl,rfl⟩|(simp[b1,b2,hix,hlen];done)|(simp[b1,b2,hix,hlen];omega);done|omega|simp) (k := ?_);refine wI.nil (by kernel_rfl) ⟨by kernel_rfl, ?_⟩;refine qB.run [[],[0,2,3]] ?_;iterate 2 refine op3 ?_ (hv:=by first|exact True.intro|(simp[b1,b2,b3,hix,hlen];done)|(simp[b1,b2,b3,hix,hlen];omega);done|omega|simp)
  refine qA (rgz [] [[],[],[],[0,11,13],[],[0,2,3]] ?_);iterate 6 refine op3 ?_
  refine qA ?_;exact⟨k+1,by omega,by omega,qE (by simp[hix,hst2,show(l.length:Int)-1-k-1=l.length-1-(k+1) from by omega]),rfl,by simp[hix,hst2,show(l.length:Int)-1-k-1=l.length-1-(k+1) from by omega],by simp[hix,hst2,show(l.length:Int)-1-k-1=l.length-1-(k+1) from by omega]⟩
 intro h9;try simp at h9
 have hall:=zSA (d:=jN) l (k:=k) (by omega);rw[<-hall];refine AW.exit ?_;simp;exact qDP
end Go.Proofs.YtgcbapchinideaaGreatDoor
