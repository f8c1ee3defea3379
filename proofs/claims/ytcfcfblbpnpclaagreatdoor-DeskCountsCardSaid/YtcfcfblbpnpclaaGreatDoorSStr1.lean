import Derived.Test.YtcfcfblbpnpclaaGreatDoorM4
namespace Go.Proofs.YtcfcfblbpnpclaaGreatDoor
open Sy Go
set_option maxRecDepth 100000
set_option linter.unusedSimpArgs false
set_option linter.unusedVariables false
variable {G:qK}
def wY (s p:List UInt8):Bool:=decide (p.length≤s.length) && decide (s.take p.length=p)
@[simp] theorem qJG (s p:List UInt8):AFn Tryz.prog G 137 [.str s,.str p] (.bool (wY s p)):=by
 refine AFn.intro tok Tryz.func137 (by kernel_rfl) rfl ?_
 simp only [Tryz.f137,St.start]
 refine AW.seqRun tok [] (by intro C; conv=>lhs; simp) trivial ?_
 refine AW.seqRun tok [] (by intro C; conv=>lhs; simp) (by simp +contextual) ?_
 exact AW.ret ⟨.inr rfl,_,_,by (conv=>lhs; simp),trivial,by simp [wY]⟩
@[simp] theorem qDM (s p:List UInt8):AFn Tryz.prog G 87 [.str s,.str p] (.bool (wY s p)):=by
 refine AFn.intro tok Tryz.func87 (by kernel_rfl) rfl ?_
 simp only [Tryz.f87,St.start]
 refine AW.seqRun tok [] (by intro C; conv=>lhs; simp) trivial ?_
 refine AW.seqRun tok [.tup [.str s,.str p],.bool (wY s p)] (by intro C; conv=>lhs; simp) (by simp) ?_
 exact AW.ret ⟨.inr rfl,_,_,by (conv=>lhs; simp),trivial,by simp⟩
def xS (s p:List UInt8):List UInt8:=if wY s p then s.drop p.length else s
@[simp] theorem qJH (s p:List UInt8):AFn Tryz.prog G 216 [.str s,.str p] (.tup [.str (xS s p),.bool (wY s p)]):=by
 refine AFn.intro tok Tryz.func216 (by kernel_rfl) rfl ?_
 simp only [Tryz.f216,St.start]
 refine AW.seqRun tok [] (by intro C; conv=>lhs; simp) trivial ?_
 refine AW.seq ?_
 refine AW.seqRun tok [.tup [.str s,.str p],.bool (wY s p)] (by intro C; conv=>lhs; simp) (by simp) ?_
 refine AW.cond (c := .tmp 9) (by conv=>lhs; simp) trivial ?_ ?_
 ·intro h1
  simp at h1
  refine AW.seqRun tok [] (by intro C; conv=>lhs; simp) trivial ?_
  exact AW.ret ⟨.inr rfl,_,_,by (conv=>lhs; simp),trivial,by simp [xS,h1]⟩
 intro h1
 simp at h1
 refine AW.skip ?_
 refine AW.seqRun tok [] (by intro C; conv=>lhs; simp) (by simp [wY] at h1 ⊢; omega) ?_
 exact AW.ret ⟨.inr rfl,_,_,by (conv=>lhs; simp),trivial,by simp [xS,h1]⟩
@[simp] theorem qDN (s p:List UInt8):AFn Tryz.prog G 132 [.str s,.str p] (.tup [.str (xS s p),.bool (wY s p)]):=by
 refine AFn.intro tok Tryz.func132 (by kernel_rfl) rfl ?_
 simp only [Tryz.f132,St.start]
 refine AW.seqRun tok [] (by intro C; conv=>lhs; simp) trivial ?_
 refine AW.seqRun tok [.tup [.str s,.str p],.tup [.str (xS s p),.bool (wY s p)]] (by intro C; conv=>lhs; simp) (by simp) ?_
 exact AW.ret ⟨.inr rfl,_,_,by (conv=>lhs; simp),trivial,by simp⟩
theorem qSJ:qLH Tryz.prog 368 Extern.BytealgIndexByte.indexByte:=fun args w=>run_callFunc_extern Tryz.func368 (by kernel_rfl) (by kernel_rfl) (by kernel_rfl) (by kernel_rfl) args w
@[simp] theorem qJF (s:List UInt8) (n:Int):AFn Tryz.prog G 309 [.str s,.int .u8 n] (.int .i64 (Lib.indexByte s n.toNat.toUInt8)):=by
 refine AFn.intro tok Tryz.func309 (by kernel_rfl) rfl ?_
 simp only [Tryz.f309,St.start]
 refine AW.seqRun tok [] (by intro C; conv=>lhs; simp) trivial ?_
 refine AW.seqRunX tok 2 [] [] rfl rfl (by intro C; conv=>lhs; simp) trivial (qDP (s:=s) (n:=n) (p:=True) (q:=True) (r:=True) qSJ rfl (by simp) trivial (by simp) trivial (by simp) trivial) (by intro C; conv=>lhs; simp) trivial ?_
 exact AW.ret ⟨.inr rfl,_,_,by (conv=>lhs; simp),trivial,by simp⟩
@[simp] theorem qKZ (s:List UInt8) (n:Int):AFn Tryz.prog G 221 [.str s,.int .u8 n] (.int .i64 (Lib.indexByte s n.toNat.toUInt8)):=by
 refine AFn.intro tok Tryz.func221 (by kernel_rfl) rfl ?_
 simp only [Tryz.f221,St.start]
 refine AW.seqRun tok [] (by intro C; conv=>lhs; simp) trivial ?_
 refine AW.seqRun tok [.tup [.str s,.int .u8 n],.int .i64 (Lib.indexByte s n.toNat.toUInt8)] (by intro C; conv=>lhs; simp) (by simp) ?_
 exact AW.ret ⟨.inr rfl,_,_,by (conv=>lhs; simp),trivial,by simp⟩
end Go.Proofs.YtcfcfblbpnpclaaGreatDoor
