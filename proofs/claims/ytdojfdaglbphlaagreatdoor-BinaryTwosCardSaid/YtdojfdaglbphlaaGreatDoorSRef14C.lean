import Derived.Test.YtdojfdaglbphlaaGreatDoorSRef14B
import Derived.Test.YtdojfdaglbphlaaGreatDoorK2
import Derived.Test.YtdojfdaglbphlaaGreatDoorSRefMul
import Derived.Test.YtdojfdaglbphlaaGreatDoorSRefDivE
import Derived.Test.YtdojfdaglbphlaaGreatDoorSTwoLaw
namespace Go.Proofs.YtdojfdaglbphlaaGreatDoor
open Sy Go
set_option maxRecDepth 100000
set_option maxHeartbeats 4000000
set_option linter.unusedSimpArgs false
set_option linter.unusedVariables false
variable {G:qR}
theorem zRG {d:Dc} (h:zO d=true) (e:d.digits=[48]):d.neg=false:=by
 rcases qDB h with ⟨_,_,h3⟩ | ⟨h1,_⟩
 ·exact h3
 rw [e] at h1; exact absurd rfl h1
def opD (op:List UInt8):Dc→Dc→Dc × Int:=if op=[42] then qEW else if op=[47] then qBE else if op=[37] then qAX else qCS
theorem zII (op:List UInt8) (a b:Val) (m:Int) (hn:¬ (a.kind=4∧b.kind=4)):AFn Tryz.prog G 45 [.str op,a.enc,b.enc,.int .u64 m] ((wQ 40 m).enc):=by
 refine AFn.introU tok Tryz.func45 (by kernel_rfl) rfl rfl ?_
 simp only [Tryz.f45,qI,List.map_cons,List.map_nil]
 have hf:=vJ (G:=G) 40 m
 generalize wQ 40 m=M at *
 simp only [Val.enc_def] at hf
 refine rgn [] [[],[],[0,3,5,6,8]] ?_
 iterate 3 refine op1 tok ?_
 refine qA (AW.seq (rgn [] [[],[],[],[],[],[0,3,5,6,8,14,16],[],[0,3,5,6,8,18]] ?_))
 iterate 4 refine op1 tok ?_
 iterate 3 refine op2 tok ?_
 refine op1 tok ?_
 refine qA (cnd ?_ ?_)
 ·intro h18
  try simp at h18
  refine rgn [.nilp,M.enc] [[],[],[8]] ?_
  iterate 3 refine oq1 tok hf ?_
  exact qA (AW.ret qG)
 intro h18
 try simp at h18
 omega
theorem zIH (op:List UInt8) (a b:Val) (m:Int) (ha:qS a=true) (hb:qS b=true) (hka:a.kind=4) (hkb:b.kind=4):AFn Tryz.prog G 45 [.str op,a.enc,b.enc,.int .u64 m] ((qFJ (opD op a.num b.num) m).enc):=by
 refine AFn.introU tok Tryz.func45 (by kernel_rfl) rfl rfl ?_
 simp only [Tryz.f45,qI,List.map_cons,List.map_nil]
 have na:=yW ha hka
 have nb:=yW hb hkb
 have hs:=zPW (G:=G) a.num b.num (zF na).1 (zF nb).1 (zRG nb)
 have hm:=zQQ (G:=G) a.num b.num (zF na).1 (zF nb).1
 have hd:=zRC (G:=G) a.num b.num na nb
 have hq:=zQR (G:=G) a.num b.num na nb
 have hN:=fun r=>qZC (G:=G) r m
 have eO:opD op a.num b.num=if op=[42] then qEW a.num b.num else if op=[47] then qBE a.num b.num else if op=[37] then qAX a.num b.num else qCS a.num b.num:=by
  unfold opD; split <;> (try split) <;> (try split) <;> rfl
 rw [eO]
 generalize qCS a.num b.num=r1 at *
 generalize qEW a.num b.num=r2 at *
 generalize qBE a.num b.num=r3 at *
 generalize qAX a.num b.num=r4 at *
 obtain ⟨d1',e1'⟩:=r1
 obtain ⟨d2',e2'⟩:=r2
 obtain ⟨d3',e3'⟩:=r3
 obtain ⟨d4',e4'⟩:=r4
 have hN1:=hN (d1',e1')
 have hN2:=hN (d2',e2')
 have hN3:=hN (d3',e3')
 have hN4:=hN (d4',e4')
 simp only [Dc.enc] at hs hm hd hq hN1 hN2 hN3 hN4
 simp only [Val.enc_def] at hN1 hN2 hN3 hN4
 refine rgn [] [[],[],[0,3,5,6,8]] ?_
 iterate 3 refine op1 tok ?_
 refine qA (AW.seq (rgn [] [[],[],[],[],[],[0,3,5,6,8,14,16],[],[0,3,5,6,8,18]] ?_))
 iterate 4 refine op1 tok ?_
 iterate 3 refine op2 tok ?_
 refine op1 tok ?_
 refine qA (cnd ?_ ?_)
 ·intro h18
  try simp at h18
  omega
 intro h18
 try simp at h18
 refine AW.skip (rgn [.nilp,.tup [d1'.enc,.int .i64 e1']] [[],[],[],[],[0,3,5,6,8,26],[],[],[],[],[],[0,3,5,6,8,9,10]] ?_)
 iterate 11 refine oq1 tok hs ?_
 refine qA (AW.seq (rgn [] [[3,5,6,8,9,10,29]] ?_))
 refine op1 tok ?_
 refine qA (AW.block (rgn [] [[],[3,5,6,8,9,10,29,30]] ?_))
 iterate 2 refine op1 tok ?_
 refine qA (cnd ?_ ?_)
 ·intro h30
  try simp at h30
  subst h30
  refine rgz [.nilp,.tup [d2'.enc,.int .i64 e2']] [[],[],[],[3,8,9,34,36],[],[],[],[3,8,9,38,39],[],[3,8,9,10]] ?_
  iterate 10 refine oq1 tok hm ?_
  refine qA (rgn [.nilp,(qFJ (d2',e2') m).enc] [[],[],[],[8,63],[8]] ?_)
  iterate 5 refine oq1 tok hN2 ?_
  exact qA (AW.ret qG)
 intro h30
 try simp at h30
 refine rgn [] [[],[3,5,6,8,9,10,29,40]] ?_
 iterate 2 refine op1 tok ?_
 refine qA (cnd ?_ ?_)
 ·intro h40
  try simp at h40
  subst h40
  refine rgz [.nilp,.tup [d3'.enc,.int .i64 e3']] [[],[],[],[3,8,9,44,46],[],[],[],[3,8,9,48,49],[],[3,8,9,10]] ?_
  iterate 10 refine oq1 tok hd ?_
  refine qA (rgn [.nilp,(qFJ (d3',e3') m).enc] [[],[],[],[8,63],[8]] ?_)
  iterate 5 refine oq1 tok hN3 ?_
  exact qA (AW.ret qG)
 intro h40
 try simp at h40
 refine rgn [] [[],[3,5,6,8,9,10,50]] ?_
 iterate 2 refine op1 tok ?_
 refine qA (cnd ?_ ?_)
 ·intro h50
  try simp at h50
  subst h50
  refine rgz [.nilp,.tup [d4'.enc,.int .i64 e4']] [[],[],[],[3,8,9,54,56],[],[],[],[3,8,9,58,59],[],[3,8,9,10]] ?_
  iterate 10 refine oq1 tok hq ?_
  refine qA (rgn [.nilp,(qFJ (d4',e4') m).enc] [[],[],[],[8,63],[8]] ?_)
  iterate 5 refine oq1 tok hN4 ?_
  exact qA (AW.ret qG)
 intro h50
 try simp at h50
 rw [if_neg h30,if_neg h40,if_neg h50]
 refine AW.skip (rgn [.nilp,(qFJ (d1',e1') m).enc] [[],[],[],[8,63],[8]] ?_)
 iterate 5 refine oq1 tok hN1 ?_
 exact qA (AW.ret qG)
end Go.Proofs.YtdojfdaglbphlaaGreatDoor
