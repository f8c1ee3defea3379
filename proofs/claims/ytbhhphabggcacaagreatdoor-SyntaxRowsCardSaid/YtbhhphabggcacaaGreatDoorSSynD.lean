import Derived.Test.YtbhhphabggcacaaGreatDoorSSynC
import Derived.Test.YtbhhphabggcacaaGreatDoorSCore34
namespace Go.Proofs.YtbhhphabggcacaaGreatDoor
open Sy Go
set_option maxRecDepth 100000
set_option maxHeartbeats 4000000
set_option linter.unusedSimpArgs false
set_option linter.unusedVariables false
variable {G:qM}
def okT (t:Tok):Prop:=t.num.digits.length≤100000∧0≤(kW t.num.digits).1∧(kW t.num.digits).1≤9223372036854775807
def okS (s:PS):Prop:=∀ t∈s.left,okT t
theorem qPT:okT qBM:=⟨by decide,by decide +kernel,by decide +kernel⟩
theorem Le.ok {c d:Nat} {s s':PS} (h:Le c d s s') (hs:okS s):okS s':=fun t ht=>hs t (h.suf.subset ht)
theorem qMA {f:Tok→Bool} {s:PS} (hs:okS s):okT (qZ f s).1.1:=by
 cases h:(qZ f s).1.2 with
 | false=>rw [qJT h]; exact qPT
 | true =>
  have:=(vT h).2.2.2.2.2.1
  exact hs _ (by rw [this]; exact List.mem_cons_self)
def okA (s:List UInt8):Bool:=match Lib.atoiAll s with | .ok _=>true | _=>false
theorem qXL {s:List UInt8}:(okA s=true→(kW s).2 = .noerr)∧(okA s=false→(kW s).2 = .err):=by
 unfold okA kW
 cases Lib.atoiAll s <;> simp
theorem qFE (hE:PE G) (s:PS) (hs:okS s):AX Tryz.prog G 73 [.ptr 2 0] [(2,.vars 42 (psC (s))),(3,.row 36 8 ((s).nodes.map Nd.enc))] (.p (.int .i64 (kP s).1)) [2,3] [(2,.vars 42 (psC ((kP s).2))),(3,.row 36 8 (((kP s).2).nodes.map Nd.enc))]:=by
 refine AX.introU tok 900 Tryz.func73 (by kernel_rfl) rfl rfl ?_
 simp only [Tryz.f73,qN,List.map_cons,List.map_nil]
 have hT:kP s=((kW (zR [4] s).1.num.digits).1,qU (okD (zR [4] s).1.num) (zR [4] s).2):=rfl
 rw [hT]
 have hk:=qAV (G:=G) s [4]
 have hkt:okT (zR [4] s).1:=qMA hs
 generalize zR [4] s=R at *
 obtain ⟨t,s'⟩:=R
 simp only at hk hkt
 have hat:=qXU (G:=G) hE t.num.digits (by have:=hkt.1; omega)
 have hA:=qXL (s:=t.num.digits)
 have hD:okD t.num=(okA t.num.digits && decide (t.num.scale=0) && decide (t.num.digits.length≤3)):=rfl
 have hlen:decide (t.num.digits.length≤3)=decide ((t.num.digits.length:Int)≤3):=decide_eq_decide.2 (by omega)
 rw [hlen] at hD
 generalize kW t.num.digits=A at *
 obtain ⟨n,e⟩:=A
 simp only at hA hat ⊢
 rw [hD]
 have hm:=fun b=>kS (G:=G) s' b
 refine rgn [] [[0]] ?_
 refine op1 tok ?_
 refine qA (rgn [.int .i64 4] [[],[]] ?_)
 iterate 2 refine op1 tok ?_
 refine qF ?_
 refine qE.freeze 907 (by conv=>lhs; simp) ?_
 refine qE.stepK [0,8] (qK rfl hk (by simp)) (by conv=>lhs; simp) rfl ?_
 refine qE.run [[],[],[0,3]] ?_
 iterate 3 refine op1 tok ?_
 refine qA ?_
 by_cases hs2:okA t.num.digits=true
 ·
  rw [hA.1 hs2] at hat
  rw [hs2]
  refine rgn [.nilp,.tup [.int .i64 n,.noerr]] [[],[],[],[],[],[0,3,14,15],[],[0,3,4,5]] ?_
  iterate 8 refine oq1 tok hat ?_
  refine qA (rgn [] [[],[]] ?_)
  iterate 2 refine op1 tok ?_
  refine qF ?_
  refine qE.stepK [3,4,16,18] (qPC true rfl (by kernel_rfl) (by (conv=>lhs; simp); rfl) trivial) (by conv=>lhs; simp) rfl ?_
  refine qE.run [[],[],[],[],[3,4,16,23],[],[],[],[4,16,24,27],[],[]] ?_
  iterate 11 first | refine op1 tok ?_ | refine op2 tok ?_
  refine qF ?_
  refine qE.stepK [4] (qK rfl (hm (decide (t.num.scale=0) && decide ((t.num.digits.length:Int)≤3))) (by simp)) (by conv=>lhs; simp) rfl ?_
  refine qE.nil ?_
  refine rgn [] [[],[2]] ?_
  iterate 2 refine op1 tok ?_
  refine qA ?_
  exact AW.ret qP
 ·
  have hs2:okA t.num.digits=false:=by simpa using hs2
  rw [hA.2 hs2] at hat
  rw [hs2]
  refine rgn [.nilp,.tup [.int .i64 n,.err]] [[],[],[],[],[],[0,3,14,15],[],[0,3,4,5]] ?_
  iterate 8 refine oq1 tok hat ?_
  refine qA (rgn [] [[],[]] ?_)
  iterate 2 refine op1 tok ?_
  refine qF ?_
  refine qE.stepK [3,4,16,18] (qPC false rfl (by kernel_rfl) (by (conv=>lhs; simp); rfl) trivial) (by conv=>lhs; simp) rfl ?_
  refine qE.run [[],[],[],[],[3,4,16,23],[],[],[],[4,16,24,27],[],[]] ?_
  iterate 11 first | refine op1 tok ?_ | refine op2 tok ?_
  refine qF ?_
  refine qE.stepK [4] (qK rfl (hm false) (by simp)) (by conv=>lhs; simp) rfl ?_
  refine qE.nil ?_
  refine rgn [] [[],[2]] ?_
  iterate 2 refine op1 tok ?_
  refine qA ?_
  exact AW.ret qP
theorem qEC (s:PS) (d:Dc) (hn:s.nodes.length≤1000000):AX Tryz.prog G 95 [.ptr 2 0,.p (.agg [.bool d.neg,.str d.digits,.int .i64 d.scale])] [(2,.vars 42 (psC (s))),(3,.row 36 8 ((s).nodes.map Nd.enc))] (.p (.int .i64 (wC ⟨2,4,[],d,[],[]⟩ s).1)) [2] [(2,.vars 42 (psC ((wC ⟨2,4,[],d,[],[]⟩ s).2))),(3,.row 36 8 (((wC ⟨2,4,[],d,[],[]⟩ s).2).nodes.map Nd.enc))]:=by
 refine AX.introU tok 900 Tryz.func95 (by kernel_rfl) rfl rfl ?_
 simp only [Tryz.f95,qN,List.map_cons,List.map_nil]
 have hp:=yO (G:=G) s ⟨2,4,[],d,[],[]⟩ rfl rfl hn
 simp at hp
 refine rgn [] [[],[0,3]] ?_
 iterate 2 refine op1 tok ?_
 refine qA (rgn [] [[],[],[]] ?_)
 iterate 3 refine op1 tok ?_
 refine qF ?_
 refine qE.stepK [8] (qK rfl hp (by simp)) (by conv=>lhs; simp) rfl ?_
 refine qE.run [[4]] ?_
 refine op1 tok ?_
 refine qA ?_
 exact AW.ret qP
theorem kA (s:PS) (w:List UInt8):AX Tryz.prog G 21 [.ptr 2 0,.p (.sl 1 [.str w])] [(2,.vars 42 (psC (s))),(3,.row 36 8 ((s).nodes.map Nd.enc))] (.tuple []) [2,3] [(2,.vars 42 (psC (zB 6 w s))),(3,.row 36 8 ((zB 6 w s).nodes.map Nd.enc))]:=by
 refine AX.introU tok 900 Tryz.func21 (by kernel_rfl) rfl rfl ?_
 simp only [Tryz.f21,qN,List.map_cons,List.map_nil]
 have h1:=jS (G:=G) s [w]
 have hN:zB 6 w s=qU (qW 6 [w] s).1.2 (qW 6 [w] s).2:=rfl
 rw [hN]
 generalize qW 6 [w] s=R at *
 obtain ⟨⟨t,b⟩,s'⟩:=R
 simp only [List.map_cons,List.map_nil] at h1 ⊢
 have h2:=kS (G:=G) s' b
 refine rgn [] [[],[],[0,8,9,10]] ?_
 iterate 3 refine op1 tok ?_
 refine qA (AW.block ?_)
 refine AW.loop (α:=Nat) (fun k=>k≤1) (fun k=>⟨zO 25 [(0,.ptr 2 0),(8,.p (.sl 1 [.str w])),(9,.p (.int .i64 1)),(10,.p (.int .i64 k))],[2,3],[(2,.vars 42 (psC (if k=0 then s else qU b s'))),(3,.row 36 8 ((if k=0 then s else qU b s').nodes.map Nd.enc))],900⟩) (fun k=>1-k) (0) (by omega) ⟨qD (by simp),rfl,by simp,by simp⟩ ?_
 rintro k hk
 refine rgn [] [[]] ?_
 refine op1 tok ?_
 refine qA (AW.seq (cnd ?_ ?_))
 ·intro h11
  try simp at h11
  obtain rfl:k=0:=by omega
  refine AW.skip (AW.seq (AW.block (rgn [.str w] [[],[],[0,5,8,9,10]] ?_)))
  iterate 3 refine op1 tok ?_
  refine qA (rgn [.str w] [[],[],[]] ?_)
  iterate 3 refine op1 tok ?_
  refine qF ?_
  refine qE.freeze 917 (by conv=>lhs; simp) ?_
  refine qE.stepK [0,8,9,10,18] (qK rfl h1 (by simp)) (by conv=>lhs; simp) rfl ?_
  refine qE.run [[],[],[],[0,8,9,10,20],[0,7,8,9,10]] ?_
  iterate 5 refine op1 tok ?_
  refine qA (rgz [] [[],[]] ?_)
  iterate 2 refine op1 tok ?_
  refine qF ?_
  refine qE.stepK [0,8,9,10] (qK rfl h2 (by simp)) (by conv=>lhs; simp) rfl ?_
  refine qE.nil ?_
  refine rgz [] [[],[0,8,9,10]] ?_
  iterate 2 refine op1 tok ?_
  refine qA ?_
  exact ⟨1,by omega,by omega,qD (by simp),rfl,by simp,by simp⟩
 intro h11
 try simp at h11
 obtain rfl:k=1:=by omega
 refine AW.exit ?_
 simp
 exact qUB
end Go.Proofs.YtbhhphabggcacaaGreatDoor
