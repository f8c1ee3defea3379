import Derived.Test.YtcfcfblbpnpclaaGreatDoorSMet16
namespace Go.Proofs.YtcfcfblbpnpclaaGreatDoor
open Sy Go
set_option maxRecDepth 100000
set_option maxHeartbeats 4000000
set_option linter.unusedSimpArgs false
set_option linter.unusedVariables false
variable {G:qM}
def L5 (m:List Outc):List (List Int):=[wQ 0 m,wQ 1 m,wQ 2 m,wQ 3 m,wQ 4 m]
theorem qGZ {k j:Nat} {l:List Outc} {o:Outc} (h:l[j]?=some o):wQ k (l.take (j+1))=zW (wQ k (l.take j)) (qFD o k):=by
 rw [List.take_add_one,h]; exact xI k _ o
theorem qFX (k:Nat) (l:List Outc) (hl:l.length≤1000):LOK (wQ k l):=by
 induction l using jR with
 | nil=>exact LOK.nil
 | append_singleton l o ih =>
  simp at hl
  have hn:=qDW k l
  rw [xI]
  exact (ih (by omega)).note (by omega) _
theorem qFL (l:List Outc) (hl:l.length≤900):AFn Tryz.prog G 11 [.sl 7 (l.map Outc.enc)] (.sl 3 ((kD l).map qN)):=by
 refine AFn.introU tok Tryz.func11 (by kernel_rfl) rfl rfl ?_
 simp only [Tryz.f11,qT,List.map_cons,List.map_nil]
 have hn0:=qIF (G:=G)
 have htl:∀ k,(l.take k).length≤900:=fun k=>by rw [List.length_take]; omega
 have hok:=fun j k=>qFX j (l.take k) (by have:=htl k; omega)
 have hrl:=fun j k=>Nat.le_trans (qDW j (l.take k)) (Nat.le_trans (htl k) (by omega:900≤1000))
 have e0:wC [[],[],[],[],[]]=wC (L5 (l.take 0)):=rfl
 rw [e0] at hn0
 refine rgn [] [[0]] ?_
 refine op1 tok ?_
 refine qA ?_
 refine AW.seqRegionO [] ?_
 refine qB.stepK [0,5] (qW rfl hn0 (by simp)) (by conv=>lhs; simp) rfl ?_
 refine qB.run [[0,3]] ?_
 refine op1 tok ?_
 refine qA (AW.seq ?_)
 refine AW.renE 708 2 (by simp) (by conv=>lhs; simp) ?_
 refine AW.renE 706 880 (by simp) (by conv=>lhs; simp) ?_
 refine rgn [] [[]] ?_
 refine op1 tok ?_
 refine qA (AW.block ?_)
 refine AW.loop (α:=Nat) (fun k=>k≤l.length) (fun k=>⟨qZ 51 [(0,.p (.sl 7 (l.map Outc.enc))),(3,.ptr 2 0),(4,.p (.int .i64 k))],[],[(2,.vars 85 [.ms 880]),(880,.row 38 1 (wC (L5 (l.take k))))],0⟩) (fun k=>l.length-k) (0) (by omega) ⟨qJ (by simp),rfl,by simp,by simp⟩ ?_
 rintro k hk
 refine AW.seq (rgn [] [[],[],[],[0,3,4,9]] ?_)
 iterate 4 refine op1 tok ?_
 refine qA (cnd ?_ ?_)
 ·intro h9
  try simp at h9
  obtain ⟨o,ho⟩:∃ o,l[k]?=some o:=⟨l[k]'(by omega),by simp [show k<l.length by omega]⟩
  have hgo:(l.map Outc.enc)[k]?=some o.enc:=by rw [List.getElem?_map,ho]; rfl
  rw [Outc.enc_def] at hgo
  have hst:L5 (l.take (k+1))=[zW (wQ 0 (l.take k)) o.docs,zW (wQ 1 (l.take k)) o.outs,zW (wQ 2 (l.take k)) o.charge,zW (wQ 3 (l.take k)) o.out.length,zW (wQ 4 (l.take k)) o.log.length]:=by
   unfold L5; simp only [qGZ ho]; rfl
  have eL:L5 (l.take k)=[wQ 0 (l.take k),wQ 1 (l.take k),wQ 2 (l.take k),wQ 3 (l.take k),wQ 4 (l.take k)]:=rfl
  rw [eL]
  have k0:=hok 0 k
  have k1:=hok 1 k
  have k2:=hok 2 k
  have k3:=hok 3 k
  have k4:=hok 4 k
  have s0:=hrl 0 k
  have s1:=hrl 1 k
  have s2:=hrl 2 k
  have s3:=hrl 3 k
  have s4:=hrl 4 k
  generalize wQ 0 (l.take k)=R0 at *
  generalize wQ 1 (l.take k)=R1 at *
  generalize wQ 2 (l.take k)=R2 at *
  generalize wQ 3 (l.take k)=R3 at *
  generalize wQ 4 (l.take k)=R4 at *
  have n0:=kQ (G:=G) [R0,R1,R2,R3,R4] 0 R0 o.docs rfl k0 s0
  have n1:=kQ (G:=G) [zW R0 o.docs,R1,R2,R3,R4] 1 R1 o.outs rfl k1 s1
  have n2:=kQ (G:=G) [zW R0 o.docs,zW R1 o.outs,R2,R3,R4] 2 R2 o.charge rfl k2 s2
  have n3:=kQ (G:=G) [zW R0 o.docs,zW R1 o.outs,zW R2 o.charge,R3,R4] 3 R3 o.out.length rfl k3 s3
  have n4:=kQ (G:=G) [zW R0 o.docs,zW R1 o.outs,zW R2 o.charge,zW R3 o.out.length,R4] 4 R4 o.log.length rfl k4 s4
  simp only [List.set_cons_zero,List.set_cons_succ] at n0 n1 n2 n3 n4
  rw [show ((0:Nat):Int)=0 from rfl] at n0
  rw [show ((1:Nat):Int)=1 from rfl] at n1
  rw [show ((2:Nat):Int)=2 from rfl] at n2
  rw [show ((3:Nat):Int)=3 from rfl] at n3
  rw [show ((4:Nat):Int)=4 from rfl] at n4
  refine AW.skip (AW.seq (AW.block (rgn [.agg [.int .i64 o.code,.int .i64 o.docs,.int .i64 o.outs,.int .i64 o.charge,.sl 1 (o.errs.map inD),.sl 1 (o.out.map byD),.sl 1 (o.log.map byD)]] [[],[],[],[],[],[0,3,4,12,17]] ?_)))
  iterate 6 refine op1 tok ?_ (hv:=by first | with_reducible exact True.intro | (first | exact hgo | exact ⟨o,ho,Outc.enc_def o⟩ | (simp [ho]; done) | (simp [ho]; omega); done) | omega | simp | (simp +contextual; omega))
  refine qG ?_
  refine qB.stepK [0,3,4] (qW rfl n0 (by simp)) (by conv=>lhs; simp) rfl ?_
  refine qB.nil ?_
  refine rgn [.agg [.int .i64 o.code,.int .i64 o.docs,.int .i64 o.outs,.int .i64 o.charge,.sl 1 (o.errs.map inD),.sl 1 (o.out.map byD),.sl 1 (o.log.map byD)]] [[],[],[],[],[],[0,3,4,19,24]] ?_
  iterate 6 refine op1 tok ?_ (hv:=by first | with_reducible exact True.intro | (first | exact hgo | exact ⟨o,ho,Outc.enc_def o⟩ | (simp [ho]; done) | (simp [ho]; omega); done) | omega | simp | (simp +contextual; omega))
  refine qG ?_
  refine qB.stepK [0,3,4] (qW rfl n1 (by simp)) (by conv=>lhs; simp) rfl ?_
  refine qB.nil ?_
  refine rgn [.agg [.int .i64 o.code,.int .i64 o.docs,.int .i64 o.outs,.int .i64 o.charge,.sl 1 (o.errs.map inD),.sl 1 (o.out.map byD),.sl 1 (o.log.map byD)]] [[],[],[],[],[],[0,3,4,26,31]] ?_
  iterate 6 refine op1 tok ?_ (hv:=by first | with_reducible exact True.intro | (first | exact hgo | exact ⟨o,ho,Outc.enc_def o⟩ | (simp [ho]; done) | (simp [ho]; omega); done) | omega | simp | (simp +contextual; omega))
  refine qG ?_
  refine qB.stepK [0,3,4] (qW rfl n2 (by simp)) (by conv=>lhs; simp) rfl ?_
  refine qB.nil ?_
  refine rgn [.agg [.int .i64 o.code,.int .i64 o.docs,.int .i64 o.outs,.int .i64 o.charge,.sl 1 (o.errs.map inD),.sl 1 (o.out.map byD),.sl 1 (o.log.map byD)]] [[],[],[],[],[],[0,3,4,33,38],[]] ?_
  iterate 7 refine op1 tok ?_ (hv:=by first | with_reducible exact True.intro | (first | exact hgo | exact ⟨o,ho,Outc.enc_def o⟩ | (simp [ho]; done) | (simp [ho]; omega); done) | omega | simp | (simp +contextual; omega))
  refine qG ?_
  refine qB.stepK [0,3,4] (qW rfl n3 (by simp)) (by conv=>lhs; simp) rfl ?_
  refine qB.nil ?_
  refine rgz [.agg [.int .i64 o.code,.int .i64 o.docs,.int .i64 o.outs,.int .i64 o.charge,.sl 1 (o.errs.map inD),.sl 1 (o.out.map byD),.sl 1 (o.log.map byD)]] [[],[],[],[],[],[0,3,4,41,46],[]] ?_
  iterate 7 refine op1 tok ?_ (hv:=by first | with_reducible exact True.intro | (first | exact hgo | exact ⟨o,ho,Outc.enc_def o⟩ | (simp [ho]; done) | (simp [ho]; omega); done) | omega | simp | (simp +contextual; omega))
  refine qG ?_
  refine qB.stepK [0,3,4] (qW rfl n4 (by simp)) (by conv=>lhs; simp) rfl ?_
  refine qB.nil ?_
  refine rgz [] [[],[],[0,3,4]] ?_
  iterate 3 refine op1 tok ?_
  refine qA ?_
  exact ⟨k+1,by omega,by omega,qJ (by simp [hst]),rfl,by simp [hst],by simp [hst]⟩
 intro h9
 try simp at h9
 obtain rfl:k=l.length:=by omega
 rw [List.take_length]
 have hall:=qJB (G:=G) (L5 l) (by simp [L5]) (fun r hr=>by
  have hz:=fun j=>qFX j l (by omega)
  simp only [L5,List.mem_cons,List.not_mem_nil,or_false] at hr
  rcases hr with rfl | rfl | rfl | rfl | rfl <;> exact hz _)
 have hcu:(L5 l).map (fun r=>qN (ofL r))=(kD l).map qN:=by simp [L5,kD,qHA]
 rw [hcu] at hall
 refine AW.exit ?_
 simp
 refine rgn [] [[]] ?_
 refine op1 tok ?_
 refine qG ?_
 refine qB.stepK [50] (qW rfl hall (by simp)) (by conv=>lhs; simp) rfl ?_
 refine qB.freeze 745 (by conv=>lhs; simp) ?_
 refine qB.run [[2]] ?_
 refine op1 tok ?_
 exact qA (AW.ret jE)
end Go.Proofs.YtcfcfblbpnpclaaGreatDoor
