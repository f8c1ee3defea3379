import Derived.Test.YtcfcfblbpnpclaaGreatDoorSMetB
namespace Go.Proofs.YtcfcfblbpnpclaaGreatDoor
open Sy Go
set_option maxRecDepth 100000
set_option maxHeartbeats 4000000
set_option linter.unusedSimpArgs false
set_option linter.unusedVariables false
variable {G:qK}
theorem qKH  : AX Tryz.prog G 17 [.p (.int .i64 5)] [] (.ptr 707 0) [] [(707,.vars 71 [.p (.int .i64 5),.p (.int .u32 0),.p (.int .i32 0),.p (.int .u32 0),.nilsl])]:=by
 refine AX.introU tok 700 Tryz.func17 (by kernel_rfl) rfl rfl ?_
 simp only [Tryz.f17,qV,List.map_cons,List.map_nil]
 refine rgn [] [[0]] ?_
 refine op1 tok ?_
 refine qA (rgn [] [[],[],[],[6],[],[2]] ?_)
 iterate 6 refine op1 tok ?_
 refine qA ?_
 exact AW.ret zG
theorem qCN (l:List Outc) (hl:l.length≤1000):AFn Tryz.prog G 10 [.sl 7 (l.map Outc.enc)] (.sl 3 ((wZ l).map qP)):=by
 refine AFn.introU tok Tryz.func10 (by kernel_rfl) rfl rfl ?_
 simp only [Tryz.f10,qV,List.map_cons,List.map_nil]
 have hn0:=qKH (G:=G)
 have hok:=fun j k=>qIR j (l.take k)
 have htl:∀ k,((l.take k).length:Int)≤999999:=fun k=>by have:=List.length_take_le k l; have:=List.length_take (i:=k) (l:=l); omega
 have eD0:∀ j,qH j (l.take 0)=D0 j:=fun j=>rfl
 refine rgn [] [[0]] ?_
 refine op1 tok ?_
 refine qA ?_
 refine AW.seqRegionO [] ?_
 refine qC.stepK [0,8] (qY rfl hn0 (by simp)) (by conv=>lhs; simp) rfl ?_
 refine qC.run [[0,3]] ?_
 refine op1 tok ?_
 refine qA (AW.seq ?_)
 refine AW.renE 707 2 (by simp) (by conv=>lhs; simp) ?_
 refine rgn [] [[],[],[3,9,10,11]] ?_
 iterate 3 refine op1 tok ?_
 refine qA (AW.block ?_)
 refine AW.loopF (α:=Nat) (fun k=>1≤k) (fun k=>⟨zA 42 [(3,.ptr 2 0),(9,.p (.sl 7 (l.map Outc.enc))),(10,.p (.int .i64 l.length)),(11,.p (.int .i64 k))],[],[(2,.vars 71 [.p (.int .i64 5),.p (.int .u32 1),.p (.int .i32 0),.p (.int .u32 0),.ms 975]),(975,.prow 78 [.ptr 961 0,.ptr 962 0,.ptr 963 0,.ptr 964 0,.ptr 965 0]),(961,.vars 77 (qB (qH 0 (l.take k)))),(962,.vars 77 (qB (qH 1 (l.take k)))),(963,.vars 77 (qB (qH 2 (l.take k)))),(964,.vars 77 (qB (qH 3 (l.take k)))),(965,.vars 77 (qB (qH 4 (l.take k))))],0⟩) (fun k=>l.length-k) (1) (Nat.le_refl _) ?_ ?_
 ·
  refine rgn [] [[]] ?_
  refine op1 tok ?_
  refine qA (AW.seq (cnd ?_ ?_))
  ·intro h12
   try simp at h12
   obtain ⟨o,ho⟩:∃ o,l[0]?=some o:=⟨l[0]'(by first | omega | (simp at h12; omega)),by simp [show 0<l.length by first | omega | (simp at h12; omega)]⟩
   have hgo:(l.map Outc.enc)[0]?=some o.enc:=by rw [List.getElem?_map,ho]; rfl
   rw [Outc.enc_def] at hgo
   have hu:=fun j=>qAZ (k:=j) ho
   simp only [eD0] at hu
   refine AW.skip (AW.seq (AW.block (rgn [.agg [.int .i64 o.code,.int .i64 o.docs,.int .i64 o.outs,.int .i64 o.charge,.sl 1 (o.errs.map inD),.sl 1 (o.out.map byD),.sl 1 (o.log.map byD)]] [[],[],[],[3,5,9,10,11]] ?_)))
   iterate 4 refine op1 tok ?_ (hv:=by first | with_reducible exact True.intro | (first | exact hgo | exact ⟨o,ho,Outc.enc_def o⟩ | (simp [hgo]; done) | (simp [ho]; done) | (simp [ho]; omega); done) | omega | simp | (simp +contextual; omega))
   refine qA (rgn [.int .i64 o.docs,.int .i64 o.outs,.int .i64 o.charge,.int .i64 (o.out.length:Int),.int .i64 (o.log.length:Int)] [[],[],[],[],[],[],[],[3,5,9,10,11,16,18,20,22],[],[],[],[3,9,10,11,16,18,20,23,26],[3,9,10,11,27],[],[]] ?_)
   iterate 15 refine op1 tok ?_
   refine qA (AW.block ?_)
   refine AW.loopL [⟨zA 42 [(3,.ptr 2 0),(9,.p (.sl 7 (l.map Outc.enc))),(10,.p (.int .i64 l.length)),(11,.p (.int .i64 0)),(27,.ms 27),(28,.p (.int .i64 5)),(29,.p (.int .i64 1))],[],[(2,.vars 71 [.p (.int .i64 5),.p (.int .u32 1),.p (.int .i32 0),.p (.int .u32 0),.ms 975]),(975,.prow 78 [.ptr 961 0,.ptr 962 0,.ptr 963 0,.ptr 964 0,.ptr 965 0]),(961,.vars 77 (qB (qL (D0 0) (o.docs)))),(962,.vars 77 (qB (D0 1))),(963,.vars 77 (qB (D0 2))),(964,.vars 77 (qB (D0 3))),(965,.vars 77 (qB (D0 4))),(27,.row 3 1 [.int .i64 o.docs,.int .i64 o.outs,.int .i64 o.charge,.int .i64 (o.out.length:Int),.int .i64 (o.log.length:Int)])],0⟩,⟨zA 42 [(3,.ptr 2 0),(9,.p (.sl 7 (l.map Outc.enc))),(10,.p (.int .i64 l.length)),(11,.p (.int .i64 0)),(27,.ms 27),(28,.p (.int .i64 5)),(29,.p (.int .i64 2))],[],[(2,.vars 71 [.p (.int .i64 5),.p (.int .u32 1),.p (.int .i32 0),.p (.int .u32 0),.ms 975]),(975,.prow 78 [.ptr 961 0,.ptr 962 0,.ptr 963 0,.ptr 964 0,.ptr 965 0]),(961,.vars 77 (qB (qL (D0 0) (o.docs)))),(962,.vars 77 (qB (qL (D0 1) (o.outs)))),(963,.vars 77 (qB (D0 2))),(964,.vars 77 (qB (D0 3))),(965,.vars 77 (qB (D0 4))),(27,.row 3 1 [.int .i64 o.docs,.int .i64 o.outs,.int .i64 o.charge,.int .i64 (o.out.length:Int),.int .i64 (o.log.length:Int)])],0⟩,⟨zA 42 [(3,.ptr 2 0),(9,.p (.sl 7 (l.map Outc.enc))),(10,.p (.int .i64 l.length)),(11,.p (.int .i64 0)),(27,.ms 27),(28,.p (.int .i64 5)),(29,.p (.int .i64 3))],[],[(2,.vars 71 [.p (.int .i64 5),.p (.int .u32 1),.p (.int .i32 0),.p (.int .u32 0),.ms 975]),(975,.prow 78 [.ptr 961 0,.ptr 962 0,.ptr 963 0,.ptr 964 0,.ptr 965 0]),(961,.vars 77 (qB (qL (D0 0) (o.docs)))),(962,.vars 77 (qB (qL (D0 1) (o.outs)))),(963,.vars 77 (qB (qL (D0 2) (o.charge)))),(964,.vars 77 (qB (D0 3))),(965,.vars 77 (qB (D0 4))),(27,.row 3 1 [.int .i64 o.docs,.int .i64 o.outs,.int .i64 o.charge,.int .i64 (o.out.length:Int),.int .i64 (o.log.length:Int)])],0⟩,⟨zA 42 [(3,.ptr 2 0),(9,.p (.sl 7 (l.map Outc.enc))),(10,.p (.int .i64 l.length)),(11,.p (.int .i64 0)),(27,.ms 27),(28,.p (.int .i64 5)),(29,.p (.int .i64 4))],[],[(2,.vars 71 [.p (.int .i64 5),.p (.int .u32 1),.p (.int .i32 0),.p (.int .u32 0),.ms 975]),(975,.prow 78 [.ptr 961 0,.ptr 962 0,.ptr 963 0,.ptr 964 0,.ptr 965 0]),(961,.vars 77 (qB (qL (D0 0) (o.docs)))),(962,.vars 77 (qB (qL (D0 1) (o.outs)))),(963,.vars 77 (qB (qL (D0 2) (o.charge)))),(964,.vars 77 (qB (qL (D0 3) ((o.out.length:Int))))),(965,.vars 77 (qB (D0 4))),(27,.row 3 1 [.int .i64 o.docs,.int .i64 o.outs,.int .i64 o.charge,.int .i64 (o.out.length:Int),.int .i64 (o.log.length:Int)])],0⟩,⟨zA 42 [(3,.ptr 2 0),(9,.p (.sl 7 (l.map Outc.enc))),(10,.p (.int .i64 l.length)),(11,.p (.int .i64 0)),(27,.ms 27),(28,.p (.int .i64 5)),(29,.p (.int .i64 5))],[],[(2,.vars 71 [.p (.int .i64 5),.p (.int .u32 1),.p (.int .i32 0),.p (.int .u32 0),.ms 975]),(975,.prow 78 [.ptr 961 0,.ptr 962 0,.ptr 963 0,.ptr 964 0,.ptr 965 0]),(961,.vars 77 (qB (qL (D0 0) (o.docs)))),(962,.vars 77 (qB (qL (D0 1) (o.outs)))),(963,.vars 77 (qB (qL (D0 2) (o.charge)))),(964,.vars 77 (qB (qL (D0 3) ((o.out.length:Int))))),(965,.vars 77 (qB (qL (D0 4) ((o.log.length:Int))))),(27,.row 3 1 [.int .i64 o.docs,.int .i64 o.outs,.int .i64 o.charge,.int .i64 (o.out.length:Int),.int .i64 (o.log.length:Int)])],0⟩] (⟨zA 42 [(3,.ptr 2 0),(9,.p (.sl 7 (l.map Outc.enc))),(10,.p (.int .i64 l.length)),(11,.p (.int .i64 0)),(27,.ms 27),(28,.p (.int .i64 5)),(29,.p (.int .i64 0))],[],[(2,.vars 71 [.p (.int .i64 5),.p (.int .u32 0),.p (.int .i32 0),.p (.int .u32 0),.nilsl]),(27,.row 3 1 [.int .i64 o.docs,.int .i64 o.outs,.int .i64 o.charge,.int .i64 (o.out.length:Int),.int .i64 (o.log.length:Int)])],0⟩) ⟨qM (by simp),rfl,by simp,by simp⟩ ?_
   refine ⟨?_, ?_, ?_, ?_, ?_, ?_⟩
   ·
    refine rgn [] [[]] ?_
    refine op1 tok ?_
    refine qA (AW.seq (cnd ?_ ?_))
    ·intro h30
     try simp at h30
     skip
     refine AW.skip (AW.seq (AW.block (rgn [.int .i64 o.docs] [[],[],[],[],[3,6,7,9,10,11,27,28,29]] ?_)))
     iterate 5 refine op1 tok ?_
     refine qA (rgz [] [[],[],[]] ?_)
     iterate 3 refine op1 tok ?_
     refine qG ?_
     refine qC.stepK [3,9,10,11,27,28,29] (qY rfl (qGY (G:=G) (o.docs)) (by simp)) (by conv=>lhs; simp) rfl ?_
     refine qC.nil ?_
     refine rgz [] [[],[3,9,10,11,27,28,29]] ?_
     iterate 2 refine op1 tok ?_
     refine qA ?_
     exact ⟨qM (by simp),rfl,by simp,by simp⟩
    intro h30
    try simp at h30
   ·
    refine rgn [] [[]] ?_
    refine op1 tok ?_
    refine qA (AW.seq (cnd ?_ ?_))
    ·intro h30
     try simp at h30
     skip
     refine AW.skip (AW.seq (AW.block (rgn [.int .i64 o.outs] [[],[],[],[],[3,6,7,9,10,11,27,28,29]] ?_)))
     iterate 5 refine op1 tok ?_
     refine qA (rgz [] [[],[],[]] ?_)
     iterate 3 refine op1 tok ?_
     refine qG ?_
     refine qC.stepK [3,9,10,11,27,28,29] (qY rfl (qCC (G:=G) (fun j=>match j with | 0=>qL (D0 0) (o.docs) | 1=>D0 1 | 2=>D0 2 | 3=>D0 3 | _=>D0 4) (o.outs) ((qER 1).mono (by omega))) (by simp)) (by conv=>lhs; simp) rfl ?_
     refine qC.nil ?_
     refine rgz [] [[],[3,9,10,11,27,28,29]] ?_
     iterate 2 refine op1 tok ?_
     refine qA ?_
     exact ⟨qM (by simp),rfl,by simp,by simp⟩
    intro h30
    try simp at h30
   ·
    refine rgn [] [[]] ?_
    refine op1 tok ?_
    refine qA (AW.seq (cnd ?_ ?_))
    ·intro h30
     try simp at h30
     skip
     refine AW.skip (AW.seq (AW.block (rgn [.int .i64 o.charge] [[],[],[],[],[3,6,7,9,10,11,27,28,29]] ?_)))
     iterate 5 refine op1 tok ?_
     refine qA (rgz [] [[],[],[]] ?_)
     iterate 3 refine op1 tok ?_
     refine qG ?_
     refine qC.stepK [3,9,10,11,27,28,29] (qY rfl (qCB (G:=G) (fun j=>match j with | 0=>qL (D0 0) (o.docs) | 1=>qL (D0 1) (o.outs) | 2=>D0 2 | 3=>D0 3 | _=>D0 4) (o.charge) ((qER 2).mono (by omega))) (by simp)) (by conv=>lhs; simp) rfl ?_
     refine qC.nil ?_
     refine rgz [] [[],[3,9,10,11,27,28,29]] ?_
     iterate 2 refine op1 tok ?_
     refine qA ?_
     exact ⟨qM (by simp),rfl,by simp,by simp⟩
    intro h30
    try simp at h30
   ·
    refine rgn [] [[]] ?_
    refine op1 tok ?_
    refine qA (AW.seq (cnd ?_ ?_))
    ·intro h30
     try simp at h30
     skip
     refine AW.skip (AW.seq (AW.block (rgn [.int .i64 (o.out.length:Int)] [[],[],[],[],[3,6,7,9,10,11,27,28,29]] ?_)))
     iterate 5 refine op1 tok ?_
     refine qA (rgz [] [[],[],[]] ?_)
     iterate 3 refine op1 tok ?_
     refine qG ?_
     refine qC.stepK [3,9,10,11,27,28,29] (qY rfl (qCA (G:=G) (fun j=>match j with | 0=>qL (D0 0) (o.docs) | 1=>qL (D0 1) (o.outs) | 2=>qL (D0 2) (o.charge) | 3=>D0 3 | _=>D0 4) ((o.out.length:Int)) ((qER 3).mono (by omega))) (by simp)) (by conv=>lhs; simp) rfl ?_
     refine qC.nil ?_
     refine rgz [] [[],[3,9,10,11,27,28,29]] ?_
     iterate 2 refine op1 tok ?_
     refine qA ?_
     exact ⟨qM (by simp),rfl,by simp,by simp⟩
    intro h30
    try simp at h30
   ·
    refine rgn [] [[]] ?_
    refine op1 tok ?_
    refine qA (AW.seq (cnd ?_ ?_))
    ·intro h30
     try simp at h30
     skip
     refine AW.skip (AW.seq (AW.block (rgn [.int .i64 (o.log.length:Int)] [[],[],[],[],[3,6,7,9,10,11,27,28,29]] ?_)))
     iterate 5 refine op1 tok ?_
     refine qA (rgz [] [[],[],[]] ?_)
     iterate 3 refine op1 tok ?_
     refine qG ?_
     refine qC.stepK [3,9,10,11,27,28,29] (qY rfl (qBZ (G:=G) (fun j=>match j with | 0=>qL (D0 0) (o.docs) | 1=>qL (D0 1) (o.outs) | 2=>qL (D0 2) (o.charge) | 3=>qL (D0 3) ((o.out.length:Int)) | _=>D0 4) ((o.log.length:Int)) ((qER 4).mono (by omega))) (by simp)) (by conv=>lhs; simp) rfl ?_
     refine qC.nil ?_
     refine rgz [] [[],[3,9,10,11,27,28,29]] ?_
     iterate 2 refine op1 tok ?_
     refine qA ?_
     exact ⟨qM (by simp),rfl,by simp,by simp⟩
    intro h30
    try simp at h30
   ·
    refine rgn [] [[]] ?_
    refine op1 tok ?_
    refine qA (AW.seq (cnd ?_ ?_))
    ·intro h30
     try simp at h30
    intro h30
    try simp at h30
    skip
    refine AW.exit ?_
    simp
    refine rgz [] [[],[3,9,10,11]] ?_
    iterate 2 refine op1 tok ?_
    refine qA ?_
    exact ⟨qM (by simp [show qH 0 (l.take 1)=qL (D0 0) (o.docs) from hu 0,show qH 1 (l.take 1)=qL (D0 1) (o.outs) from hu 1,show qH 2 (l.take 1)=qL (D0 2) (o.charge) from hu 2,show qH 3 (l.take 1)=qL (D0 3) ((o.out.length:Int)) from hu 3,show qH 4 (l.take 1)=qL (D0 4) ((o.log.length:Int)) from hu 4]),rfl,by simp [show qH 0 (l.take 1)=qL (D0 0) (o.docs) from hu 0,show qH 1 (l.take 1)=qL (D0 1) (o.outs) from hu 1,show qH 2 (l.take 1)=qL (D0 2) (o.charge) from hu 2,show qH 3 (l.take 1)=qL (D0 3) ((o.out.length:Int)) from hu 3,show qH 4 (l.take 1)=qL (D0 4) ((o.log.length:Int)) from hu 4],by simp [show qH 0 (l.take 1)=qL (D0 0) (o.docs) from hu 0,show qH 1 (l.take 1)=qL (D0 1) (o.outs) from hu 1,show qH 2 (l.take 1)=qL (D0 2) (o.charge) from hu 2,show qH 3 (l.take 1)=qL (D0 3) ((o.out.length:Int)) from hu 3,show qH 4 (l.take 1)=qL (D0 4) ((o.log.length:Int)) from hu 4]⟩
  intro h12
  try simp at h12
  have hnil:l=[]:=by first | exact h12 | exact List.eq_nil_of_length_eq_zero (by first | omega | (simp at h12; exact h12) | (simp at h12; omega))
  subst hnil
  have hcu:(wZ []).map qP=[qP (D0 0),qP (D0 1),qP (D0 2),qP (D0 3),qP (D0 4)]:=rfl
  rw [hcu]
  have hall:=qIZ (G:=G)
  refine AW.exit ?_
  simp
  refine rgn [] [[]] ?_
  refine op1 tok ?_
  refine qG ?_
  refine qC.stepK [41] (qY rfl hall (by simp)) (by conv=>lhs; simp) rfl ?_
  refine qC.freeze 900 (by conv=>lhs; simp) ?_
  refine qC.run [[2]] ?_
  refine op1 tok ?_
  exact qA (AW.ret xP)
 ·
  rintro k hk1
  refine rgn [] [[]] ?_
  refine op1 tok ?_
  refine qA (AW.seq (cnd ?_ ?_))
  ·intro h12
   try simp at h12
   obtain ⟨o,ho⟩:∃ o,l[k]?=some o:=⟨l[k]'(by first | omega | (simp at h12; omega)),by simp [show k<l.length by first | omega | (simp at h12; omega)]⟩
   have hgo:(l.map Outc.enc)[k]?=some o.enc:=by rw [List.getElem?_map,ho]; rfl
   rw [Outc.enc_def] at hgo
   have hu:=fun j=>qAZ (k:=j) ho
   refine AW.skip (AW.seq (AW.block (rgn [.agg [.int .i64 o.code,.int .i64 o.docs,.int .i64 o.outs,.int .i64 o.charge,.sl 1 (o.errs.map inD),.sl 1 (o.out.map byD),.sl 1 (o.log.map byD)]] [[],[],[],[3,5,9,10,11]] ?_)))
   iterate 4 refine op1 tok ?_ (hv:=by first | with_reducible exact True.intro | (first | exact hgo | exact ⟨o,ho,Outc.enc_def o⟩ | (simp [hgo]; done) | (simp [ho]; done) | (simp [ho]; omega); done) | omega | simp | (simp +contextual; omega))
   refine qA (rgn [.int .i64 o.docs,.int .i64 o.outs,.int .i64 o.charge,.int .i64 (o.out.length:Int),.int .i64 (o.log.length:Int)] [[],[],[],[],[],[],[],[3,5,9,10,11,16,18,20,22],[],[],[],[3,9,10,11,16,18,20,23,26],[3,9,10,11,27],[],[]] ?_)
   iterate 15 refine op1 tok ?_
   refine qA (AW.block ?_)
   refine AW.loopL [⟨zA 42 [(3,.ptr 2 0),(9,.p (.sl 7 (l.map Outc.enc))),(10,.p (.int .i64 l.length)),(11,.p (.int .i64 k)),(27,.ms 27),(28,.p (.int .i64 5)),(29,.p (.int .i64 1))],[],[(2,.vars 71 [.p (.int .i64 5),.p (.int .u32 1),.p (.int .i32 0),.p (.int .u32 0),.ms 975]),(975,.prow 78 [.ptr 961 0,.ptr 962 0,.ptr 963 0,.ptr 964 0,.ptr 965 0]),(961,.vars 77 (qB (qL (qH 0 (l.take k)) (o.docs)))),(962,.vars 77 (qB (qH 1 (l.take k)))),(963,.vars 77 (qB (qH 2 (l.take k)))),(964,.vars 77 (qB (qH 3 (l.take k)))),(965,.vars 77 (qB (qH 4 (l.take k)))),(27,.row 3 1 [.int .i64 o.docs,.int .i64 o.outs,.int .i64 o.charge,.int .i64 (o.out.length:Int),.int .i64 (o.log.length:Int)])],0⟩,⟨zA 42 [(3,.ptr 2 0),(9,.p (.sl 7 (l.map Outc.enc))),(10,.p (.int .i64 l.length)),(11,.p (.int .i64 k)),(27,.ms 27),(28,.p (.int .i64 5)),(29,.p (.int .i64 2))],[],[(2,.vars 71 [.p (.int .i64 5),.p (.int .u32 1),.p (.int .i32 0),.p (.int .u32 0),.ms 975]),(975,.prow 78 [.ptr 961 0,.ptr 962 0,.ptr 963 0,.ptr 964 0,.ptr 965 0]),(961,.vars 77 (qB (qL (qH 0 (l.take k)) (o.docs)))),(962,.vars 77 (qB (qL (qH 1 (l.take k)) (o.outs)))),(963,.vars 77 (qB (qH 2 (l.take k)))),(964,.vars 77 (qB (qH 3 (l.take k)))),(965,.vars 77 (qB (qH 4 (l.take k)))),(27,.row 3 1 [.int .i64 o.docs,.int .i64 o.outs,.int .i64 o.charge,.int .i64 (o.out.length:Int),.int .i64 (o.log.length:Int)])],0⟩,⟨zA 42 [(3,.ptr 2 0),(9,.p (.sl 7 (l.map Outc.enc))),(10,.p (.int .i64 l.length)),(11,.p (.int .i64 k)),(27,.ms 27),(28,.p (.int .i64 5)),(29,.p (.int .i64 3))],[],[(2,.vars 71 [.p (.int .i64 5),.p (.int .u32 1),.p (.int .i32 0),.p (.int .u32 0),.ms 975]),(975,.prow 78 [.ptr 961 0,.ptr 962 0,.ptr 963 0,.ptr 964 0,.ptr 965 0]),(961,.vars 77 (qB (qL (qH 0 (l.take k)) (o.docs)))),(962,.vars 77 (qB (qL (qH 1 (l.take k)) (o.outs)))),(963,.vars 77 (qB (qL (qH 2 (l.take k)) (o.charge)))),(964,.vars 77 (qB (qH 3 (l.take k)))),(965,.vars 77 (qB (qH 4 (l.take k)))),(27,.row 3 1 [.int .i64 o.docs,.int .i64 o.outs,.int .i64 o.charge,.int .i64 (o.out.length:Int),.int .i64 (o.log.length:Int)])],0⟩,⟨zA 42 [(3,.ptr 2 0),(9,.p (.sl 7 (l.map Outc.enc))),(10,.p (.int .i64 l.length)),(11,.p (.int .i64 k)),(27,.ms 27),(28,.p (.int .i64 5)),(29,.p (.int .i64 4))],[],[(2,.vars 71 [.p (.int .i64 5),.p (.int .u32 1),.p (.int .i32 0),.p (.int .u32 0),.ms 975]),(975,.prow 78 [.ptr 961 0,.ptr 962 0,.ptr 963 0,.ptr 964 0,.ptr 965 0]),(961,.vars 77 (qB (qL (qH 0 (l.take k)) (o.docs)))),(962,.vars 77 (qB (qL (qH 1 (l.take k)) (o.outs)))),(963,.vars 77 (qB (qL (qH 2 (l.take k)) (o.charge)))),(964,.vars 77 (qB (qL (qH 3 (l.take k)) ((o.out.length:Int))))),(965,.vars 77 (qB (qH 4 (l.take k)))),(27,.row 3 1 [.int .i64 o.docs,.int .i64 o.outs,.int .i64 o.charge,.int .i64 (o.out.length:Int),.int .i64 (o.log.length:Int)])],0⟩,⟨zA 42 [(3,.ptr 2 0),(9,.p (.sl 7 (l.map Outc.enc))),(10,.p (.int .i64 l.length)),(11,.p (.int .i64 k)),(27,.ms 27),(28,.p (.int .i64 5)),(29,.p (.int .i64 5))],[],[(2,.vars 71 [.p (.int .i64 5),.p (.int .u32 1),.p (.int .i32 0),.p (.int .u32 0),.ms 975]),(975,.prow 78 [.ptr 961 0,.ptr 962 0,.ptr 963 0,.ptr 964 0,.ptr 965 0]),(961,.vars 77 (qB (qL (qH 0 (l.take k)) (o.docs)))),(962,.vars 77 (qB (qL (qH 1 (l.take k)) (o.outs)))),(963,.vars 77 (qB (qL (qH 2 (l.take k)) (o.charge)))),(964,.vars 77 (qB (qL (qH 3 (l.take k)) ((o.out.length:Int))))),(965,.vars 77 (qB (qL (qH 4 (l.take k)) ((o.log.length:Int))))),(27,.row 3 1 [.int .i64 o.docs,.int .i64 o.outs,.int .i64 o.charge,.int .i64 (o.out.length:Int),.int .i64 (o.log.length:Int)])],0⟩] (⟨zA 42 [(3,.ptr 2 0),(9,.p (.sl 7 (l.map Outc.enc))),(10,.p (.int .i64 l.length)),(11,.p (.int .i64 k)),(27,.ms 27),(28,.p (.int .i64 5)),(29,.p (.int .i64 0))],[],[(2,.vars 71 [.p (.int .i64 5),.p (.int .u32 1),.p (.int .i32 0),.p (.int .u32 0),.ms 975]),(975,.prow 78 [.ptr 961 0,.ptr 962 0,.ptr 963 0,.ptr 964 0,.ptr 965 0]),(961,.vars 77 (qB (qH 0 (l.take k)))),(962,.vars 77 (qB (qH 1 (l.take k)))),(963,.vars 77 (qB (qH 2 (l.take k)))),(964,.vars 77 (qB (qH 3 (l.take k)))),(965,.vars 77 (qB (qH 4 (l.take k)))),(27,.row 3 1 [.int .i64 o.docs,.int .i64 o.outs,.int .i64 o.charge,.int .i64 (o.out.length:Int),.int .i64 (o.log.length:Int)])],0⟩) ⟨qM (by simp),rfl,by simp,by simp⟩ ?_
   refine ⟨?_, ?_, ?_, ?_, ?_, ?_⟩
   ·
    refine rgn [] [[]] ?_
    refine op1 tok ?_
    refine qA (AW.seq (cnd ?_ ?_))
    ·intro h30
     try simp at h30
     skip
     refine AW.skip (AW.seq (AW.block (rgn [.int .i64 o.docs] [[],[],[],[],[3,6,7,9,10,11,27,28,29]] ?_)))
     iterate 5 refine op1 tok ?_
     refine qA (rgz [] [[],[],[]] ?_)
     iterate 3 refine op1 tok ?_
     refine qG ?_
     refine qC.stepK [3,9,10,11,27,28,29] (qY rfl (qGX (G:=G) (fun j=>match j with | 0=>qH 0 (l.take k) | 1=>qH 1 (l.take k) | 2=>qH 2 (l.take k) | 3=>qH 3 (l.take k) | _=>qH 4 (l.take k)) (o.docs) ((hok 0 k).mono (htl k))) (by simp)) (by conv=>lhs; simp) rfl ?_
     refine qC.nil ?_
     refine rgz [] [[],[3,9,10,11,27,28,29]] ?_
     iterate 2 refine op1 tok ?_
     refine qA ?_
     exact ⟨qM (by simp),rfl,by simp,by simp⟩
    intro h30
    try simp at h30
   ·
    refine rgn [] [[]] ?_
    refine op1 tok ?_
    refine qA (AW.seq (cnd ?_ ?_))
    ·intro h30
     try simp at h30
     skip
     refine AW.skip (AW.seq (AW.block (rgn [.int .i64 o.outs] [[],[],[],[],[3,6,7,9,10,11,27,28,29]] ?_)))
     iterate 5 refine op1 tok ?_
     refine qA (rgz [] [[],[],[]] ?_)
     iterate 3 refine op1 tok ?_
     refine qG ?_
     refine qC.stepK [3,9,10,11,27,28,29] (qY rfl (qCC (G:=G) (fun j=>match j with | 0=>qL (qH 0 (l.take k)) (o.docs) | 1=>qH 1 (l.take k) | 2=>qH 2 (l.take k) | 3=>qH 3 (l.take k) | _=>qH 4 (l.take k)) (o.outs) ((hok 1 k).mono (htl k))) (by simp)) (by conv=>lhs; simp) rfl ?_
     refine qC.nil ?_
     refine rgz [] [[],[3,9,10,11,27,28,29]] ?_
     iterate 2 refine op1 tok ?_
     refine qA ?_
     exact ⟨qM (by simp),rfl,by simp,by simp⟩
    intro h30
    try simp at h30
   ·
    refine rgn [] [[]] ?_
    refine op1 tok ?_
    refine qA (AW.seq (cnd ?_ ?_))
    ·intro h30
     try simp at h30
     skip
     refine AW.skip (AW.seq (AW.block (rgn [.int .i64 o.charge] [[],[],[],[],[3,6,7,9,10,11,27,28,29]] ?_)))
     iterate 5 refine op1 tok ?_
     refine qA (rgz [] [[],[],[]] ?_)
     iterate 3 refine op1 tok ?_
     refine qG ?_
     refine qC.stepK [3,9,10,11,27,28,29] (qY rfl (qCB (G:=G) (fun j=>match j with | 0=>qL (qH 0 (l.take k)) (o.docs) | 1=>qL (qH 1 (l.take k)) (o.outs) | 2=>qH 2 (l.take k) | 3=>qH 3 (l.take k) | _=>qH 4 (l.take k)) (o.charge) ((hok 2 k).mono (htl k))) (by simp)) (by conv=>lhs; simp) rfl ?_
     refine qC.nil ?_
     refine rgz [] [[],[3,9,10,11,27,28,29]] ?_
     iterate 2 refine op1 tok ?_
     refine qA ?_
     exact ⟨qM (by simp),rfl,by simp,by simp⟩
    intro h30
    try simp at h30
   ·
    refine rgn [] [[]] ?_
    refine op1 tok ?_
    refine qA (AW.seq (cnd ?_ ?_))
    ·intro h30
     try simp at h30
     skip
     refine AW.skip (AW.seq (AW.block (rgn [.int .i64 (o.out.length:Int)] [[],[],[],[],[3,6,7,9,10,11,27,28,29]] ?_)))
     iterate 5 refine op1 tok ?_
     refine qA (rgz [] [[],[],[]] ?_)
     iterate 3 refine op1 tok ?_
     refine qG ?_
     refine qC.stepK [3,9,10,11,27,28,29] (qY rfl (qCA (G:=G) (fun j=>match j with | 0=>qL (qH 0 (l.take k)) (o.docs) | 1=>qL (qH 1 (l.take k)) (o.outs) | 2=>qL (qH 2 (l.take k)) (o.charge) | 3=>qH 3 (l.take k) | _=>qH 4 (l.take k)) ((o.out.length:Int)) ((hok 3 k).mono (htl k))) (by simp)) (by conv=>lhs; simp) rfl ?_
     refine qC.nil ?_
     refine rgz [] [[],[3,9,10,11,27,28,29]] ?_
     iterate 2 refine op1 tok ?_
     refine qA ?_
     exact ⟨qM (by simp),rfl,by simp,by simp⟩
    intro h30
    try simp at h30
   ·
    refine rgn [] [[]] ?_
    refine op1 tok ?_
    refine qA (AW.seq (cnd ?_ ?_))
    ·intro h30
     try simp at h30
     skip
     refine AW.skip (AW.seq (AW.block (rgn [.int .i64 (o.log.length:Int)] [[],[],[],[],[3,6,7,9,10,11,27,28,29]] ?_)))
     iterate 5 refine op1 tok ?_
     refine qA (rgz [] [[],[],[]] ?_)
     iterate 3 refine op1 tok ?_
     refine qG ?_
     refine qC.stepK [3,9,10,11,27,28,29] (qY rfl (qBZ (G:=G) (fun j=>match j with | 0=>qL (qH 0 (l.take k)) (o.docs) | 1=>qL (qH 1 (l.take k)) (o.outs) | 2=>qL (qH 2 (l.take k)) (o.charge) | 3=>qL (qH 3 (l.take k)) ((o.out.length:Int)) | _=>qH 4 (l.take k)) ((o.log.length:Int)) ((hok 4 k).mono (htl k))) (by simp)) (by conv=>lhs; simp) rfl ?_
     refine qC.nil ?_
     refine rgz [] [[],[3,9,10,11,27,28,29]] ?_
     iterate 2 refine op1 tok ?_
     refine qA ?_
     exact ⟨qM (by simp),rfl,by simp,by simp⟩
    intro h30
    try simp at h30
   ·
    refine rgn [] [[]] ?_
    refine op1 tok ?_
    refine qA (AW.seq (cnd ?_ ?_))
    ·intro h30
     try simp at h30
    intro h30
    try simp at h30
    skip
    refine AW.exit ?_
    simp
    refine rgz [] [[],[3,9,10,11]] ?_
    iterate 2 refine op1 tok ?_
    refine qA ?_
    exact ⟨k+1,by omega,by omega,qM (by simp [show qH 0 (l.take (k+1))=qL (qH 0 (l.take k)) (o.docs) from hu 0,show qH 1 (l.take (k+1))=qL (qH 1 (l.take k)) (o.outs) from hu 1,show qH 2 (l.take (k+1))=qL (qH 2 (l.take k)) (o.charge) from hu 2,show qH 3 (l.take (k+1))=qL (qH 3 (l.take k)) ((o.out.length:Int)) from hu 3,show qH 4 (l.take (k+1))=qL (qH 4 (l.take k)) ((o.log.length:Int)) from hu 4]),rfl,by simp [show qH 0 (l.take (k+1))=qL (qH 0 (l.take k)) (o.docs) from hu 0,show qH 1 (l.take (k+1))=qL (qH 1 (l.take k)) (o.outs) from hu 1,show qH 2 (l.take (k+1))=qL (qH 2 (l.take k)) (o.charge) from hu 2,show qH 3 (l.take (k+1))=qL (qH 3 (l.take k)) ((o.out.length:Int)) from hu 3,show qH 4 (l.take (k+1))=qL (qH 4 (l.take k)) ((o.log.length:Int)) from hu 4],by simp [show qH 0 (l.take (k+1))=qL (qH 0 (l.take k)) (o.docs) from hu 0,show qH 1 (l.take (k+1))=qL (qH 1 (l.take k)) (o.outs) from hu 1,show qH 2 (l.take (k+1))=qL (qH 2 (l.take k)) (o.charge) from hu 2,show qH 3 (l.take (k+1))=qL (qH 3 (l.take k)) ((o.out.length:Int)) from hu 3,show qH 4 (l.take (k+1))=qL (qH 4 (l.take k)) ((o.log.length:Int)) from hu 4]⟩
  intro h12
  try simp at h12
  have hall:l.take k=l:=List.take_of_length_le (by first | omega | (simp at h12; omega))
  rw [hall]
  have hcu:(wZ l).map qP=[qP (qH 0 l),qP (qH 1 l),qP (qH 2 l),qP (qH 3 l),qP (qH 4 l)]:=rfl
  rw [hcu]
  have hall:=qIY (G:=G) (fun j=>qH j l)
  refine AW.exit ?_
  simp
  refine rgn [] [[]] ?_
  refine op1 tok ?_
  refine qG ?_
  refine qC.stepK [41] (qY rfl hall (by simp)) (by conv=>lhs; simp) rfl ?_
  refine qC.freeze 900 (by conv=>lhs; simp) ?_
  refine qC.run [[2]] ?_
  refine op1 tok ?_
  exact qA (AW.ret xP)
end Go.Proofs.YtcfcfblbpnpclaaGreatDoor
