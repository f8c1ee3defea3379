import Derived.Test.YtcfcfblbpnpclaaGreatDoorSShowD
import Derived.Test.YtcfcfblbpnpclaaGreatDoorSPlay0
import Derived.Test.YtcfcfblbpnpclaaGreatDoorSCountD
import Derived.Test.YtcfcfblbpnpclaaGreatDoorSCount22
import Derived.Test.YtcfcfblbpnpclaaGreatDoorSDeskP
namespace Go.Proofs.YtcfcfblbpnpclaaGreatDoor
open Sy Go
set_option maxRecDepth 100000
set_option maxHeartbeats 4000000
set_option linter.unusedSimpArgs false
set_option linter.unusedVariables false
variable {G:qK}
theorem qIO (o:Outc):AFn Tryz.prog G 6 [o.enc] ((qKP o).enc):=by
 refine AFn.introU tok Tryz.func6 (by kernel_rfl) rfl rfl ?_
 simp only [Tryz.f6,qV,List.map_cons,List.map_nil]
 have e:(qKP o).enc = .agg [.int .i64 o.code,.int .i64 o.docs,.int .i64 o.outs,.int .i64 o.charge,.sl 1 ((o.errs.take 70).map inD),.sl 1 ((o.out.take 600).map byD),.sl 1 ((o.log.take 600).map byD)]:=rfl
 rw [e,Outc.enc_def]
 refine rgn [] [[],[1,2]] ?_
 iterate 2 refine op1 tok ?_
 refine qA ?_
 refine AW.join (α:=Unit) (fun _=>True) (fun a=>⟨zA 28 [(1,.ptr 1 0),(2,.ptr 2 0)],[],[(1,.vars 28 [.p (.int .i64 o.code),.p (.int .i64 o.docs),.p (.int .i64 o.outs),.p (.int .i64 o.charge),.p (.sl 1 ((o.errs.take 70).map inD)),.p (.sl 1 (o.out.map byD)),.p (.sl 1 (o.log.map byD))]),(2,.vars 28 [.p (.int .i64 0),.p (.int .i64 0),.p (.int .i64 0),.p (.int .i64 0),.nilsl,.nilsl,.nilsl])],0⟩) ?_ ?_
 ·
  refine rgn [] [[],[],[],[1,2,6]] ?_
  iterate 4 refine op1 tok ?_
  refine qA (cnd ?_ ?_)
  ·intro h6
   try simp at h6
   skip
   refine rgz [] [[],[],[],[],[1,2]] ?_
   iterate 5 refine op1 tok ?_
   refine qA ?_
   exact ⟨(),trivial,qM (by simp),rfl,by simp,by simp⟩
  intro h6
  try simp at h6
  have hle:List.take 70 (o.errs.map inD)=o.errs.map inD:=List.take_of_length_le (by rw [List.length_map]; first | omega | (simp at h6; omega))
  refine AW.skip ?_
  exact ⟨(),trivial,qM (by simp [hle]),rfl,by simp [hle],by simp [hle]⟩
 ·
  rintro a hI
  refine AW.join (α:=Unit) (fun _=>True) (fun a=>⟨zA 28 [(1,.ptr 1 0),(2,.ptr 2 0)],[],[(1,.vars 28 [.p (.int .i64 o.code),.p (.int .i64 o.docs),.p (.int .i64 o.outs),.p (.int .i64 o.charge),.p (.sl 1 ((o.errs.take 70).map inD)),.p (.sl 1 ((o.out.take 600).map byD)),.p (.sl 1 (o.log.map byD))]),(2,.vars 28 [.p (.int .i64 0),.p (.int .i64 0),.p (.int .i64 0),.p (.int .i64 0),.nilsl,.nilsl,.nilsl])],0⟩) ?_ ?_
  ·
   refine rgn [] [[],[],[],[1,2,14]] ?_
   iterate 4 refine op1 tok ?_
   refine qA (cnd ?_ ?_)
   ·intro h14
    try simp at h14
    skip
    refine rgz [] [[],[],[],[],[1,2]] ?_
    iterate 5 refine op1 tok ?_
    refine qA ?_
    exact ⟨(),trivial,qM (by simp),rfl,by simp,by simp⟩
   intro h14
   try simp at h14
   have hle:List.take 600 (o.out.map byD)=o.out.map byD:=List.take_of_length_le (by rw [List.length_map]; first | omega | (simp at h14; omega))
   refine AW.skip ?_
   exact ⟨(),trivial,qM (by simp [hle]),rfl,by simp [hle],by simp [hle]⟩
  ·
   rintro a hI
   refine AW.join (α:=Unit) (fun _=>True) (fun a=>⟨zA 28 [(1,.ptr 1 0),(2,.ptr 2 0)],[],[(1,.vars 28 [.p (.int .i64 o.code),.p (.int .i64 o.docs),.p (.int .i64 o.outs),.p (.int .i64 o.charge),.p (.sl 1 ((o.errs.take 70).map inD)),.p (.sl 1 ((o.out.take 600).map byD)),.p (.sl 1 ((o.log.take 600).map byD))]),(2,.vars 28 [.p (.int .i64 0),.p (.int .i64 0),.p (.int .i64 0),.p (.int .i64 0),.nilsl,.nilsl,.nilsl])],0⟩) ?_ ?_
   ·
    refine rgn [] [[],[],[],[1,2,22]] ?_
    iterate 4 refine op1 tok ?_
    refine qA (cnd ?_ ?_)
    ·intro h22
     try simp at h22
     skip
     refine rgz [] [[],[],[],[],[1,2]] ?_
     iterate 5 refine op1 tok ?_
     refine qA ?_
     exact ⟨(),trivial,qM (by simp),rfl,by simp,by simp⟩
    intro h22
    try simp at h22
    have hle:List.take 600 (o.log.map byD)=o.log.map byD:=List.take_of_length_le (by rw [List.length_map]; first | omega | (simp at h22; omega))
    refine AW.skip ?_
    exact ⟨(),trivial,qM (by simp [hle]),rfl,by simp [hle],by simp [hle]⟩
   ·
    rintro a hI
    refine rgn [] [[],[2]] ?_
    iterate 2 refine op1 tok ?_
    exact qA (AW.ret xP)
def jF:Outc:=⟨0,0,0,0,[],[],[]⟩
theorem qGR:qHS jF=[99,111,100,101,32,48,10,100,111,110,101,32,48,32,48,32,48,10,101,114,114,111,114,115,10,111,117,116,32,48,32,48,10,108,111,103,32,48,32,48,10]:=by decide +kernel
theorem qEX  (hP:PWd G):AFn Tryz.prog G 5 [] (.bool true):=by
 refine AFn.introU tok Tryz.func5 (by kernel_rfl) rfl rfl ?_
 simp only [Tryz.f5,qV,List.map_cons,List.map_nil]
 have h1:=qHZ (G:=G)
 have h2:=qHT (G:=G) jF hP ⟨by unfold okI jF; simp,by unfold okI jF; simp,by unfold okI jF; simp,by unfold okI jF; simp,by simp [jF],by simp [jF],by simp [jF],by simp [jF]⟩
 rw [qGR] at h2
 have hz:jF.enc = .agg [.int .i64 0,.int .i64 0,.int .i64 0,.int .i64 0,.sl 1 [],.sl 1 [],.sl 1 []]:=rfl
 rw [hz] at h2
 refine rgn [] [[14]] ?_
 refine op1 tok ?_
 refine qA (rgn [.nilp,.tup [.str [],.int .i64 240]] [[],[],[],[],[6],[2]] ?_)
 iterate 6 refine oq1 tok h1 ?_
 refine qA (rgn [.nilp,.str [99,111,100,101,32,48,10,100,111,110,101,32,48,32,48,32,48,10,101,114,114,111,114,115,10,111,117,116,32,48,32,48,10,108,111,103,32,48,32,48,10]] [[],[],[],[],[10,11],[],[],[0]] ?_)
 iterate 4 refine op1 tok ?_ (hv:=by first | with_reducible exact True.intro | (first | exact h2 | (simp at h2 ⊢; exact h2); done) | omega | simp | (simp +contextual; omega))
 iterate 2 refine op2 tok ?_ (hv:=by first | with_reducible exact True.intro | (first | exact h2 | (simp at h2 ⊢; exact h2); done) | omega | simp | (simp +contextual; omega))
 iterate 2 refine op1 tok ?_ (hv:=by first | with_reducible exact True.intro | (first | exact h2 | (simp at h2 ⊢; exact h2); done) | omega | simp | (simp +contextual; omega))
 exact qA (AW.ret xP)
theorem qIN (o:Outc):(qKP o).enc = .agg [.int .i64 o.code,.int .i64 o.docs,.int .i64 o.outs,.int .i64 o.charge,.sl 1 ((o.errs.take 70).map inD),.sl 1 ((o.out.take 600).map byD),.sl 1 ((o.log.take 600).map byD)]:=rfl
end Go.Proofs.YtcfcfblbpnpclaaGreatDoor
