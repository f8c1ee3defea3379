import Derived.Test.YtcfcfblbpnpclaaGreatDoorSShowD
import Derived.Test.YtcfcfblbpnpclaaGreatDoorSPlay0
import Derived.Test.YtcfcfblbpnpclaaGreatDoorSCountD
import Derived.Test.YtcfcfblbpnpclaaGreatDoorSCount22
import Derived.Test.YtcfcfblbpnpclaaGreatDoorSDeskP
namespace Go.Proofs.YtcfcfblbpnpclaaGreatDoor
open Sy Go
set_option maxRecDepth 100000
set_option maxHeartbeats 4000000
set_option linter.unusedSimpArgs false
set_option linter.unusedVariables false
variable {G:qM}
theorem qIP (o:Outc):AFn Tryz.prog G 6 [o.enc] ((vO o).enc):=by
 refine AFn.introU tok Tryz.func6 (by kernel_rfl) rfl rfl ?_
 simp only [Tryz.f6,qT,List.map_cons,List.map_nil]
 have e:(vO o).enc = .agg [.int .i64 o.code,.int .i64 o.docs,.int .i64 o.outs,.int .i64 o.charge,.sl 1 ((o.errs.take 70).map inD),.sl 1 ((o.out.take 600).map byD),.sl 1 ((o.log.take 600).map byD)]:=rfl
 rw [e,Outc.enc_def]
 refine rgn [] [[],[1,2]] ?_
 iterate 2 refine op1 tok ?_
 refine qA ?_
 refine AW.join (α:=Unit) (fun _=>True) (fun a=>⟨qZ 28 [(1,.ptr 1 0),(2,.ptr 2 0)],[],[(1,.vars 28 [.p (.int .i64 o.code),.p (.int .i64 o.docs),.p (.int .i64 o.outs),.p (.int .i64 o.charge),.p (.sl 1 ((o.errs.take 70).map inD)),.p (.sl 1 (o.out.map byD)),.p (.sl 1 (o.log.map byD))]),(2,.vars 28 [.p (.int .i64 0),.p (.int .i64 0),.p (.int .i64 0),.p (.int .i64 0),.nilsl,.nilsl,.nilsl])],0⟩) ?_ ?_
 ·
  refine rgn [] [[],[],[],[1,2,6]] ?_
  iterate 4 refine op1 tok ?_
  refine qA (cnd ?_ ?_)
  ·intro h6
   try simp at h6
   skip
   refine rgz [] [[],[],[],[],[1,2]] ?_
   iterate 5 refine op1 tok ?_
   refine qA ?_
   exact ⟨(),trivial,qJ (by simp),rfl,by simp,by simp⟩
  intro h6
  try simp at h6
  have hle:List.take 70 (o.errs.map inD)=o.errs.map inD:=List.take_of_length_le (by rw [List.length_map]; first | omega | (simp at h6; omega))
  refine AW.skip ?_
  exact ⟨(),trivial,qJ (by simp [hle]),rfl,by simp [hle],by simp [hle]⟩
 ·
  rintro a hI
  refine AW.join (α:=Unit) (fun _=>True) (fun a=>⟨qZ 28 [(1,.ptr 1 0),(2,.ptr 2 0)],[],[(1,.vars 28 [.p (.int .i64 o.code),.p (.int .i64 o.docs),.p (.int .i64 o.outs),.p (.int .i64 o.charge),.p (.sl 1 ((o.errs.take 70).map inD)),.p (.sl 1 ((o.out.take 600).map byD)),.p (.sl 1 (o.log.map byD))]),(2,.vars 28 [.p (.int .i64 0),.p (.int .i64 0),.p (.int .i64 0),.p (.int .i64 0),.nilsl,.nilsl,.nilsl])],0⟩) ?_ ?_
  ·
   refine rgn [] [[],[],[],[1,2,14]] ?_
   iterate 4 refine op1 tok ?_
   refine qA (cnd ?_ ?_)
   ·intro h14
    try simp at h14
    skip
    refine rgz [] [[],[],[],[],[1,2]] ?_
    iterate 5 refine op1 tok ?_
    refine qA ?_
    exact ⟨(),trivial,qJ (by simp),rfl,by simp,by simp⟩
   intro h14
   try simp at h14
   have hle:List.take 600 (o.out.map byD)=o.out.map byD:=List.take_of_length_le (by rw [List.length_map]; first | omega | (simp at h14; omega))
   refine AW.skip ?_
   exact ⟨(),trivial,qJ (by simp [hle]),rfl,by simp [hle],by simp [hle]⟩
  ·
   rintro a hI
   refine AW.join (α:=Unit) (fun _=>True) (fun a=>⟨qZ 28 [(1,.ptr 1 0),(2,.ptr 2 0)],[],[(1,.vars 28 [.p (.int .i64 o.code),.p (.int .i64 o.docs),.p (.int .i64 o.outs),.p (.int .i64 o.charge),.p (.sl 1 ((o.errs.take 70).map inD)),.p (.sl 1 ((o.out.take 600).map byD)),.p (.sl 1 ((o.log.take 600).map byD))]),(2,.vars 28 [.p (.int .i64 0),.p (.int .i64 0),.p (.int .i64 0),.p (.int .i64 0),.nilsl,.nilsl,.nilsl])],0⟩) ?_ ?_
   ·
    refine rgn [] [[],[],[],[1,2,22]] ?_
    iterate 4 refine op1 tok ?_
    refine qA (cnd ?_ ?_)
    ·intro h22
     try simp at h22
     skip
     refine rgz [] [[],[],[],[],[1,2]] ?_
     iterate 5 refine op1 tok ?_
     refine qA ?_
     exact ⟨(),trivial,qJ (by simp),rfl,by simp,by simp⟩
    intro h22
    try simp at h22
    have hle:List.take 600 (o.log.map byD)=o.log.map byD:=List.take_of_length_le (by rw [List.length_map]; first | omega | (simp at h22; omega))
    refine AW.skip ?_
    exact ⟨(),trivial,qJ (by simp [hle]),rfl,by simp [hle],by simp [hle]⟩
   ·
    rintro a hI
    refine rgn [] [[],[2]] ?_
    iterate 2 refine op1 tok ?_
    exact qA (AW.ret jE)
def jN:Outc:=⟨0,0,0,0,[],[],[]⟩
theorem qGV:qBT jN=[99,111,100,101,32,48,10,100,111,110,101,32,48,32,48,32,48,10,101,114,114,111,114,115,10,111,117,116,32,48,32,48,10,108,111,103,32,48,32,48,10]:=by decide +kernel
theorem qEY  (hP:PWd G):AFn Tryz.prog G 5 [] (.bool true):=by
 refine AFn.introU tok Tryz.func5 (by kernel_rfl) rfl rfl ?_
 simp only [Tryz.f5,qT,List.map_cons,List.map_nil]
 have h1:=qIA (G:=G)
 have h2:=qDV (G:=G) jN hP ⟨by unfold okI jN; simp,by unfold okI jN; simp,by unfold okI jN; simp,by unfold okI jN; simp,by simp [jN],by simp [jN],by simp [jN],by simp [jN]⟩
 rw [qGV] at h2
 have hz:jN.enc = .agg [.int .i64 0,.int .i64 0,.int .i64 0,.int .i64 0,.sl 1 [],.sl 1 [],.sl 1 []]:=rfl
 rw [hz] at h2
 refine rgn [] [[14]] ?_
 refine op1 tok ?_
 refine qA (rgn [.nilp,.tup [.str [],.int .i64 240]] [[],[],[],[],[6],[2]] ?_)
 iterate 6 refine oq1 tok h1 ?_
 refine qA (rgn [.nilp,.str [99,111,100,101,32,48,10,100,111,110,101,32,48,32,48,32,48,10,101,114,114,111,114,115,10,111,117,116,32,48,32,48,10,108,111,103,32,48,32,48,10]] [[],[],[],[],[10,11],[],[],[0]] ?_)
 iterate 4 refine op1 tok ?_ (hv:=by first | with_reducible exact True.intro | (first | exact h2 | (simp at h2 ⊢; exact h2); done) | omega | simp | (simp +contextual; omega))
 iterate 2 refine op2 tok ?_ (hv:=by first | with_reducible exact True.intro | (first | exact h2 | (simp at h2 ⊢; exact h2); done) | omega | simp | (simp +contextual; omega))
 iterate 2 refine op1 tok ?_ (hv:=by first | with_reducible exact True.intro | (first | exact h2 | (simp at h2 ⊢; exact h2); done) | omega | simp | (simp +contextual; omega))
 exact qA (AW.ret jE)
theorem qIO (o:Outc):(vO o).enc = .agg [.int .i64 o.code,.int .i64 o.docs,.int .i64 o.outs,.int .i64 o.charge,.sl 1 ((o.errs.take 70).map inD),.sl 1 ((o.out.take 600).map byD),.sl 1 ((o.log.take 600).map byD)]:=rfl
def qDB (l:List Outc) (k:Nat):List PD:=((l.take k).map vO).map Outc.enc
@[simp] theorem qME (l:List Outc):qDB l 0=[]:=rfl
theorem qIN (l:List Outc) (k:Nat):(qDB l k).length≤k:=by unfold qDB; simp; omega
theorem qHJ {l:List Outc} {k:Nat} {o:Outc} (h:l[k]?=some o):qDB l (k+1)=qDB l k++[.agg [.int .i64 o.code,.int .i64 o.docs,.int .i64 o.outs,.int .i64 o.charge,.sl 1 ((o.errs.take 70).map inD),.sl 1 ((o.out.take 600).map byD),.sl 1 ((o.log.take 600).map byD)]]:=by
 unfold qDB; rw [List.take_add_one,h,Option.toList_some,List.map_append,List.map_append]; rfl
theorem qDL (l:List Outc) (hP:PWd G) (hl:∀ o∈l,okI o.code∧okI o.docs∧okI o.outs∧okI o.charge∧∀ n∈o.errs,okI n):AFn Tryz.prog G 3 [.sl 7 (l.map Outc.enc)] (.bool true):=by
 refine AFn.introU tok Tryz.func3 (by kernel_rfl) rfl rfl ?_
 simp only [Tryz.f3,qT,List.map_cons,List.map_nil]
 have hsh:=qEY (G:=G) hP
 have hfw:=fun o=>qIP (G:=G) o
 have hcd:∀ k,k≤20→AFn Tryz.prog G 10 [.sl 7 (qDB l k)] (.sl 3 ((kD ((l.take k).map vO)).map qN)):=fun k (h:k≤20)=>qHM (G:=G) ((l.take k).map vO) (by simp; omega)
 have hc2:∀ k,k≤20→AFn Tryz.prog G 11 [.sl 7 (qDB l k)] (.sl 3 ((kD ((l.take k).map vO)).map qN)):=fun k (h:k≤20)=>qFL (G:=G) ((l.take k).map vO) (by simp; omega)
 have hsm:=fun a (h:a.length≤1000)=>qGX (G:=G) a h
 refine rgn [] [[0]] ?_
 refine op1 tok ?_
 refine qA (rgn [.nilp,.bool true] [[],[0,3]] ?_)
 iterate 2 refine oq1 tok hsh ?_
 refine qA (rgn [] [[],[0,3,4]] ?_)
 iterate 2 refine op1 tok ?_
 refine qA (AW.seq (rgn [] [[]] ?_))
 refine op1 tok ?_
 refine qA (AW.block ?_)
 refine AW.loop (α:=Nat) (fun k=>k≤l.length∧k≤20) (fun k=>⟨qZ 41 [(0,.p (.sl 7 (l.map Outc.enc))),(3,.p (.bool true)),(4,.ms 8),(5,.p (.int .i64 k))],[],[(8,.row 28 7 (qDB l k))],0⟩) (fun k=>l.length-k) (0) ⟨Nat.zero_le _,by omega⟩ ⟨qJ (by simp),rfl,by simp,by simp⟩ ?_
 rintro k ⟨hk1,hk2⟩
 refine AW.seq (rgn [] [[],[],[],[],[0,3,4,5,13],[],[],[0,3,4,5,16]] ?_)
 iterate 5 refine op1 tok ?_
 iterate 2 refine op2 tok ?_
 refine op1 tok ?_
 refine qA (cnd ?_ ?_)
 ·intro h16
  try simp at h16
  have hkl:k<l.length:=by first | omega | (simp at h16; omega)
  have hk20:k<20:=by first | omega | (simp at h16; omega)
  obtain ⟨o,hx⟩:∃ o,l[k]?=some o:=⟨l[k],by simp [hkl]⟩
  have hgo:(l.map Outc.enc)[k]?=some o.enc:=by rw [List.getElem?_map,hx]; rfl
  have hfo:=hfw o
  obtain ⟨y1,y2,y3,y4,y5⟩:=hl o (List.mem_of_getElem? hx)
  have hok:OOK (vO o) 1000 1000000:=⟨y1,y2,y3,y4,fun n hn=>y5 n (List.mem_of_mem_take hn),by show (o.errs.take 70).length≤_; rw [List.length_take]; omega,by show (o.out.take 600).length≤_; rw [List.length_take]; omega,by show (o.log.take 600).length≤_; rw [List.length_take]; omega⟩
  have hs1:=qDV (G:=G) (vO o) hP hok
  have hs2:=qGW (G:=G) (vO o) hP hok
  have htk:=qHJ hx
  have hrl:=qIN l k
  generalize qBT (vO o)=S at *
  rw [qIO] at hfo hs1 hs2
  rw [Outc.enc_def] at hgo hfo
  simp only [List.map_take] at hfo hs1 hs2
  refine AW.skip (AW.seq (AW.block (rgn [.agg [.int .i64 o.code,.int .i64 o.docs,.int .i64 o.outs,.int .i64 o.charge,.sl 1 (o.errs.map inD),.sl 1 (o.out.map byD),.sl 1 (o.log.map byD)],.nilp,.agg [.int .i64 o.code,.int .i64 o.docs,.int .i64 o.outs,.int .i64 o.charge,.sl 1 ((o.errs.take 70).map inD),.sl 1 ((o.out.take 600).map byD),.sl 1 ((o.log.take 600).map byD)]] [[],[],[],[],[0,3,4,5,23],[],[0,3,4,5,6]] ?_)))
  iterate 7 refine op1 tok ?_ (hv:=by first | with_reducible exact True.intro | (first | exact hgo | exact ⟨o,hx,Outc.enc_def o⟩ | exact hfo | (simp [hx]; done) | (simp [hx]; omega); done) | omega | simp | (simp +contextual; omega))
  refine qA (AW.seq ?_)
  refine AW.seqDrawS tok mixed 5 [[6],[24],[6],[26],[25,27]] [.nilp,.str S,.nilp,.str S] [] (by kernel_rfl) ?_
  iterate 5 refine dq1 (ai hs1 hs2) ?_
  refine DGo.nil (by kernel_rfl) ⟨by kernel_rfl, ?_⟩
  refine qB.nil ?_
  refine cnd ?_ ?_
  ·intro h28
   try simp at h28
  intro h28
  try simp at h28
  refine AW.skip (rgz [.agg [.int .i64 o.code,.int .i64 o.docs,.int .i64 o.outs,.int .i64 o.charge,.sl 1 ((o.errs.take 70).map inD),.sl 1 ((o.out.take 600).map byD),.sl 1 ((o.log.take 600).map byD)]] [[],[],[],[0,3,5,32],[0,3,4,5]] ?_)
  iterate 5 refine op1 tok ?_
  refine qA (rgz [] [[],[],[0,3,4,5]] ?_)
  iterate 3 refine op1 tok ?_
  refine qA ?_
  exact ⟨k+1,⟨by omega,by omega⟩,by omega,qJ (by simp [htk]),rfl,by simp [htk],by simp [htk]⟩
 intro h16
 try simp at h16
 have hcd:=hcd k hk2
 have hc2:=hc2 k hk2
 have hsm:=hsm (kD ((l.take k).map vO)) (by simp [kD])
 generalize (kD ((l.take k).map vO)).map qN=C at *
 refine AW.exit ?_
 simp
 refine AW.freezeE 8 (by conv=>lhs; simp) ?_
 refine rgn [.nilp,.sl 3 C,.nilp,.sl 3 C,.nilp,.bool true] [[],[],[],[],[34,36,37],[],[],[40],[2]] ?_
 iterate 2 refine op1 tok ?_ (hv:=by first | with_reducible exact True.intro | (first | exact hcd | exact hc2 | exact hsm | (simp at hcd hc2 hsm ⊢; first | exact hcd | exact hc2 | exact hsm); done) | omega | simp | (simp +contextual; omega))
 iterate 5 refine op2 tok ?_ (hv:=by first | with_reducible exact True.intro | (first | exact hcd | exact hc2 | exact hsm | (simp at hcd hc2 hsm ⊢; first | exact hcd | exact hc2 | exact hsm); done) | omega | simp | (simp +contextual; omega))
 iterate 2 refine op1 tok ?_ (hv:=by first | with_reducible exact True.intro | (first | exact hcd | exact hc2 | exact hsm | (simp at hcd hc2 hsm ⊢; first | exact hcd | exact hc2 | exact hsm); done) | omega | simp | (simp +contextual; omega))
 exact qA (AW.ret jE)
end Go.Proofs.YtcfcfblbpnpclaaGreatDoor
