import Derived.Test.YtgcbapchinideaaGreatDoorK2
import Derived.Test.YtgcbapchinideaaGreatDoorSPrintLen
import Derived.Test.YtgcbapchinideaaGreatDoorSJoin
import Derived.Test.YtgcbapchinideaaGreatDoorSDecAddF
namespace Go.Proofs.YtgcbapchinideaaGreatDoor
open Sy Go
set_option maxRecDepth 100000
set_option maxHeartbeats 4000000
set_option linter.unusedSimpArgs false
set_option linter.unusedVariables false
variable {G:qJ}
theorem qWO (v:Val) (ks:List Int):AFn Tryz.prog G 168 [v.enc,.ref [.sl 1 (ks.map (PD.int .i64))]] (.bool (!decide (v.kind∈ks))):=by
 refine AFn.introU tok Tryz.func168 (by kernel_rfl) rfl rfl ?_
 simp only [Tryz.f168,qK,List.map_cons,List.map_nil]
 have h1:=qTN (G:=G) ks v.kind
 generalize decide (v.kind∈ks)=b at *
 refine rgn [] [[],[1,2]] ?_
 iterate 2 refine op1 tok ?_
 refine qA (rgn [.nilp,.bool b] [[],[],[],[7],[],[3]] ?_)
 iterate 6 refine oq1 tok h1 ?_
 exact qA (AW.ret qO)
def qBR (l:List Val) (ks:List Int):Bool:=l.all fun v=>decide (v.kind∈ks)
theorem qOO (l:List Val) (ks:List Int):AFn Tryz.prog G 130 [.sl 9 (l.map Val.enc),.sl 1 (ks.map (PD.int .i64))] (.bool (qBR l ks)):=by
 refine AFn.introU tok Tryz.func130 (by kernel_rfl) rfl rfl ?_
 simp only [Tryz.f130,qK,List.map_cons,List.map_nil]
 have hc:=qGN (G:=G) l 168 [.sl 1 (ks.map (PD.int .i64))] (fun v => !decide (v.kind∈ks)) (fun v _=>qWO v ks)
 have e:qBR l ks = !(l.any fun v => !decide (v.kind∈ks)):=by unfold qBR; rw [List.not_any_eq_all_not]; simp
 rw [e]
 generalize (l.any fun v => !decide (v.kind∈ks))=r at *
 refine rgn [] [[],[0,3]] ?_
 iterate 2 refine op1 tok ?_
 refine qA ?_
 refine AW.freezeV 3 (by conv=>lhs; simp) ?_
 refine rgn [.nilp,.bool r] [[],[],[7],[],[4]] ?_
 iterate 5 refine op1 tok ?_ (hv:=by first | with_reducible exact True.intro | (first | exact hc | (simp; done) | (simp at hc ⊢; exact hc); done) | omega | simp | (simp +contextual; omega))
 exact qA (AW.ret qO)
def qBF (l:List Val) (sep:List UInt8) (m:Int):Val:=if qBR l [5,1]=true then wG (Lib.join (l.map Val.text) sep) m else zD 40 m
theorem qLE (l:List Val) (sep:List UInt8) (m:Int) (hl:l.length≤1000000) (hj:(Lib.join (l.map Val.text) sep).length≤1000000000):AFn Tryz.prog G 91 [.agg [.int .u64 m],.sl 9 (l.map Val.enc),.str sep] ((qBF l sep m).enc):=by
 refine AFn.introU tok Tryz.func91 (by kernel_rfl) rfl rfl ?_
 simp only [Tryz.f91,qK,List.map_cons,List.map_nil]
 have hf:=zW (G:=G) 40 m
 have ha:=qOO (G:=G) l [5,1]
 have hw:=vP (G:=G) (Lib.join (l.map Val.text) sep) m
 have hJ:=qPX (G:=G) (l.map Val.text) sep (by simp; omega) (by omega)
 have e:qBF l sep m=if qBR l [5,1]=true then wG (Lib.join (l.map Val.text) sep) m else zD 40 m:=rfl
 rw [e]
 have hle:(l.map Val.enc).length=l.length:=by simp
 have htl:(l.map Val.text).length=l.length:=by simp
 have htg:∀ (k:Nat) x,l[k]?=some x→(l.map Val.text)[k]?=some x.text:=fun k x h=>by rw [List.getElem?_map,h]; rfl
 generalize qBR l [5,1]=b at *
 generalize wG (Lib.join (l.map Val.text) sep) m=W at *
 generalize Lib.join (l.map Val.text) sep=J at *
 generalize l.map Val.text=ts at *
 simp only [Val.enc_def,List.map_cons,List.map_nil] at hf ha hw
 refine rgn [] [[],[1,2,3,6]] ?_
 iterate 2 refine op1 tok ?_
 refine qA (AW.seq (rgn [.int .i64 5,.int .i64 1,.nilp,.bool b] [[],[],[],[1,2,3,6,13]] ?_))
 iterate 4 refine oq1 tok ha ?_
 refine qA (cnd ?_ ?_)
 ·intro h13
  try simp at h13
  rw [if_neg (by simp [h13])]
  refine rgn [.nilp,(zD 40 m).enc] [[],[],[6]] ?_
  iterate 3 refine oq1 tok hf ?_
  exact qA (AW.ret qO)
 intro h13
 try simp at h13
 rw [if_pos (by simpa using h13)]
 refine AW.skip (rgn [] [[]] ?_)
 refine op1 tok ?_
 refine qA (AW.seq (rgn [] [[],[],[2,3,6,7,16,17,18]] ?_))
 iterate 3 refine op1 tok ?_
 refine qA (AW.block ?_)
 refine AW.beginE 7 100 9 1 (by simp) (by simp) (by conv=>lhs; simp) ?_
 refine AW.loop (α:=Nat) (fun k=>k≤l.length) (fun k=>⟨zA 33 [(2,.p (.str sep)),(3,.ptr 3 0),(6,.ptr 6 0),(7,.ms 100),(16,.p (.sl 9 (l.map Val.enc))),(17,.p (.int .i64 l.length)),(18,.p (.int .i64 k))],[],[(3,.vars 61 [.p (.int .u64 m)]),(6,.vars 31 [.p (.int .i64 0),.p (.int .u64 0),.p (.bool false),.p (.str []),.p (.int .i64 0),.p (.str []),.nilsl,.nilsl,.p (.int .i64 0)]),(100,.row 9 1 ((ts.map PD.str).take k))],0⟩) (fun k=>l.length-k) (0) (by omega) ⟨qG (by simp),rfl,by simp,by simp⟩ ?_
 rintro k hk
 refine rgn [] [[]] ?_
 refine op1 tok ?_
 refine qA (AW.seq (cnd ?_ ?_))
 ·intro h19
  try simp at h19
  obtain ⟨x,hx⟩:∃ x,l[k]?=some x:=⟨l[k]'(by omega),by simp [show k<l.length by omega]⟩
  have ht:=htg k x hx
  have hgp:(ts.map PD.str)[k]?=some (.str x.text):=by rw [List.getElem?_map,ht]; rfl
  have htk:(ts.map PD.str).take k++[.str x.text]=(ts.map PD.str).take (k+1):=by rw [List.take_add_one,hgp]; rfl
  refine AW.skip (AW.seq (AW.block (rgn [x.enc] [[],[],[],[2,3,6,7,9,16,17,18]] ?_)))
  iterate 4 refine op1 tok ?_ (hv:=by first | with_reducible exact True.intro | (first | (simp [hx]; done) | (simp [hx]; omega); done) | omega | simp | (simp +contextual; omega))
  refine qA (rgz [.str x.text] [[],[],[],[2,3,6,16,17,18,22,25],[],[2,3,6,7,16,17,18]] ?_)
  iterate 6 refine op1 tok ?_
  refine qA (rgz [] [[],[2,3,6,7,16,17,18]] ?_)
  iterate 2 refine op1 tok ?_
  refine qA ?_
  exact ⟨k+1,by omega,by omega,qG (by simp [htk]),rfl,by simp [htk],by simp [htk]⟩
 intro h19
 try simp at h19
 obtain rfl:k=l.length:=by omega
 have hall:(ts.map PD.str).take l.length=ts.map PD.str:=List.take_of_length_le (by simp [htl])
 simp only [hall]
 refine AW.exit ?_
 simp
 refine AW.freezeE 100 (by conv=>lhs; simp) ?_
 refine AW.seqRunDrawK tok mixed [6] 5 [[3],[7],[2],[29,30],[28,31]] [.nilp,.str J,.nilp,W.enc] [] (by kernel_rfl) (by intro C; conv=>lhs; simp) (by first | exact ⟨hJ,hw⟩ | omega | (simp; exact ⟨hJ,hw⟩)) (by simp [Sm.sum,Sm.foot,Sm.tch,Sm.refs]; kernel_rfl) (by intro C; conv=>lhs; simp) (by first | with_reducible exact True.intro | omega | simp | (simp +contextual; omega)) ?_
 exact AW.ret qO
theorem qQQ (v:Val) (ih:∀ k∈v.kids,AFn Tryz.prog G 80 [k.enc] (.bool (xA k))):AFn Tryz.prog G 80 [v.enc] (.bool (xA v)):=by
 refine AFn.introU tok Tryz.func80 (by kernel_rfl) rfl rfl ?_
 simp only [Tryz.f80,qK,List.map_cons,List.map_nil]
 have hc:=qJE (G:=G) v.kids 80 xA ih
 rw [qBB]
 generalize v.kids.any xA=r at *
 refine rgn [] [[],[1]] ?_
 iterate 2 refine op1 tok ?_
 refine qA (rgn [.nilp,.bool r] [[],[],[],[],[6,7],[],[],[10],[2]] ?_)
 iterate 4 refine op1 tok ?_ (hv:=by first | with_reducible exact True.intro | (first | exact hc | exact fun h=>⟨h,hc⟩ | (simp; exact fun h=>⟨h,hc⟩) | (simp; done); done) | omega | simp | (simp +contextual; omega))
 iterate 3 refine op2 tok ?_ (hv:=by first | with_reducible exact True.intro | (first | exact hc | exact fun h=>⟨h,hc⟩ | (simp; exact fun h=>⟨h,hc⟩) | (simp; done); done) | omega | simp | (simp +contextual; omega))
 iterate 2 refine op1 tok ?_ (hv:=by first | with_reducible exact True.intro | (first | exact hc | exact fun h=>⟨h,hc⟩ | (simp; exact fun h=>⟨h,hc⟩) | (simp; done); done) | omega | simp | (simp +contextual; omega))
 refine qA ?_
 exact AW.ret (qO (k:=by (simp; done)))
theorem qSO (v:Val):AFn Tryz.prog G 80 [v.enc] (.bool (xA v)):=Val.induct (fun v ih=>qQQ v ih) v
def qPO (v:Val) (m:Int):Val:=if xA v=true then zD 40 m else wG (qS v) m
theorem qSZ (v:Val) (m:Int) (hm:xN v=true) (hs:Val.sz v≤10000):AFn Tryz.prog G 45 [.agg [.int .u64 m],v.enc] ((qPO v m).enc):=by
 refine AFn.introU tok Tryz.func45 (by kernel_rfl) rfl rfl ?_
 simp only [Tryz.f45,qK,List.map_cons,List.map_nil]
 have hf:=zW (G:=G) 40 m
 have hp:=qSO (G:=G) v
 have hpr:=fun h=>qKR (G:=G) hm h hs
 have hw:=vP (G:=G) (qS v) m
 have e:qPO v m=if xA v=true then zD 40 m else wG (qS v) m:=rfl
 rw [e]
 generalize xA v=b at *
 generalize wG (qS v) m=W at *
 generalize qS v=T at *
 simp only [Val.enc_def] at hf hp hpr hw
 refine rgn [] [[],[],[2,3,4]] ?_
 iterate 3 refine op1 tok ?_
 refine qA (AW.seq (rgn [.nilp,.bool b] [[],[2,3,4,6]] ?_))
 iterate 2 refine oq1 tok hp ?_
 refine qA (cnd ?_ ?_)
 ·intro h6
  try simp at h6
  rw [if_pos h6]
  refine rgn [.nilp,(zD 40 m).enc] [[],[],[4]] ?_
  iterate 3 refine oq1 tok hf ?_
  exact qA (AW.ret qO)
 intro h6
 try simp at h6
 rw [if_neg (by simp [h6])]
 have hpr:=hpr h6
 refine AW.skip ?_
 refine AW.seqRunDrawK tok mixed [4] 4 [[2],[3],[10],[9,11]] [.nilp,.str T,.nilp,W.enc] [] (by kernel_rfl) (by intro C; conv=>lhs; simp) (by exact ⟨hpr,hw⟩) (by simp [Sm.sum,Sm.foot,Sm.tch,Sm.refs]; kernel_rfl) (by intro C; conv=>lhs; simp) (by first | with_reducible exact True.intro | omega | simp | (simp +contextual; omega)) ?_
 exact AW.ret qO
end Go.Proofs.YtgcbapchinideaaGreatDoor
