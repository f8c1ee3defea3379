import Derived.Test.YtgcbapchinideaaGreatDoorSTextsU
namespace Go.Proofs.YtgcbapchinideaaGreatDoor
open Sy Go
set_option maxRecDepth 100000
set_option maxHeartbeats 4000000
set_option linter.unusedSimpArgs false
set_option linter.unusedVariables false
variable {G:qJ}
theorem qGR (s sep:List UInt8) (hG:U8 G) (hM:qJR 0 G):AFn Tryz.prog G 6 [.str s,.str sep] (.bool true):=by
 refine AFn.introU tok Tryz.func6 (by kernel_rfl) rfl rfl ?_
 simp only [Tryz.f6,qK,List.map_cons,List.map_nil]
 have hsh:=qNB (G:=G)
 have ha1:=qML (G:=G) s
 have ha2:=qML (G:=G) sep
 obtain ⟨hs,hv⟩:=qMK s
 obtain ⟨hp,_⟩:=qMK sep
 generalize qFU s=a at *
 generalize qFU sep=p at *
 have htx:=qGV (G:=G) a
 obtain ⟨P,R,hP,hR,hPe,k1,k2,k3,k4,k5,k6,k7⟩:=qKA (G:=G) hG hM a p hs hv hp
 have hq:=qRW (G:=G) a (by omega)
 have hdg:=qLT (G:=G) R.length (by omega)
 have hdn:=qTJ (n:=R.length) (by omega)
 have hiv:(qGH R.length 0).enc = .agg [.int .i64 4,.int .u64 0,.bool (jI R.length).neg,.str (jI R.length).digits,.int .i64 (jI R.length).scale,.str [],.sl 1 [],.sl 9 [],.int .i64 0]:=by rw [Val.enc_def]; rfl
 rw [hiv] at k4
 rw [← hdn] at hdg
 generalize jI (R.length:Int)=D at *
 have htv:∀ t,(tV t).enc = .agg [.int .i64 5,.int .u64 0,.bool false,.str [],.int .i64 0,.str t,.sl 1 [],.sl 9 [],.int .i64 0]:=fun t=>by rw [Val.enc_def]; rfl
 have hPl:((P.map tV).map Val.enc).length=P.length:=by simp
 have hRl:((R.map tV).map Val.enc).length=R.length:=by simp
 have hts:∀ l:List (List UInt8),(tsV l).enc = .agg [.int .i64 6,.int .u64 0,.bool false,.str [],.int .i64 0,.str [],.sl 1 [],.sl 9 ((l.map tV).map Val.enc),.int .i64 0]:=fun l=>by rw [Val.enc_def]; rfl
 have htt:(kU true 0).enc = .agg [.int .i64 3,.int .u64 0,.bool false,.str [],.int .i64 0,.str [],.sl 1 [],.sl 9 [],.int .i64 0]:=by rw [Val.enc_def]; rfl
 have ht5:(Val.mk 5 0 dc0 a [] [] 0).enc=(tV a).enc:=rfl
 rw [ht5] at htx
 simp only [htv,hts,htt] at htx k1 k2 k3 k4 k5 k6 k7
 generalize (P.map tV).map Val.enc=PE at *
 generalize (R.map tV).map Val.enc=RE at *
 generalize zM a=Q at *
 refine rgn [] [[0,1]] ?_
 refine op1 tok ?_
 refine qA (rgn [.nilp,.bool true] [[],[0,1,5]] ?_)
 iterate 2 refine oq1 tok hsh ?_
 refine qA (rgn [.nilp,.str a] [[],[],[0,1,5]] ?_)
 iterate 3 refine oq1 tok ha1 ?_
 refine qA (rgn [.nilp,.str p] [[],[],[0,1,5]] ?_)
 iterate 3 refine oq1 tok ha2 ?_
 refine qA (rgn [.nilp,.agg [.int .i64 5,.int .u64 0,.bool false,.str [],.int .i64 0,.str a,.sl 1 [],.sl 9 [],.int .i64 0]] [[],[],[],[0,1,5,6]] ?_)
 iterate 4 refine oq1 tok htx ?_
 refine qA (rgn [.nilp,.agg [.int .i64 6,.int .u64 0,.bool false,.str [],.int .i64 0,.str [],.sl 1 [],.sl 9 PE,.int .i64 0]] [[],[],[],[],[0,1,5,6,7]] ?_)
 iterate 5 refine oq1 tok k1 ?_
 refine qA (rgn [.nilp,.agg [.int .i64 5,.int .u64 0,.bool false,.str [],.int .i64 0,.str a,.sl 1 [],.sl 9 [],.int .i64 0]] [[],[],[],[],[0,1,5,6,7,8]] ?_)
 iterate 5 refine oq1 tok k2 ?_
 refine qA (rgn [.nilp,.agg [.int .i64 6,.int .u64 0,.bool false,.str [],.int .i64 0,.str [],.sl 1 [],.sl 9 RE,.int .i64 0]] [[],[],[],[0,1,5,6,7,8,9]] ?_)
 iterate 4 refine oq1 tok k3 ?_
 refine qA (rgn [.nilp,.agg [.int .i64 4,.int .u64 0,.bool D.neg,.str D.digits,.int .i64 D.scale,.str [],.sl 1 [],.sl 9 [],.int .i64 0]] [[],[],[],[0,1,5,6,7,8,9,10]] ?_)
 iterate 4 refine oq1 tok k4 ?_
 refine qA (rgn [.nilp,.agg [.int .i64 5,.int .u64 0,.bool false,.str [],.int .i64 0,.str Q,.sl 1 [],.sl 9 [],.int .i64 0]] [[],[],[],[0,1,5,6,7,8,9,10,11]] ?_)
 iterate 4 refine oq1 tok k5 ?_
 refine qA (rgn [.nilp,.agg [.int .i64 3,.int .u64 0,.bool false,.str [],.int .i64 0,.str [],.sl 1 [],.sl 9 [],.int .i64 0]] [[],[],[],[],[0,1,5,6,7,8,9,10,11,12]] ?_)
 iterate 5 refine oq1 tok k6 ?_
 refine qA (rgn [.nilp,.agg [.int .i64 3,.int .u64 0,.bool false,.str [],.int .i64 0,.str [],.sl 1 [],.sl 9 [],.int .i64 0]] [[],[],[],[],[0,1,5,7,8,9,10,11,12,13]] ?_)
 iterate 5 refine oq1 tok k7 ?_
 refine qA (AW.seq (rgn [] [[],[],[],[],[0,5,7,8,9,10,11,12,13,41,43],[0,5,7,8,9,10,11,12,13,44]] ?_))
 iterate 3 refine op1 tok ?_
 iterate 2 refine op2 tok ?_
 refine op1 tok ?_
 refine qA (cnd ?_ ?_)
 ·intro h44
  try simp at h44
  have hPn:PE=[]:=by
   have h0:=hPe h44.1 h44.2
   rw [h0] at hPl
   exact List.eq_nil_of_length_eq_zero hPl
  refine rgn [] [[],[],[],[46,48],[],[],[51],[4]] ?_
  iterate 2 refine op1 tok ?_
  iterate 4 refine op2 tok ?_
  iterate 2 refine op1 tok ?_
  refine qA ?_
  exact AW.ret (qO (k:=by (simp [hPn])))
 intro h44
 try simp at h44
 refine AW.skip ?_
 refine AW.seqDrawS tok mixed 39 [[5],[52],[8,53],[54,53],[0,53],[55,56,53],[53,57],[58],[8,59],[60,59],[61,59],[59,62],[63],[10,64],[65,64],[66,64],[9,64],[68,64],[69,64],[70,64],[67,71,64],[64,72],[73],[11,74],[75,74],[0,74],[77,74],[76,78,74],[74,79],[80],[12,81],[82,81],[83,81],[81,84],[85],[13,86],[87,86],[88,86],[86,89]] [.nilp,.str D.digits,.nilp,.str Q] [] (by kernel_rfl) ?_
 iterate 2 refine d1 ?_ (hv:=by first | with_reducible exact True.intro | (first | exact hdg | exact hq | (intros; first | exact hdg | exact hq | exact ⟨by assumption,hdg⟩ | exact ⟨by assumption,hq⟩) | (rw [hRl]; exact hdg) | (simp [hRl]; exact hdg); done) | omega | simp | (simp +contextual; omega))
 iterate 4 refine d2 53 rfl rfl ?_ (hv:=by first | with_reducible exact True.intro | (first | exact hdg | exact hq | (intros; first | exact hdg | exact hq | exact ⟨by assumption,hdg⟩ | exact ⟨by assumption,hq⟩) | (rw [hRl]; exact hdg) | (simp [hRl]; exact hdg); done) | omega | simp | (simp +contextual; omega))
 iterate 2 refine d1 ?_ (hv:=by first | with_reducible exact True.intro | (first | exact hdg | exact hq | (intros; first | exact hdg | exact hq | exact ⟨by assumption,hdg⟩ | exact ⟨by assumption,hq⟩) | (rw [hRl]; exact hdg) | (simp [hRl]; exact hdg); done) | omega | simp | (simp +contextual; omega))
 iterate 3 refine d2 59 rfl rfl ?_ (hv:=by first | with_reducible exact True.intro | (first | exact hdg | exact hq | (intros; first | exact hdg | exact hq | exact ⟨by assumption,hdg⟩ | exact ⟨by assumption,hq⟩) | (rw [hRl]; exact hdg) | (simp [hRl]; exact hdg); done) | omega | simp | (simp +contextual; omega))
 iterate 2 refine d1 ?_ (hv:=by first | with_reducible exact True.intro | (first | exact hdg | exact hq | (intros; first | exact hdg | exact hq | exact ⟨by assumption,hdg⟩ | exact ⟨by assumption,hq⟩) | (rw [hRl]; exact hdg) | (simp [hRl]; exact hdg); done) | omega | simp | (simp +contextual; omega))
 iterate 8 refine d2 64 rfl rfl ?_ (hv:=by first | with_reducible exact True.intro | (first | exact hdg | exact hq | (intros; first | exact hdg | exact hq | exact ⟨by assumption,hdg⟩ | exact ⟨by assumption,hq⟩) | (rw [hRl]; exact hdg) | (simp [hRl]; exact hdg); done) | omega | simp | (simp +contextual; omega))
 iterate 2 refine d1 ?_ (hv:=by first | with_reducible exact True.intro | (first | exact hdg | exact hq | (intros; first | exact hdg | exact hq | exact ⟨by assumption,hdg⟩ | exact ⟨by assumption,hq⟩) | (rw [hRl]; exact hdg) | (simp [hRl]; exact hdg); done) | omega | simp | (simp +contextual; omega))
 iterate 5 refine d2 74 rfl rfl ?_ (hv:=by first | with_reducible exact True.intro | (first | exact hdg | exact hq | (intros; first | exact hdg | exact hq | exact ⟨by assumption,hdg⟩ | exact ⟨by assumption,hq⟩) | (rw [hRl]; exact hdg) | (simp [hRl]; exact hdg); done) | omega | simp | (simp +contextual; omega))
 iterate 2 refine d1 ?_ (hv:=by first | with_reducible exact True.intro | (first | exact hdg | exact hq | (intros; first | exact hdg | exact hq | exact ⟨by assumption,hdg⟩ | exact ⟨by assumption,hq⟩) | (rw [hRl]; exact hdg) | (simp [hRl]; exact hdg); done) | omega | simp | (simp +contextual; omega))
 iterate 3 refine d2 81 rfl rfl ?_ (hv:=by first | with_reducible exact True.intro | (first | exact hdg | exact hq | (intros; first | exact hdg | exact hq | exact ⟨by assumption,hdg⟩ | exact ⟨by assumption,hq⟩) | (rw [hRl]; exact hdg) | (simp [hRl]; exact hdg); done) | omega | simp | (simp +contextual; omega))
 iterate 2 refine d1 ?_ (hv:=by first | with_reducible exact True.intro | (first | exact hdg | exact hq | (intros; first | exact hdg | exact hq | exact ⟨by assumption,hdg⟩ | exact ⟨by assumption,hq⟩) | (rw [hRl]; exact hdg) | (simp [hRl]; exact hdg); done) | omega | simp | (simp +contextual; omega))
 iterate 3 refine d2 86 rfl rfl ?_ (hv:=by first | with_reducible exact True.intro | (first | exact hdg | exact hq | (intros; first | exact hdg | exact hq | exact ⟨by assumption,hdg⟩ | exact ⟨by assumption,hq⟩) | (rw [hRl]; exact hdg) | (simp [hRl]; exact hdg); done) | omega | simp | (simp +contextual; omega))
 refine d1 ?_ (hv:=by first | with_reducible exact True.intro | (first | exact hdg | exact hq | (intros; first | exact hdg | exact hq | exact ⟨by assumption,hdg⟩ | exact ⟨by assumption,hq⟩) | (rw [hRl]; exact hdg) | (simp [hRl]; exact hdg); done) | omega | simp | (simp +contextual; omega))
 refine DGo.nil (by kernel_rfl) ⟨by kernel_rfl, ?_⟩
 refine qF.run [[4]] ?_
 refine op1 tok ?_
 exact qA (AW.ret qO)
end Go.Proofs.YtgcbapchinideaaGreatDoor
