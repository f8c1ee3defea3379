import Derived.Test.YtbhhphabggcacaaGreatDoorSSynB
namespace Go.Proofs.YtbhhphabggcacaaGreatDoor
open Sy Go
set_option maxRecDepth 100000
set_option maxHeartbeats 4000000
set_option linter.unusedSimpArgs false
set_option linter.unusedVariables false
variable {G:qM}
theorem jS (s:PS) (l:List (List UInt8)):AX Tryz.prog G 17 [.ptr 2 0,.p (.sl 1 (l.map PD.str))] [(2,.vars 42 (psC (s))),(3,.row 36 8 ((s).nodes.map Nd.enc))] (.tuple [.p (.str (qW 6 l s).1.1),.p (.bool (qW 6 l s).1.2)]) [2,3] [(2,.vars 42 (psC ((qW 6 l s).2))),(3,.row 36 8 (((qW 6 l s).2).nodes.map Nd.enc))]:=by
 refine AX.introU tok 900 Tryz.func17 (by kernel_rfl) rfl rfl ?_
 simp only [Tryz.f17,qN,List.map_cons,List.map_nil]
 have hT:qW 6 l s=(((qZ (qAC 6 l) s).1.1.text,(qZ (qAC 6 l) s).1.2),(qZ (qAC 6 l) s).2):=rfl
 rw [hT]
 have hp:=qJU (G:=G) s 41 [.sl 1 (l.map PD.str)] (qAC 6 l) (fun t=>qTC t l)
 generalize qZ (qAC 6 l) s=R at *
 obtain ⟨⟨t,b⟩,s'⟩:=R
 simp only at hp
 refine rgn [] [[],[],[0,3]] ?_
 iterate 3 refine op1 tok ?_
 refine qA (rgn [] [[],[]] ?_)
 iterate 2 refine op1 tok ?_
 refine qF ?_
 refine qE.freezeV 903 (by conv=>lhs; simp) ?_
 refine qE.stepK [11] (qK rfl hp (by simp)) (by conv=>lhs; simp) rfl ?_
 refine qE.run [[],[],[],[],[],[6,7]] ?_
 iterate 6 refine op1 tok ?_
 refine qA (rgn [] [[],[],[],[4,16],[4,5]] ?_)
 iterate 5 refine op1 tok ?_
 refine qA ?_
 exact AW.ret qP
theorem qJG (s:PS) (l:List (List UInt8)):AX Tryz.prog G 19 [.ptr 2 0,.p (.sl 1 (l.map PD.str))] [(2,.vars 42 (psC (s))),(3,.row 36 8 ((s).nodes.map Nd.enc))] (.tuple [.p (.str (qW 1 l s).1.1),.p (.bool (qW 1 l s).1.2)]) [2,3] [(2,.vars 42 (psC ((qW 1 l s).2))),(3,.row 36 8 (((qW 1 l s).2).nodes.map Nd.enc))]:=by
 refine AX.introU tok 900 Tryz.func19 (by kernel_rfl) rfl rfl ?_
 simp only [Tryz.f19,qN,List.map_cons,List.map_nil]
 have hT:qW 1 l s=(((qZ (qAC 1 l) s).1.1.text,(qZ (qAC 1 l) s).1.2),(qZ (qAC 1 l) s).2):=rfl
 rw [hT]
 have hp:=qJU (G:=G) s 44 [.sl 1 (l.map PD.str)] (qAC 1 l) (fun t=>qSK t l)
 generalize qZ (qAC 1 l) s=R at *
 obtain ⟨⟨t,b⟩,s'⟩:=R
 simp only at hp
 refine rgn [] [[],[],[0,3]] ?_
 iterate 3 refine op1 tok ?_
 refine qA (rgn [] [[],[]] ?_)
 iterate 2 refine op1 tok ?_
 refine qF ?_
 refine qE.freezeV 903 (by conv=>lhs; simp) ?_
 refine qE.stepK [11] (qK rfl hp (by simp)) (by conv=>lhs; simp) rfl ?_
 refine qE.run [[],[],[],[],[],[6,7]] ?_
 iterate 6 refine op1 tok ?_
 refine qA (rgn [] [[],[],[],[4,16],[4,5]] ?_)
 iterate 5 refine op1 tok ?_
 refine qA ?_
 exact AW.ret qP
theorem qAV (s:PS) (l:List Int):AX Tryz.prog G 20 [.ptr 2 0,.p (.sl 1 (l.map (PD.int .i64)))] [(2,.vars 42 (psC (s))),(3,.row 36 8 ((s).nodes.map Nd.enc))] (.agg (zR l s).1.cells) [2,3] [(2,.vars 42 (psC ((zR l s).2))),(3,.row 36 8 (((zR l s).2).nodes.map Nd.enc))]:=by
 refine AX.introU tok 900 Tryz.func20 (by kernel_rfl) rfl rfl ?_
 simp only [Tryz.f20,qN,List.map_cons,List.map_nil]
 have hT:zR l s=((qZ (fun t=>decide (t.kind∈l)) s).1.1,qU (qZ (fun t=>decide (t.kind∈l)) s).1.2 (qZ (fun t=>decide (t.kind∈l)) s).2):=rfl
 rw [hT]
 have hp:=qJU (G:=G) s 45 [.sl 1 (l.map (PD.int .i64))] (fun t=>decide (t.kind∈l)) (fun t=>qTQ t l)
 generalize qZ (fun t=>decide (t.kind∈l)) s=R at *
 obtain ⟨⟨t,b⟩,s'⟩:=R
 simp only at hp
 have hm:=kS (G:=G) s' b
 refine rgn [] [[],[0,3,4]] ?_
 iterate 2 refine op1 tok ?_
 refine qA (rgn [] [[],[]] ?_)
 iterate 2 refine op1 tok ?_
 refine qF ?_
 refine qE.freezeV 903 (by conv=>lhs; simp) ?_
 refine qE.stepK [0,4,10] (qK rfl hp (by simp)) (by conv=>lhs; simp) rfl ?_
 refine qE.run [[],[],[],[],[],[0,4,5,6]] ?_
 iterate 6 refine op1 tok ?_
 refine qA (rgn [] [[],[]] ?_)
 iterate 2 refine op1 tok ?_
 refine qF ?_
 refine qE.stepK [4,5] (qK rfl hm (by simp)) (by conv=>lhs; simp) rfl ?_
 refine qE.nil ?_
 refine rgn [] [[],[4]] ?_
 iterate 2 refine op1 tok ?_
 refine qA ?_
 exact AW.ret qP
theorem jC (s:PS) (o:Int) (t:List UInt8) (l:List Int) (hn:s.nodes.length≤1000000):AX Tryz.prog G 18 [.ptr 2 0,.p (.int .i64 o),.p (.str t),.p (.sl 1 (l.map (PD.int .i64)))] [(2,.vars 42 (psC (s))),(3,.row 36 8 ((s).nodes.map Nd.enc))] (.p (.int .i64 (opP o t l s).1)) [2] [(2,.vars 42 (psC ((opP o t l s).2))),(3,.row 36 8 (((opP o t l s).2).nodes.map Nd.enc))]:=by
 refine AX.introU tok 900 Tryz.func18 (by kernel_rfl) rfl rfl ?_
 simp only [Tryz.f18,qN,List.map_cons,List.map_nil]
 have hp:=vG (G:=G) s ⟨o,0,t,⟨false,[],0⟩,[],l⟩ rfl hn
 have hT:opP o t l s=wC ⟨o,0,t,⟨false,[],0⟩,[],l⟩ s:=rfl
 rw [hT]
 simp at hp
 refine rgn [] [[0,1,2,3]] ?_
 refine op1 tok ?_
 refine qA (rgn [] [[],[],[],[9,10,11,12],[]] ?_)
 iterate 5 refine op1 tok ?_
 refine qF ?_
 refine qE.stepK [14] (qK rfl hp (by simp)) (by conv=>lhs; simp) rfl ?_
 refine qE.run [[8]] ?_
 refine op1 tok ?_
 refine qA ?_
 exact AW.ret qP
theorem uY (s:PS) (o:Int) (t:List UInt8) (hn:s.nodes.length≤1000000):AX Tryz.prog G 18 [.ptr 2 0,.p (.int .i64 o),.p (.str t),.nilsl] [(2,.vars 42 (psC (s))),(3,.row 36 8 ((s).nodes.map Nd.enc))] (.p (.int .i64 (opP o t [] s).1)) [2] [(2,.vars 42 (psC ((opP o t [] s).2))),(3,.row 36 8 (((opP o t [] s).2).nodes.map Nd.enc))]:=by
 refine AX.introU tok 900 Tryz.func18 (by kernel_rfl) rfl rfl ?_
 simp only [Tryz.f18,qN,List.map_cons,List.map_nil]
 have hp:=yO (G:=G) s ⟨o,0,t,⟨false,[],0⟩,[],[]⟩ rfl rfl hn
 have hT:opP o t [] s=wC ⟨o,0,t,⟨false,[],0⟩,[],[]⟩ s:=rfl
 rw [hT]
 simp at hp
 refine rgn [] [[0,1,2,3]] ?_
 refine op1 tok ?_
 refine qA (rgn [] [[],[],[],[9,10,11,12],[]] ?_)
 iterate 5 refine op1 tok ?_
 refine qF ?_
 refine qE.stepK [14] (qK rfl hp (by simp)) (by conv=>lhs; simp) rfl ?_
 refine qE.run [[8]] ?_
 refine op1 tok ?_
 refine qA ?_
 exact AW.ret qP
end Go.Proofs.YtbhhphabggcacaaGreatDoor
