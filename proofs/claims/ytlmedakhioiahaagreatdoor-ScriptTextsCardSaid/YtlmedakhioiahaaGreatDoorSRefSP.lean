import Derived.Test.YtlmedakhioiahaaGreatDoorSRefS
namespace Go.Proofs.YtlmedakhioiahaaGreatDoor
open Sy Go
set_option maxRecDepth 100000
set_option maxHeartbeats 4000000
set_option linter.unusedSimpArgs false
set_option linter.unusedVariables false
variable {G:qO}
theorem zAS (j:Jb) {k:Nat} (h:k<4):([j.p,j.f,j.i,j.n].map PD.str)[k]?=some (.str (wC j k)):=by
 match k,h with
 | 0,_=>rfl
 | 1,_=>rfl
 | 2,_=>rfl
 | 3,_=>rfl
theorem zFU (j:Jb) {k:Nat} (h:k<4):([j.a,j.b,j.c,j.d].map (PD.int .i64))[k]?=some (.int .i64 (yT j k)):=by
 match k,h with
 | 0,_=>rfl
 | 1,_=>rfl
 | 2,_=>rfl
 | 3,_=>rfl
theorem zBE (s:List UInt8):wF (qBT s)=(decide ((s.length:Int)≤4096) && qJT s):=by
 rw [← zAW,qDG]
 simp [qBT,xE,xM,qBP,qGW,qBV,qEH,qLF,uD,Val.kind,Val.num,Val.text,Val.keys,Val.kids,Val.code,dc0]
 first | rfl | congr 1
theorem qYT (j:Jb) (hb:zCA j) (hln:∀ k,k<4→(wC j k).length≤1000000) (hnm:∀ k,k<4→wF (qDM (yT j k))=true) (hP:(zN j).all wF=true→AFn Tryz.prog G 17 [(qCA j).enc] (.str (qR (qCA j)))):AFn Tryz.prog G 9 [j.enc] (.tup [.str (qRZ j).1,.int .i64 (qRZ j).2]):=by
 refine AFn.introU tok Tryz.func9 (by kernel_rfl) rfl rfl ?_
 simp only [Tryz.f9,qL,List.map_cons,List.map_nil]
 have hkeys:=qEY (G:=G)
 have hM:qRZ j=if (zN j).all wF=true then (qR (qCA j),0) else ([],1):=rfl
 have hkl:(zN j).length=8:=rfl
 rw [hM]
 obtain ⟨res,hres⟩:∃ r:List UInt8 × Int,r=(if (zN j).all wF=true then (qR (qCA j),0) else ([],1)):=⟨_,rfl⟩
 rw [← hres]
 obtain ⟨ro,re⟩:=res
 obtain ⟨LS,hLS⟩:∃ l,l=[PD.str j.p,PD.str j.f,PD.str j.i,PD.str j.n]:=⟨_,rfl⟩
 obtain ⟨LN,hLN⟩:∃ l,l=[PD.int .i64 j.a,PD.int .i64 j.b,PD.int .i64 j.c,PD.int .i64 j.d]:=⟨_,rfl⟩
 have hcl4:LS.length=4:=by rw [hLS]; rfl
 have hcn4:LN.length=4:=by rw [hLN]; rfl
 refine rgn [] [[],[],[1]] ?_
 iterate 3 refine op1 tok ?_
 refine qA (rgn [.nilp,.sl 1 (yU.map PD.str)] [[],[],[],[1,4]] ?_)
 iterate 4 refine oq1 tok hkeys ?_
 refine qA (rgn [.str j.p,.str j.f,.str j.i,.str j.n] [[],[],[],[],[],[],[],[1,4,12,14,16,18],[1,4,19],[1,4,5]] ?_)
 iterate 10 refine op1 tok ?_
 refine qA (AW.seq (rgn [] [[]] ?_))
 refine op1 tok ?_
 refine qA (AW.block ?_)
 refine AW.freezeE 19 (by conv=>lhs; simp) ?_; refine AW.beginBox 4 800 7 42 9 (by simp; exact ⟨rfl,rfl⟩) (by simp) (by simp) (by conv=>lhs; simp) ?_
 refine AW.loop (α:=Nat) (fun k=>k≤4∧((zN j).take k).all wF=true) (fun k=>⟨zD 74 [(1,.ptr 1 0),(4,.ptr 4 0),(5,.p (.sl 1 LS)),(6,.p (.int .i64 k))],[],[(1,.vars 23 j.cells),(4,.vars 42 [.p (.int .i64 7),.p (.int .u64 0),.p (.bool false),.p (.str []),.p (.int .i64 0),.p (.str []),.p (.sl 1 (yU.map PD.str)),.ms 800,.p (.int .i64 0)]),(800,.row 42 9 (((zN j).take k).map Val.enc))],0⟩) (fun k=>4-k) (0) ⟨by omega,by simp⟩ ⟨qD (by simp [hLS]),rfl,by simp,by simp⟩ ?_
 rintro k ⟨hk,hall⟩
 refine AW.seq (rgn [] [[],[1,4,5,6,21]] ?_)
 iterate 2 refine op1 tok ?_
 refine qA (cnd ?_ ?_)
 ·intro h21
  try simp at h21
  have hk':k<4:=by omega
  obtain ⟨_,_,w3,w4,_⟩:=qJD j hk'
  have hget:LS[k]?=some (.str (wC j k)):=by rw [hLS]; exact zAS j hk'
  have hll:=hln k hk'
  have hval:=qSC (G:=G) (wC j k) (by omega)
  have htm:=zBE (wC j k)
  have hen:(qBT (wC j k)).enc = .agg [.int .i64 5,.int .u64 0,.bool false,.str [],.int .i64 0,.str (wC j k),.sl 1 [],.sl 9 [],.int .i64 0]:=by rw [Val.enc_def]; rfl
  have hte:((zN j).take (k+1)).map Val.enc=((zN j).take k).map Val.enc++[.agg [.int .i64 5,.int .u64 0,.bool false,.str [],.int .i64 0,.str (wC j k),.sl 1 [],.sl 9 [],.int .i64 0]]:=by rw [List.take_add_one,w4,List.map_append]; show _++[Val.enc _]=_; rw [hen]
  have hta:((zN j).take (k+1)).all wF=(((zN j).take k).all wF && wF (qBT (wC j k))):=by rw [List.take_add_one,w4,List.all_append]; simp
  have hno:wF (qBT (wC j k))=false→¬ (zN j).all wF=true:=fun h h'=>by
   have:=List.all_eq_true.1 h' _ (List.mem_of_getElem? w4)
   rw [h] at this; cases this
  rw [htm] at hta hno
  generalize qJT (wC j k)=vb at *
  generalize hwj:wC j k=ww at *
  refine AW.skip (AW.seq (AW.block (AW.seq (rgn [.str ww,.str ww,.nilp,.bool vb] [[],[],[],[],[1,4,5,6,28],[],[],[],[],[1,4,5,6,30,33],[],[],[],[1,4,5,6,37]] ?_))))
  iterate 7 refine op1 tok ?_ (hv:=by first | with_reducible exact True.intro | (first | exact hval | exact fun _=>hval | exact fun h=>⟨h,hval⟩ | (simp [hget]; done) | (simp [hget,hcl4]; omega); done) | omega | simp | (simp +contextual; omega))
  iterate 6 refine op2 tok ?_ (hv:=by first | with_reducible exact True.intro | (first | exact hval | exact fun _=>hval | exact fun h=>⟨h,hval⟩ | (simp [hget]; done) | (simp [hget,hcl4]; omega); done) | omega | simp | (simp +contextual; omega))
  refine op1 tok ?_ (hv:=by first | with_reducible exact True.intro | (first | exact hval | exact fun _=>hval | exact fun h=>⟨h,hval⟩ | (simp [hget]; done) | (simp [hget,hcl4]; omega); done) | omega | simp | (simp +contextual; omega))
  refine qA (cnd ?_ ?_)
  ·intro h37
   try simp at h37
   rw [if_neg (hno (by
    rcases h37 with h | h
    ·rw [decide_eq_false (by omega)]; rfl
    rw [h]; simp))] at hres
   cases hres
   refine rgn [] [[],[]] ?_
   iterate 2 refine op1 tok ?_
   exact qA (AW.ret qK)
  intro h37
  try simp at h37
  have hok:(decide ((ww.length:Int)≤4096) && vb)=true:=by rw [h37.2,decide_eq_true (show (ww.length:Int)≤4096 by have:=h37.1; omega)]; rfl
  refine AW.skip ?_
  refine AW.runDrawK tok mixed [1,4,5,6] 9 [[4],[38],[5],[6],[40,41],[42],[43],[44],[39,45]] [.str ww,.agg [.int .i64 5,.int .u64 0,.bool false,.str [],.int .i64 0,.str ww,.sl 1 [],.sl 9 [],.int .i64 0],.agg [.int .i64 5,.int .u64 0,.bool false,.str [],.int .i64 0,.str ww,.sl 1 [],.sl 9 [],.int .i64 0]] [] (by kernel_rfl) (by intro C; conv=>lhs; simp) (by first | (simp [hget]; done) | (simp [hget,hcl4]; omega)) (by simp [Sm.sum,Sm.foot,Sm.tch,Sm.refs]; kernel_rfl) (by intro C; conv=>lhs; simp) (by first | with_reducible exact True.intro | omega | simp | (simp +contextual; omega)) ?_
  refine AW.renE 46 800 (by simp) (by conv=>lhs; simp) ?_
  refine rgz [] [[],[],[1,4,5,6]] ?_
  iterate 3 refine op1 tok ?_
  refine qA ?_
  exact ⟨k+1,⟨by omega,by rw [hta,hall,hok]; rfl⟩,by omega,qD (by simp [hte]),rfl,by simp [hte],by simp [hte]⟩
 intro h21
 try simp at h21
 obtain rfl:k=4:=by omega
 refine AW.exit ?_
 simp
 refine rgn [.int .i64 j.a,.int .i64 j.b,.int .i64 j.c,.int .i64 j.d] [[],[],[],[],[],[],[4,49,51,53,54],[],[4,56],[4,7]] ?_
 iterate 10 refine op1 tok ?_
 refine qA (AW.seq (rgn [] [[]] ?_))
 refine op1 tok ?_
 refine qA (AW.block ?_)
 refine AW.freezeE 56 (by conv=>lhs; simp) ?_
 refine AW.loop (α:=Nat) (fun k=>k≤4∧((zN j).take (k+4)).all wF=true) (fun k=>⟨zD 74 [(4,.ptr 4 0),(7,.p (.sl 1 LN)),(8,.p (.int .i64 k))],[],[(4,.vars 42 [.p (.int .i64 7),.p (.int .u64 0),.p (.bool false),.p (.str []),.p (.int .i64 0),.p (.str []),.p (.sl 1 (yU.map PD.str)),.ms 800,.p (.int .i64 0)]),(800,.row 42 9 (((zN j).take (k+4)).map Val.enc))],0⟩) (fun k=>4-k) (0) ⟨by omega,hall⟩ ⟨qD (by simp [hLN]),rfl,by simp,by simp⟩ ?_
 rintro k ⟨hk2,hall2⟩
 refine AW.seq (rgn [] [[],[4,7,8,58]] ?_)
 iterate 2 refine op1 tok ?_
 refine qA (cnd ?_ ?_)
 ·intro h58
  try simp at h58
  have hk':k<4:=by omega
  obtain ⟨_,_,w3,w4,_⟩:=qFS j hk'
  have hget:LN[k]?=some (.int .i64 (yT j k)):=by rw [hLN]; exact zFU j hk'
  obtain ⟨nb1,nb2⟩:=hb k hk'
  have hdi:=zAK (G:=G) (yT j k) nb1 nb2
  have hmk:=hnm k hk'
  have hen:(qDM (yT j k)).enc = .agg [.int .i64 4,.int .u64 0,.bool (uC (yT j k)).neg,.str (uC (yT j k)).digits,.int .i64 (uC (yT j k)).scale,.str [],.sl 1 [],.sl 9 [],.int .i64 0]:=by rw [Val.enc_def]; rfl
  have hte:((zN j).take (k+1+4)).map Val.enc=((zN j).take (k+4)).map Val.enc++[.agg [.int .i64 4,.int .u64 0,.bool (uC (yT j k)).neg,.str (uC (yT j k)).digits,.int .i64 (uC (yT j k)).scale,.str [],.sl 1 [],.sl 9 [],.int .i64 0]]:=by rw [show k+1+4=k+4+1 by omega,List.take_add_one,w4,List.map_append]; show _++[Val.enc _]=_; rw [hen]
  have hta:((zN j).take (k+1+4)).all wF=true:=by rw [show k+1+4=k+4+1 by omega,List.take_add_one,w4,List.all_append,hall2]; simp [hmk]
  generalize uC (yT j k)=q at *
  generalize yT j k=nn at *
  simp only [Dc.enc] at hdi
  refine AW.skip (AW.seq (AW.block ?_))
  refine AW.runDrawK tok mixed [4,7,8] 10 [[4],[61],[7],[8],[63,64],[65],[66],[67],[68],[62,69]] [.int .i64 nn,.nilp,.agg [.bool q.neg,.str q.digits,.int .i64 q.scale],.agg [.int .i64 4,.int .u64 0,.bool q.neg,.str q.digits,.int .i64 q.scale,.str [],.sl 1 [],.sl 9 [],.int .i64 0],.agg [.int .i64 4,.int .u64 0,.bool q.neg,.str q.digits,.int .i64 q.scale,.str [],.sl 1 [],.sl 9 [],.int .i64 0]] [] (by kernel_rfl) (by intro C; conv=>lhs; simp) (by first | (simp [hget,hdi]; done) | (simp [hget,hcn4,hdi]; omega)) (by simp [Sm.sum,Sm.foot,Sm.tch,Sm.refs]; kernel_rfl) (by intro C; conv=>lhs; simp) (by first | with_reducible exact True.intro | omega | simp | (simp +contextual; omega)) ?_
  refine AW.renE 70 800 (by simp) (by conv=>lhs; simp) ?_
  refine rgz [] [[],[],[4,7,8]] ?_
  iterate 3 refine op1 tok ?_
  refine qA ?_
  exact ⟨k+1,⟨by omega,hta⟩,by omega,qD (by simp [hte]),rfl,by simp [hte],by simp [hte]⟩
 intro h58
 try simp at h58
 obtain rfl:k=4:=by omega
 have ht8:(zN j).take (4+4)=zN j:=rfl
 have hall3:(zN j).all wF=true:=hall2
 rw [if_pos hall3] at hres
 cases hres
 have ht9:List.take 8 ((zN j).map Val.enc)=(zN j).map Val.enc:=rfl
 try rw [ht8]
 try rw [ht9]
 have hP:=hP hall3
 have hen:(qCA j).enc = .agg [.int .i64 7,.int .u64 0,.bool false,.str [],.int .i64 0,.str [],.sl 1 (yU.map PD.str),.sl 9 ((zN j).map Val.enc),.int .i64 0]:=by rw [Val.enc_def]; rfl
 rw [hen] at hP
 generalize qR (qCA j)=out at *
 generalize (zN j).map Val.enc=kk at *
 refine AW.exit ?_
 simp
 refine AW.freezeE 800 (by conv=>lhs; simp) ?_
 refine rgn [.nilp,.str out] [[],[],[],[2,3]] ?_
 iterate 4 refine oq1 tok hP ?_
 exact qA (AW.ret qK)
end Go.Proofs.YtlmedakhioiahaaGreatDoor
