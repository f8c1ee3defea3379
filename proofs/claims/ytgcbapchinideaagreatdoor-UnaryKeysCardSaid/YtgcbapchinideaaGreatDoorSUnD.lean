import Derived.Test.YtgcbapchinideaaGreatDoorK2
namespace Go.Proofs.YtgcbapchinideaaGreatDoor
open Sy Go
set_option maxRecDepth 100000
set_option maxHeartbeats 4000000
set_option linter.unusedSimpArgs false
set_option linter.unusedVariables false
variable {G:qG}
def wO (k:List UInt8) (x:Val):Val := .mk 7 0 dc0 [] [[107,101,121],[118,97,108,117,101]] [wB k 0,x] 0
def zP (v:Val):List Val:=List.zipWith wO v.keys v.kids
def qUX (s:List UInt8) (v:Val) (m:Int):Val:=if v.kind=7 then vX (decide (s∈v.keys)) m else zG 40 m
def qBU (v:Val) (m:Int):Val:=if v.kind=7 then kT (zP v) m else zG 40 m
theorem qUR (s:List UInt8) (v:Val) (m:Int):AFn Tryz.prog G 44 [.agg [.int .u64 m],.str [104,97,115],.str s,v.enc] ((qUX s v m).enc):=by
 refine AFn.introU tok Tryz.func44 (by kernel_rfl) rfl rfl ?_
 simp only [Tryz.f44,qN,List.map_cons,List.map_nil]
 have hf:=wJ (G:=G) 40 m
 have hh:=qSR (G:=G) v.keys s
 have ht:=qGZ (G:=G) (decide (s∈v.keys)) m
 have e:qUX s v m=if v.kind=7 then vX (decide (s∈v.keys)) m else zG 40 m:=rfl
 rw [e]
 generalize decide (s∈v.keys)=b at *
 generalize vX b m=T at *
 simp only [Val.enc_def] at hf ht
 refine rgn [] [[],[],[1,2,4,7,8]] ?_
 iterate 3 refine op1 tok ?_
 refine qA (AW.seq (rgn [] [[],[],[1,2,4,7,8,14]] ?_))
 iterate 3 refine op1 tok ?_
 refine qA (cnd ?_ ?_)
 ·intro h14
  try simp at h14
  rw [if_neg h14]
  refine rgn [.nilp,(zG 40 m).enc] [[],[],[8]] ?_
  iterate 3 refine oq1 tok hf ?_
  exact qA (AW.ret qI)
 intro h14
 try simp at h14
 rw [if_pos (by simpa using h14)]
 refine AW.skip (AW.seq (rgn [] [[],[2,4,7,8,18]] ?_))
 iterate 2 refine op1 tok ?_
 refine qA (cnd ?_ ?_)
 ·intro h18
  try simp at h18
  refine AW.seqRunDrawK tok mixed [8] 6 [[4],[7],[20],[2],[21,22],[19,23]] [.nilp,.bool b,.nilp,T.enc] [] (by kernel_rfl) (by intro C; conv=>lhs; simp) (by exact ⟨hh,ht⟩) (by simp [Sm.sum,Sm.foot,Sm.tch,Sm.refs]; kernel_rfl) (by intro C; conv=>lhs; simp) (by first | with_reducible exact True.intro | omega | simp | (simp +contextual; omega)) ?_
  exact AW.ret qI
 intro h18
 try simp at h18
theorem qKP (s:List UInt8) (v:Val) (m:Int) (hn:v.kind=7→v.keys.length=v.kids.length) (hk:v.kids.length≤1000000) (hf2:∀ x∈v.kids,Few x):AFn Tryz.prog G 44 [.agg [.int .u64 m],.str [101,110,116,114,105,101,115],.str s,v.enc] ((qBU v m).enc):=by
 refine AFn.introU tok Tryz.func44 (by kernel_rfl) rfl rfl ?_
 simp only [Tryz.f44,qN,List.map_cons,List.map_nil]
 have hf:=wJ (G:=G) 40 m
 have e:qBU v m=if v.kind=7 then kT (zP v) m else zG 40 m:=rfl
 rw [e]
 simp only [Val.enc_def] at hf
 refine rgn [] [[],[],[1,2,4,7,8]] ?_
 iterate 3 refine op1 tok ?_
 refine qA (AW.seq (rgn [] [[],[],[1,2,4,7,8,14]] ?_))
 iterate 3 refine op1 tok ?_
 refine qA (cnd ?_ ?_)
 ·intro h14
  try simp at h14
  rw [if_neg h14]
  refine rgn [.nilp,(zG 40 m).enc] [[],[],[8]] ?_
  iterate 3 refine oq1 tok hf ?_
  exact qA (AW.ret qI)
 intro h14
 try simp at h14
 rw [if_pos (by simpa using h14)]
 have h7:v.kind=7:=by simpa using h14
 have hn:=hn h7
 have hvl:(zP v).length=v.keys.length:=by simp [zP,hn]
 have hvg:∀ (k:Nat) a x,v.keys[k]?=some a→v.kids[k]?=some x→(zP v)[k]?=some (wO a x):=fun k a x h1 h2=>by unfold zP; rw [List.getElem?_zipWith,h1,h2]
 have hl:=qEX (G:=G) (zP v) m (fun x hx=>by
  unfold zP at hx
  obtain ⟨i,hi⟩:=List.mem_iff_getElem?.1 hx
  rw [List.getElem?_zipWith] at hi
  cases h1:v.keys[i]? with
  | none=>rw [h1] at hi; cases hi
  | some a =>
   cases h2:v.kids[i]? with
   | none=>rw [h1,h2] at hi; cases hi
   | some y =>
    rw [h1,h2] at hi
    cases hi
    refine .mk (by simp [wO]) (by simp [wO]) fun z hz => ?_
    simp only [wO,Val.kids_mk,List.mem_cons,List.not_mem_nil,or_false] at hz
    rcases hz with rfl | rfl
    ·exact qLC a 0
    exact hf2 _ (List.mem_of_getElem? h2)) (by omega)
 generalize zP v=vs at *
 simp only [Val.enc_def] at hl
 refine AW.skip (AW.seq (rgn [] [[],[2,4,7,8,18]] ?_))
 iterate 2 refine op1 tok ?_
 refine qA (cnd ?_ ?_)
 ·intro h18
  try simp at h18
 intro h18
 try simp at h18
 refine AW.skip (rgn [] [[]] ?_)
 refine op1 tok ?_
 refine qA (AW.seq (rgn [] [[],[],[],[4,7,8,9,26,27,28]] ?_))
 iterate 4 refine op1 tok ?_
 refine qA (AW.block ?_)
 refine AW.beginE 9 100 31 9 (by simp) (by simp) (by conv=>lhs; simp) ?_
 refine AW.loop (α:=Nat) (fun k=>k≤v.keys.length) (fun k=>⟨qV 51 [(4,.ptr 4 0),(7,.ptr 7 0),(8,.ptr 8 0),(9,.ms 100),(26,.p (.sl 1 (v.keys.map PD.str))),(27,.p (.int .i64 v.keys.length)),(28,.p (.int .i64 k))],[],[(4,.vars 61 [.p (.int .u64 m)]),(7,.vars 31 v.cells),(8,.vars 31 [.p (.int .i64 0),.p (.int .u64 0),.p (.bool false),.p (.str []),.p (.int .i64 0),.p (.str []),.nilsl,.nilsl,.p (.int .i64 0)]),(100,.row 31 9 ((vs.map Val.enc).take k))],0⟩) (fun k=>v.keys.length-k) (0) (by omega) ⟨qD (by simp),rfl,by simp,by simp⟩ ?_
 rintro k hkk
 refine rgn [] [[]] ?_
 refine op1 tok ?_
 refine qA (AW.seq (cnd ?_ ?_))
 ·intro h29
  try simp at h29
  obtain ⟨a,ha⟩:∃ a,v.keys[k]?=some a:=⟨v.keys[k]'(by omega),by simp [show k<v.keys.length by omega]⟩
  obtain ⟨x,hx⟩:∃ x,v.kids[k]?=some x:=⟨v.kids[k]'(by omega),by simp [show k<v.kids.length by omega]⟩
  have hv:=hvg k a x ha hx
  have hgp:(vs.map Val.enc)[k]?=some (wO a x).enc:=by rw [List.getElem?_map,hv]; rfl
  have htk:(vs.map Val.enc).take k++[(wO a x).enc]=(vs.map Val.enc).take (k+1):=by rw [List.take_add_one,hgp]; rfl
  have hw:=uD (G:=G) a 0
  simp only [Val.enc_def] at htk hw
  refine AW.skip (AW.seq (AW.block (rgn [.str a] [[],[],[],[],[4,7,8,9,10,11,26,27,28]] ?_)))
  iterate 5 refine op1 tok ?_ (hv:=by first | with_reducible exact True.intro | ((simp [ha]); done) | omega | simp | (simp +contextual; omega))
  refine qA ?_
  refine AW.drawR mixed 14 [[9],[],[],[11],[35,36],[7],[38],[10],[39,40],[41],[37,42],[34,43],[44],[33,45]] [] (by kernel_rfl) ?_
  refine zI.one tok (orc:=[]) (by intro C; conv=>lhs; simp) (by first | with_reducible exact True.intro | (first | exact hw | (simp [wO,dc0]; done) | (simp [hx]; done) | (simp [hx]; omega) | (simp; done); done) | omega | simp | (simp +contextual; omega)) rfl (by kernel_rfl) ?_
  refine zI.plainRow tok [.str [107,101,121],.str [118,97,108,117,101]] rfl rfl rfl rfl rfl rfl rfl (by conv=>lhs; simp) (by simp) (by decide) (by decide) 51 (by simp) (by kernel_rfl) (by conv=>lhs; simp) ?_
  iterate 2 refine zI.one tok (orc:=[]) (by intro C; conv=>lhs; simp) (by first | with_reducible exact True.intro | (first | exact hw | (simp [wO,dc0]; done) | (simp [hx]; done) | (simp [hx]; omega) | (simp; done); done) | omega | simp | (simp +contextual; omega)) rfl (by kernel_rfl) ?_
  refine zI.one tok (orc:=[.nilp,(wB a 0).enc]) (by intro C; conv=>lhs; simp) (by first | with_reducible exact True.intro | (first | exact hw | (simp [wO,dc0]; done) | (simp [hx]; done) | (simp [hx]; omega) | (simp; done); done) | omega | simp | (simp +contextual; omega)) rfl (by kernel_rfl) ?_
  iterate 3 refine zI.one tok (orc:=[]) (by intro C; conv=>lhs; simp) (by first | with_reducible exact True.intro | (first | exact hw | (simp [wO,dc0]; done) | (simp [hx]; done) | (simp [hx]; omega) | (simp; done); done) | omega | simp | (simp +contextual; omega)) rfl (by kernel_rfl) ?_
  refine zI.one tok (orc:=[x.enc]) (by intro C; conv=>lhs; simp) (by first | with_reducible exact True.intro | (first | exact hw | (simp [wO,dc0]; done) | (simp [hx]; done) | (simp [hx]; omega) | (simp; done); done) | omega | simp | (simp +contextual; omega)) rfl (by kernel_rfl) ?_
  refine zI.one tok (orc:=[]) (by intro C; conv=>lhs; simp) (by first | with_reducible exact True.intro | (first | exact hw | (simp [wO,dc0]; done) | (simp [hx]; done) | (simp [hx]; omega) | (simp; done); done) | omega | simp | (simp +contextual; omega)) rfl (by kernel_rfl) ?_
  refine zI.plainRow tok [(wB a 0).enc,x.enc] rfl rfl rfl rfl rfl rfl rfl (by conv=>lhs; simp) (by simp) (by decide) (by decide) 510 (by simp) (by kernel_rfl) (by conv=>lhs; simp) ?_
  refine zI.one tok (orc:=[]) (by intro C; conv=>lhs; simp) (by first | with_reducible exact True.intro | (first | exact hw | (simp [wO,dc0]; done) | (simp [hx]; done) | (simp [hx]; omega) | (simp; done); done) | omega | simp | (simp +contextual; omega)) rfl (by kernel_rfl) ?_
  iterate 2 refine zI.one tok (orc:=[(wO a x).enc]) (by intro C; conv=>lhs; simp) (by first | with_reducible exact True.intro | (first | exact hw | (simp [wO,dc0]; done) | (simp [hx]; done) | (simp [hx]; omega) | (simp; done); done) | omega | simp | (simp +contextual; omega)) rfl (by kernel_rfl) ?_
  refine zI.nil (by kernel_rfl) ⟨by kernel_rfl, ?_⟩
  refine qH.run [[4,7,8,9,26,27,28]] ?_
  refine op1 tok ?_
  refine kD ?_
  refine qH.take 46 100 (by conv=>lhs; simp) ?_
  refine qH.nil ?_
  refine rgz [] [[],[4,7,8,9,26,27,28]] ?_
  iterate 2 refine op1 tok ?_
  refine qA ?_
  exact ⟨k+1,by omega,by omega,qD (by simp [htk]),rfl,by simp [htk],by simp [htk]⟩
 intro h29
 try simp at h29
 obtain rfl:k=v.keys.length:=by omega
 have hall:(vs.map Val.enc).take v.keys.length=vs.map Val.enc:=List.take_of_length_le (by simp [hvl])
 simp only [hall]
 refine AW.exit ?_
 simp
 refine rgn [.nilp,(kT vs m).enc] [[]] ?_
 refine op1 tok ?_ (hv:=by first | with_reducible exact True.intro | (first | exact hl | (simp at hl ⊢; exact hl); done) | omega | simp | (simp +contextual; omega))
 refine kD ?_
 refine qH.freeze 100 (by conv=>lhs; simp) ?_
 refine qH.run [[],[8,50],[8]] ?_
 iterate 3 refine op1 tok ?_ (hv:=by first | with_reducible exact True.intro | (first | exact hl | (simp at hl ⊢; exact hl); done) | omega | simp | (simp +contextual; omega))
 exact qA (AW.ret qI)
end Go.Proofs.YtgcbapchinideaaGreatDoor
