import Derived.Test.YtgcbapchinideaaGreatDoorSUnT
import Derived.Test.YtgcbapchinideaaGreatDoorSComp
namespace Go.Proofs.YtgcbapchinideaaGreatDoor
open Sy Go
set_option maxRecDepth 100000
set_option maxHeartbeats 4000000
set_option linter.unusedSimpArgs false
set_option linter.unusedVariables false
variable {G:qK}
theorem qWU (a b:Val) (ha:zC a=true) (hb:zC b=true):AFn Tryz.prog G 85 [a.enc,b.enc] (.bool (decide (zD a b=0))):=by
 refine AFn.introU tok Tryz.func85 (by kernel_rfl) rfl rfl ?_
 simp only [Tryz.f85,qH,List.map_cons,List.map_nil]
 have hc:=qEU (G:=G) a b ha hb
 simp only [Val.enc_def] at hc
 refine rgn [] [[],[],[2,3]] ?_
 iterate 3 refine op1 tok ?_
 refine qA (rgn [.nilp,.int .i64 (zD a b)] [[],[],[7],[],[4]] ?_)
 iterate 5 refine oq1 tok hc ?_
 exact qA (AW.ret qG)
theorem qWT (a b:Val) (ha:zC a=true) (hb:zC b=true):AFn Tryz.prog G 88 [a.enc,b.enc] (.bool (decide (zD a b<0))):=by
 refine AFn.introU tok Tryz.func88 (by kernel_rfl) rfl rfl ?_
 simp only [Tryz.f88,qH,List.map_cons,List.map_nil]
 have hc:=qEU (G:=G) a b ha hb
 simp only [Val.enc_def] at hc
 refine rgn [] [[],[],[2,3]] ?_
 iterate 3 refine op1 tok ?_
 refine qA (rgn [.nilp,.int .i64 (zD a b)] [[],[],[7],[],[4]] ?_)
 iterate 5 refine oq1 tok hc ?_
 exact qA (AW.ret qG)
theorem qWS (a b:Val) (ha:zC a=true) (hb:zC b=true):AFn Tryz.prog G 89 [a.enc,b.enc] (.bool (decide (0<zD a b))):=by
 refine AFn.introU tok Tryz.func89 (by kernel_rfl) rfl rfl ?_
 simp only [Tryz.f89,qH,List.map_cons,List.map_nil]
 have hc:=qEU (G:=G) a b ha hb
 simp only [Val.enc_def] at hc
 refine rgn [] [[],[],[2,3]] ?_
 iterate 3 refine op1 tok ?_
 refine qA (rgn [.nilp,.int .i64 (zD a b)] [[],[],[7],[],[4]] ?_)
 iterate 5 refine oq1 tok hc ?_
 exact qA (AW.ret qG)
def vZ (b:Val→Val→Bool) (x:Val):List Val→Val
 | []=>x
 | v::l=>vZ b (if b v x=true then v else x) l
def qEX (b:Val→Val→Bool) (l:List Val) (m:Int):Val:=if l.length=0 then qPN m else xB (vZ b (l.getD 0 yU) (l.drop 1)) m
theorem qPU (g:FuncId) (b:Val→Val→Bool) (l:List Val) (m:Int) (hg:∀ x∈l, ∀ y∈l,AFn Tryz.prog G g [x.enc,y.enc] (.bool (b x y))) (hl:l.length≤1000000) (hml:yZ l):AFn Tryz.prog G 87 [.agg [.int .u64 m],.sl 9 (l.map Val.enc),.fn g] ((qEX b l m).enc):=by
 refine AFn.introU tok Tryz.func87 (by kernel_rfl) rfl rfl ?_
 simp only [Tryz.f87,qH,List.map_cons,List.map_nil]
 have hn:=qPS (G:=G) m
 have hw:=fun x hx=>zCD (G:=G) x m (hml x hx)
 have hle:(l.map Val.enc).length=l.length:=by simp
 have e:qEX b l m=if l.length=0 then qPN m else xB (vZ b (l.getD 0 yU) (l.drop 1)) m:=rfl
 rw [e]
 simp only [Val.enc_def] at hn
 refine rgn [] [[],[1,2,3,6]] ?_
 iterate 2 refine op1 tok ?_
 refine qA (AW.seq (rgn [] [[],[],[1,2,3,6,12]] ?_))
 iterate 3 refine op1 tok ?_
 refine qA (cnd ?_ ?_)
 ·intro h12
  try simp at h12
  rw [if_pos (by simpa using h12)]
  refine rgn [.nilp,(qPN m).enc] [[],[],[6]] ?_
  iterate 3 refine oq1 tok hn ?_
  exact qA (AW.ret qG)
 intro h12
 try simp at h12
 rw [if_neg (by simpa using h12)]
 obtain ⟨x0,r,rfl⟩:∃ x r,l=x::r:=by
  cases l with
  | nil=>simp at h12
  | cons x r=>exact ⟨x,r,rfl⟩
 simp only [List.getD_cons_zero,List.drop_succ_cons,List.drop_zero]
 obtain ⟨R,hRe⟩:∃ R,vZ b x0 r=R:=⟨_,rfl⟩
 rw [hRe]
 have htake:(r.map Val.enc).take r.length=r.map Val.enc:=List.take_of_length_le (by simp)
 simp only [List.length_cons] at hl
 refine AW.skip (rgn [x0.enc] [[],[],[],[],[1,2,3,6,7]] ?_)
 iterate 5 refine op1 tok ?_
 refine qA (AW.seq (rgn [] [[],[],[],[2,3,6,7,19,20,21]] ?_))
 iterate 4 refine op1 tok ?_
 refine qA (AW.block ?_)
 refine AW.loop (α:=Nat × Val) (fun a=>a.1≤r.length∧R=vZ b a.2 (r.drop a.1)∧a.2∈x0::r) (fun a=>⟨qS 35 [(2,.p (.fn g)),(3,.ptr 3 0),(6,.ptr 6 0),(7,.ptr 7 0),(19,.p (.sl 9 (r.map Val.enc))),(20,.p (.int .i64 r.length)),(21,.p (.int .i64 a.1))],[],[(3,.vars 61 [.p (.int .u64 m)]),(6,.vars 31 [.p (.int .i64 0),.p (.int .u64 0),.p (.bool false),.p (.str []),.p (.int .i64 0),.p (.str []),.nilsl,.nilsl,.p (.int .i64 0)]),(7,.vars 31 a.2.cells)],0⟩) (fun a=>r.length-a.1) ((0,x0)) ⟨by simp,by simp [hRe],by simp⟩ ⟨qB (by simp [htake]),rfl,by simp,by simp⟩ ?_
 rintro ⟨k,x⟩ ⟨hk,hs,hx⟩
 simp only at hk hs hx
 refine rgn [] [[]] ?_
 refine op1 tok ?_
 refine qA (AW.seq (cnd ?_ ?_))
 ·intro h22
  try simp at h22
  obtain ⟨v,hv⟩:∃ v,r[k]?=some v:=⟨r[k]'(by omega),by simp [show k<r.length by omega]⟩
  have hvm:v∈x0::r:=List.mem_cons_of_mem _ (List.mem_of_getElem? hv)
  have hgv:=hg v hvm x hx
  have hdr:r.drop k=v::r.drop (k+1):=by
   obtain ⟨h1,h2⟩:=List.getElem?_eq_some_iff.1 hv
   rw [List.drop_eq_getElem_cons h1,h2]
  have hst:vZ b x (r.drop k)=vZ b (if b v x=true then v else x) (r.drop (k+1)):=by rw [hdr]; rfl
  generalize b v x=bv at *
  simp only [Val.enc_def] at hgv
  refine AW.skip (AW.seq (AW.block (rgn [v.enc] [[],[],[],[2,3,6,7,9,19,20,21]] ?_)))
  iterate 4 refine op1 tok ?_ (hv:=by first | with_reducible exact True.intro | (first | (simp [hv]; done) | (simp [hv]; omega); done) | omega | simp | (simp +contextual; omega))
  refine qA (rgn [.nilp,.bool bv] [[],[],[],[2,3,6,7,9,19,20,21,28]] ?_)
  iterate 4 refine oq1 tok hgv ?_
  refine qA (cnd ?_ ?_)
  ·intro h28
   try simp at h28
   rw [if_pos h28] at hst
   refine rgz [] [[],[2,3,6,7,19,20,21]] ?_
   iterate 2 refine op1 tok ?_
   refine qA (rgz [] [[],[2,3,6,7,19,20,21]] ?_)
   iterate 2 refine op1 tok ?_
   refine qA ?_
   exact ⟨(k+1,v),⟨by simp only; omega,hs.trans hst,hvm⟩,by simp only; omega,qB (by simp),rfl,by simp,by simp⟩
  intro h28
  try simp at h28
  rw [if_neg (by simp [h28])] at hst
  refine AW.skip (rgz [] [[],[2,3,6,7,19,20,21]] ?_)
  iterate 2 refine op1 tok ?_
  refine qA ?_
  exact ⟨(k+1,x),⟨by simp only; omega,hs.trans hst,hx⟩,by simp only; omega,qB (by simp),rfl,by simp,by simp⟩
 intro h22
 try simp at h22
 obtain rfl:k=r.length:=by omega
 rw [List.drop_length] at hs
 have hs2:R=x:=hs
 subst hs2
 have hwR:=hw R hx
 simp only [Val.enc_def] at hwR
 refine AW.exit ?_
 simp
 refine rgn [.nilp,(xB R m).enc] [[],[],[],[6,34],[6]] ?_
 iterate 5 refine op1 tok ?_ (hv:=by first | with_reducible exact True.intro | (first | exact hwR | (simp at hwR ⊢; exact hwR); done) | omega | simp | (simp +contextual; omega))
 exact qA (AW.ret qG)
theorem qZL (arg:List UInt8) (v:Val) (m:Int) (hn:v.kids.length≤1000000) (hm:yZ v.kids) (hf:∀ k∈uqV (srt leV v.kids),Few k) (hu:(uqV (srt leV v.kids)).length≤1000000):AFn Tryz.prog G 46 [.agg [.int .u64 m],.str [117,110,105,113,117,101],.str arg,v.enc] ((if v.kind=6 then qAY (uqV (srt leV v.kids)) m else wD 40 m).enc):=by
 refine AFn.introU tok Tryz.func46 (by kernel_rfl) rfl rfl ?_
 simp only [Tryz.f46,qH,List.map_cons,List.map_nil]
 have hfa:=yD (G:=G) 40 m
 have hc:=jU (G:=G) v.kids (by omega)
 have hs:=qPC (G:=G) v.kids hn hm
 have hq:=zDK (G:=G) 85 (srt leV v.kids) (fun a b ha hb=>qWU a b ha hb) (by rw [jD]; exact hn) (qCG hm)
 have hq2:=AX.ren 890 891 hq (by kernel_rfl)
 simp [V.ren,qIQ,Box.ren] at hq2
 have hl:=qEH (G:=G) (uqV (srt leV v.kids)) m hf hu
 unfold zF at hs hq2
 generalize qAY (uqV (srt leV v.kids)) m=W at *
 generalize uqV (srt leV v.kids)=U at *
 generalize srt leV v.kids=S at *
 simp only [Val.enc_def] at hfa hl
 refine rgn [] [[],[],[1,2,4,7,8]] ?_
 iterate 3 refine op1 tok ?_
 refine qA (AW.seq (rgn [] [[],[],[1,2,4,7,8,12]] ?_))
 iterate 3 refine op1 tok ?_
 refine qA (cnd ?_ ?_)
 ·intro h12
  try simp at h12
  rw [if_neg (by simpa using h12)]
  refine rgn [.nilp,(wD 40 m).enc] [[],[],[8]] ?_
  iterate 3 refine oq1 tok hfa ?_
  exact qA (AW.ret qG)
 intro h12
 try simp at h12
 rw [if_pos (by simpa using h12)]
 refine AW.skip (rgn [.nilf,.sl 9 (v.kids.map Val.enc),.clo 31 []] [[],[],[],[1,2,4,8,9]] ?_)
 iterate 4 refine oq1 tok hc ?_
 refine qA (AW.seq (rgn [] [[]] ?_))
 refine op1 tok ?_
 refine qA (AW.block (rgn [] [[],[1,2,4,8,9,18,19]] ?_))
 iterate 2 refine op1 tok ?_
 refine qA (cnd ?_ ?_)
 ·intro h19
  try simp at h19
 intro h19
 try simp at h19
 refine rgn [] [[],[1,2,4,8,9,18,26]] ?_
 iterate 2 refine op1 tok ?_
 refine qA (cnd ?_ ?_)
 ·intro h26
  try simp at h26
  refine AW.renE 17 890 (by simp) (by conv=>lhs; simp) ?_
  refine rgn [] [[]] ?_
  refine op1 tok ?_
  refine zX ?_
  refine qF.stepK [4,8,9] (uC rfl hs (by simp)) (by conv=>lhs; simp) rfl ?_
  refine qF.nil ?_
  refine AW.seqDrawR mixed 4 [[4],[9],[31],[30,32]] [] (by kernel_rfl) ?_
  refine zB.one tok (orc:=[]) (by intro C; conv=>lhs; simp) (by first | with_reducible exact True.intro | omega | simp | (simp +contextual; omega)) rfl (by kernel_rfl) ?_
  refine zB.q [890] (.ms 890) rfl (qAD tok (orc:=[]) (orc':=[]) (v:=True) (by conv=>lhs; simp) trivial) (by simp) (by kernel_rfl) (by conv=>lhs; simp) ?_
  refine zB.call [891] hq2 rfl rfl (by simp) (by simp) (by simp) (by simp) (by simp) (by first | (simp; done) | (simp; omega)) (by first | (simp; done) | (simp; omega)) (by kernel_rfl) (by conv=>lhs; simp) ?_
  refine zB.callZ [(891,.row 31 9 (U.map Val.enc))] hl rfl rfl rfl trivial (by simp) (by simp) (by kernel_rfl) (by simp) (by kernel_rfl) (by kernel_rfl) (by conv=>lhs; simp) ?_
  refine zB.nil (by kernel_rfl) ⟨by kernel_rfl, ?_⟩
  refine qF.run [[8]] ?_
  refine op1 tok ?_
  exact qA (AW.ret qG)
 intro h26
 try simp at h26
theorem zCU (arg:List UInt8) (v:Val) (m:Int) (hn:v.kids.length≤1000000) (hm:yZ v.kids):AFn Tryz.prog G 46 [.agg [.int .u64 m],.str [109,105,110],.str arg,v.enc] ((if v.kind=6 then qEX (fun a b=>decide (zD a b<0)) v.kids m else wD 40 m).enc):=by
 refine AFn.introU tok Tryz.func46 (by kernel_rfl) rfl rfl ?_
 simp only [Tryz.f46,qH,List.map_cons,List.map_nil]
 have hfa:=yD (G:=G) 40 m
 have hc:=jU (G:=G) v.kids (by omega)
 have hb:=qPU (G:=G) 88 (fun a b=>decide (zD a b<0)) v.kids m (fun a ha b hb=>qWT a b (hm a ha) (hm b hb)) hn hm
 generalize qEX (fun a b=>decide (zD a b<0)) v.kids m=W at *
 simp only [Val.enc_def] at hfa hb
 refine rgn [] [[],[],[1,2,4,7,8]] ?_
 iterate 3 refine op1 tok ?_
 refine qA (AW.seq (rgn [] [[],[],[1,2,4,7,8,12]] ?_))
 iterate 3 refine op1 tok ?_
 refine qA (cnd ?_ ?_)
 ·intro h12
  try simp at h12
  rw [if_neg (by simpa using h12)]
  refine rgn [.nilp,(wD 40 m).enc] [[],[],[8]] ?_
  iterate 3 refine oq1 tok hfa ?_
  exact qA (AW.ret qG)
 intro h12
 try simp at h12
 rw [if_pos (by simpa using h12)]
 refine AW.skip (rgn [.nilf,.sl 9 (v.kids.map Val.enc),.clo 31 []] [[],[],[],[1,2,4,8,9]] ?_)
 iterate 4 refine oq1 tok hc ?_
 refine qA (AW.seq (rgn [] [[]] ?_))
 refine op1 tok ?_
 refine qA (AW.block (rgn [] [[],[1,2,4,8,9,18,19]] ?_))
 iterate 2 refine op1 tok ?_
 refine qA (cnd ?_ ?_)
 ·intro h19
  try simp at h19
 intro h19
 try simp at h19
 refine rgn [] [[],[1,2,4,8,9,18,26]] ?_
 iterate 2 refine op1 tok ?_
 refine qA (cnd ?_ ?_)
 ·intro h26
  try simp at h26
 intro h26
 try simp at h26
 refine rgn [] [[],[1,2,4,8,9,18,34]] ?_
 iterate 2 refine op1 tok ?_
 refine qA (cnd ?_ ?_)
 ·intro h34
  try simp at h34
 intro h34
 try simp at h34
 refine rgn [] [[],[1,2,4,8,9,18,39]] ?_
 iterate 2 refine op1 tok ?_
 refine qA (cnd ?_ ?_)
 ·intro h39
  try simp at h39
  refine AW.freezeE 17 (by conv=>lhs; simp) ?_
  refine rgn [.nilp,W.enc] [[],[],[8,43],[8]] ?_
  iterate 4 refine oq1 tok hb ?_
  exact qA (AW.ret qG)
 intro h39
 try simp at h39
theorem zCV (arg:List UInt8) (v:Val) (m:Int) (hn:v.kids.length≤1000000) (hm:yZ v.kids):AFn Tryz.prog G 46 [.agg [.int .u64 m],.str [109,97,120],.str arg,v.enc] ((if v.kind=6 then qEX (fun a b=>decide (0<zD a b)) v.kids m else wD 40 m).enc):=by
 refine AFn.introU tok Tryz.func46 (by kernel_rfl) rfl rfl ?_
 simp only [Tryz.f46,qH,List.map_cons,List.map_nil]
 have hfa:=yD (G:=G) 40 m
 have hc:=jU (G:=G) v.kids (by omega)
 have hb:=qPU (G:=G) 89 (fun a b=>decide (0<zD a b)) v.kids m (fun a ha b hb=>qWS a b (hm a ha) (hm b hb)) hn hm
 generalize qEX (fun a b=>decide (0<zD a b)) v.kids m=W at *
 simp only [Val.enc_def] at hfa hb
 refine rgn [] [[],[],[1,2,4,7,8]] ?_
 iterate 3 refine op1 tok ?_
 refine qA (AW.seq (rgn [] [[],[],[1,2,4,7,8,12]] ?_))
 iterate 3 refine op1 tok ?_
 refine qA (cnd ?_ ?_)
 ·intro h12
  try simp at h12
  rw [if_neg (by simpa using h12)]
  refine rgn [.nilp,(wD 40 m).enc] [[],[],[8]] ?_
  iterate 3 refine oq1 tok hfa ?_
  exact qA (AW.ret qG)
 intro h12
 try simp at h12
 rw [if_pos (by simpa using h12)]
 refine AW.skip (rgn [.nilf,.sl 9 (v.kids.map Val.enc),.clo 31 []] [[],[],[],[1,2,4,8,9]] ?_)
 iterate 4 refine oq1 tok hc ?_
 refine qA (AW.seq (rgn [] [[]] ?_))
 refine op1 tok ?_
 refine qA (AW.block (rgn [] [[],[1,2,4,8,9,18,19]] ?_))
 iterate 2 refine op1 tok ?_
 refine qA (cnd ?_ ?_)
 ·intro h19
  try simp at h19
 intro h19
 try simp at h19
 refine rgn [] [[],[1,2,4,8,9,18,26]] ?_
 iterate 2 refine op1 tok ?_
 refine qA (cnd ?_ ?_)
 ·intro h26
  try simp at h26
 intro h26
 try simp at h26
 refine rgn [] [[],[1,2,4,8,9,18,34]] ?_
 iterate 2 refine op1 tok ?_
 refine qA (cnd ?_ ?_)
 ·intro h34
  try simp at h34
 intro h34
 try simp at h34
 refine rgn [] [[],[1,2,4,8,9,18,39]] ?_
 iterate 2 refine op1 tok ?_
 refine qA (cnd ?_ ?_)
 ·intro h39
  try simp at h39
 intro h39
 try simp at h39
 refine rgn [] [[],[1,2,4,8,9,18,44]] ?_
 iterate 2 refine op1 tok ?_
 refine qA (cnd ?_ ?_)
 ·intro h44
  try simp at h44
  refine AW.freezeE 17 (by conv=>lhs; simp) ?_
  refine rgn [.nilp,W.enc] [[],[],[8,48],[8]] ?_
  iterate 4 refine oq1 tok hb ?_
  exact qA (AW.ret qG)
 intro h44
 try simp at h44
end Go.Proofs.YtgcbapchinideaaGreatDoor
