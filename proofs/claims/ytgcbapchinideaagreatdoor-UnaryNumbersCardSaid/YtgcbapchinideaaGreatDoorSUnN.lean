import Derived.Test.YtgcbapchinideaaGreatDoorK2
import Derived.Test.YtgcbapchinideaaGreatDoorSUnT
namespace Go.Proofs.YtgcbapchinideaaGreatDoor
open Sy Go
set_option maxRecDepth 100000
set_option maxHeartbeats 4000000
set_option linter.unusedSimpArgs false
set_option linter.unusedVariables false
variable {G:qM}
theorem qLU (d:Dc) (W R:List UInt8) (hd:qQ d=true) (h:WholeP d W R):AFn Tryz.prog G 111 [d.enc] (.tup [(zC d false).1.enc,.int .u8 (R.getD 0 48).toNat]):=by
 refine AFn.introU tok Tryz.func111 (by kernel_rfl) rfl rfl ?_
 simp only [Tryz.f111,qO,List.map_cons,List.map_nil]
 have hpr:=qEQ (G:=G) d hd
 have hix:=qLN (G:=G) (zT d) 46
 rw [show (46:Int).toNat.toUInt8=46 from rfl,qLT h] at hix
 have hform:=h.form
 have hself:=fun e:R=[]=>qOM (e ▸ h:WholeP d W [])
 have hl1:=h.wl.1
 have hl2:=h.rl
 have hb:=yA hd
 have hps:=fun hh=>qER (G:=G) ((if d.neg=true then [45] else [])++W) hh
 rw [qLS h] at hps
 rw [← List.append_assoc] at hform
 have hpl:((if d.neg=true then [45] else [])++W:List UInt8).length≤61:=by rw [List.length_append]; split <;> simp <;> omega
 generalize ((if d.neg=true then [45] else [])++W:List UInt8)=pre at *
 have hps:=hps (by omega)
 generalize zT d=P at *
 generalize zC d false=w at *
 obtain ⟨⟨wn,wd,ws⟩,wc⟩:=w
 simp only [Dc.enc] at hpr hps
 refine rgn [] [[],[],[1,2]] ?_
 iterate 3 refine op1 tok ?_
 refine qA (rgn [.nilp,.str P] [[],[],[1,2,4]] ?_)
 iterate 3 refine oq1 tok hpr ?_
 refine qA (rgn [.nilp,.int .i64 (if R=[] then -1 else (pre.length:Int))] [[],[],[1,2,4,5]] ?_)
 iterate 3 refine oq1 tok hix ?_
 refine qA (AW.seq (rgn [] [[],[1,2,4,5,13]] ?_))
 iterate 2 refine op1 tok ?_
 refine qA (cnd ?_ ?_)
 ·intro h13
  try simp at h13
  have hR:R=[]:=by
   by_cases hR:R=[]
   ·exact hR
   rw [if_neg hR] at h13; omega
  have hself:=hself hR
  injection hself with g1 g2
  subst g1
  subst hR
  refine rgn [] [[],[],[2,3]] ?_
  iterate 3 refine op1 tok ?_
  exact qA (AW.ret qK)
 intro h13
 try simp at h13
 have hR:R≠[]:=by
  intro hR; rw [if_pos hR] at h13; omega
 rw [if_neg hR] at h13 hform
 simp only [if_neg hR]
 obtain ⟨c,R',rfl⟩:∃ c R',R=c::R':=by cases R with
  | nil=>exact absurd rfl hR
  | cons c R=>exact ⟨c,R,rfl⟩
 have hPl:P.length=pre.length+1+(R'.length+1):=by rw [hform]; simp; omega
 have hPt:P.take pre.length=pre:=by rw [hform,List.take_left]
 have hPi:P[pre.length+1]?=some c:=by rw [hform,List.getElem?_append_right (by omega)]; simp
 refine AW.skip (rgn [.nilp,.tup [.agg [.bool wn,.str wd,.int .i64 ws],.int .i64 wc]] [[],[],[],[],[2,4,5,15],[],[],[],[],[2,4,5,6]] ?_)
 iterate 10 refine op1 tok ?_ (hv:=by first | with_reducible exact True.intro | (first | (rw [hPt]; exact hps) | (simp [hPt]; omega) | (simp [hPt]; exact hps) | (simp [hPt]; done) | omega; done) | omega | simp | (simp +contextual; omega))
 refine qA ?_
 refine AW.seqDrawS tok mixed 6 [[6],[4],[5],[24],[23,25],[2,22]] [.int .u8 c.toNat] [] (by kernel_rfl) ?_
 iterate 6 refine d1 ?_ (hv:=by first | with_reducible exact True.intro | (first | (simp [hPi]; done) | (simp [hPi]; omega) | omega; done) | omega | simp | (simp +contextual; omega))
 refine DGo.nil (by kernel_rfl) ⟨by kernel_rfl, ?_⟩
 refine qH.run [[2,3]] ?_
 refine op1 tok ?_
 exact qA (AW.ret qK)
theorem qKM (d:Dc) (far:Bool) (W R:List UInt8) (hd:qQ d=true) (h:WholeP d W R) (hf:far=true→0<d.scale):AFn Tryz.prog G 110 [d.enc,.bool far] (.tup [(zC d far).1.enc,.int .i64 (zC d far).2]):=by
 refine AFn.introU tok Tryz.func110 (by kernel_rfl) rfl rfl ?_
 simp only [Tryz.f110,qO,List.map_cons,List.map_nil]
 have hw:=qLU (G:=G) d W R hd h
 have had:=qRQ hd
 obtain ⟨x,h1,h2,h3,_⟩:=jM hd (far:=false) (fun h=>by cases h)
 have hda:=qJS (G:=G) x (qIF d.neg) (zJ h2).1 (zJ (qLY _)).1
 rw [h1] at had hw
 simp only at had
 rw [had] at hda
 generalize R.getD 0 48=c at *
 simp only [Dc.enc,qIF] at hw hda
 refine rgn [] [[],[],[1,2,4]] ?_
 iterate 3 refine op1 tok ?_
 refine qA (rgn [.nilp,.tup [x.enc,.int .u8 c.toNat]] [[],[],[],[],[],[],[1,2,4,6,12],[1,2,4,6]] ?_)
 iterate 8 refine oq1 tok hw ?_
 refine qA (AW.seq (rgn [] [[],[2,4,6,14]] ?_))
 iterate 2 refine op1 tok ?_
 refine qA (cnd ?_ ?_)
 ·intro h14
  try simp at h14
  obtain rfl:far=false:=by simpa using h14
  rw [h1]
  refine rgn [] [[],[],[4,5]] ?_
  iterate 3 refine op1 tok ?_
  exact qA (AW.ret qK)
 intro h14
 try simp at h14
 obtain rfl:far=true:=by simpa using h14
 generalize zC d true=w at *
 obtain ⟨⟨wn,wd,ws⟩,wc⟩:=w
 refine AW.skip (rgn [.nilp,.tup [.agg [.bool wn,.str wd,.int .i64 ws],.int .i64 wc]] [[],[],[],[4,16,19],[],[],[],[4,22],[4,5]] ?_)
 iterate 9 refine oq1 tok hda ?_
 exact qA (AW.ret qK)
theorem qXM (d:Dc) (W R:List UInt8) (hd:qQ d=true) (h:WholeP d W R):AFn Tryz.prog G 76 [d.enc] (.tup [(zC d (d.neg && decide (0<d.scale))).1.enc,.int .i64 (zC d (d.neg && decide (0<d.scale))).2]):=by
 refine AFn.introU tok Tryz.func76 (by kernel_rfl) rfl rfl ?_
 simp only [Tryz.f76,qO,List.map_cons,List.map_nil]
 have hn:=qKM (G:=G) d (d.neg && decide (0<d.scale)) W R hd h (fun h=>by simp at h; exact h.2)
 generalize zC d (d.neg && decide (0<d.scale))=w at *
 obtain ⟨⟨wn,wd,ws⟩,wc⟩:=w
 simp only [Dc.enc] at hn
 refine rgn [] [[],[],[1,2]] ?_
 iterate 3 refine op1 tok ?_
 refine qA (rgn [.nilp,.tup [.agg [.bool wn,.str wd,.int .i64 ws],.int .i64 wc]] [[],[],[],[],[],[2,4,7,9],[],[],[2,12],[],[],[],[2,3]] ?_)
 iterate 4 refine op1 tok ?_ (hv:=by first | with_reducible exact True.intro | (first | exact hn | (simp at hn ⊢; exact hn) | (simp; done); done) | omega | simp | (simp +contextual; omega))
 iterate 3 refine op2 tok ?_ (hv:=by first | with_reducible exact True.intro | (first | exact hn | (simp at hn ⊢; exact hn) | (simp; done); done) | omega | simp | (simp +contextual; omega))
 iterate 6 refine op1 tok ?_ (hv:=by first | with_reducible exact True.intro | (first | exact hn | (simp at hn ⊢; exact hn) | (simp; done); done) | omega | simp | (simp +contextual; omega))
 exact qA (AW.ret qK)
theorem qZQ (d:Dc) (W R:List UInt8) (hd:qQ d=true) (h:WholeP d W R):AFn Tryz.prog G 77 [d.enc] (.tup [(zC d (!d.neg && decide (0<d.scale))).1.enc,.int .i64 (zC d (!d.neg && decide (0<d.scale))).2]):=by
 refine AFn.introU tok Tryz.func77 (by kernel_rfl) rfl rfl ?_
 simp only [Tryz.f77,qO,List.map_cons,List.map_nil]
 have hn:=qKM (G:=G) d (!d.neg && decide (0<d.scale)) W R hd h (fun h=>by simp at h; exact h.2)
 generalize zC d (!d.neg && decide (0<d.scale))=w at *
 obtain ⟨⟨wn,wd,ws⟩,wc⟩:=w
 simp only [Dc.enc] at hn
 refine rgn [] [[],[],[1,2]] ?_
 iterate 3 refine op1 tok ?_
 refine qA (rgn [.nilp,.tup [.agg [.bool wn,.str wd,.int .i64 ws],.int .i64 wc]] [[],[],[],[],[],[2,4,8,9],[],[],[2,4,12],[],[],[],[2,15],[2,3]] ?_)
 iterate 5 refine op1 tok ?_ (hv:=by first | with_reducible exact True.intro | (first | exact hn | (simp at hn ⊢; exact hn) | (simp; done); done) | omega | simp | (simp +contextual; omega))
 iterate 3 refine op2 tok ?_ (hv:=by first | with_reducible exact True.intro | (first | exact hn | (simp at hn ⊢; exact hn) | (simp; done); done) | omega | simp | (simp +contextual; omega))
 iterate 6 refine op1 tok ?_ (hv:=by first | with_reducible exact True.intro | (first | exact hn | (simp at hn ⊢; exact hn) | (simp; done); done) | omega | simp | (simp +contextual; omega))
 exact qA (AW.ret qK)
theorem qIO {d:Dc} {W R:List UInt8} (h:WholeP d W R) (hd:qQ d=true):decide ((53:Int)≤(R.getD 0 48).toNat)=true→0<d.scale:=fun hh=>by
 have hb:=yA hd
 have hl:=h.rl
 cases R with
 | nil=>simp at hh
 | cons c R=>simp at hl; omega
theorem qXI (d:Dc) (W R:List UInt8) (hd:qQ d=true) (h:WholeP d W R):AFn Tryz.prog G 78 [d.enc] (.tup [(zC d (decide ((53:Int)≤(R.getD 0 48).toNat))).1.enc,.int .i64 (zC d (decide ((53:Int)≤(R.getD 0 48).toNat))).2]):=by
 refine AFn.introU tok Tryz.func78 (by kernel_rfl) rfl rfl ?_
 simp only [Tryz.f78,qO,List.map_cons,List.map_nil]
 have hn:=qKM (G:=G) d (decide ((53:Int)≤(R.getD 0 48).toNat)) W R hd h (qIO h hd)
 have hw:=qLU (G:=G) d W R hd h
 generalize R.getD 0 48=c at *
 generalize zC d (decide ((53:Int)≤c.toNat))=w at *
 obtain ⟨⟨wn,wd,ws⟩,wc⟩:=w
 generalize zC d false=w0 at *
 obtain ⟨⟨vn,vd,vs⟩,vc⟩:=w0
 simp only [Dc.enc] at hn hw
 refine rgn [] [[],[],[1,2]] ?_
 iterate 3 refine op1 tok ?_
 refine qA (rgn [.nilp,.tup [.agg [.bool vn,.str vd,.int .i64 vs],.int .u8 c.toNat]] [[],[],[],[],[],[],[1,2,10],[1,2,5]] ?_)
 iterate 8 refine oq1 tok hw ?_
 refine qA (rgn [.nilp,.tup [.agg [.bool wn,.str wd,.int .i64 ws],.int .i64 wc]] [[],[],[],[2,14],[],[],[],[2,3]] ?_)
 iterate 8 refine op1 tok ?_ (hv:=by first | with_reducible exact True.intro | (first | exact hn | (simp at hn ⊢; exact hn) | (simp; done); done) | omega | simp | (simp +contextual; omega))
 exact qA (AW.ret qK)
def qMR (call:List UInt8) (d:Dc) (R:List UInt8):Dc × Int:=if call=[102,108,111,111,114] then zC d (d.neg && decide (0<d.scale)) else if call=[99,101,105,108] then zC d (!d.neg && decide (0<d.scale)) else zC d (decide ((53:Int)≤(R.getD 0 48).toNat))
theorem qDE (call:List UInt8) (v:Val) (m:Int) (W R:List UInt8) (hm:v.kind=4→qQ v.num=true∧WholeP v.num W R):AFn Tryz.prog G 43 [.agg [.int .u64 m],.str call,v.enc] ((if v.kind=4 then vM (qMR call v.num R) m else zO 40 m).enc):=by
 refine AFn.introU tok Tryz.func43 (by kernel_rfl) rfl rfl ?_
 simp only [Tryz.f43,qO,List.map_cons,List.map_nil]
 have hf:=wX (G:=G) 40 m
 simp only [Val.enc_def] at hf
 refine rgn [] [[],[],[1,3,5,6]] ?_
 iterate 3 refine op1 tok ?_
 refine qA (AW.seq (rgn [] [[],[],[1,3,5,6,9]] ?_))
 iterate 3 refine op1 tok ?_
 refine qA (cnd ?_ ?_)
 ·intro h9
  try simp at h9
  rw [if_neg (by simpa using h9)]
  refine rgn [.nilp,(zO 40 m).enc] [[],[],[6]] ?_
  iterate 3 refine oq1 tok hf ?_
  exact qA (AW.ret qK)
 intro h9
 try simp at h9
 rw [if_pos (by simpa using h9)]
 obtain ⟨hd,hp⟩:=hm (by simpa using h9)
 have e:qMR call v.num R=if call=[102,108,111,111,114] then zC v.num (v.num.neg && decide (0<v.num.scale)) else if call=[99,101,105,108] then zC v.num (!v.num.neg && decide (0<v.num.scale)) else zC v.num (decide ((53:Int)≤(R.getD 0 48).toNat)):=rfl
 rw [e]
 have f1:=qXM (G:=G) v.num W R hd hp
 have f2:=qZQ (G:=G) v.num W R hd hp
 have f3:=qXI (G:=G) v.num W R hd hp
 have hr:=fun r=>vP (G:=G) r m
 simp only [Val.enc_def,Dc.enc] at f1 f2 f3 hr
 refine AW.skip (AW.seq (rgn [] [[3,5,6,12]] ?_))
 refine op1 tok ?_
 refine qA (AW.block (rgn [] [[],[3,5,6,12,13]] ?_))
 iterate 2 refine op1 tok ?_
 refine qA (cnd ?_ ?_)
 ·intro h13
  try simp at h13
  rw [if_pos h13]
  have hr:=hr (zC v.num (v.num.neg && decide (0<v.num.scale)))
  generalize zC v.num (v.num.neg && decide (0<v.num.scale))=w at *
  obtain ⟨⟨wn,wd,ws⟩,wc⟩:=w
  generalize vM ⟨⟨wn,wd,ws⟩,wc⟩ m=X at *
  refine AW.seqRunDrawK tok mixed [6] 7 [[3],[5],[16],[17],[18],[18],[15,19,20]] [.nilp,.tup [.agg [.bool wn,.str wd,.int .i64 ws],.int .i64 wc],.nilp,X.enc] [] (by kernel_rfl) (by intro C; conv=>lhs; simp) (by first | exact ⟨f1,hr⟩ | (simp at f1 hr ⊢; exact ⟨f1,hr⟩)) (by simp [Sm.sum,Sm.foot,Sm.tch,Sm.refs]; kernel_rfl) (by intro C; conv=>lhs; simp) (by first | with_reducible exact True.intro | omega | simp | (simp +contextual; omega)) ?_
  exact AW.ret qK
 intro h13
 try simp at h13
 rw [if_neg h13]
 refine rgn [] [[],[3,5,6,22]] ?_
 iterate 2 refine op1 tok ?_
 refine qA (cnd ?_ ?_)
 ·intro h22
  try simp at h22
  rw [if_pos h22]
  have hr:=hr (zC v.num (!v.num.neg && decide (0<v.num.scale)))
  generalize zC v.num (!v.num.neg && decide (0<v.num.scale))=w at *
  obtain ⟨⟨wn,wd,ws⟩,wc⟩:=w
  generalize vM ⟨⟨wn,wd,ws⟩,wc⟩ m=X at *
  refine AW.seqRunDrawK tok mixed [6] 7 [[3],[5],[25],[26],[27],[27],[24,28,29]] [.nilp,.tup [.agg [.bool wn,.str wd,.int .i64 ws],.int .i64 wc],.nilp,X.enc] [] (by kernel_rfl) (by intro C; conv=>lhs; simp) (by first | exact ⟨f2,hr⟩ | (simp at f2 hr ⊢; exact ⟨f2,hr⟩)) (by simp [Sm.sum,Sm.foot,Sm.tch,Sm.refs]; kernel_rfl) (by intro C; conv=>lhs; simp) (by first | with_reducible exact True.intro | omega | simp | (simp +contextual; omega)) ?_
  exact AW.ret qK
 intro h22
 try simp at h22
 rw [if_neg h22]
 have hr:=hr (zC v.num (decide ((53:Int)≤(R.getD 0 48).toNat)))
 generalize zC v.num (decide ((53:Int)≤(R.getD 0 48).toNat))=w at *
 obtain ⟨⟨wn,wd,ws⟩,wc⟩:=w
 generalize vM ⟨⟨wn,wd,ws⟩,wc⟩ m=X at *
 refine AW.skip ?_
 refine AW.seqRunDrawK tok mixed [6] 7 [[3],[5],[32],[33],[34],[34],[31,35,36]] [.nilp,.tup [.agg [.bool wn,.str wd,.int .i64 ws],.int .i64 wc],.nilp,X.enc] [] (by kernel_rfl) (by intro C; conv=>lhs; simp) (by first | exact ⟨f3,hr⟩ | (simp at f3 hr ⊢; exact ⟨f3,hr⟩)) (by simp [Sm.sum,Sm.foot,Sm.tch,Sm.refs]; kernel_rfl) (by intro C; conv=>lhs; simp) (by first | with_reducible exact True.intro | omega | simp | (simp +contextual; omega)) ?_
 exact AW.ret qK
theorem qSU (arg:List UInt8) (v:Val) (m:Int) (hs:v.kind=5→v.text.length≤1000000000):AFn Tryz.prog G 42 [.agg [.int .u64 m],.str [116,111,110,117,109,98,101,114],.str arg,v.enc] ((if v.kind=5 then vM (xU v.text) m else zO 40 m).enc):=by
 refine AFn.introU tok Tryz.func42 (by kernel_rfl) rfl rfl ?_
 simp only [Tryz.f42,qO,List.map_cons,List.map_nil]
 have hf:=wX (G:=G) 40 m
 have hp:=fun h=>qER (G:=G) v.text h
 have hr:=vP (G:=G) (xU v.text) m
 generalize xU v.text=w at *
 generalize hX:vM w m=X at *
 obtain ⟨⟨wn,wd,ws⟩,wc⟩:=w
 simp only [Val.enc_def,Dc.enc] at hf hp hr
 refine rgn [] [[],[],[1,2,4,7,8]] ?_
 iterate 3 refine op1 tok ?_
 refine qA (AW.seq (rgn [] [[],[],[1,2,4,7,8,13]] ?_))
 iterate 3 refine op1 tok ?_
 refine qA (cnd ?_ ?_)
 ·intro h13
  try simp at h13
  rw [if_neg (by simpa using h13)]
  refine rgn [.nilp,(zO 40 m).enc] [[],[],[8]] ?_
  iterate 3 refine oq1 tok hf ?_
  exact qA (AW.ret qK)
 intro h13
 try simp at h13
 rw [if_pos (by simpa using h13)]
 have hp:=hp (hs (by simpa using h13))
 refine AW.skip (AW.seq (rgn [] [[2,4,7,8,16]] ?_))
 refine op1 tok ?_
 refine qA (AW.block (rgn [] [[],[2,4,7,8,16,17]] ?_))
 iterate 2 refine op1 tok ?_
 refine qA (cnd ?_ ?_)
 ·intro h17
  try simp at h17
 intro h17
 try simp at h17
 refine rgn [] [[],[2,4,7,8,16,34]] ?_
 iterate 2 refine op1 tok ?_
 refine qA (cnd ?_ ?_)
 ·intro h34
  try simp at h34
 intro h34
 try simp at h34
 refine rgn [] [[],[2,4,7,8,16,42]] ?_
 iterate 2 refine op1 tok ?_
 refine qA (cnd ?_ ?_)
 ·intro h42
  try simp at h42
 intro h42
 try simp at h42
 refine rgn [] [[],[2,4,7,8,50]] ?_
 iterate 2 refine op1 tok ?_
 refine qA (cnd ?_ ?_)
 ·intro h50
  try simp at h50
  refine AW.seqRunDrawK tok mixed [8] 7 [[4],[7],[53],[54],[55],[55],[52,56,57]] [.nilp,.tup [.agg [.bool wn,.str wd,.int .i64 ws],.int .i64 wc],.nilp,X.enc] [] (by kernel_rfl) (by intro C; conv=>lhs; simp) (by first | exact ⟨hp,hr⟩ | (simp at hp hr ⊢; exact ⟨hp,hr⟩)) (by simp [Sm.sum,Sm.foot,Sm.tch,Sm.refs]; kernel_rfl) (by intro C; conv=>lhs; simp) (by first | with_reducible exact True.intro | omega | simp | (simp +contextual; omega)) ?_
  exact AW.ret qK
 intro h50
 try simp at h50
end Go.Proofs.YtgcbapchinideaaGreatDoor
