import Derived.Test.YtgcbapchinideaaGreatDoorK5
import Derived.Test.YtgcbapchinideaaGreatDoorM3
import Derived.Test.YtgcbapchinideaaGreatDoorK2
import Derived.Test.YtgcbapchinideaaGreatDoorK4
import Derived.Test.YtgcbapchinideaaGreatDoorK1
import Derived.Test.YtgcbapchinideaaGreatDoorK3
namespace Go.Proofs.YtgcbapchinideaaGreatDoor
open Sy Go
set_option maxRecDepth 100000
set_option maxHeartbeats 4000000
set_option linter.all false
variable {G:qR}
theorem qYP (d:Dc) (W R:List UInt8) (hd:zO d=true) (h:WholeP d W R):AFn Tryz.prog G 111 [d.enc] (.tup [(zR d false).1.enc,.int .u8 (R.getD 0 48).toNat]):=by
 refine AFn.introU tok Tryz.func111 (by kernel_rfl) rfl rfl ?_
 simp only[Tryz.f111,qG,List.map_cons,List.map_nil]
 have hpr:=qNQ (G:=G) d hd
 have hix:=qET (G:=G) (xD d) 46
 rw[show(46:Int).toNat.toUInt8=46 from rfl,qYO h]at hix
 have hform:=h.form
 have hself:=fun e:R=[]=>zDI (e ▸ h:WholeP d W [])
 have hl1:=h.wl.1
 have hl2:=h.rl
 have hb:=qAQ hd
 have hps:=fun hh=>qNR (G:=G) ((if d.neg=true then[45] else[])++W) hh
 rw[qYM h]at hps
 rw[<-List.append_assoc]at hform
 have hpl:((if d.neg=true then[45] else[])++W:List UInt8).length<=61:=by rw[List.length_append];split <;> simp <;> omega
 generalize ((if d.neg=true then[45] else[])++W:List UInt8)=pre at *
 have hps:=hps (by omega)
 generalize xD d=P at *
 generalize zR d false=w at *
 obtain⟨⟨wn,wd,ws⟩,wc⟩:=w
 simp only[Dc.enc]at hpr hps
 refine rgn [] [[],[],[1,2]] ?_
 iterate 3 refine op3 ?_
 refine qA (rgn [.nilp,.str P] [[],[],[1,2,4]] ?_)
 iterate 3 refine oq1 tok hpr ?_
 refine qA (rgn [.nilp,.int .i64 (if R=[] then -1 else(pre.length:Int))] [[],[],[1,2,4,5]] ?_)
 iterate 3 refine oq1 tok hix ?_
 refine qA (AW.seq (rgn [] [[],[1,2,4,5,13]] ?_))
 iterate 2 refine op3 ?_
 refine qA (cnd ?_ ?_)
 ·intro h13
  try simp at h13
  have hR:R=[]:=by
   by_cases hR:R=[]
   ·exact hR
   rw[if_neg hR]at h13;omega
  have hself:=hself hR
  injection hself with g1 g2
  subst g1
  subst hR
  refine rgn [] [[],[],[2,3]] ?_
  iterate 3 refine op3 ?_
  exact qA (AW.ret qI)
 intro h13
 try simp at h13
 have hR:R≠[]:=by
  intro hR;rw[if_pos hR]at h13;omega
 rw[if_neg hR]at h13 hform
 simp only[if_neg hR]
 obtain⟨c,R',rfl⟩:∃ c R',R=c::R':=by cases R with
  | nil=>exact absurd rfl hR
  | cons c R=>exact⟨c,R,rfl⟩
 have hPl:P.length=pre.length+1+(R'.length+1):=by rw[hform];simp;omega
 have hPt:P.take pre.length=pre:=by rw[hform,List.take_left]
 have hPi:P[pre.length+1]?=some c:=by rw[hform,List.getElem?_append_right (by omega)];simp
 refine AW.skip (rgn [.nilp,.tup [.agg [.bool wn,.str wd,.int .i64 ws],.int .i64 wc]] [[],[],[],[],[2,4,5,15],[],[],[],[],[2,4,5,6]] ?_)
 iterate 10 refine op3 ?_ (hv:=by first|exact True.intro|(rw[hPt];exact hps)|(simp[hPt];omega)|(simp[hPt];exact hps)|(simp[hPt];done)|omega;done|omega|simp)
 refine qA ?_
 refine AW.seqDrawS tok mixed 6 [[6],[4],[5],[24],[23,25],[2,22]] [.int .u8 c.toNat] [] (by kernel_rfl) ?_
 iterate 6 refine d1 ?_ (hv:=by first|exact True.intro|(simp[hPi];done)|(simp[hPi];omega)|omega;done|omega|simp)
 refine DGo.nil (by kernel_rfl) ⟨by kernel_rfl, ?_⟩
 refine qB.run [[2,3]] ?_
 refine op3 ?_
 exact qA (AW.ret qI)
theorem qWP (d:Dc) (far:Bool) (W R:List UInt8) (hd:zO d=true) (h:WholeP d W R) (hf:far=true->0<d.scale):AFn Tryz.prog G 110 [d.enc,.bool far] (.tup [(zR d far).1.enc,.int .i64 (zR d far).2]):=by
 refine AFn.introU tok Tryz.func110 (by kernel_rfl) rfl rfl ?_
 simp only[Tryz.f110,qG,List.map_cons,List.map_nil]
 have hw:=qYP (G:=G) d W R hd h
 have had:=zIZ hd
 obtain⟨x,h1,h2,h3,_⟩:=qYN hd (far:=false) (fun h=>by cases h)
 have hda:=qVL (G:=G) x (qSV d.neg) (jB h2).1 (jB (qYV _)).1
 rw[h1]at had hw
 simp only at had
 rw[had]at hda
 generalize R.getD 0 48=c at *
 simp only[Dc.enc,qSV]at hw hda
 refine rgn [] [[],[],[1,2,4]] ?_
 iterate 3 refine op3 ?_
 refine qA (rgn [.nilp,.tup [x.enc,.int .u8 c.toNat]] [[],[],[],[],[],[],[1,2,4,6,12],[1,2,4,6]] ?_)
 iterate 8 refine oq1 tok hw ?_
 refine qA (AW.seq (rgn [] [[],[2,4,6,14]] ?_))
 iterate 2 refine op3 ?_
 refine qA (cnd ?_ ?_)
 ·intro h14
  try simp at h14
  obtain rfl:far=false:=by simpa using h14
  rw[h1]
  refine rgn [] [[],[],[4,5]] ?_
  iterate 3 refine op3 ?_
  exact qA (AW.ret qI)
 intro h14
 try simp at h14
 obtain rfl:far=true:=by simpa using h14
 generalize zR d true=w at *
 obtain⟨⟨wn,wd,ws⟩,wc⟩:=w
 refine AW.skip (rgn [.nilp,.tup [.agg [.bool wn,.str wd,.int .i64 ws],.int .i64 wc]] [[],[],[],[4,16,19],[],[],[],[4,22],[4,5]] ?_)
 iterate 9 refine oq1 tok hda ?_
 exact qA (AW.ret qI)
theorem zRP (d:Dc) (W R:List UInt8) (hd:zO d=true) (h:WholeP d W R):AFn Tryz.prog G 76 [d.enc] (.tup [(zR d (d.neg && decide (0<d.scale))).1.enc,.int .i64 (zR d (d.neg && decide (0<d.scale))).2]):=by
 refine AFn.introU tok Tryz.func76 (by kernel_rfl) rfl rfl ?_
 simp only[Tryz.f76,qG,List.map_cons,List.map_nil]
 have hn:=qWP (G:=G) d (d.neg && decide (0<d.scale)) W R hd h (fun h=>by simp at h;exact h.2)
 generalize zR d (d.neg && decide (0<d.scale))=w at *
 obtain⟨⟨wn,wd,ws⟩,wc⟩:=w
 simp only[Dc.enc]at hn
 refine rgn [] [[],[],[1,2]] ?_
 iterate 3 refine op3 ?_
 refine qA (rgn [.nilp,.tup [.agg [.bool wn,.str wd,.int .i64 ws],.int .i64 wc]] [[],[],[],[],[],[2,4,7,9],[],[],[2,12],[],[],[],[2,3]] ?_)
 iterate 4 refine op3 ?_ (hv:=by first|exact True.intro|exact hn|(simp at hn ⊢; exact hn)|(simp;done);done|omega|simp)
 iterate 3 refine op4 ?_ (hv:=by first|exact True.intro|exact hn|(simp at hn ⊢; exact hn)|(simp;done);done|omega|simp)
 iterate 6 refine op3 ?_ (hv:=by first|exact True.intro|exact hn|(simp at hn ⊢; exact hn)|(simp;done);done|omega|simp)
 exact qA (AW.ret qI)
theorem zVH (d:Dc) (W R:List UInt8) (hd:zO d=true) (h:WholeP d W R):AFn Tryz.prog G 77 [d.enc] (.tup [(zR d (!d.neg && decide (0<d.scale))).1.enc,.int .i64 (zR d (!d.neg && decide (0<d.scale))).2]):=by
 refine AFn.introU tok Tryz.func77 (by kernel_rfl) rfl rfl ?_
 simp only[Tryz.f77,qG,List.map_cons,List.map_nil]
 have hn:=qWP (G:=G) d (!d.neg && decide (0<d.scale)) W R hd h (fun h=>by simp at h;exact h.2)
 generalize zR d (!d.neg && decide (0<d.scale))=w at *
 obtain⟨⟨wn,wd,ws⟩,wc⟩:=w
 simp only[Dc.enc]at hn
 refine rgn [] [[],[],[1,2]] ?_
 iterate 3 refine op3 ?_
 refine qA (rgn [.nilp,.tup [.agg [.bool wn,.str wd,.int .i64 ws],.int .i64 wc]] [[],[],[],[],[],[2,4,8,9],[],[],[2,4,12],[],[],[],[2,15],[2,3]] ?_)
 iterate 5 refine op3 ?_ (hv:=by first|exact True.intro|exact hn|(simp at hn ⊢; exact hn)|(simp;done);done|omega|simp)
 iterate 3 refine op4 ?_ (hv:=by first|exact True.intro|exact hn|(simp at hn ⊢; exact hn)|(simp;done);done|omega|simp)
 iterate 6 refine op3 ?_ (hv:=by first|exact True.intro|exact hn|(simp at hn ⊢; exact hn)|(simp;done);done|omega|simp)
 exact qA (AW.ret qI)
theorem zKE {d:Dc} {W R:List UInt8} (h:WholeP d W R) (hd:zO d=true):decide ((53:Int)<=(R.getD 0 48).toNat)=true->0<d.scale:=fun hh=>by
 have hb:=qAQ hd
 have hl:=h.rl
 cases R with
 | nil=>simp at hh
 | cons c R=>simp at hl;omega
theorem zRJ (d:Dc) (W R:List UInt8) (hd:zO d=true) (h:WholeP d W R):AFn Tryz.prog G 78 [d.enc] (.tup [(zR d (decide ((53:Int)<=(R.getD 0 48).toNat))).1.enc,.int .i64 (zR d (decide ((53:Int)<=(R.getD 0 48).toNat))).2]):=by
 refine AFn.introU tok Tryz.func78 (by kernel_rfl) rfl rfl ?_
 simp only[Tryz.f78,qG,List.map_cons,List.map_nil]
 have hn:=qWP (G:=G) d (decide ((53:Int)<=(R.getD 0 48).toNat)) W R hd h (zKE h hd)
 have hw:=qYP (G:=G) d W R hd h
 generalize R.getD 0 48=c at *
 generalize zR d (decide ((53:Int)<=c.toNat))=w at *
 obtain⟨⟨wn,wd,ws⟩,wc⟩:=w
 generalize zR d false=w0 at *
 obtain⟨⟨vn,vd,vs⟩,vc⟩:=w0
 simp only[Dc.enc]at hn hw
 refine rgn [] [[],[],[1,2]] ?_
 iterate 3 refine op3 ?_
 refine qA (rgn [.nilp,.tup [.agg [.bool vn,.str vd,.int .i64 vs],.int .u8 c.toNat]] [[],[],[],[],[],[],[1,2,10],[1,2,5]] ?_)
 iterate 8 refine oq1 tok hw ?_
 refine qA (rgn [.nilp,.tup [.agg [.bool wn,.str wd,.int .i64 ws],.int .i64 wc]] [[],[],[],[2,14],[],[],[],[2,3]] ?_)
 iterate 8 refine op3 ?_ (hv:=by first|exact True.intro|exact hn|(simp at hn ⊢; exact hn)|(simp;done);done|omega|simp)
 exact qA (AW.ret qI)
def zAE (call:List UInt8) (d:Dc) (R:List UInt8):Dc × Int:=if call=[102,108,111,111,114] then zR d (d.neg && decide (0<d.scale)) else if call=[99,101,105,108] then zR d (!d.neg && decide (0<d.scale)) else zR d (decide ((53:Int)<=(R.getD 0 48).toNat))
theorem qAP (call:List UInt8) (v:Val) (m:Int) (W R:List UInt8) (hm:v.kind=4->zO v.num=true/\WholeP v.num W R):AFn Tryz.prog G 43 [.agg [.int .u64 m],.str call,v.enc] ((if v.kind=4 then vH (zAE call v.num R) m else qQ 40 m).enc):=by
 refine AFn.introU tok Tryz.func43 (by kernel_rfl) rfl rfl ?_
 simp only[Tryz.f43,qG,List.map_cons,List.map_nil]
 have hf:=zT (G:=G) 40 m
 simp only[Val.enc_def]at hf
 refine rgn [] [[],[],[1,3,5,6]] ?_
 iterate 3 refine op3 ?_
 refine qA (AW.seq (rgn [] [[],[],[1,3,5,6,9]] ?_))
 iterate 3 refine op3 ?_
 refine qA (cnd ?_ ?_)
 ·intro h9
  try simp at h9
  rw[if_neg (by simpa using h9)]
  refine rgn [.nilp,(qQ 40 m).enc] [[],[],[6]] ?_
  iterate 3 refine oq1 tok hf ?_
  exact qA (AW.ret qI)
 intro h9
 try simp at h9
 rw[if_pos (by simpa using h9)]
 obtain⟨hd,hp⟩:=hm (by simpa using h9)
 have e:zAE call v.num R=if call=[102,108,111,111,114] then zR v.num (v.num.neg && decide (0<v.num.scale)) else if call=[99,101,105,108] then zR v.num (!v.num.neg && decide (0<v.num.scale)) else zR v.num (decide ((53:Int)<=(R.getD 0 48).toNat)):=rfl
 rw[e]
 have f1:=zRP (G:=G) v.num W R hd hp
 have f2:=zVH (G:=G) v.num W R hd hp
 have f3:=zRJ (G:=G) v.num W R hd hp
 have hr:=fun r=>vT (G:=G) r m
 simp only[Val.enc_def,Dc.enc]at f1 f2 f3 hr
 refine AW.skip (AW.seq (rgn [] [[3,5,6,12]] ?_))
 refine op3 ?_
 refine qA (AW.block (rgn [] [[],[3,5,6,12,13]] ?_))
 iterate 2 refine op3 ?_
 refine qA (cnd ?_ ?_)
 ·intro h13
  try simp at h13
  rw[if_pos h13]
  have hr:=hr (zR v.num (v.num.neg && decide (0<v.num.scale)))
  generalize zR v.num (v.num.neg && decide (0<v.num.scale))=w at *
  obtain⟨⟨wn,wd,ws⟩,wc⟩:=w
  generalize vH ⟨⟨wn,wd,ws⟩,wc⟩ m=X at *
  refine AW.seqRunDrawK tok mixed [6] 7 [[3],[5],[16],[17],[18],[18],[15,19,20]] [.nilp,.tup [.agg [.bool wn,.str wd,.int .i64 ws],.int .i64 wc],.nilp,X.enc] [] (by kernel_rfl) (by intro C;conv=>lhs;simp) (by first|exact⟨f1,hr⟩|(simp at f1 hr ⊢; exact⟨f1,hr⟩)) (by simp[Sm.sum,Sm.foot,Sm.tch,Sm.refs];kernel_rfl) (by intro C;conv=>lhs;simp) (by first|exact True.intro|omega|simp) ?_
  exact AW.ret qI
 intro h13
 try simp at h13
 rw[if_neg h13]
 refine rgn [] [[],[3,5,6,22]] ?_
 iterate 2 refine op3 ?_
 refine qA (cnd ?_ ?_)
 ·intro h22
  try simp at h22
  rw[if_pos h22]
  have hr:=hr (zR v.num (!v.num.neg && decide (0<v.num.scale)))
  generalize zR v.num (!v.num.neg && decide (0<v.num.scale))=w at *
  obtain⟨⟨wn,wd,ws⟩,wc⟩:=w
  generalize vH ⟨⟨wn,wd,ws⟩,wc⟩ m=X at *
  refine AW.seqRunDrawK tok mixed [6] 7 [[3],[5],[25],[26],[27],[27],[24,28,29]] [.nilp,.tup [.agg [.bool wn,.str wd,.int .i64 ws],.int .i64 wc],.nilp,X.enc] [] (by kernel_rfl) (by intro C;conv=>lhs;simp) (by first|exact⟨f2,hr⟩|(simp at f2 hr ⊢; exact⟨f2,hr⟩)) (by simp[Sm.sum,Sm.foot,Sm.tch,Sm.refs];kernel_rfl) (by intro C;conv=>lhs;simp) (by first|exact True.intro|omega|simp) ?_
  exact AW.ret qI
 intro h22
 try simp at h22
 rw[if_neg h22]
 have hr:=hr (zR v.num (decide ((53:Int)<=(R.getD 0 48).toNat)))
 generalize zR v.num (decide ((53:Int)<=(R.getD 0 48).toNat))=w at *
 obtain⟨⟨wn,wd,ws⟩,wc⟩:=w
 generalize vH ⟨⟨wn,wd,ws⟩,wc⟩ m=X at *
 refine AW.skip ?_
 refine AW.seqRunDrawK tok mixed [6] 7 [[3],[5],[32],[33],[34],[34],[31,35,36]] [.nilp,.tup [.agg [.bool wn,.str wd,.int .i64 ws],.int .i64 wc],.nilp,X.enc] [] (by kernel_rfl) (by intro C;conv=>lhs;simp) (by first|exact⟨f3,hr⟩|(simp at f3 hr ⊢; exact⟨f3,hr⟩)) (by simp[Sm.sum,Sm.foot,Sm.tch,Sm.refs];kernel_rfl) (by intro C;conv=>lhs;simp) (by first|exact True.intro|omega|simp) ?_
 exact AW.ret qI
theorem zKO (arg:List UInt8) (v:Val) (m:Int) (hs:v.kind=5->v.text.length<=1000000000):AFn Tryz.prog G 42 [.agg [.int .u64 m],.str [116,111,110,117,109,98,101,114],.str arg,v.enc] ((if v.kind=5 then vH (xE v.text) m else qQ 40 m).enc):=by
 refine AFn.introU tok Tryz.func42 (by kernel_rfl) rfl rfl ?_
 simp only[Tryz.f42,qG,List.map_cons,List.map_nil]
 have hf:=zT (G:=G) 40 m
 have hp:=fun h=>qNR (G:=G) v.text h
 have hr:=vT (G:=G) (xE v.text) m
 generalize xE v.text=w at *
 generalize hX:vH w m=X at *
 obtain⟨⟨wn,wd,ws⟩,wc⟩:=w
 simp only[Val.enc_def,Dc.enc]at hf hp hr
 refine rgn [] [[],[],[1,2,4,7,8]] ?_
 iterate 3 refine op3 ?_
 refine qA (AW.seq (rgn [] [[],[],[1,2,4,7,8,13]] ?_))
 iterate 3 refine op3 ?_
 refine qA (cnd ?_ ?_)
 ·intro h13
  try simp at h13
  rw[if_neg (by simpa using h13)]
  refine rgn [.nilp,(qQ 40 m).enc] [[],[],[8]] ?_
  iterate 3 refine oq1 tok hf ?_
  exact qA (AW.ret qI)
 intro h13
 try simp at h13
 rw[if_pos (by simpa using h13)]
 have hp:=hp (hs (by simpa using h13))
 refine AW.skip (AW.seq (rgn [] [[2,4,7,8,16]] ?_))
 refine op3 ?_
 refine qA (AW.block (rgn [] [[],[2,4,7,8,16,17]] ?_))
 iterate 2 refine op3 ?_
 refine qA (cnd ?_ ?_)
 ·intro h17
  try simp at h17
 intro h17
 try simp at h17
 refine rgn [] [[],[2,4,7,8,16,34]] ?_
 iterate 2 refine op3 ?_
 refine qA (cnd ?_ ?_)
 ·intro h34
  try simp at h34
 intro h34
 try simp at h34
 refine rgn [] [[],[2,4,7,8,16,42]] ?_
 iterate 2 refine op3 ?_
 refine qA (cnd ?_ ?_)
 ·intro h42
  try simp at h42
 intro h42
 try simp at h42
 refine rgn [] [[],[2,4,7,8,50]] ?_
 iterate 2 refine op3 ?_
 refine qA (cnd ?_ ?_)
 ·intro h50
  try simp at h50
  refine AW.seqRunDrawK tok mixed [8] 7 [[4],[7],[53],[54],[55],[55],[52,56,57]] [.nilp,.tup [.agg [.bool wn,.str wd,.int .i64 ws],.int .i64 wc],.nilp,X.enc] [] (by kernel_rfl) (by intro C;conv=>lhs;simp) (by first|exact⟨hp,hr⟩|(simp at hp hr ⊢; exact⟨hp,hr⟩)) (by simp[Sm.sum,Sm.foot,Sm.tch,Sm.refs];kernel_rfl) (by intro C;conv=>lhs;simp) (by first|exact True.intro|omega|simp) ?_
  exact AW.ret qI
 intro h50
 try simp at h50
theorem wCO {n:Int} (h:0<=n/\n<9223372036854775808):IntKind.i64.wrap n=n:=by simp[IntKind.wrap,IntKind.bits,IntKind.signed];omega
@[simp] theorem wCK (d:Dc):(exN d).num=d:=rfl
section
variable {α:Type} {le:α->α->Bool} {P:α->Prop}
structure LO (le:α->α->Bool) (P:α->Prop):Prop where
 tot:∀ {a b},P a->P b->le a b=false->le b a=true
 tr:∀ {a b c},P a->P b->P c->le a b=true->le b c=true->le a c=true
def qKU (P:α->Prop) (l:List α):Prop:=∀ x∈l,P x
theorem qKU.cons {x:α} {l:List α} (h:qKU P (x::l)):P x/\qKU P l:=⟨h x (by simp),fun y hy=>h y (by simp[hy])⟩
def mrg (le:α->α->Bool) (a b:List α):List α:=List.merge a b le
theorem jI (b:List α):mrg le [] b=b:=by simp[mrg]
theorem yK (a:List α):mrg le a []=a:=by simp[mrg]
theorem uW {a b:α} {l1 l2:List α} (h:le a b=true):mrg le (a::l1) (b::l2)=a::mrg le l1 (b::l2):=by simp[mrg,List.cons_merge_cons,h]
theorem qBB {a b:α} {l1 l2:List α} (h:le a b=false):mrg le (a::l1) (b::l2)=b::mrg le (a::l1) l2:=by simp[mrg,List.cons_merge_cons,h]
theorem zHJ {a b:List α} {x:α}:x∈mrg le a b↔x∈a\/x∈b:=by simp[mrg,List.mem_merge]
theorem zTK (a b:List α):(mrg le a b).length=a.length+b.length:=by simp[mrg,List.length_merge]
theorem qAO (o:LO le P):∀ A B C:List α,qKU P A->qKU P B->qKU P C->mrg le (mrg le A B) C=mrg le A (mrg le B C)
 | [],B,C,_,_,_=>by rw[jI,jI]
 | a::A,[],C,_,_,_=>by rw[yK,jI]
 | a::A,b::B,[],_,_,_=>by rw[yK,yK]
 | a::A,b::B,c::C,hA,hB,hC=>by
  obtain⟨pa,hA'⟩:=hA.cons
  obtain⟨pb,hB'⟩:=hB.cons
  obtain⟨pc,hC'⟩:=hC.cons
  cases h1:le a b with
  | true =>
   cases h2:le b c with
   | true =>
    have h3:=o.tr pa pb pc h1 h2
    have ih:=qAO o A (b::B) (c::C) hA' hB hC
    rw[uW h1,uW h3,ih,uW h2,uW h1]
   | false =>
    rw[qBB h2]
    cases h3:le a c with
    | true =>
     have ih:=qAO o A (b::B) (c::C) hA' hB hC
     rw[uW h1,uW h3,uW h3,ih,qBB h2]
    | false =>
     have ih:=qAO o (a::A) (b::B) C hA hB hC'
     rw[qBB h3,<-ih,uW h1,qBB h3]
  | false =>
   cases h2:le b c with
   | true =>
    have ih:=qAO o (a::A) B (c::C) hA hB' hC
    rw[qBB h1,uW h2,uW h2,qBB h1,ih]
   | false =>
    have h3:le a c=false:=by
     cases h3:le a c with
     | false=>rfl
     | true=>rw[o.tr pa pc pb h3 (o.tot pb pc h2)]at h1;cases h1
    have ih:=qAO o (a::A) (b::B) C hA hB hC'
    rw[qBB h2,qBB h3,<-ih,qBB h1,qBB h2]
termination_by A B C=>A.length+B.length+C.length
def srt (le:α->α->Bool):List α->List α
 | []=>[]
 | x::l=>mrg le [x] (srt le l)
theorem qPG:∀ l:List α,(srt le l).Perm l
 | [] => .nil
 | x::l=>(List.merge_perm_append _).trans ((qPG l).cons x)
theorem vC (l:List α):(srt le l).length=l.length:=(qPG l).length_eq
theorem qDP {l:List α} {x:α}:x∈srt le l↔x∈l:=(qPG l).mem_iff
theorem qVX {l:List α} (h:qKU P l):qKU P (srt le l):=fun x hx=>h x (qDP.1 hx)
theorem qOD (o:LO le P):∀ A B:List α,qKU P A->qKU P B->srt le (A++B)=mrg le (srt le A) (srt le B)
 | [],B,_,_=>by simp[srt,jI]
 | a::A,B,hA,hB=>by
  obtain⟨pa,hA'⟩:=hA.cons
  have ha:qKU P [a]:=fun x hx=>by rw[List.mem_singleton.1 hx];exact pa
  simp only[List.cons_append,srt]
  rw[qOD o A B hA' hB,qAO o _ _ _ ha (qVX hA') (qVX hB)]
abbrev Sor (le:α->α->Bool) (l:List α):Prop:=l.Pairwise fun a b=>le a b=true
theorem qWT (o:LO le P):∀ A B:List α,qKU P A->qKU P B->Sor le A->Sor le B->Sor le (mrg le A B)
 | [],B,_,_,_,h=>by rw[jI];exact h
 | a::A,[],_,_,h,_=>by rw[yK];exact h
 | a::A,b::B,hA,hB,h1,h2=>by
  obtain⟨pa,hA'⟩:=hA.cons
  obtain⟨pb,hB'⟩:=hB.cons
  obtain⟨s1,s2⟩:=List.pairwise_cons.1 h1
  obtain⟨t1,t2⟩:=List.pairwise_cons.1 h2
  cases h:le a b with
  | true =>
   rw[uW h]
   refine List.pairwise_cons.2 ⟨fun x hx => ?_,qWT o A (b::B) hA' hB s2 h2⟩
   rcases zHJ.1 hx with hx|hx
   ·exact s1 x hx
   rcases List.mem_cons.1 hx with rfl|hx
   ·exact h
   exact o.tr pa pb (hB' x hx) h (t1 x hx)
  | false =>
   rw[qBB h]
   have hba:=o.tot pa pb h
   refine List.pairwise_cons.2 ⟨fun x hx => ?_,qWT o (a::A) B hA hB' h1 t2⟩
   rcases zHJ.1 hx with hx|hx
   ·rcases List.mem_cons.1 hx with rfl|hx
    ·exact hba
    exact o.tr pb pa (hA' x hx) hba (s1 x hx)
   exact t1 x hx
termination_by A B=>A.length+B.length
theorem qGT (o:LO le P):∀ l:List α,qKU P l->Sor le (srt le l)
 | [],_=>List.Pairwise.nil
 | x::l,h=>by
  obtain⟨px,h'⟩:=h.cons
  exact qWT o [x] _ (fun y hy=>by rw[List.mem_singleton.1 hy];exact px) (qVX h') (List.pairwise_singleton _ _) (qGT o l h')
theorem qWU {x:α}:∀ {A1 A2:List α},(∀ y∈A1,le y x=true)->(∀ y∈A2,le y x=false)->mrg le (A1++A2) [x]=A1++x::A2
 | [],[],_,_=>by simp[jI]
 | [],y::A2,_,h=>by rw[List.nil_append,qBB (h y (by simp)),yK];rfl
 | a::A1,A2,h1,h2=>by
  rw[List.cons_append,uW (h1 a (by simp)),qWU (fun y hy=>h1 y (by simp[hy])) h2];rfl
theorem qAN:∀ {A1 A2 B1 B2:List α},(∀ x∈A1, ∀ y∈B2,le x y=true)->(∀ x∈A2, ∀ y∈B1,le x y=false)->mrg le (A1++A2) (B1++B2)=mrg le A1 B1++mrg le A2 B2
 | [],A2,[],B2,_,_=>by simp[jI]
 | [],[],b::B1,B2,_,_=>by simp[jI]
 | [],a::A2,b::B1,B2,h1,h2=>by
  have ih:=qAN (A1:=[]) (A2:=a::A2) (B1:=B1) (B2:=B2) h1 (fun x hx y hy=>h2 x hx y (by simp[hy]))
  rw[List.nil_append,List.cons_append,qBB (h2 a (by simp) b (by simp)),jI]
  rw[List.nil_append,jI]at ih
  rw[ih];rfl
 | a::A1,A2,[],[],_,_=>by simp[yK]
 | a::A1,A2,[],b::B2,h1,h2=>by
  have ih:=qAN (A1:=A1) (A2:=A2) (B1:=[]) (B2:=b::B2) (fun x hx=>h1 x (by simp[hx])) h2
  rw[List.cons_append,List.nil_append,uW (h1 a (by simp) b (by simp)),yK]
  rw[List.nil_append,yK]at ih
  rw[ih];rfl
 | a::A1,A2,b::B1,B2,h1,h2=>by
  simp only[List.cons_append]
  cases h:le a b with
  | true =>
   have ih:=qAN (A1:=A1) (A2:=A2) (B1:=b::B1) (B2:=B2) (fun x hx=>h1 x (by simp[hx])) h2
   rw[uW h,uW h,List.cons_append,<-ih];rfl
  | false =>
   have ih:=qAN (A1:=a::A1) (A2:=A2) (B1:=B1) (B2:=B2) h1 (fun x hx y hy=>h2 x hx y (by simp[hy]))
   rw[qBB h,qBB h,List.cons_append,<-ih];rfl
termination_by A1 A2 B1 B2=>A1.length+B1.length
end
def leV (a b:Val):Bool:=decide (wT a b<=0)
theorem qBD:LO leV (fun v=>zX v=true):=by
 refine⟨fun {a b} ha hb h => ?_,fun {a b c} ha hb hc h1 h2 => ?_⟩
 ·have:=yS.anti a b ha hb
  simp[leV]at h ⊢; omega
 simp[leV]at h1 h2 ⊢
 exact yS.tr a b c ha hb hc h1 h2
theorem qWX {x y:Val} (hx:zX x=true) (hy:zX y=true) (h:wT x y<0):leV y x=false:=by
 have:=yS.anti x y hx hy
 simp[leV];omega
theorem qWY {x y:Val} (hx:zX x=true) (hy:zX y=true) (h:¬ wT x y<0):leV y x=true:=by
 have:=yS.anti x y hx hy
 simp[leV];omega
def zN (l:List Val):List PD:=l.map Val.enc
theorem kZ (l:List Val):(zN l).length=l.length:=List.length_map _
theorem yH {A B:List Val} {x:Val}:(zN (A++x::B))[A.length]?=some x.enc:=by unfold zN;simp
theorem qAX {A B:List Val} {x y:Val}:(zN (A++x::B)).set A.length y.enc=zN (A++y::B):=by unfold zN;simp
theorem qGY {A B:List Val} {x y:Val}:(zN (A++x::y::B))[A.length+1]?=some y.enc:=by
 have:=yH (A:=A++[x]) (B:=B) (x:=y)
 simpa using this
theorem qLL {A B:List Val} {x y z:Val}:(zN (A++x::y::B)).set (A.length+1) z.enc=zN (A++x::z::B):=by
 have:=qAX (A:=A++[x]) (B:=B) (x:=y) (y:=z)
 simpa using this
theorem zSW {S:List Val} {k:Nat} {x:Val} (hm:∀ v∈S,zX v=true) (hx:S[k]?=some x):srt leV (S.take (k+1))=mrg leV (srt leV (S.take k)) [x]:=by
 have h1:S.take (k+1)=S.take k++[x]:=by rw[List.take_add_one,hx];rfl
 rw[h1,qOD qBD _ _ (fun v hv=>hm v (List.mem_of_mem_take hv)) (fun v hv=>by rw[List.mem_singleton.1 hv];exact hm _ (List.mem_of_getElem? hx))]
 show mrg leV _ (mrg leV [x] [])=_
 rw[yK]
theorem zTW {Q1 Q2:List Val} {x:Val} (hs:Sor leV (Q1++Q2)) (hm:∀ v∈Q1++Q2,zX v=true) (hx:zX x=true) (h2:∀ y∈Q2,wT x y<0) (h1:∀ y,Q1.getLast?=some y->¬ wT x y<0):mrg leV (Q1++Q2) [x]=Q1++x::Q2:=by
 refine qWU (fun y hy => ?_) (fun y hy=>qWX hx (hm y (List.mem_append_right _ hy)) (h2 y hy))
 rcases List.eq_nil_or_concat Q1 with rfl|⟨Q,z,e⟩
 ·simp at hy
 rw[List.concat_eq_append]at e
 subst e
 have hz:=qWY hx (hm z (by simp)) (h1 z (by simp))
 rcases List.mem_append.1 (by simpa using hy:y∈Q++[z])with hq|hq
 ·have hs2:=(List.pairwise_append.1 (List.pairwise_append.1 hs).1)
  exact qBD.tr (hm y (by simp[hq])) (hm z (by simp)) hx (hs2.2.2 y hq z (by simp)) hz
 rw[List.mem_singleton.1 hq];exact hz
theorem zHT (X S Y:List Val) (hl:X.length+S.length+Y.length<=1000000) (hm:∀ v∈S,zX v=true):AX Tryz.prog G 160 [.ms 890,.p (.int .i64 X.length),.p (.int .i64 ((X.length+S.length:Nat):Int)),.p (.fn 83)] [(890,.row 31 9 (zN (X++(S++Y))))] (.tuple []) [890] [(890,.row 31 9 (zN (X++(srt leV S++Y))))]:=by
 refine AX.introU tok 700 Tryz.func160 (by kernel_rfl) rfl rfl ?_
 simp only[Tryz.f160,qG,List.map_cons,List.map_nil]
 have e0:X++(S++Y)=X++(srt leV (S.take 1)++(S.drop 1++Y)):=by
  cases S with
  | nil=>rfl
  | cons x S=>rw[show(x::S).take 1=[x] from rfl,show srt leV [x]=[x] from yK _];rfl
 rw[e0]
 have hcm:=fun a b ha hb=>qKN (G:=G) a b ha hb
 refine rgn [] [[],[],[0,1,2,3,8]] ?_
 iterate 3 refine op3 ?_
 refine qA (AW.block ?_)
 refine AW.loop (α:=Nat) (fun k=>1<=k/\(k<=S.length\/k=1)) (fun k=>⟨zA 53 [(0,.ms 890),(1,.p (.int .i64 X.length)),(2,.p (.int .i64 ((X.length+S.length:Nat):Int))),(3,.p (.fn 83)),(8,.p (.int .i64 ((X.length+k:Nat):Int)))],[890],[(890,.row 31 9 (zN (X++(srt leV (S.take k)++(S.drop k++Y)))))],700⟩) (fun k=>S.length-k) (1) ⟨by omega,.inr rfl⟩ ⟨qE (by simp),rfl,by simp,by simp⟩ ?_
 rintro k ⟨hk1,hk2⟩
 refine AW.seq (rgn [] [[],[],[0,1,2,3,8,14]] ?_)
 iterate 3 refine op3 ?_
 refine qA (cnd ?_ ?_)
 ·intro h14
  try simp at h14
  obtain⟨x,hx⟩:∃ x,S[k]?=some x:=⟨S[k]'(by omega),by simp[show k<S.length by omega]⟩
  have hxm:=hm x (List.mem_of_getElem? hx)
  have hd:S.drop k=x::S.drop (k+1):=by
   obtain⟨h1,h2⟩:=List.getElem?_eq_some_iff.1 hx
   rw[List.drop_eq_getElem_cons h1,h2]
  have hst:=zSW hm hx
  have hql:(srt leV (S.take k)).length=k:=by rw[vC,List.length_take];omega
  have hqs:=qGT qBD (S.take k) (fun v hv=>hm v (List.mem_of_mem_take hv))
  have hqm:∀ v∈srt leV (S.take k),zX v=true:=fun v hv=>hm v (List.mem_of_mem_take (qDP.1 hv))
  rw[hd]
  generalize hR:S.drop (k+1)++Y=R at *
  generalize srt leV (S.take k)=Q at *
  refine AW.skip (AW.seq (AW.block (rgn [] [[],[0,1,2,3,8,9]] ?_)))
  iterate 2 refine op3 ?_
  refine qA (AW.block ?_)
  refine AW.loop (α:=List Val × List Val) (fun a=>Q=a.1++a.2/\∀ y∈a.2,wT x y<0) (fun a=>⟨zA 53 [(0,.ms 890),(1,.p (.int .i64 X.length)),(2,.p (.int .i64 ((X.length+S.length:Nat):Int))),(3,.p (.fn 83)),(8,.p (.int .i64 ((X.length+k:Nat):Int))),(9,.p (.int .i64 ((X.length+a.1.length:Nat):Int)))],[890],[(890,.row 31 9 (zN (X++(a.1++(x::(a.2++R))))))],700⟩) (fun a=>a.1.length) ((Q,[])) ⟨by simp,by simp⟩ ⟨qE (by simp[hql]),rfl,by simp[hR],by simp[hR]⟩ ?_
  rintro⟨Q1,Q2⟩ ⟨hq,hq2⟩
  simp only at hq hq2
  have hrl:(zN (X++(Q1++x::(Q2++R)))).length=X.length+Q1.length+1+Q2.length+R.length:=by rw[kZ];simp;omega
  obtain⟨P,y,hP⟩:∃ P y,0<Q1.length->Q1=P++[y]:=by
   rcases List.eq_nil_or_concat Q1 with rfl|⟨Q,z,e⟩
   ·exact⟨[],x,fun h=>absurd h (by simp)⟩
   exact⟨Q,z,fun _=>by rw[e,List.concat_eq_append]⟩
  have hg1:(zN (X++(Q1++x::(Q2++R))))[X.length+Q1.length]?=some x.enc:=by
   have:=yH (A:=X++Q1) (B:=Q2++R) (x:=x)
   rwa [List.length_append,List.append_assoc]at this
  have hg2:0<Q1.length->(zN (X++(Q1++x::(Q2++R))))[X.length+Q1.length-1]?=some y.enc:=fun h=>by
   have e:=hP h
   have:=yH (A:=X++P) (B:=x::(Q2++R)) (x:=y)
   rw[e,show X.length+(P++[y]).length-1=(X++P).length by simp <;> omega]
   simpa using this
  have hym:0<Q1.length->zX y=true:=fun h=>hqm y (by rw[hq,hP h];simp)
  have hQl:Q1.length+Q2.length=k:=by rw[<-hql,hq];simp
  have hc:=fun h=>hcm x y hxm (hym h)
  have htn:((X.length:Int)+Q1.length).toNat=X.length+Q1.length:=by omega
  simp only[Val.enc_def x,Val.enc_def y]at hg1 hg2 hc
  rw[<-htn]at hg1 hg2
  refine AW.seq ?_
  refine AW.seqDrawS tok mixed 17 [[9],[1],[18,19],[20],[3,21],[0,21],[9,21],[23,24,21],[25,21],[0,21],[9,21],[28,21],[27,29,21],[30,21],[22,26,31,21],[32,21],[21,33]] [x.enc,y.enc,.nilp,.int .i64 (wT x y)] [] (by kernel_rfl) ?_
  iterate 4 refine d1 ?_ (hv:=by first|exact True.intro|((intro g;refine⟨g, ?_⟩;first|exact hg1|exact hg2 (by omega)|exact hc (by omega)|(refine⟨by omega, ?_⟩;rw[hrl];omega)|omega);done)|omega|simp)
  iterate 12 refine d2 21 rfl rfl ?_ (hv:=by first|exact True.intro|((intro g;refine⟨g, ?_⟩;first|exact hg1|exact hg2 (by omega)|exact hc (by omega)|(refine⟨by omega, ?_⟩;rw[hrl];omega)|omega);done)|omega|simp)
  refine d1 ?_ (hv:=by first|exact True.intro|((intro g;refine⟨g, ?_⟩;first|exact hg1|exact hg2 (by omega)|exact hc (by omega)|(refine⟨by omega, ?_⟩;rw[hrl];omega)|omega);done)|omega|simp)
  refine DGo.nil (by kernel_rfl) ⟨by kernel_rfl, ?_⟩
  refine qB.nil ?_
  refine cnd ?_ ?_
  ·intro h34
   try simp at h34
   obtain⟨hq0,hlt⟩:=h34
   have hQ1:=hP (by omega)
   have hymm:=hym (by omega)
   subst hQ1
   have e1:X++(P++[y]++x::(Q2++R))=(X++P)++y::x::(Q2++R):=by simp
   have e2:(X++P)++x::y::(Q2++R)=X++(P++x::(y::Q2++R)):=by simp
   have hnl:(X++P).length=X.length+P.length:=by simp
   have b1:=yH (A:=X++P) (B:=x::(Q2++R)) (x:=y)
   have b2:=qGY (A:=X++P) (B:=Q2++R) (x:=y) (y:=x)
   have b3:=qLL (A:=X++P) (B:=Q2++R) (x:=y) (y:=x) (z:=y)
   have b4:=qAX (A:=X++P) (B:=y::(Q2++R)) (x:=y) (y:=x)
   have b5:=yH (A:=X++P) (B:=y::(Q2++R)) (x:=y)
   rw[e2]at b4
   rw[e1]
   rw[e1,kZ]at hrl
   simp only[hnl,List.append_assoc]at b1 b2 b3 b4 b5
   have ht:((X.length:Int)+((P.length:Int)+1)).toNat=X.length+P.length+1:=by omega
   have hrl2:(zN (X++(P++y::x::(Q2++R)))).length=X.length+P.length+2+Q2.length+R.length:=by rw[kZ];simp;omega
   have hPl:P.length+1+Q2.length=k:=by simpa using hQl
   simp only[Val.enc_def x,Val.enc_def y]at b1 b2 b3 b4 b5
   refine AW.skip (AW.seq (AW.block ?_))
   refine AW.drawR mixed 16 [[0],[9],[0],[9],[40],[0],[9],[43],[42,44],[45],[0],[9],[47,48],[49],[37,38],[51,46]] [y.enc,x.enc] (by kernel_rfl) ?_
   iterate 2 refine qS.o0 tok (hv:=by first|exact True.intro|(rw[ht];exact b2)|(rw[ht,Nat.add_sub_cancel];exact b1)|(refine⟨by omega, ?_⟩;rw[hrl2];omega)|omega;done|omega|simp) (k := ?_)
   refine qS.q [890] (.ms 890) rfl (qDL tok (orc:=[]) (orc':=[]) (v:=True) (by conv=>lhs;simp) trivial) (by simp) (by kernel_rfl) (by conv=>lhs;simp) ?_
   iterate 6 refine qS.o0 tok (hv:=by first|exact True.intro|(rw[ht];exact b2)|(rw[ht,Nat.add_sub_cancel];exact b1)|(refine⟨by omega, ?_⟩;rw[hrl2];omega)|omega;done|omega|simp) (k := ?_)
   refine qS.o1 tok (orc:=[y.enc]) (hv:=by first|exact True.intro|(rw[ht];exact b2)|(rw[ht,Nat.add_sub_cancel];exact b1)|(refine⟨by omega, ?_⟩;rw[hrl2];omega)|omega;done|omega|simp) (k := ?_)
   iterate 3 refine qS.o0 tok (hv:=by first|exact True.intro|(rw[ht];exact b2)|(rw[ht,Nat.add_sub_cancel];exact b1)|(refine⟨by omega, ?_⟩;rw[hrl2];omega)|omega;done|omega|simp) (k := ?_)
   refine qS.o1 tok (orc:=[x.enc]) (hv:=by first|exact True.intro|(rw[ht];exact b2)|(rw[ht,Nat.add_sub_cancel];exact b1)|(refine⟨by omega, ?_⟩;rw[hrl2];omega)|omega;done|omega|simp) (k := ?_)
   refine qS.o0 tok (hv:=by first|exact True.intro|(rw[ht];exact b2)|(rw[ht,Nat.add_sub_cancel];exact b1)|(refine⟨by omega, ?_⟩;rw[hrl2];omega)|omega;done|omega|simp) (k := ?_)
   refine qS.o1 tok (orc:=[x.enc,y.enc]) (hv:=by first|exact True.intro|(rw[ht];exact b2)|(rw[ht,Nat.add_sub_cancel];exact b1)|(refine⟨by omega, ?_⟩;rw[hrl2];omega)|omega;done|omega|simp) (k := ?_)
   refine qS.nil (by kernel_rfl) ⟨by kernel_rfl, ?_⟩
   refine qB.run [[],[0,1,2,3,8,9]] ?_
   iterate 2 refine op3 ?_ (hv:=by first|exact True.intro|(rw[ht,Nat.add_sub_cancel,b3];exact b5)|(rw[List.length_set,hrl2];omega)|(refine⟨by omega, ?_⟩;rw[List.length_set,hrl2];omega)|omega;done|omega|simp)
   refine qA (rgz [] [[],[],[0,1,2,3,8,9]] ?_)
   iterate 3 refine op3 ?_
   refine qA ?_
   exact⟨(P,y::Q2),⟨by rw[hq];simp,fun z hz=>by rcases List.mem_cons.1 hz with rfl|hz;exact hlt;exact hq2 z hz⟩,by simp,qE (by simp[ht,b3,b4,show(X.length:Int)+((P.length:Int)+1)-1=X.length+P.length from by omega]),rfl,by simp[ht,b3,b4,show(X.length:Int)+((P.length:Int)+1)-1=X.length+P.length from by omega],by simp[ht,b3,b4,show(X.length:Int)+((P.length:Int)+1)-1=X.length+P.length from by omega]⟩
  intro h34
  try simp at h34
  have hend:=zTW (hq ▸ hqs) (hq ▸ hqm) hxm hq2 (fun z hz hl=>by
   have hp:0<Q1.length:=by cases Q1 with
    | nil=>simp at hz
    | cons a b=>simp
   rw[hP hp]at hz
   simp at hz
   subst hz
   first|exact h34 ⟨by omega,hl⟩|(have:=h34 (by omega);omega))
  rw[<-hq,<-hst]at hend
  have e3:X++(Q1++x::(Q2++R))=X++(srt leV (S.take (k+1))++(S.drop (k+1)++Y)):=by rw[hend,hR];simp[List.append_assoc]
  rw[e3]
  refine AW.exit ?_
  simp
  refine rgz [] [[],[],[0,1,2,3,8]] ?_
  iterate 3 refine op3 ?_
  refine qA ?_
  exact⟨k+1,⟨by omega,.inl (by omega)⟩,by omega,qE (by simp[show(X.length:Int)+(k:Int)+1=X.length+(k+1) from by omega]),rfl,by simp[show(X.length:Int)+(k:Int)+1=X.length+(k+1) from by omega],by simp[show(X.length:Int)+(k:Int)+1=X.length+(k+1) from by omega]⟩
 intro h14
 try simp at h14
 have hall:S.take k=S:=List.take_of_length_le (by omega)
 have hdr:S.drop k=[]:=List.drop_of_length_le (by omega)
 rw[hall,hdr]
 refine AW.exit ?_
 simp
 exact qBY
theorem qPE (X A M B Y:List Val) (hl:X.length+A.length+M.length+B.length+Y.length<=1000000) (hab:A.length=B.length):AX Tryz.prog G 232 [.ms 890,.p (.int .i64 X.length),.p (.int .i64 ((X.length+A.length+M.length:Nat):Int)),.p (.int .i64 A.length),.p (.fn 83)] [(890,.row 31 9 (zN (X++(A++(M++(B++Y))))))] (.tuple []) [890] [(890,.row 31 9 (zN (X++(B++(M++(A++Y))))))]:=by
 refine AX.introU tok 700 Tryz.func232 (by kernel_rfl) rfl rfl ?_
 simp only[Tryz.f232,qG,List.map_cons,List.map_nil]
 refine rgn [] [[]] ?_
 refine op3 ?_
 refine qA (AW.block ?_)
 refine AW.loop (α:=Nat) (fun k=>k<=A.length) (fun k=>⟨zA 38 [(0,.ms 890),(1,.p (.int .i64 X.length)),(2,.p (.int .i64 ((X.length+A.length+M.length:Nat):Int))),(3,.p (.int .i64 A.length)),(10,.p (.int .i64 k))],[890],[(890,.row 31 9 (zN (X++(B.take k++(A.drop k++(M++(A.take k++(B.drop k++Y))))))))],700⟩) (fun k=>A.length-k) (0) (by omega) ⟨qE (by simp),rfl,by simp,by simp⟩ ?_
 rintro k hk
 refine AW.seq (rgn [] [[],[],[0,1,2,3,10,13]] ?_)
 iterate 3 refine op3 ?_
 refine qA (cnd ?_ ?_)
 ·intro h13
  try simp at h13
  obtain⟨p,hp⟩:∃ x,A[k]?=some x:=⟨A[k]'(by omega),by simp[show k<A.length by omega]⟩
  obtain⟨q,hq⟩:∃ x,B[k]?=some x:=⟨B[k]'(by omega),by simp[show k<B.length by omega]⟩
  have hd1:A.drop k=p::A.drop (k+1):=by
   obtain⟨h1,h2⟩:=List.getElem?_eq_some_iff.1 hp
   rw[List.drop_eq_getElem_cons h1,h2]
  have hd2:B.drop k=q::B.drop (k+1):=by
   obtain⟨h1,h2⟩:=List.getElem?_eq_some_iff.1 hq
   rw[List.drop_eq_getElem_cons h1,h2]
  have ht1:A.take (k+1)=A.take k++[p]:=by rw[List.take_add_one,hp];rfl
  have ht2:B.take (k+1)=B.take k++[q]:=by rw[List.take_add_one,hq];rfl
  have hla:(A.take k).length=k:=by rw[List.length_take];omega
  have hlb:(B.take k).length=k:=by rw[List.length_take];omega
  have hl3:(A.drop (k+1)).length=A.length-(k+1):=List.length_drop
  have hl4:(B.drop (k+1)).length=A.length-(k+1):=by rw[List.length_drop];omega
  rw[hd1,hd2]
  have hfin:zN (X++(B.take (k+1)++(A.drop (k+1)++(M++(A.take (k+1)++(B.drop (k+1)++Y))))))=zN (X++(B.take k++(q::(A.drop (k+1)++(M++(A.take k++(p::(B.drop (k+1)++Y)))))))):=by rw[ht1,ht2];simp
  generalize hA1:A.take k=A1 at *
  generalize hB1:B.take k=B1 at *
  generalize hA3:A.drop (k+1)=A3 at *
  generalize hB3:B.drop (k+1)=B3 at *
  have hn1:(X++B1).length=X.length+k:=by simp[hlb]
  have hn2:(X++(B1++(p::(A3++(M++A1))))).length=X.length+A.length+M.length+k:=by simp[hla,hlb,hl3];omega
  have hn3:(X++(B1++(q::(A3++(M++A1))))).length=X.length+A.length+M.length+k:=by simp[hla,hlb,hl3];omega
  have b1:=yH (A:=X++B1) (B:=A3++(M++(A1++(q::(B3++Y))))) (x:=p)
  have b2:=yH (A:=X++(B1++(p::(A3++(M++A1))))) (B:=B3++Y) (x:=q)
  have b3:=qAX (A:=X++B1) (B:=A3++(M++(A1++(q::(B3++Y))))) (x:=p) (y:=q)
  have b4:=yH (A:=X++(B1++(q::(A3++(M++A1))))) (B:=B3++Y) (x:=q)
  have b5:=qAX (A:=X++(B1++(q::(A3++(M++A1))))) (B:=B3++Y) (x:=q) (y:=p)
  rw[hn1]at b1 b3
  rw[hn2]at b2
  rw[hn3]at b4 b5
  simp only[List.append_assoc,List.cons_append]at b1 b2 b3 b4 b5
  have hrl:(zN (X++(B1++(p::(A3++(M++(A1++(q::(B3++Y))))))))).length=X.length+A.length+M.length+A.length+Y.length:=by rw[kZ];simp[hla,hlb,hl3,hl4];omega
  have ht:((X.length:Int)+k).toNat=X.length+k:=by omega
  have htb:((X.length:Int)+A.length+M.length+k).toNat=X.length+A.length+M.length+k:=by omega
  simp only[Val.enc_def p,Val.enc_def q]at b1 b2 b3 b4 b5
  refine AW.skip (AW.seq (AW.block ?_))
  refine AW.drawR mixed 22 [[0],[1],[10],[17,18],[0],[2],[10],[21,22],[0],[2],[10],[25,26],[24,27],[28],[0],[1],[10],[31,32],[30,33],[34],[16,19],[36,29]] [q.enc,p.enc] (by kernel_rfl) ?_
  iterate 4 refine qS.o0 tok (hv:=by first|exact True.intro|(rw[ht];exact b1)|(rw[htb];exact b2)|(refine⟨by omega, ?_⟩;rw[hrl];omega)|omega;done|omega|simp) (k := ?_)
  refine qS.q [890] (.ms 890) rfl (qDL tok (orc:=[]) (orc':=[]) (v:=True) (by conv=>lhs;simp) trivial) (by simp) (by kernel_rfl) (by conv=>lhs;simp) ?_
  iterate 8 refine qS.o0 tok (hv:=by first|exact True.intro|(rw[ht];exact b1)|(rw[htb];exact b2)|(refine⟨by omega, ?_⟩;rw[hrl];omega)|omega;done|omega|simp) (k := ?_)
  refine qS.o1 tok (orc:=[q.enc]) (hv:=by first|exact True.intro|(rw[ht];exact b1)|(rw[htb];exact b2)|(refine⟨by omega, ?_⟩;rw[hrl];omega)|omega;done|omega|simp) (k := ?_)
  iterate 5 refine qS.o0 tok (hv:=by first|exact True.intro|(rw[ht];exact b1)|(rw[htb];exact b2)|(refine⟨by omega, ?_⟩;rw[hrl];omega)|omega;done|omega|simp) (k := ?_)
  refine qS.o1 tok (orc:=[p.enc]) (hv:=by first|exact True.intro|(rw[ht];exact b1)|(rw[htb];exact b2)|(refine⟨by omega, ?_⟩;rw[hrl];omega)|omega;done|omega|simp) (k := ?_)
  refine qS.o0 tok (hv:=by first|exact True.intro|(rw[ht];exact b1)|(rw[htb];exact b2)|(refine⟨by omega, ?_⟩;rw[hrl];omega)|omega;done|omega|simp) (k := ?_)
  refine qS.o1 tok (orc:=[p.enc,q.enc]) (hv:=by first|exact True.intro|(rw[ht];exact b1)|(rw[htb];exact b2)|(refine⟨by omega, ?_⟩;rw[hrl];omega)|omega;done|omega|simp) (k := ?_)
  refine qS.nil (by kernel_rfl) ⟨by kernel_rfl, ?_⟩
  refine qB.run [[],[0,1,2,3,10]] ?_
  iterate 2 refine op3 ?_ (hv:=by first|exact True.intro|(rw[ht,htb,b3];exact b4)|(refine⟨by omega, ?_⟩;rw[List.length_set,hrl];omega)|omega;done|omega|simp)
  refine qA (rgz [] [[],[],[0,1,2,3,10]] ?_)
  iterate 3 refine op3 ?_
  refine qA ?_
  exact⟨k+1,by omega,by omega,qE (by simp[ht,htb,b3,b5,hA3,hB3,hfin]),rfl,by simp[ht,htb,b3,b5,hA3,hB3,hfin],by simp[ht,htb,b3,b5,hA3,hB3,hfin]⟩
 intro h13
 try simp at h13
 obtain rfl:k=A.length:=by omega
 have h1:A.take A.length=A:=List.take_length
 have h2:A.drop A.length=[]:=List.drop_length
 have h3:B.take A.length=B:=by rw[hab];exact List.take_length
 have h4:B.drop A.length=[]:=by rw[hab];exact List.drop_length
 rw[h1,h2,h3,h4]
 refine AW.exit ?_
 simp
 exact qBY
structure Quad where
 x:List Val
 l:List Val
 r:List Val
 y:List Val
theorem zTB (X A B Y:List Val) (hl:X.length+A.length+B.length+Y.length<=1000000) (ha:0<A.length) (hb:0<B.length):AX Tryz.prog G 201 [.ms 890,.p (.int .i64 X.length),.p (.int .i64 ((X.length+A.length:Nat):Int)),.p (.int .i64 ((X.length+A.length+B.length:Nat):Int)),.p (.fn 83)] [(890,.row 31 9 (zN (X++(A++(B++Y)))))] (.tuple []) [890] [(890,.row 31 9 (zN (X++(B++(A++Y)))))]:=by
 refine AX.introU tok 700 Tryz.func201 (by kernel_rfl) rfl rfl ?_
 simp only[Tryz.f201,qG,List.map_cons,List.map_nil]
 obtain⟨m,hm⟩:∃ m,X.length+A.length=m:=⟨_,rfl⟩
 rw[hm]
 generalize hT:X++(B++(A++Y))=T at *
 refine rgn [] [[],[],[],[0,2,3,4,10]] ?_
 iterate 4 refine op3 ?_
 refine qA (rgn [] [[],[],[],[0,2,4,10,11]] ?_)
 iterate 4 refine op3 ?_
 refine qA (AW.seq (AW.block ?_))
 refine AW.loop (α:=Quad) (fun q=>q.x++(q.r++(q.l++q.y))=T/\q.x.length+q.l.length=m/\0<q.l.length/\0<q.r.length/\q.x.length+q.l.length+q.r.length+q.y.length<=1000000) (fun q=>⟨zA 58 [(0,.ms 890),(2,.p (.int .i64 m)),(4,.p (.fn 83)),(10,.p (.int .i64 q.l.length)),(11,.p (.int .i64 q.r.length))],[890],[(890,.row 31 9 (zN (q.x++(q.l++(q.r++q.y)))))],700⟩) (fun q=>q.l.length+q.r.length) ((⟨X,A,B,Y⟩:Quad)) ⟨hT,hm,ha,hb,hl⟩ ⟨qE (by simp;omega),rfl,by simp,by simp⟩ ?_
 rintro⟨x,l,r,y⟩ ⟨q1,q2,q3,q4,q5⟩
 simp only at q1 q2 q3 q4 q5
 have e1:(m:Int)-l.length=x.length:=by omega
 refine AW.seq (rgn [] [[],[],[0,2,4,10,11,20]] ?_)
 iterate 3 refine op3 ?_
 refine qA (cnd ?_ ?_)
 ·intro h20
  try simp at h20
  refine AW.skip (AW.block (rgn [] [[],[],[0,2,4,10,11,23]] ?_))
  iterate 3 refine op3 ?_
  refine qA (cnd ?_ ?_)
  ·intro h23
   try simp at h23
   have hll:(l.take r.length).length=r.length:=by rw[List.length_take];omega
   have hlx:l.take r.length++l.drop r.length=l:=List.take_append_drop _ _
   have hld:(l.drop r.length).length=l.length-r.length:=List.length_drop
   have hsw:=qPE (G:=G) x (l.take r.length) (l.drop r.length) r y (by omega) hll
   rw[hll,show x.length+r.length+(l.drop r.length).length=m by omega,<-e1,show l.take r.length++(l.drop r.length++(r++y))=l++(r++y) by rw[<-List.append_assoc,hlx]]at hsw
   generalize hl1:l.take r.length=l1 at *
   generalize hl2:l.drop r.length=l2 at *
   refine rgn [] [[],[],[],[],[],[],[]] ?_
   iterate 7 refine op3 ?_
   refine qJ ?_
   refine qB.stepK [0,2,4,10,11] (zF rfl hsw (by simp)) (by conv=>lhs;simp) rfl ?_
   refine qB.nil ?_
   refine rgz [] [[],[],[],[0,2,4,10,11]] ?_
   iterate 4 refine op3 ?_
   refine qA ?_
   exact⟨(⟨x++r,l2,l1,y⟩:Quad),⟨by simp only;rw[<-q1,<-hlx];simp,by simp;omega,by simp only;omega,by simp only;omega,by simp;omega⟩,by simp only;omega,qE (by simp[show((l.length:Int)-r.length)=l2.length from by omega,show(r.length:Int)=l1.length from by omega,show((l.length:Int)-l1.length)=l2.length from by omega]),rfl,by simp[show((l.length:Int)-r.length)=l2.length from by omega,show(r.length:Int)=l1.length from by omega,show((l.length:Int)-l1.length)=l2.length from by omega],by simp[show((l.length:Int)-r.length)=l2.length from by omega,show(r.length:Int)=l1.length from by omega,show((l.length:Int)-l1.length)=l2.length from by omega]⟩
  intro h23
  try simp at h23
  have hrl:(r.drop (r.length-l.length)).length=l.length:=by rw[List.length_drop];omega
  have hrx:r.take (r.length-l.length)++r.drop (r.length-l.length)=r:=List.take_append_drop _ _
  have hrd:(r.take (r.length-l.length)).length=r.length-l.length:=by rw[List.length_take];omega
  have hsw:=qPE (G:=G) x l (r.take (r.length-l.length)) (r.drop (r.length-l.length)) y (by omega) hrl.symm
  have e2:((x.length+l.length+(r.take (r.length-l.length)).length:Nat):Int)=m+r.length-l.length:=by omega
  rw[e2,<-e1,show r.take (r.length-l.length)++(r.drop (r.length-l.length)++y)=r++y by rw[<-List.append_assoc,hrx]]at hsw
  generalize hr1:r.take (r.length-l.length)=r1 at *
  generalize hr2:r.drop (r.length-l.length)=r2 at *
  refine rgn [] [[],[],[],[],[],[],[0,2,4,10,11,35,38,41],[],[],[],[]] ?_
  iterate 11 refine op3 ?_
  refine qJ ?_
  refine qB.stepK [0,2,4,10,11] (zF rfl hsw (by simp)) (by conv=>lhs;simp) rfl ?_
  refine qB.nil ?_
  refine rgz [] [[],[],[],[0,2,4,10,11]] ?_
  iterate 4 refine op3 ?_
  refine qA ?_
  exact⟨(⟨x,r2,r1,l++y⟩:Quad),⟨by simp only;rw[<-q1,<-hrx];simp,by simp;omega,by simp only;omega,by simp only;omega,by simp;omega⟩,by simp only;omega,qE (by simp[show((r.length:Int)-l.length)=r1.length from by omega,show(l.length:Int)=r2.length from by omega,show((r.length:Int)-r2.length)=r1.length from by omega]),rfl,by simp[show((r.length:Int)-l.length)=r1.length from by omega,show(l.length:Int)=r2.length from by omega,show((r.length:Int)-r2.length)=r1.length from by omega],by simp[show((r.length:Int)-l.length)=r1.length from by omega,show(l.length:Int)=r2.length from by omega,show((r.length:Int)-r2.length)=r1.length from by omega]⟩
 intro h20
 try simp at h20
 have hsw:=qPE (G:=G) x l [] r y (by simp;omega) (by omega)
 rw[show x.length+l.length+([]:List Val).length=m by simp;omega,<-e1]at hsw
 rw[<-q1]
 refine AW.exit ?_
 simp
 refine rgz [] [[],[],[],[],[4,10,50,53,54],[],[]] ?_
 iterate 7 refine op3 ?_
 refine qJ ?_
 refine qB.stepK [] (zF rfl hsw (by simp)) (by conv=>lhs;simp) rfl ?_
 refine qB.nil ?_
 exact qBY
abbrev qAH (l:List Val):Prop:=∀ v∈l,zX v=true
theorem zNX {B:List Val} {x:Val} {u:Nat} (hx:zX x=true) (hm:qAH B) (h1:∀ k y,k<u->B[k]?=some y->wT y x<0) (h2:∀ k y,u<=k->B[k]?=some y->¬ wT y x<0):mrg leV [x] B=B.take u++x::B.drop u:=by
 have e:=qAN (le:=leV) (A1:=[]) (A2:=[x]) (B1:=B.take u) (B2:=B.drop u) (fun a ha=>by cases ha) (fun a ha b hb=>by
  obtain rfl:=List.mem_singleton.1 ha
  obtain⟨i,hi⟩:=List.mem_iff_getElem?.1 hb
  rw[List.getElem?_take]at hi
  split at hi
  ·rename_i h
   exact qWX (hm b (List.mem_of_getElem? hi)) hx (h1 i b h hi)
  cases hi)
 rw[List.nil_append,List.take_append_drop,jI]at e
 rw[e]
 congr 1
 have hle:∀ b∈B.drop u,leV x b=true:=fun b hb=>by
  obtain⟨i,hi⟩:=List.mem_iff_getElem?.1 hb
  rw[List.getElem?_drop]at hi
  exact qWY (hm b (List.mem_of_getElem? hi)) hx (h2 (u+i) b (by omega) hi)
 generalize B.drop u=D at *
 cases D with
 | nil=>rw[yK]
 | cons d D=>rw[uW (hle d (by simp)),jI]
theorem zKH {A:List Val} {y:Val} {u:Nat} (hy:zX y=true) (hm:qAH A) (h1:∀ k x,k<u->A[k]?=some x->¬ wT y x<0) (h2:∀ k x,u<=k->A[k]?=some x->wT y x<0):mrg leV A [y]=A.take u++y::A.drop u:=by
 have e:=qWU (le:=leV) (x:=y) (A1:=A.take u) (A2:=A.drop u) (fun a ha=>by
  obtain⟨i,hi⟩:=List.mem_iff_getElem?.1 ha
  rw[List.getElem?_take]at hi
  split at hi
  ·rename_i h
   exact qWY hy (hm a (List.mem_of_getElem? hi)) (h1 i a h hi)
  ·cases hi) (fun a ha=>by
  obtain⟨i,hi⟩:=List.mem_iff_getElem?.1 ha
  rw[List.getElem?_drop]at hi
  exact qWX hy (hm a (List.mem_of_getElem? hi)) (h2 (u+i) a (by omega) hi))
 rwa [List.take_append_drop]at e
theorem qVZ {B:List Val} (h:Sor leV B) {i j:Nat} {a b:Val} (hij:i<j) (ha:B[i]?=some a) (hb:B[j]?=some b):wT a b<=0:=by
 obtain⟨hi,rfl⟩:=List.getElem?_eq_some_iff.1 ha
 obtain⟨hj,rfl⟩:=List.getElem?_eq_some_iff.1 hb
 have:=List.pairwise_iff_getElem.1 h i j hi hj hij
 simpa[leV]using this
theorem qME {x y z:Val} (hx:zX x=true) (hy:zX y=true) (hz:zX z=true) (h1:wT x y<=0) (h2:wT y z<0):wT x z<0:=by
 have a1:=yS.anti x z hx hz
 have a2:=yS.anti y z hy hz
 have a3:=yS.anti x y hx hy
 by_cases h:wT x z<0
 ·exact h
 have:=yS.tr z x y hz hx hy (by omega) h1
 omega
theorem zJC {A1 A2 B1 B2:List Val} (hma:qAH (A1++A2)) (hmb:qAH (B1++B2)) (hsa:Sor leV (A1++A2)) (hsb:Sor leV (B1++B2))
  (h1:∀ a b,A1.getLast?=some a->B2.head?=some b->¬ wT b a<0) (h2:∀ a b,A2.head?=some a->B1.getLast?=some b->wT b a<0):mrg leV (A1++A2) (B1++B2)=mrg leV A1 B1++mrg leV A2 B2:=by
 obtain⟨sa1,sa2,sa3⟩:=List.pairwise_append.1 hsa
 obtain⟨sb1,sb2,sb3⟩:=List.pairwise_append.1 hsb
 refine qAN (fun a ha b hb => ?_) (fun a ha b hb => ?_)
 ·
  have hne:A1≠[]:=fun e=>by rw[e]at ha;cases ha
  have hne2:B2≠[]:=fun e=>by rw[e]at hb;cases hb
  obtain⟨l,hl⟩:∃ l,A1.getLast?=some l:=⟨_,List.getLast?_eq_some_getLast hne⟩
  obtain⟨f,hf⟩:∃ f,B2.head?=some f:=⟨_,List.head?_eq_some_head hne2⟩
  have ml:zX l=true:=hma l (List.mem_append_left _ (List.mem_of_getLast? hl))
  have mf:zX f=true:=hmb f (List.mem_append_right _ (List.mem_of_head? hf))
  have ma:=hma a (List.mem_append_left _ ha)
  have mb:=hmb b (List.mem_append_right _ hb)
  have e1:leV l f=true:=qWY mf ml (h1 l f hl hf)
  have refl:∀ v,zX v=true->leV v v=true:=fun v hv=>by
   have:=yS.anti v v hv hv
   simp[leV];omega
  have e2:leV a l=true:=by
   obtain⟨ys,rfl⟩:=List.getLast?_eq_some_iff.1 hl
   rcases List.mem_append.1 ha with h|h
   ·exact(List.pairwise_append.1 sa1).2.2 a h l (by simp)
   rw[List.mem_singleton.1 h];exact refl _ ml
  have e3:leV f b=true:=by
   obtain⟨ys,rfl⟩:∃ ys,B2=f::ys:=by
    cases B2 with
    | nil=>cases hf
    | cons z zs=>cases hf;exact⟨zs,rfl⟩
   rcases List.mem_cons.1 hb with rfl|h
   ·exact refl _ mf
   exact(List.pairwise_cons.1 sb2).1 b h
  exact qBD.tr ma mf mb (qBD.tr ma ml mf e2 e1) e3
 have hne:A2≠[]:=fun e=>by rw[e]at ha;cases ha
 have hne2:B1≠[]:=fun e=>by rw[e]at hb;cases hb
 obtain⟨f,hf⟩:∃ f,A2.head?=some f:=⟨_,List.head?_eq_some_head hne⟩
 obtain⟨l,hl⟩:∃ l,B1.getLast?=some l:=⟨_,List.getLast?_eq_some_getLast hne2⟩
 have mf:zX f=true:=hma f (List.mem_append_right _ (List.mem_of_head? hf))
 have ml:zX l=true:=hmb l (List.mem_append_left _ (List.mem_of_getLast? hl))
 have ma:=hma a (List.mem_append_right _ ha)
 have mb:=hmb b (List.mem_append_left _ hb)
 have refl:∀ v,zX v=true->wT v v<=0:=fun v hv=>by
  have:=yS.anti v v hv hv
  omega
 have e2:wT b l<=0:=by
  obtain⟨ys,rfl⟩:=List.getLast?_eq_some_iff.1 hl
  rcases List.mem_append.1 hb with h|h
  ·have:=(List.pairwise_append.1 sb1).2.2 b h l (by simp)
   simpa[leV]using this
  rw[List.mem_singleton.1 h];exact refl _ ml
 have e3:wT f a<=0:=by
  obtain⟨ys,rfl⟩:∃ ys,A2=f::ys:=by
   cases A2 with
   | nil=>cases hf
   | cons z zs=>cases hf;exact⟨zs,rfl⟩
  rcases List.mem_cons.1 ha with rfl|h
  ·exact refl _ mf
  have:=(List.pairwise_cons.1 sa2).1 a h
  simpa[leV]using this
 have e4:=qME mb ml mf e2 (h2 f l hf hl)
 refine qWX mb ma ?_
 have a1:=yS.anti b a mb ma
 by_cases h:wT b a<0
 ·exact h
 exfalso
 have a2:=yS.anti b f mb mf
 have:=yS.tr f a b mf ma mb e3 (by omega)
 omega
def qRT (G:qR) (X A B Y:List Val):Prop:=AX Tryz.prog G 161 [.ms 890,.p (.int .i64 X.length),.p (.int .i64 ((X.length+A.length:Nat):Int)),.p (.int .i64 ((X.length+A.length+B.length:Nat):Int)),.p (.fn 83)] [(890,.row 31 9 (zN (X++(A++(B++Y)))))] (.tuple []) [890] [(890,.row 31 9 (zN (X++(mrg leV A B++Y))))]
theorem qJY {s:Int} (h0:0<=s) (h1:s<=1000000000):IntKind.i64.wrap ((IntKind.u64.wrap s).fdiv (2 ^ min 1 IntKind.u64.bits))=s / 2:=by
 rw[kI h0 (by omega),show(2:Int) ^ min 1 IntKind.u64.bits=2 from rfl,Int.fdiv_eq_ediv_of_nonneg _ (by decide),wCO (by omega)]
structure SymIn (X A B Y:List Val):Prop where
 l:X.length+A.length+B.length+Y.length<=1000000
 a:0<A.length
 b:0<B.length
 ma:qAH A
 mb:qAH B
 sa:Sor leV A
 sb:Sor leV B
theorem zNB (n:Nat) (X A B Y:List Val) (hn:A.length+B.length<=n) (hi:SymIn X A B Y) (ih:∀ X A B Y:List Val,A.length+B.length<n->SymIn X A B Y->qRT G X A B Y):AX Tryz.prog G 161 [.ms 890,.p (.int .i64 X.length),.p (.int .i64 ((X.length+A.length:Nat):Int)),.p (.int .i64 ((X.length+A.length+B.length:Nat):Int)),.p (.fn 83)] [(890,.row 31 9 (zN (X++(A++(B++Y)))))] (.tuple []) [890] [(890,.row 31 9 (zN (X++(mrg leV A B++Y))))]:=by
 refine AX.introU tok 700 Tryz.func161 (by kernel_rfl) rfl rfl ?_
 simp only[Tryz.f161,qG,List.map_cons,List.map_nil]
 obtain⟨hl,ha,hb,hma,hmb,hsa,hsb⟩:=hi
 have hcm:=fun a b ha hb=>qKN (G:=G) a b ha hb
 refine AW.seq (rgn [] [[],[],[],[0,1,2,3,4,28]] ?_)
 iterate 4 refine op3 ?_
 refine qA (cnd ?_ ?_)
 ·intro h28
  try simp at h28
  obtain⟨x,rfl⟩:∃ x,A=[x]:=List.length_eq_one_iff.1 (by omega)
  have hxm:=hma x (by simp)
  have hol:=fun u h1 h2=>zNX (B:=B) (x:=x) (u:=u) hxm hmb h1 h2
  have ht0:((X.length:Int)).toNat=X.length:=by omega
  have g0:(zN (X++(x::(B++Y))))[X.length]?=some x.enc:=yH
  have hrl:(zN (X++(x::(B++Y)))).length=X.length+1+B.length+Y.length:=by rw[kZ];simp;omega
  simp only[List.length_singleton]at hl
  refine rgn [] [[],[0,1,3,4,10]] ?_
  iterate 2 refine op3 ?_
  refine qA (rgn [] [[],[0,1,4,10,11]] ?_)
  iterate 2 refine op3 ?_
  refine qA (AW.seq (AW.block ?_))
  refine AW.loop (α:=Nat × Nat) (fun a=>a.1<=a.2/\a.2<=B.length/\(∀ k y,k<a.1->B[k]?=some y->wT y x<0)/\(∀ k y,a.2<=k->B[k]?=some y->¬ wT y x<0)) (fun a=>⟨zA 220 [(0,.ms 890),(1,.p (.int .i64 X.length)),(4,.p (.fn 83)),(10,.p (.int .i64 ((X.length+1+a.1:Nat):Int))),(11,.p (.int .i64 ((X.length+1+a.2:Nat):Int)))],[890],[(890,.row 31 9 (zN (X++(x::(B++Y)))))],700⟩) (fun a=>a.2-a.1) ((0,B.length)) ⟨by simp,by simp,by simp,fun k y h1 h2=>by have:=(List.getElem?_eq_some_iff.1 h2).1;simp only at h1;omega⟩ ⟨qE (by simp),rfl,by simp,by simp⟩ ?_
  rintro⟨u,v⟩ ⟨q1,q2,q3,q4⟩
  simp only at q1 q2 q3 q4
  refine AW.seq (rgn [] [[],[],[0,1,4,10,11,33]] ?_)
  iterate 3 refine op3 ?_
  refine qA (cnd ?_ ?_)
  ·intro h33
   try simp at h33
   obtain⟨w,hw⟩:∃ w,(u+v) / 2=w:=⟨_,rfl⟩
   have hmid:(((X.length:Int)+1+u+(X.length+1+v))) / 2=X.length+1+w:=by omega
   obtain⟨y,hy⟩:∃ y,B[w]?=some y:=⟨B[w]'(by omega),by simp[show w<B.length by omega]⟩
   have hym:=hmb y (List.mem_of_getElem? hy)
   have hc:=hcm y x hym hxm
   have g1:(zN (X++(x::(B++Y))))[X.length+1+w]?=some y.enc:=by
    unfold zN
    rw[List.getElem?_map,List.getElem?_append_right (by omega),show X.length+1+w-X.length=w+1 by omega,List.getElem?_cons_succ,List.getElem?_append_left (by omega),hy];rfl
   have htw:((X.length:Int)+1+w).toNat=X.length+1+w:=by omega
   simp only[Val.enc_def x,Val.enc_def y]at g0 g1 hc
   have hwr:=qJY (s:=(X.length:Int)+1+u+(X.length+1+v)) (by omega) (by omega)
   rw[hmid]at hwr
   refine AW.skip (AW.block (rgn [] [[],[],[],[],[0,1,4,10,11,38],[],[0,1,4,10,11,12]] ?_))
   iterate 7 refine op3 ?_ (hv:=by first|exact True.intro|(omega;done)|omega|simp)
   refine qA ?_
   rw[hwr]
   refine AW.seqDrawS tok mixed 11 [[4],[0],[12],[41,42],[43],[0],[1],[45,46],[47],[40,44,48],[49]] [y.enc,x.enc,.nilp,.int .i64 (wT y x)] [] (by kernel_rfl) ?_
   iterate 11 refine d1 ?_ (hv:=by first|exact True.intro|(rw[htw];exact g1)|exact g0|exact hc|(rw[hrl];omega)|(refine⟨by omega, ?_⟩;rw[hrl];omega)|omega;done|omega|simp)
   refine DGo.nil (by kernel_rfl) ⟨by kernel_rfl, ?_⟩
   refine qB.nil ?_
   refine cnd ?_ ?_
   ·intro h50
    try simp at h50
    have hlow:∀ k z,k<w+1->B[k]?=some z->wT z x<0:=fun k z hk hz=>by
     by_cases e:k=w
     ·subst e;rw[hy]at hz;cases hz;exact h50
     exact qME (hmb z (List.mem_of_getElem? hz)) hym hxm (qVZ hsb (by omega) hz hy) h50
    refine rgz [] [[],[],[0,1,4,10,11]] ?_
    iterate 3 refine op3 ?_
    refine qA ?_
    exact⟨(w+1,v),⟨by simp only;omega,q2,hlow,q4⟩,by simp only;omega,qE (by simp[show(X.length:Int)+1+w+1=X.length+1+(w+1) from by omega]),rfl,by simp[show(X.length:Int)+1+w+1=X.length+1+(w+1) from by omega],by simp[show(X.length:Int)+1+w+1=X.length+1+(w+1) from by omega]⟩
   intro h50
   try simp at h50
   have hhi:∀ k z,w<=k->B[k]?=some z->¬ wT z x<0:=fun k z hk hz hlt=>by
    by_cases e:k=w
    ·subst e;rw[hy]at hz;cases hz;omega
    have:=qME hym (hmb z (List.mem_of_getElem? hz)) hxm (qVZ hsb (by omega) hy hz) hlt
    omega
   refine rgz [] [[],[0,1,4,10,11]] ?_
   iterate 2 refine op3 ?_
   refine qA ?_
   exact⟨(u,w),⟨by simp only;omega,by simp only;omega,q3,hhi⟩,by simp only;omega,qE (by simp),rfl,by simp,by simp⟩
  intro h33
  try simp at h33
  obtain rfl:u=v:=by omega
  have hol:=hol u q3 q4
  refine AW.exit ?_
  simp
  refine AW.seq (rgn [] [[],[0,10,13]] ?_)
  iterate 2 refine op3 ?_
  refine qA (AW.block ?_)
  refine AW.loop (α:=Nat) (fun t=>t<=u) (fun t=>⟨zA 220 [(0,.ms 890),(10,.p (.int .i64 ((X.length+1+u:Nat):Int))),(13,.p (.int .i64 ((X.length+t:Nat):Int)))],[890],[(890,.row 31 9 (zN (X++(B.take t++(x::(B.drop t++Y))))))],700⟩) (fun t=>u-t) (0) (Nat.zero_le _) ⟨qE (by simp),rfl,by simp,by simp⟩ ?_
  rintro t ht
  refine AW.seq (rgn [] [[],[],[],[0,10,13,58]] ?_)
  iterate 4 refine op3 ?_
  refine qA (cnd ?_ ?_)
  ·intro h58
   try simp at h58
   obtain⟨y,hy⟩:∃ y,B[t]?=some y:=⟨B[t]'(by omega),by simp[show t<B.length by omega]⟩
   have hd:B.drop t=y::B.drop (t+1):=by
    obtain⟨h1,h2⟩:=List.getElem?_eq_some_iff.1 hy
    rw[List.drop_eq_getElem_cons h1,h2]
   have htk:B.take (t+1)=B.take t++[y]:=by rw[List.take_add_one,hy];rfl
   have hlt:(B.take t).length=t:=by rw[List.length_take];omega
   have hl4:(B.drop (t+1)).length=B.length-(t+1):=List.length_drop
   rw[hd]
   have hfin:zN (X++(B.take (t+1)++(x::(B.drop (t+1)++Y))))=zN (X++(B.take t++(y::x::(B.drop (t+1)++Y)))):=by rw[htk];simp
   have b1:=yH (A:=X++B.take t) (B:=y::(B.drop (t+1)++Y)) (x:=x)
   have b2:=qGY (A:=X++B.take t) (B:=B.drop (t+1)++Y) (x:=x) (y:=y)
   have b3:=qAX (A:=X++B.take t) (B:=y::(B.drop (t+1)++Y)) (x:=x) (y:=y)
   have b4:=qGY (A:=X++B.take t) (B:=B.drop (t+1)++Y) (x:=y) (y:=y)
   have b5:=qLL (A:=X++B.take t) (B:=B.drop (t+1)++Y) (x:=y) (y:=y) (z:=x)
   have hnl:(X++B.take t).length=X.length+t:=by rw[List.length_append,hlt]
   have hrl2:(zN (X++(B.take t++(x::y::(B.drop (t+1)++Y))))).length=X.length+1+B.length+Y.length:=by rw[kZ];simp only[List.length_append,List.length_cons,hlt,hl4];omega
   simp only[hnl,List.append_assoc]at b1 b2 b3 b4 b5
   have hi0:((X.length:Int)+t).toNat=X.length+t:=by omega
   have hi1:((X.length:Int)+t+1).toNat=X.length+t+1:=by omega
   generalize hR:B.drop (t+1)=R at *
   generalize hP:B.take t=P at *
   simp only[Val.enc_def x,Val.enc_def y]at b1 b2 b3 b4 b5
   refine AW.skip (AW.seq (AW.block ?_))
   refine AW.drawR mixed 16 [[0],[13],[0],[13],[64],[0],[13],[67],[66,68],[69],[0],[13],[71,72],[73],[61,62],[75,70]] [y.enc,x.enc] (by kernel_rfl) ?_
   iterate 2 refine qS.o0 tok (hv:=by first|exact True.intro|(rw[hi0];exact b1)|(rw[hi1];exact b2)|(refine⟨by omega, ?_⟩;rw[hrl2];omega)|omega;done|omega|simp) (k := ?_)
   refine qS.q [890] (.ms 890) rfl (qDL tok (orc:=[]) (orc':=[]) (v:=True) (by conv=>lhs;simp) trivial) (by simp) (by kernel_rfl) (by conv=>lhs;simp) ?_
   iterate 6 refine qS.o0 tok (hv:=by first|exact True.intro|(rw[hi0];exact b1)|(rw[hi1];exact b2)|(refine⟨by omega, ?_⟩;rw[hrl2];omega)|omega;done|omega|simp) (k := ?_)
   refine qS.o1 tok (orc:=[y.enc]) (hv:=by first|exact True.intro|(rw[hi0];exact b1)|(rw[hi1];exact b2)|(refine⟨by omega, ?_⟩;rw[hrl2];omega)|omega;done|omega|simp) (k := ?_)
   iterate 3 refine qS.o0 tok (hv:=by first|exact True.intro|(rw[hi0];exact b1)|(rw[hi1];exact b2)|(refine⟨by omega, ?_⟩;rw[hrl2];omega)|omega;done|omega|simp) (k := ?_)
   refine qS.o1 tok (orc:=[x.enc]) (hv:=by first|exact True.intro|(rw[hi0];exact b1)|(rw[hi1];exact b2)|(refine⟨by omega, ?_⟩;rw[hrl2];omega)|omega;done|omega|simp) (k := ?_)
   refine qS.o0 tok (hv:=by first|exact True.intro|(rw[hi0];exact b1)|(rw[hi1];exact b2)|(refine⟨by omega, ?_⟩;rw[hrl2];omega)|omega;done|omega|simp) (k := ?_)
   refine qS.o1 tok (orc:=[x.enc,y.enc]) (hv:=by first|exact True.intro|(rw[hi0];exact b1)|(rw[hi1];exact b2)|(refine⟨by omega, ?_⟩;rw[hrl2];omega)|omega;done|omega|simp) (k := ?_)
   refine qS.nil (by kernel_rfl) ⟨by kernel_rfl, ?_⟩
   refine qB.run [[],[0,10,13]] ?_
   iterate 2 refine op3 ?_ (hv:=by first|exact True.intro|(rw[hi0,hi1,b3];exact b4)|(refine⟨by omega, ?_⟩;rw[List.length_set,hrl2];omega)|omega;done|omega|simp)
   refine qA (rgz [] [[],[],[0,10,13]] ?_)
   iterate 3 refine op3 ?_
   refine qA ?_
   exact⟨t+1,by omega,by omega,qE (by simp[hi0,hi1,show((X.length:Int)+((t:Int)+1)).toNat=X.length+t+1 from by omega,b3,b5,hR,hfin,show(X.length:Int)+t+1=X.length+(t+1) from by omega]),rfl,by simp[hi0,hi1,show((X.length:Int)+((t:Int)+1)).toNat=X.length+t+1 from by omega,b3,b5,hR,hfin,show(X.length:Int)+t+1=X.length+(t+1) from by omega],by simp[hi0,hi1,show((X.length:Int)+((t:Int)+1)).toNat=X.length+t+1 from by omega,b3,b5,hR,hfin,show(X.length:Int)+t+1=X.length+(t+1) from by omega]⟩
  intro h58
  try simp at h58
  obtain rfl:t=u:=by omega
  have e9:X++(B.take t++(x::(B.drop t++Y)))=X++(mrg leV [x] B++Y):=by rw[hol];simp
  rw[e9]
  refine AW.exit ?_
  simp
  exact AW.ret qZ
 intro h28
 try simp at h28
 refine AW.skip (AW.seq (rgn [] [[],[],[],[0,1,2,3,4,80]] ?_))
 iterate 4 refine op3 ?_
 refine qA (cnd ?_ ?_)
 ·intro h80
  try simp at h80
  obtain⟨y,rfl⟩:∃ y,B=[y]:=List.length_eq_one_iff.1 (by omega)
  have hym:=hmb y (by simp)
  have hol:=fun u h1 h2=>zKH (A:=A) (y:=y) (u:=u) hym hma h1 h2
  have g0:(zN (X++(A++(y::Y))))[X.length+A.length]?=some y.enc:=by
   have:=yH (A:=X++A) (B:=Y) (x:=y)
   rwa [List.length_append,List.append_assoc]at this
  have ht0:((X.length:Int)+A.length).toNat=X.length+A.length:=by omega
  have hrl:(zN (X++(A++(y::Y)))).length=X.length+A.length+1+Y.length:=by rw[kZ];simp;omega
  simp only[List.length_singleton]at hl
  refine rgn [] [[],[0,2,4,14]] ?_
  iterate 2 refine op3 ?_
  refine qA (rgn [] [[],[0,2,4,14,15]] ?_)
  iterate 2 refine op3 ?_
  refine qA (AW.seq (AW.block ?_))
  refine AW.loop (α:=Nat × Nat) (fun a=>a.1<=a.2/\a.2<=A.length/\(∀ k x,k<a.1->A[k]?=some x->¬ wT y x<0)/\(∀ k x,a.2<=k->A[k]?=some x->wT y x<0)) (fun a=>⟨zA 220 [(0,.ms 890),(2,.p (.int .i64 ((X.length+A.length:Nat):Int))),(4,.p (.fn 83)),(14,.p (.int .i64 ((X.length+a.1:Nat):Int))),(15,.p (.int .i64 ((X.length+a.2:Nat):Int)))],[890],[(890,.row 31 9 (zN (X++(A++(y::Y)))))],700⟩) (fun a=>a.2-a.1) ((0,A.length)) ⟨by simp,by simp,by simp,fun k y h1 h2=>by have:=(List.getElem?_eq_some_iff.1 h2).1;simp only at h1;omega⟩ ⟨qE (by simp),rfl,by simp,by simp⟩ ?_
  rintro⟨u,v⟩ ⟨q1,q2,q3,q4⟩
  simp only at q1 q2 q3 q4
  refine AW.seq (rgn [] [[],[],[0,2,4,14,15,85]] ?_)
  iterate 3 refine op3 ?_
  refine qA (cnd ?_ ?_)
  ·intro h85
   try simp at h85
   obtain⟨w,hw⟩:∃ w,(u+v) / 2=w:=⟨_,rfl⟩
   have hmid:(((X.length:Int)+u+(X.length+v))) / 2=X.length+w:=by omega
   obtain⟨x,hx⟩:∃ y,A[w]?=some y:=⟨A[w]'(by omega),by simp[show w<A.length by omega]⟩
   have hxm:=hma x (List.mem_of_getElem? hx)
   have hc:=hcm y x hym hxm
   have g1:(zN (X++(A++(y::Y))))[X.length+w]?=some x.enc:=by
    unfold zN
    rw[List.getElem?_map,List.getElem?_append_right (by omega),show X.length+w-X.length=w by omega,List.getElem?_append_left (by omega),hx];rfl
   have htw:((X.length:Int)+w).toNat=X.length+w:=by omega
   simp only[Val.enc_def x,Val.enc_def y]at g0 g1 hc
   have hwr:=qJY (s:=(X.length:Int)+u+(X.length+v)) (by omega) (by omega)
   rw[hmid]at hwr
   refine AW.skip (AW.block (rgn [] [[],[],[],[],[0,2,4,14,15,90],[],[0,2,4,14,15,16]] ?_))
   iterate 7 refine op3 ?_ (hv:=by first|exact True.intro|(omega;done)|omega|simp)
   refine qA ?_
   rw[hwr]
   refine AW.seqDrawS tok mixed 12 [[4],[0],[2],[93,94],[95],[0],[16],[97,98],[99],[92,96,100],[101],[102]] [y.enc,x.enc,.nilp,.int .i64 (wT y x)] [] (by kernel_rfl) ?_
   iterate 12 refine d1 ?_ (hv:=by first|exact True.intro|(rw[htw];exact g1)|(rw[ht0];exact g0)|exact g0|exact hc|(rw[hrl];omega)|(refine⟨by omega, ?_⟩;rw[hrl];omega)|omega;done|omega|simp)
   refine DGo.nil (by kernel_rfl) ⟨by kernel_rfl, ?_⟩
   refine qB.nil ?_
   refine cnd ?_ ?_
   ·intro h103
    try simp at h103
    have hlow:∀ k z,k<w+1->A[k]?=some z->¬ wT y z<0:=fun k z hk hz hlt=>by
     by_cases e:k=w
     ·subst e;rw[hx]at hz;cases hz;omega
     have:=yS.lt_le hym (hma z (List.mem_of_getElem? hz)) hxm hlt (qVZ hsa (by omega) hz hx)
     omega
    refine rgz [] [[],[],[0,2,4,14,15]] ?_
    iterate 3 refine op3 ?_
    refine qA ?_
    exact⟨(w+1,v),⟨by simp only;omega,q2,hlow,q4⟩,by simp only;omega,qE (by simp[show(X.length:Int)+w+1=X.length+(w+1) from by omega]),rfl,by simp[show(X.length:Int)+w+1=X.length+(w+1) from by omega],by simp[show(X.length:Int)+w+1=X.length+(w+1) from by omega]⟩
   intro h103
   try simp at h103
   have hhi:∀ k z,w<=k->A[k]?=some z->wT y z<0:=fun k z hk hz=>by
    by_cases e:k=w
    ·subst e;rw[hx]at hz;cases hz;omega
    exact yS.lt_le hym hxm (hma z (List.mem_of_getElem? hz)) (by omega) (qVZ hsa (by omega) hx hz)
   refine rgz [] [[],[0,2,4,14,15]] ?_
   iterate 2 refine op3 ?_
   refine qA ?_
   exact⟨(u,w),⟨by simp only;omega,by simp only;omega,q3,hhi⟩,by simp only;omega,qE (by simp),rfl,by simp,by simp⟩
  intro h85
  try simp at h85
  obtain rfl:u=v:=by omega
  have hol:=hol u q3 q4
  refine AW.exit ?_
  simp
  refine AW.seq (rgn [] [[],[0,14,17]] ?_)
  iterate 2 refine op3 ?_
  refine qA (AW.block ?_)
  refine AW.loop (α:=Nat) (fun t=>u<=t/\t<=A.length) (fun t=>⟨zA 220 [(0,.ms 890),(14,.p (.int .i64 ((X.length+u:Nat):Int))),(17,.p (.int .i64 ((X.length+t:Nat):Int)))],[890],[(890,.row 31 9 (zN (X++(A.take t++(y::(A.drop t++Y))))))],700⟩) (fun t=>t) (A.length) ⟨q2,Nat.le_refl _⟩ ⟨qE (by simp),rfl,by simp,by simp⟩ ?_
  rintro t ⟨ht1,ht2⟩
  refine AW.seq (rgn [] [[],[],[0,14,17,110]] ?_)
  iterate 3 refine op3 ?_
  refine qA (cnd ?_ ?_)
  ·intro h110
   try simp at h110
   obtain⟨t,rfl⟩:∃ s,t=s+1:=⟨t-1,by omega⟩
   obtain⟨z,hz⟩:∃ y,A[t]?=some y:=⟨A[t]'(by omega),by simp[show t<A.length by omega]⟩
   have hd:A.drop t=z::A.drop (t+1):=by
    obtain⟨h1,h2⟩:=List.getElem?_eq_some_iff.1 hz
    rw[List.drop_eq_getElem_cons h1,h2]
   have htk:A.take (t+1)=A.take t++[z]:=by rw[List.take_add_one,hz];rfl
   have hlt:(A.take t).length=t:=by rw[List.length_take];omega
   have hl4:(A.drop (t+1)).length=A.length-(t+1):=List.length_drop
   have e0:X++(A.take (t+1)++(y::(A.drop (t+1)++Y)))=X++(A.take t++(z::y::(A.drop (t+1)++Y))):=by rw[htk];simp
   rw[e0]
   have hfin:zN (X++(A.take t++(y::(A.drop t++Y))))=zN (X++(A.take t++(y::z::(A.drop (t+1)++Y)))):=by rw[hd];simp
   have b1:=yH (A:=X++A.take t) (B:=y::(A.drop (t+1)++Y)) (x:=z)
   have b2:=qGY (A:=X++A.take t) (B:=A.drop (t+1)++Y) (x:=z) (y:=y)
   have b3:=qLL (A:=X++A.take t) (B:=A.drop (t+1)++Y) (x:=z) (y:=y) (z:=z)
   have b4:=yH (A:=X++A.take t) (B:=z::(A.drop (t+1)++Y)) (x:=z)
   have b5:=qAX (A:=X++A.take t) (B:=z::(A.drop (t+1)++Y)) (x:=z) (y:=y)
   have hnl:(X++A.take t).length=X.length+t:=by rw[List.length_append,hlt]
   have hrl2:(zN (X++(A.take t++(z::y::(A.drop (t+1)++Y))))).length=X.length+1+A.length+Y.length:=by rw[kZ];simp only[List.length_append,List.length_cons,hlt,hl4];omega
   simp only[hnl,List.append_assoc]at b1 b2 b3 b4 b5
   have hi1:((X.length:Int)+((t:Int)+1)).toNat=X.length+t+1:=by omega
   generalize hR:A.drop (t+1)=R at *
   generalize hP:A.take t=P at *
   simp only[Val.enc_def z,Val.enc_def y]at b1 b2 b3 b4 b5
   refine AW.skip (AW.seq (AW.block ?_))
   refine AW.drawR mixed 16 [[0],[17],[0],[17],[116],[0],[17],[119],[118,120],[121],[0],[17],[123,124],[125],[113,114],[127,122]] [z.enc,y.enc] (by kernel_rfl) ?_
   iterate 2 refine qS.o0 tok (hv:=by first|exact True.intro|(rw[hi1];exact b2)|(rw[hi1,Nat.add_sub_cancel];exact b1)|(refine⟨by omega, ?_⟩;rw[hrl2];omega)|omega;done|omega|simp) (k := ?_)
   refine qS.q [890] (.ms 890) rfl (qDL tok (orc:=[]) (orc':=[]) (v:=True) (by conv=>lhs;simp) trivial) (by simp) (by kernel_rfl) (by conv=>lhs;simp) ?_
   iterate 6 refine qS.o0 tok (hv:=by first|exact True.intro|(rw[hi1];exact b2)|(rw[hi1,Nat.add_sub_cancel];exact b1)|(refine⟨by omega, ?_⟩;rw[hrl2];omega)|omega;done|omega|simp) (k := ?_)
   refine qS.o1 tok (orc:=[z.enc]) (hv:=by first|exact True.intro|(rw[hi1];exact b2)|(rw[hi1,Nat.add_sub_cancel];exact b1)|(refine⟨by omega, ?_⟩;rw[hrl2];omega)|omega;done|omega|simp) (k := ?_)
   iterate 3 refine qS.o0 tok (hv:=by first|exact True.intro|(rw[hi1];exact b2)|(rw[hi1,Nat.add_sub_cancel];exact b1)|(refine⟨by omega, ?_⟩;rw[hrl2];omega)|omega;done|omega|simp) (k := ?_)
   refine qS.o1 tok (orc:=[y.enc]) (hv:=by first|exact True.intro|(rw[hi1];exact b2)|(rw[hi1,Nat.add_sub_cancel];exact b1)|(refine⟨by omega, ?_⟩;rw[hrl2];omega)|omega;done|omega|simp) (k := ?_)
   refine qS.o0 tok (hv:=by first|exact True.intro|(rw[hi1];exact b2)|(rw[hi1,Nat.add_sub_cancel];exact b1)|(refine⟨by omega, ?_⟩;rw[hrl2];omega)|omega;done|omega|simp) (k := ?_)
   refine qS.o1 tok (orc:=[y.enc,z.enc]) (hv:=by first|exact True.intro|(rw[hi1];exact b2)|(rw[hi1,Nat.add_sub_cancel];exact b1)|(refine⟨by omega, ?_⟩;rw[hrl2];omega)|omega;done|omega|simp) (k := ?_)
   refine qS.nil (by kernel_rfl) ⟨by kernel_rfl, ?_⟩
   refine qB.run [[],[0,14,17]] ?_
   iterate 2 refine op3 ?_ (hv:=by first|exact True.intro|(rw[hi1,Nat.add_sub_cancel,b3];exact b4)|(refine⟨by omega, ?_⟩;rw[List.length_set,hrl2];omega)|omega;done|omega|simp)
   refine qA (rgz [] [[],[],[0,14,17]] ?_)
   iterate 3 refine op3 ?_
   refine qA ?_
   exact⟨t,⟨by omega,by omega⟩,by omega,qE (by simp[hi1,b3,b5,hP,hfin,show(X.length:Int)+((t:Int)+1)-1=X.length+t from by omega]),rfl,by simp[hi1,b3,b5,hP,hfin,show(X.length:Int)+((t:Int)+1)-1=X.length+t from by omega],by simp[hi1,b3,b5,hP,hfin,show(X.length:Int)+((t:Int)+1)-1=X.length+t from by omega]⟩
  intro h110
  try simp at h110
  obtain rfl:t=u:=by omega
  have e9:X++(A.take t++(y::(A.drop t++Y)))=X++(mrg leV A [y]++Y):=by rw[hol];simp
  rw[e9]
  refine AW.exit ?_
  simp
  exact AW.ret qZ
 intro h80
 try simp at h80
 have hA2:2<=A.length:=by omega
 have hB2:2<=B.length:=by omega
 obtain⟨μ,hμ⟩:∃ w,(A.length+B.length) / 2=w:=⟨_,rfl⟩
 have hmid:(((X.length:Int)+(X.length+A.length+B.length))) / 2=X.length+μ:=by omega
 have hwr:=qJY (s:=(X.length:Int)+(X.length+A.length+B.length)) (by omega) (by omega)
 rw[hmid]at hwr
 have hrl:(zN (X++(A++(B++Y)))).length=X.length+A.length+B.length+Y.length:=by rw[kZ];simp;omega
 refine AW.skip (rgn [] [[],[],[],[],[0,1,2,3,4,133],[],[0,1,2,3,4,18]] ?_)
 iterate 7 refine op3 ?_ (hv:=by first|exact True.intro|(omega;done)|omega|simp)
 refine qA ?_
 rw[hwr]
 refine rgn [] [[],[],[],[0,1,2,3,4,18,19]] ?_
 iterate 4 refine op3 ?_ (hv:=by first|exact True.intro|(omega;done)|omega|simp)
 refine qA (rgn [] [[],[0,1,2,3,4,18,19]] ?_)
 iterate 2 refine op3 ?_
 refine qA ?_
 refine AW.join (α:=Nat × Nat) (fun a=>a.1<=a.2/\a.2<=A.length/\a.2<=μ/\μ<=a.1+B.length/\(a.1=0\/a.1+B.length=μ)/\(a.2=A.length\/a.2=μ)) (fun a=>⟨zA 220 [(0,.ms 890),(1,.p (.int .i64 X.length)),(2,.p (.int .i64 ((X.length+A.length:Nat):Int))),(3,.p (.int .i64 ((X.length+A.length+B.length:Nat):Int))),(4,.p (.fn 83)),(18,.p (.int .i64 ((X.length+μ:Nat):Int))),(19,.p (.int .i64 ((X.length+μ+(X.length+A.length):Nat):Int))),(20,.p (.int .i64 ((X.length+a.1:Nat):Int))),(21,.p (.int .i64 ((X.length+a.2:Nat):Int)))],[890],[(890,.row 31 9 (zN (X++(A++(B++Y)))))],700⟩) ?_ ?_
 ·
  refine rgn [] [[],[],[0,1,2,3,4,18,19,140]] ?_
  iterate 3 refine op3 ?_
  refine qA (cnd ?_ ?_)
  ·intro h140
   try simp at h140
   have hAm:μ<A.length:=by omega
   refine rgn [] [[],[],[],[0,1,2,3,4,18,19,20]] ?_
   iterate 4 refine op3 ?_
   refine qA (rgz [] [[],[0,1,2,3,4,18,19,20,21]] ?_)
   iterate 2 refine op3 ?_
   refine qA ?_
   exact⟨(μ-B.length,μ),⟨by simp only;omega,by simp only;omega,Nat.le_refl _,by simp only;omega,.inr (by simp only;omega),.inr rfl⟩,qE (by simp[show(X.length:Int)+μ+(X.length+A.length)-(X.length+A.length+B.length)=X.length+((μ-B.length:Nat):Int) from by omega]),rfl,by simp[show(X.length:Int)+μ+(X.length+A.length)-(X.length+A.length+B.length)=X.length+((μ-B.length:Nat):Int) from by omega],by simp[show(X.length:Int)+μ+(X.length+A.length)-(X.length+A.length+B.length)=X.length+((μ-B.length:Nat):Int) from by omega]⟩
  intro h140
  try simp at h140
  have hAm:¬ μ<A.length:=by omega
  refine rgn [] [[],[0,1,2,3,4,18,19,20]] ?_
  iterate 2 refine op3 ?_
  refine qA (rgz [] [[],[0,1,2,3,4,18,19,20,21]] ?_)
  iterate 2 refine op3 ?_
  refine qA ?_
  exact⟨(0,A.length),⟨Nat.zero_le _,Nat.le_refl _,by simp only;omega,by simp only;omega,.inl rfl,.inl rfl⟩,qE (by simp),rfl,by simp,by simp⟩
 ·
  rintro⟨lo,hi⟩ ⟨p1,p2,p3,p4,p5,p6⟩
  simp only at p1 p2 p3 p4 p5 p6
  refine rgn [] [[],[],[0,1,2,3,4,18,19,20,21,22]] ?_
  iterate 3 refine op3 ?_
  refine qA (AW.seq (AW.block ?_))
  refine AW.loop (α:=Nat × Nat) (fun a=>lo<=a.1/\a.1<=a.2/\a.2<=hi/\(a.1=lo\/∃ x y,A[a.1-1]?=some x/\B[μ-a.1]?=some y/\¬ wT y x<0)/\(a.2=hi\/∃ x y,A[a.2]?=some x/\B[μ-1-a.2]?=some y/\wT y x<0)) (fun a=>⟨zA 220 [(0,.ms 890),(1,.p (.int .i64 X.length)),(2,.p (.int .i64 ((X.length+A.length:Nat):Int))),(3,.p (.int .i64 ((X.length+A.length+B.length:Nat):Int))),(4,.p (.fn 83)),(18,.p (.int .i64 ((X.length+μ:Nat):Int))),(19,.p (.int .i64 ((X.length+μ+(X.length+A.length):Nat):Int))),(20,.p (.int .i64 ((X.length+a.1:Nat):Int))),(21,.p (.int .i64 ((X.length+a.2:Nat):Int))),(22,.p (.int .i64 (((X.length+μ+(X.length+A.length):Nat):Int)-1)))],[890],[(890,.row 31 9 (zN (X++(A++(B++Y)))))],700⟩) (fun a=>a.2-a.1) ((lo,hi)) ⟨Nat.le_refl _,p1,Nat.le_refl _,.inl rfl,.inl rfl⟩ ⟨qE (by simp),rfl,by simp,by simp⟩ ?_
  rintro⟨u,v⟩ ⟨q1,q2,q3,q4,q5⟩
  simp only at q1 q2 q3 q4 q5
  refine AW.seq (rgn [] [[],[],[0,1,2,3,4,18,19,20,21,22,151]] ?_)
  iterate 3 refine op3 ?_
  refine qA (cnd ?_ ?_)
  ·intro h151
   try simp at h151
   obtain⟨w,hw⟩:∃ w,(u+v) / 2=w:=⟨_,rfl⟩
   have hmid2:(((X.length:Int)+u+(X.length+v))) / 2=X.length+w:=by omega
   have hwr2:=qJY (s:=(X.length:Int)+u+(X.length+v)) (by omega) (by omega)
   rw[hmid2]at hwr2
   obtain⟨x,hx⟩:∃ y,A[w]?=some y:=⟨A[w]'(by omega),by simp[show w<A.length by omega]⟩
   obtain⟨y,hy⟩:∃ y,B[μ-1-w]?=some y:=⟨B[μ-1-w]'(by omega),by simp[show μ-1-w<B.length by omega]⟩
   have hxm:=hma x (List.mem_of_getElem? hx)
   have hym:=hmb y (List.mem_of_getElem? hy)
   have hc:=hcm y x hym hxm
   have g1:(zN (X++(A++(B++Y))))[X.length+w]?=some x.enc:=by
    unfold zN
    rw[List.getElem?_map,List.getElem?_append_right (by omega),show X.length+w-X.length=w by omega,List.getElem?_append_left (by omega),hx];rfl
   have g2:(zN (X++(A++(B++Y))))[X.length+A.length+(μ-1-w)]?=some y.enc:=by
    unfold zN
    rw[List.getElem?_map,List.getElem?_append_right (by omega),List.getElem?_append_right (by omega),show X.length+A.length+(μ-1-w)-X.length-A.length=μ-1-w by omega,List.getElem?_append_left (by omega),hy];rfl
   have htw:((X.length:Int)+w).toNat=X.length+w:=by omega
   have htp:((X.length:Int)+μ+(X.length+A.length)-1-(X.length+w)).toNat=X.length+A.length+(μ-1-w):=by omega
   simp only[Val.enc_def x,Val.enc_def y]at g1 g2 hc
   refine AW.skip (AW.block (rgn [] [[],[],[],[],[0,1,2,3,4,18,19,20,21,22,156],[],[0,1,2,3,4,18,19,20,21,22,23]] ?_))
   iterate 7 refine op3 ?_ (hv:=by first|exact True.intro|(omega;done)|omega|simp)
   refine qA ?_
   rw[hwr2]
   refine AW.seqDrawS tok mixed 14 [[4],[0],[22],[23],[160,161],[159,162],[163],[0],[23],[165,166],[167],[158,164,168],[169],[170]] [y.enc,x.enc,.nilp,.int .i64 (wT y x)] [] (by kernel_rfl) ?_
   iterate 14 refine d1 ?_ (hv:=by first|exact True.intro|(rw[htw];exact g1)|(rw[htp];exact g2)|exact hc|(rw[hrl];omega)|(refine⟨by omega, ?_⟩;rw[hrl];omega)|omega;done|omega|simp)
   refine DGo.nil (by kernel_rfl) ⟨by kernel_rfl, ?_⟩
   refine qB.nil ?_
   refine cnd ?_ ?_
   ·intro h171
    try simp at h171
    have hge:¬ wT y x<0:=by omega
    refine rgz [] [[],[],[0,1,2,3,4,18,19,20,21,22]] ?_
    iterate 3 refine op3 ?_
    refine qA ?_
    exact⟨(w+1,v),⟨by simp only;omega,by simp only;omega,q3,.inr ⟨x,y,by simpa using hx,by rw[<-hy];simp only;congr 1;omega,hge⟩,q5⟩,by simp only;omega,qE (by simp[show(X.length:Int)+w+1=X.length+(w+1) from by omega]),rfl,by simp[show(X.length:Int)+w+1=X.length+(w+1) from by omega],by simp[show(X.length:Int)+w+1=X.length+(w+1) from by omega]⟩
   intro h171
   try simp at h171
   have hlt:wT y x<0:=by omega
   refine rgz [] [[],[0,1,2,3,4,18,19,20,21,22]] ?_
   iterate 2 refine op3 ?_
   refine qA ?_
   exact⟨(u,w),⟨q1,by simp only;omega,by simp only;omega,q4,.inr ⟨x,y,hx,hy,hlt⟩⟩,by simp only;omega,qE (by simp),rfl,by simp,by simp⟩
  intro h151
  try simp at h151
  obtain rfl:u=v:=by omega
  obtain⟨e,he⟩:∃ e,e+u=μ:=⟨μ-u,by omega⟩
  obtain⟨A1,hA1⟩:∃ l,A.take u=l:=⟨_,rfl⟩
  obtain⟨A2,hA2e⟩:∃ l,A.drop u=l:=⟨_,rfl⟩
  obtain⟨B1,hB1⟩:∃ l,B.take e=l:=⟨_,rfl⟩
  obtain⟨B2,hB2e⟩:∃ l,B.drop e=l:=⟨_,rfl⟩
  have hAA:A=A1++A2:=by rw[<-hA1,<-hA2e,List.take_append_drop]
  have hBB:B=B1++B2:=by rw[<-hB1,<-hB2e,List.take_append_drop]
  have lA1:A1.length=u:=by rw[<-hA1,List.length_take];omega
  have lA2:A2.length=A.length-u:=by rw[<-hA2e,List.length_drop]
  have lB1:B1.length=e:=by rw[<-hB1,List.length_take];omega
  have lB2:B2.length=B.length-e:=by rw[<-hB2e,List.length_drop]
  have htwo:=zJC (A1:=A1) (A2:=A2) (B1:=B1) (B2:=B2) (hAA ▸ hma) (hBB ▸ hmb) (hAA ▸ hsa) (hBB ▸ hsb) (fun a b h1 h2=>by
   rcases q4 with q4|⟨x,y,hx,hy,hlt⟩
   ·rcases p5 with p5|p5
    ·have:A1=[]:=List.eq_nil_of_length_eq_zero (by omega)
     rw[this]at h1;cases h1
    have:B2=[]:=List.eq_nil_of_length_eq_zero (by omega)
    rw[this]at h2;cases h2
   ·have hu:0<u:=by
     apply Nat.pos_of_ne_zero
     intro h0
     have:A1=[]:=List.eq_nil_of_length_eq_zero (by omega)
     rw[this]at h1;cases h1
    rw[<-hA1,List.getLast?_take,if_neg (by omega),hx]at h1
    rw[<-hB2e,List.head?_drop,show e=μ-u by omega,hy]at h2
    cases h1;cases h2;exact hlt) (fun a b h1 h2=>by
   rcases q5 with q5|⟨x,y,hx,hy,hlt⟩
   ·rcases p6 with p6|p6
    ·have:A2=[]:=List.eq_nil_of_length_eq_zero (by omega)
     rw[this]at h1;cases h1
    have:B1=[]:=List.eq_nil_of_length_eq_zero (by omega)
    rw[this]at h2;cases h2
   have hu:0<e:=by
    apply Nat.pos_of_ne_zero
    intro h0
    have:B1=[]:=List.eq_nil_of_length_eq_zero (by omega)
    rw[this]at h2;cases h2
   rw[<-hA2e,List.head?_drop,hx]at h1
   rw[<-hB1,List.getLast?_take,if_neg (by omega),show e-1=μ-1-u by omega,hy]at h2
   cases h1;cases h2;exact hlt)
  have mA1:qAH A1:=fun v hv=>hma v (by rw[hAA];exact List.mem_append_left _ hv)
  have mA2:qAH A2:=fun v hv=>hma v (by rw[hAA];exact List.mem_append_right _ hv)
  have mB1:qAH B1:=fun v hv=>hmb v (by rw[hBB];exact List.mem_append_left _ hv)
  have mB2:qAH B2:=fun v hv=>hmb v (by rw[hBB];exact List.mem_append_right _ hv)
  obtain⟨sA1,sA2,_⟩:=List.pairwise_append.1 (hAA ▸ hsa)
  obtain⟨sB1,sB2,_⟩:=List.pairwise_append.1 (hBB ▸ hsb)
  have hlm:(mrg leV A1 B1).length=u+e:=by rw[zTK,lA1,lB1]
  have eRow:X++(A++(B++Y))=(X++A1)++(A2++(B1++(B2++Y))):=by rw[hAA,hBB];simp
  have eRes:X++(mrg leV A B++Y)=(X++mrg leV A1 B1)++(mrg leV A2 B2++Y):=by
   have:mrg leV A B=mrg leV A1 B1++mrg leV A2 B2:=by rw[<-htwo,<-hAA,<-hBB]
   rw[this];simp
  have hend:(X.length:Int)+μ+(X.length+A.length)-(X.length+u)=X.length+A.length+e:=by omega
  rw[eRow,eRes]
  refine AW.exit ?_
  simp
  refine rgn [] [[],[],[],[0,1,2,3,4,18,20,24]] ?_
  iterate 4 refine op3 ?_
  refine qA ?_
  refine AW.join (α:=Unit) (fun _=>True) (fun a=>⟨zA 220 [(0,.ms 890),(1,.p (.int .i64 X.length)),(3,.p (.int .i64 ((X.length+A.length+B.length:Nat):Int))),(4,.p (.fn 83)),(18,.p (.int .i64 ((X.length+μ:Nat):Int))),(20,.p (.int .i64 ((X.length+u:Nat):Int))),(24,.p (.int .i64 ((X.length+A.length+e:Nat):Int)))],[890],[(890,.row 31 9 (zN ((X++A1)++(B1++(A2++(B2++Y))))))],700⟩) ?_ ?_
  ·
   rw[hend]
   refine rgn [] [[],[],[],[],[],[],[0,1,2,3,4,18,20,24,181,184],[0,1,2,3,4,18,20,24,185]] ?_
   iterate 4 refine op3 ?_
   iterate 3 refine op4 ?_
   refine op3 ?_
   refine qA (cnd ?_ ?_)
   ·intro h185
    try simp at h185
    have hrot:=zTB (G:=G) (X++A1) A2 B1 (B2++Y) (by simp;omega) (by omega) (by omega)
    rw[show(X++A1).length=X.length+u by simp[lA1],show X.length+u+A2.length=X.length+A.length by omega,show X.length+A.length+B1.length=X.length+A.length+e by omega]at hrot
    refine rgz [] [[],[],[],[],[]] ?_
    iterate 5 refine op3 ?_
    refine qJ ?_
    refine qB.stepK [0,1,3,4,18,20,24] (zF rfl hrot (by simp)) (by conv=>lhs;simp) rfl ?_
    refine qB.nil ?_
    exact⟨(),trivial,qE (by simp),rfl,by simp,by simp⟩
   intro h185
   try simp at h185
   have e7:A2++(B1++(B2++Y))=B1++(A2++(B2++Y)):=by
    by_cases h:A2.length=0
    ·rw[List.eq_nil_of_length_eq_zero h];rfl
    rw[List.eq_nil_of_length_eq_zero (show B1.length=0 by omega)];rfl
   rw[e7]
   refine AW.skip ?_
   exact⟨(),trivial,qE (by simp),rfl,by simp,by simp⟩
  ·
   rintro a hI
   refine AW.join (α:=Unit) (fun _=>True) (fun a=>⟨zA 220 [(0,.ms 890),(3,.p (.int .i64 ((X.length+A.length+B.length:Nat):Int))),(4,.p (.fn 83)),(18,.p (.int .i64 ((X.length+μ:Nat):Int))),(24,.p (.int .i64 ((X.length+A.length+e:Nat):Int)))],[890],[(890,.row 31 9 (zN (X++(mrg leV A1 B1++(A2++(B2++Y))))))],700⟩) ?_ ?_
   ·
    refine rgn [] [[],[],[],[],[],[],[0,1,3,4,18,20,24,195,198],[0,1,3,4,18,20,24,199]] ?_
    iterate 4 refine op3 ?_
    iterate 3 refine op4 ?_
    refine op3 ?_
    refine qA (cnd ?_ ?_)
    ·intro h199
     try simp at h199
     have h1:=ih X A1 B1 (A2++(B2++Y)) (by omega) ⟨by simp;omega,by omega,by omega,mA1,mB1,sA1,sB1⟩
     unfold qRT at h1
     rw[show X.length+A1.length=X.length+u by omega,show X.length+u+B1.length=X.length+μ by omega,show X++(A1++(B1++(A2++(B2++Y))))=(X++A1)++(B1++(A2++(B2++Y))) by simp]at h1
     refine rgz [] [[],[],[],[],[]] ?_
     iterate 5 refine op3 ?_
     refine qJ ?_
     refine qB.stepK [0,3,4,18,24] (zF rfl h1 (by simp)) (by conv=>lhs;simp) rfl ?_
     refine qB.nil ?_
     exact⟨(),trivial,qE (by simp),rfl,by simp,by simp⟩
    intro h199
    try simp at h199
    have e8:X++(A1++(B1++(A2++(B2++Y))))=X++(mrg leV A1 B1++(A2++(B2++Y))):=by
     by_cases h:A1.length=0
     ·rw[List.eq_nil_of_length_eq_zero h,jI];simp
     rw[List.eq_nil_of_length_eq_zero (show B1.length=0 by omega),yK];simp
    rw[e8]
    refine AW.skip ?_
    exact⟨(),trivial,qE (by simp),rfl,by simp,by simp⟩
   ·
    rintro a hI
    refine rgn [] [[],[],[],[],[],[],[0,3,4,18,24,209,212],[0,3,4,18,24,213]] ?_
    iterate 4 refine op3 ?_
    iterate 3 refine op4 ?_
    refine op3 ?_
    refine qA (cnd ?_ ?_)
    ·intro h213
     try simp at h213
     have h2:=ih (X++mrg leV A1 B1) A2 B2 Y (by omega) ⟨by simp[hlm];omega,by omega,by omega,mA2,mB2,sA2,sB2⟩
     unfold qRT at h2
     rw[show(X++mrg leV A1 B1).length=X.length+μ by simp[hlm];omega,show X.length+μ+A2.length=X.length+A.length+e by omega,show X.length+A.length+e+B2.length=X.length+A.length+B.length by omega]at h2
     refine rgz [] [[],[],[],[4,214,215,216,217],[]] ?_
     iterate 5 refine op3 ?_
     refine qJ ?_
     refine qB.stepK [] (zF rfl h2 (by simp)) (by conv=>lhs;simp) rfl ?_
     refine qB.nil ?_
     exact qBY
    intro h213
    try simp at h213
    have e9:X++(mrg leV A1 B1++(A2++(B2++Y)))=(X++mrg leV A1 B1)++(mrg leV A2 B2++Y):=by
     by_cases h:A2.length=0
     ·rw[List.eq_nil_of_length_eq_zero h,jI];simp
     rw[List.eq_nil_of_length_eq_zero (show B2.length=0 by omega),yK];simp
    rw[e9]
    refine AW.skip ?_
    exact qBY
theorem zNC (X A B Y:List Val) (h:SymIn X A B Y):qRT G X A B Y:=by
 have key:∀ (n:Nat) (X A B Y:List Val),A.length+B.length<=n->SymIn X A B Y->qRT G X A B Y:=by
  intro n
  induction n with
  | zero=>intro X A B Y hn h;have:=h.a;omega
  | succ n ih=>intro X A B Y hn h;exact zNB (n+1) X A B Y hn h (fun X A B Y hlt h=>ih X A B Y (by omega) h)
 exact key _ X A B Y (Nat.le_refl _) h
def xK (s:Nat):Nat->List Val->List Val
 | 0,_=>[]
 | k+1,l=>xK s k l++srt leV ((l.drop (s * k)).take s)
def zCK (s:Nat):Nat->List Val->List Val
 | 0,l=>srt leV l
 | f+1,l=>if l.length<=s then srt leV l else srt leV (l.take s)++zCK s f (l.drop s)
theorem qPZ {s:Nat}:∀ (k:Nat) (l:List Val),s * k<=l.length->(xK s k l).length=s * k
 | 0,_,_=>by simp[xK]
 | k+1,l,h=>by
  rw[Nat.mul_succ]at h ⊢
  simp only[xK,List.length_append,vC,List.length_take,List.length_drop]
  rw[qPZ k l (by omega)];omega
theorem qBL {s:Nat} {l:List Val} (h:l.length<=s):∀ f,zCK s f l=srt leV l
 | 0=>rfl
 | f+1=>by unfold zCK;rw[if_pos h]
theorem qVH {s:Nat} (hs:0<s):∀ (f g:Nat) (l:List Val),l.length<=f->l.length<=g->zCK s f l=zCK s g l
 | 0,g,l,h,_=>by rw[qBL (by omega),qBL (by omega)]
 | f+1,0,l,_,h=>by rw[qBL (by omega),qBL (by omega)]
 | f+1,g+1,l,h1,h2=>by
  unfold zCK
  by_cases h:l.length<=s
  ·rw[if_pos h,if_pos h]
  rw[if_neg h,if_neg h,qVH hs f g (l.drop s) (by rw[List.length_drop];omega) (by rw[List.length_drop];omega)]
def qFC (s:Nat) (l:List Val):List Val:=zCK s l.length l
theorem kX {s:Nat} {l:List Val} (h:l.length<=s):qFC s l=srt leV l:=qBL h _
theorem qGL {s:Nat} {l:List Val} (hs:0<s) (h:s<l.length):qFC s l=srt leV (l.take s)++qFC s (l.drop s):=by
 unfold qFC
 obtain⟨f,hf⟩:∃ f,l.length=f+1:=⟨l.length-1,by omega⟩
 rw[hf]
 conv=>lhs;unfold zCK
 rw[if_neg (by omega),qVH hs f (l.drop s).length (l.drop s) (by rw[List.length_drop];omega) (Nat.le_refl _)]
theorem zQN {s:Nat} (hs:0<s) (l:List Val):(qFC s l).length=l.length:=by
 generalize hn:l.length=n
 induction n using Nat.strongRecOn generalizing l with
 | _ n ih =>
  by_cases h:l.length<=s
  ·rw[kX h,vC,hn]
  rw[qGL hs (by omega),List.length_append,vC,ih (l.drop s).length (by rw[List.length_drop];omega) _ rfl,List.length_take,List.length_drop];omega
theorem zUQ {s:Nat} {l:List Val} (hs:0<s) (hm:qAH l) (h:2 * s<=l.length):qFC s l=srt leV (l.take s)++(srt leV ((l.drop s).take s)++(if 2 * s<l.length then qFC s (l.drop (2 * s)) else[]))/\mrg leV (srt leV (l.take s)) (srt leV ((l.drop s).take s))=srt leV (l.take (2 * s)):=by
 refine⟨?_, ?_⟩
 ·rw[qGL hs (by omega)]
  congr 1
  by_cases h2:2 * s<l.length
  ·rw[if_pos h2,qGL hs (by rw[List.length_drop];omega),List.drop_drop,show s+s=2 * s by omega]
  rw[if_neg h2,List.append_nil,kX (by rw[List.length_drop];omega),List.take_of_length_le (by rw[List.length_drop];omega)]
 have e:l.take (2 * s)=l.take s++(l.drop s).take s:=by
  rw[show 2 * s=s+s by omega,List.take_add]
 rw[e,qOD qBD _ _ (fun v hv=>hm v (List.mem_of_mem_take hv)) (fun v hv=>hm v (List.mem_of_mem_drop (List.mem_of_mem_take hv)))]
theorem zQM {s:Nat} {l:List Val} (hs:0<s) (hm:qAH l) (h1:s<l.length) (h2:l.length<=2 * s):qFC s l=srt leV (l.take s)++srt leV (l.drop s)/\mrg leV (srt leV (l.take s)) (srt leV (l.drop s))=srt leV l:=by
 refine⟨?_, ?_⟩
 ·rw[qGL hs h1,kX (by rw[List.length_drop];omega)]
 have:=qOD qBD (l.take s) (l.drop s) (fun v hv=>hm v (List.mem_of_mem_take hv)) (fun v hv=>hm v (List.mem_of_mem_drop hv))
 rw[List.take_append_drop]at this
 exact this.symm
theorem qWJ {s:Nat} (hs:0<s):∀ (k:Nat) (l:List Val),s * k<=l.length->qFC s l=if s * k<l.length\/k=0 then xK s k l++qFC s (l.drop (s * k)) else xK s k l
 | 0,l,_=>by simp[xK]
 | k+1,l,h=>by
  rw[Nat.mul_succ]at h
  rw[qWJ hs k l (by omega),if_pos (.inl (by omega))]
  have hd:(l.drop (s * k)).length=l.length-s * k:=List.length_drop
  by_cases h2:s * (k+1)<l.length
  ·rw[if_pos (.inl h2),qGL hs (by rw[hd];rw[Nat.mul_succ]at h2;omega),List.drop_drop,<-Nat.mul_succ]
   simp only[xK,List.append_assoc]
  rw[if_neg (by omega)]
  rw[Nat.mul_succ]at h2
  rw[kX (by omega)]
  simp only[xK]
  rw[List.take_of_length_le (by omega)]
theorem qHA (s:Nat) (l:List Val):xK s 0 l=[]:=rfl
theorem qJK {l:List Val} (h:qAH l):qAH (srt leV l):=fun v hv=>h v (qDP.1 hv)
def qEX (s k w:Nat) (l:List Val):List Val:=if w<l.length\/k=0 then qFC s (l.drop w) else[]
theorem zJI (l:List Val) (hl:l.length<=1000000) (hm:qAH l):AX Tryz.prog G 120 [.ms 890,.p (.int .i64 l.length),.p (.fn 83)] [(890,.row 31 9 (zN l))] (.tuple []) [890] [(890,.row 31 9 (zN (srt leV l)))]:=by
 refine AX.introU tok 700 Tryz.func120 (by kernel_rfl) rfl rfl ?_
 simp only[Tryz.f120,qG,List.map_cons,List.map_nil]
 have e0:xK 20 0 l++l.drop (20 * 0)=l:=by simp[xK]
 refine rgn [] [[]] ?_
 refine op3 ?_
 refine qA (rgn [] [[],[],[0,1,2,6,7,8]] ?_)
 iterate 3 refine op3 ?_
 refine qA (AW.seq (AW.block ?_))
 refine AW.loop (α:=Nat) (fun k=>20 * k<=l.length) (fun k=>⟨zA 63 [(0,.ms 890),(1,.p (.int .i64 l.length)),(2,.p (.fn 83)),(6,.p (.int .i64 20)),(7,.p (.int .i64 ((20 * k:Nat):Int))),(8,.p (.int .i64 ((20 * k+20:Nat):Int)))],[890],[(890,.row 31 9 (zN (xK 20 k l++l.drop (20 * k))))],700⟩) (fun k=>l.length-20 * k) (0) (Nat.zero_le _) ⟨qE (by simp),rfl,by simp[qHA],by simp[qHA]⟩ ?_
 rintro k hk
 have hpl:=qPZ k l hk
 refine AW.seq (rgn [] [[],[],[0,1,2,6,7,8,13]] ?_)
 iterate 3 refine op3 ?_
 refine qA (cnd ?_ ?_)
 ·intro h13
  try simp at h13
  have hS:((l.drop (20 * k)).take 20).length=20:=by rw[List.length_take,List.length_drop];omega
  have hD:(l.drop (20 * (k+1))).length=l.length-20 * (k+1):=List.length_drop
  have hc:=zHT (G:=G) (xK 20 k l) ((l.drop (20 * k)).take 20) (l.drop (20 * (k+1))) (by omega) (fun v hv=>hm v (List.mem_of_mem_drop (List.mem_of_mem_take hv)))
  have e1:(l.drop (20 * k)).take 20++l.drop (20 * (k+1))=l.drop (20 * k):=by
   have:=List.take_append_drop 20 (l.drop (20 * k))
   rwa [List.drop_drop,<-Nat.mul_succ]at this
  have e2:xK 20 k l++(srt leV ((l.drop (20 * k)).take 20)++l.drop (20 * (k+1)))=xK 20 (k+1) l++l.drop (20 * (k+1)):=by simp[xK]
  rw[e1,e2,hpl,hS]at hc
  refine AW.skip (AW.block (rgn [] [[],[],[],[]] ?_))
  iterate 4 refine op3 ?_
  refine qJ ?_
  refine qB.stepK [0,1,2,6,8] (zF rfl hc (by simp)) (by conv=>lhs;simp) rfl ?_
  refine qB.nil ?_
  refine rgn [] [[],[0,1,2,6,7,8]] ?_
  iterate 2 refine op3 ?_
  refine qA (rgz [] [[],[],[],[0,1,2,6,7,8]] ?_)
  iterate 4 refine op3 ?_
  refine qA ?_
  exact⟨k+1,by omega,by omega,qE (by simp[show(20 * (k:Int)+20)=20 * (k+1) from by omega]),rfl,by simp[show(20 * (k:Int)+20)=20 * (k+1) from by omega],by simp[show(20 * (k:Int)+20)=20 * (k+1) from by omega]⟩
 intro h13
 try simp at h13
 have hr:(l.drop (20 * k)).length=l.length-20 * k:=List.length_drop
 have hc:=zHT (G:=G) (xK 20 k l) (l.drop (20 * k)) [] (by simp;omega) (fun v hv=>hm v (List.mem_of_mem_drop hv))
 have hb:xK 20 k l++(srt leV (l.drop (20 * k))++[])=qFC 20 l:=by
  rw[qWJ (by decide) k l hk,List.append_nil]
  by_cases h:20 * k<l.length\/k=0
  ·rw[if_pos h,kX (by omega)]
  rw[if_neg h,List.eq_nil_of_length_eq_zero (show(l.drop (20 * k)).length=0 by omega)];simp[srt]
 rw[hb,List.append_nil,hpl,show 20 * k+(l.drop (20 * k)).length=l.length by omega]at hc
 refine AW.exit ?_
 simp
 refine rgn [] [[],[],[],[]] ?_
 iterate 4 refine op3 ?_
 refine qJ ?_
 refine qB.stepK [0,1,2,6] (zF rfl hc (by simp)) (by conv=>lhs;simp) rfl ?_
 refine qB.nil ?_
 refine AW.block ?_
 refine AW.loop (α:=Nat) (fun s=>20<=s/\s<=2000000) (fun s=>⟨zA 63 [(0,.ms 890),(1,.p (.int .i64 l.length)),(2,.p (.fn 83)),(6,.p (.int .i64 s))],[890],[(890,.row 31 9 (zN (qFC s l)))],700⟩) (fun s=>l.length-s) (20) ⟨by omega,by omega⟩ ⟨qE (by simp),rfl,by simp,by simp⟩ ?_
 rintro s ⟨hs1,hs2⟩
 refine AW.seq (rgn [] [[],[],[0,1,2,6,30]] ?_)
 iterate 3 refine op3 ?_
 refine qA (cnd ?_ ?_)
 ·intro h30
  try simp at h30
  refine AW.skip (AW.block (rgn [] [[],[],[],[0,1,2,6,7,8]] ?_))
  iterate 4 refine op3 ?_
  refine qA (AW.seq (AW.block ?_))
  refine AW.loop (α:=Nat × Nat) (fun a=>a.2=2 * s * a.1/\a.2<=l.length) (fun a=>⟨zA 63 [(0,.ms 890),(1,.p (.int .i64 l.length)),(2,.p (.fn 83)),(6,.p (.int .i64 s)),(7,.p (.int .i64 a.2)),(8,.p (.int .i64 ((a.2+2 * s:Nat):Int)))],[890],[(890,.row 31 9 (zN (xK (2 * s) a.1 l++qEX s a.1 a.2 l)))],700⟩) (fun a=>l.length-a.2) ((0,0)) ⟨by simp,Nat.zero_le _⟩ ⟨qE (by simp),rfl,by simp[qHA,qEX],by simp[qHA,qEX]⟩ ?_
  rintro⟨k,w⟩ ⟨hw,hwl⟩
  simp only at hw hwl
  have hpl:(xK (2 * s) k l).length=w:=by rw[qPZ k l (by omega),hw]
  have hrl:(l.drop w).length=l.length-w:=List.length_drop
  have hrm:qAH (l.drop w):=fun v hv=>hm v (List.mem_of_mem_drop hv)
  refine AW.seq (rgn [] [[],[],[0,1,2,6,7,8,35]] ?_)
  iterate 3 refine op3 ?_
  refine qA (cnd ?_ ?_)
  ·intro h35
   try simp at h35
   obtain⟨t1,t2⟩:=zUQ (s:=s) (l:=l.drop w) (by omega) hrm (by omega)
   obtain⟨R,hR⟩:∃ R,(if 2 * s<(l.drop w).length then qFC s ((l.drop w).drop (2 * s)) else[])=R:=⟨_,rfl⟩
   have hRt:R=qEX s (k+1) (w+2 * s) l:=by
    rw[<-hR];unfold qEX
    rw[List.drop_drop]
    by_cases h:2 * s<(l.drop w).length
    ·rw[if_pos h,if_pos (.inl (by omega))]
    rw[if_neg h,if_neg (by omega)]
   have hRl:R.length<=l.length-w-2 * s:=by
    rw[<-hR];split
    ·rw[zQN (by omega),List.length_drop];omega
    simp
   rw[hR]at t1
   have l1:(srt leV ((l.drop w).take s)).length=s:=by rw[vC,List.length_take];omega
   have l2:(srt leV (((l.drop w).drop s).take s)).length=s:=by rw[vC,List.length_take,List.length_drop];omega
   have hc:=zNC (G:=G) (xK (2 * s) k l) (srt leV ((l.drop w).take s)) (srt leV (((l.drop w).drop s).take s)) R ⟨by omega,by omega,by omega,qJK (fun v hv=>hrm v (List.mem_of_mem_take hv)),qJK (fun v hv=>hrm v (List.mem_of_mem_drop (List.mem_of_mem_take hv))),qGT qBD _ (fun v hv=>hrm v (List.mem_of_mem_take hv)),qGT qBD _ (fun v hv=>hrm v (List.mem_of_mem_drop (List.mem_of_mem_take hv)))⟩
   unfold qRT at hc
   have e1:xK (2 * s) k l++qEX s k w l=xK (2 * s) k l++(srt leV ((l.drop w).take s)++(srt leV (((l.drop w).drop s).take s)++R)):=by
    rw[<-t1];unfold qEX;rw[if_pos (.inl (by omega))]
   have e2:xK (2 * s) k l++(mrg leV (srt leV ((l.drop w).take s)) (srt leV (((l.drop w).drop s).take s))++R)=xK (2 * s) (k+1) l++qEX s (k+1) (w+2 * s) l:=by
    rw[t2,hRt];simp[xK,<-hw]
   rw[<-e1,e2,hpl,l1,l2,show w+s+s=w+2 * s by omega]at hc
   refine AW.skip (AW.block (rgn [] [[],[],[],[],[],[],[]] ?_))
   iterate 7 refine op3 ?_
   refine qJ ?_
   refine qB.stepK [0,1,2,6,8] (zF rfl hc (by simp)) (by conv=>lhs;simp) rfl ?_
   refine qB.nil ?_
   refine rgn [] [[],[0,1,2,6,7,8]] ?_
   iterate 2 refine op3 ?_
   refine qA (rgz [] [[],[],[],[0,1,2,6,7,48],[0,1,2,6,7,8]] ?_)
   iterate 5 refine op3 ?_
   refine qA ?_
   exact⟨(k+1,w+2 * s),⟨by simp only;rw[Nat.mul_succ,hw],by simp only;omega⟩,by simp only;omega,qE (by simp[show((w:Int)+2 * s+2 * s)=w+2 * s+2 * s from rfl]),rfl,by simp[show((w:Int)+2 * s+2 * s)=w+2 * s+2 * s from rfl],by simp[show((w:Int)+2 * s+2 * s)=w+2 * s+2 * s from rfl]⟩
  intro h35
  try simp at h35
  have hpb:=qWJ (s:=2 * s) (by omega) k l (by omega)
  rw[<-hw]at hpb
  refine AW.exit ?_
  simp
  refine AW.join (α:=Unit) (fun _=>True) (fun a=>⟨zA 63 [(0,.ms 890),(1,.p (.int .i64 l.length)),(2,.p (.fn 83)),(6,.p (.int .i64 s))],[890],[(890,.row 31 9 (zN (qFC (2 * s) l)))],700⟩) ?_ ?_
  ·
   refine rgn [] [[],[],[],[0,1,2,6,7,9]] ?_
   iterate 4 refine op3 ?_
   refine qA (rgn [] [[],[],[0,1,2,6,7,9,54]] ?_)
   iterate 3 refine op3 ?_
   refine qA (cnd ?_ ?_)
   ·intro h54
    try simp at h54
    obtain⟨t1,t2⟩:=zQM (s:=s) (l:=l.drop w) (by omega) hrm (by omega) (by omega)
    have l1:(srt leV ((l.drop w).take s)).length=s:=by rw[vC,List.length_take];omega
    have l2:(srt leV ((l.drop w).drop s)).length=l.length-w-s:=by rw[vC,List.length_drop];omega
    have hc:=zNC (G:=G) (xK (2 * s) k l) (srt leV ((l.drop w).take s)) (srt leV ((l.drop w).drop s)) [] ⟨by rw[hpl,l1,l2,List.length_nil];omega,by omega,by omega,qJK (fun v hv=>hrm v (List.mem_of_mem_take hv)),qJK (fun v hv=>hrm v (List.mem_of_mem_drop hv)),qGT qBD _ (fun v hv=>hrm v (List.mem_of_mem_take hv)),qGT qBD _ (fun v hv=>hrm v (List.mem_of_mem_drop hv))⟩
    unfold qRT at hc
    have e1:xK (2 * s) k l++qEX s k w l=xK (2 * s) k l++(srt leV ((l.drop w).take s)++(srt leV ((l.drop w).drop s)++[])):=by
     rw[List.append_nil,<-t1];unfold qEX;rw[if_pos (.inl (by omega))]
    have e2:xK (2 * s) k l++(mrg leV (srt leV ((l.drop w).take s)) (srt leV ((l.drop w).drop s))++[])=qFC (2 * s) l:=by
     rw[t2,hpb,if_pos (.inl (by omega)),List.append_nil,kX (by omega)]
    rw[<-e1,e2,hpl,l1,l2,show w+s+(l.length-w-s)=l.length by omega]at hc
    refine rgz [] [[],[],[],[],[]] ?_
    iterate 5 refine op3 ?_
    refine qJ ?_
    refine qB.stepK [0,1,2,6] (zF rfl hc (by simp)) (by conv=>lhs;simp) rfl ?_
    refine qB.nil ?_
    exact⟨(),trivial,qE (by simp),rfl,by simp,by simp⟩
   intro h54
   try simp at h54
   have e1:xK (2 * s) k l++qEX s k w l=qFC (2 * s) l:=by
    rw[hpb];unfold qEX
    by_cases h:w<l.length\/k=0
    ·rw[if_pos h,if_pos h,kX (by omega),kX (by omega)]
    rw[if_neg h,if_neg h,List.append_nil]
   rw[e1]
   refine AW.skip ?_
   exact⟨(),trivial,qE (by simp),rfl,by simp,by simp⟩
  ·
   rintro a hI
   refine rgz [] [[],[],[0,1,2,6]] ?_
   iterate 3 refine op3 ?_
   refine qA ?_
   exact⟨2 * s,⟨by omega,by omega⟩,by omega,qE (by simp[show((s:Int) * 2)=2 * s from by omega]),rfl,by simp[show((s:Int) * 2)=2 * s from by omega],by simp[show((s:Int) * 2)=2 * s from by omega]⟩
 intro h30
 try simp at h30
 rw[show srt leV l=qFC s l from(kX (by omega)).symm]
 refine AW.exit ?_
 simp
 exact qBY
theorem qZL (l:List Val) (hl:l.length<=1000000) (hm:qAH l):AX Tryz.prog G 82 [.ms 890,.p (.fn 83)] [(890,.row 31 9 (zN l))] (.tuple []) [890] [(890,.row 31 9 (zN (srt leV l)))]:=by
 refine AX.introU tok 700 Tryz.func82 (by kernel_rfl) rfl rfl ?_
 simp only[Tryz.f82,qG,List.map_cons,List.map_nil]
 have hc:=zJI (G:=G) l hl hm
 rw[<-kZ l]at hc
 refine rgz [] [[],[],[],[]] ?_
 iterate 4 refine op3 ?_
 refine qJ ?_
 refine qB.stepK [] (zF rfl hc (by simp)) (by conv=>lhs;simp) rfl ?_
 refine qB.nil ?_
 exact qBY
def uqF (x:Val):List Val->List Val
 | []=>[]
 | y::l=>if wT y x=0 then uqF y l else y::uqF y l
def uqV:List Val->List Val
 | []=>[]
 | x::l=>x::uqF x l
theorem qYR (c:Val):∀ (A:List Val) (x p:Val),(x::A)[A.length]?=some p->uqF x (A++[c])=uqF x A++(if wT c p=0 then[] else[c])
 | [],x,p,h=>by
  simp only[List.length_nil,List.getElem?_cons_zero,Option.some.injEq]at h
  subst h
  simp only[List.nil_append,uqF]
 | y::A,x,p,h=>by
  simp only[List.length_cons,List.getElem?_cons_succ]at h
  simp only[List.cons_append,uqF]
  rw[qYR c A y p h]
  split <;> simp
theorem zGO {l:List Val} {k:Nat} {p c:Val} (hk:1<=k) (hp:l[k-1]?=some p) (hc:l[k]?=some c):uqV (l.take (k+1))=uqV (l.take k)++(if wT c p=0 then[] else[c]):=by
 obtain⟨k,rfl⟩:∃ m,k=m+1:=⟨k-1,by omega⟩
 cases l with
 | nil=>simp at hc
 | cons x l =>
  simp only[Nat.add_sub_cancel,List.getElem?_cons_succ]at hp hc
  have hl:k<l.length:=(List.getElem?_eq_some_iff.1 hc).1
  have h1:l.take (k+1)=l.take k++[c]:=by rw[List.take_add_one,hc];rfl
  have hlen:(l.take k).length=k:=by rw[List.length_take];omega
  simp only[List.take_succ_cons,uqV,h1,List.cons_append]
  rw[qYR c (l.take k) x p]
  rw[hlen]
  cases k with
  | zero=>simpa using hp
  | succ k=>simp at hp ⊢; exact hp
theorem zMP (l:List Val):uqV (l.take 1)=l.take 1:=by cases l <;> simp[uqV,uqF]
theorem zUH (g:FuncId) (l:List Val) (hg:∀ a b:Val,zX a=true->zX b=true->AFn Tryz.prog G g [a.enc,b.enc] (.bool (decide (wT a b=0)))) (hl:l.length<=1000000) (hm:qAH l):AX Tryz.prog G 84 [.ms 890,.p (.fn g)] [(890,.row 31 9 (zN l))] (.ms 890) [] [(890,.row 31 9 (zN (uqV l)))]:=by
 refine AX.introU tok 700 Tryz.func84 (by kernel_rfl) rfl rfl ?_
 simp only[Tryz.f84,qG,List.map_cons,List.map_nil]
 have hrl:=kZ l
 refine rgn [] [[0,1]] ?_
 refine op3 ?_
 refine qA (AW.seq (rgn [] [[],[],[0,1,10]] ?_))
 iterate 3 refine op3 ?_
 refine qA (cnd ?_ ?_)
 ·intro h10
  try simp at h10
  have hu:uqV l=l:=by
   have:=zMP l
   rwa [List.take_of_length_le (by omega)]at this
  rw[hu]
  refine rgn [] [[],[4]] ?_
  iterate 2 refine op3 ?_
  refine qA ?_
  exact AW.ret qZ
 intro h10
 try simp at h10
 refine AW.skip (AW.seq (rgn [] [[]] ?_))
 refine op3 ?_
 refine qA (AW.block ?_)
 refine AW.loop (α:=Nat) (fun k=>1<=k/\k<=l.length/\uqV (l.take k)=l.take k) (fun k=>⟨zA 66 [(0,.ms 890),(1,.p (.fn g)),(5,.p (.int .i64 k))],[890],[(890,.row 31 9 (zN l))],700⟩) (fun k=>l.length-k) (1) ⟨by omega,by omega,zMP l⟩ ⟨qE (by simp),rfl,by simp,by simp⟩ ?_
 rintro k ⟨hk1,hk2,hk3⟩
 refine AW.seq (rgn [] [[],[],[],[0,1,5,15]] ?_)
 iterate 4 refine op3 ?_
 refine qA (cnd ?_ ?_)
 ·intro h15
  try simp at h15
  obtain⟨c,hc⟩:∃ c,l[k]?=some c:=⟨l[k]'(by omega),by simp[show k<l.length by omega]⟩
  obtain⟨p,hp⟩:∃ p,l[k-1]?=some p:=⟨l[k-1]'(by omega),by simp[show k-1<l.length by omega]⟩
  have hgc:=hg c p (hm c (List.mem_of_getElem? hc)) (hm p (List.mem_of_getElem? hp))
  have hut:=zGO hk1 hp hc
  have g1:(zN l)[k]?=some c.enc:=by unfold zN;rw[List.getElem?_map,hc];rfl
  have g2:(zN l)[k-1]?=some p.enc:=by unfold zN;rw[List.getElem?_map,hp];rfl
  have hz:((k:Int)-1).toNat=k-1:=by omega
  simp only[Val.enc_def]at hgc g1 g2
  refine AW.skip (AW.seq (AW.block ?_))
  refine AW.seqDrawS tok mixed 11 [[1],[0],[5],[19,20],[21],[0],[5],[24],[23,25],[26],[18,22,27]] [c.enc,p.enc,.nilp,.bool (decide (wT c p=0))] [] (by kernel_rfl) ?_
  iterate 11 refine d1 ?_ (hv:=by first|exact True.intro|exact g1|(rw[hz];exact g2)|exact hgc|(refine⟨by omega, ?_⟩;rw[hrl];omega)|omega|(trace_state;fail);done|omega|simp)
  refine DGo.nil (by kernel_rfl) ⟨by kernel_rfl, ?_⟩
  refine qB.nil ?_
  refine cnd ?_ ?_
  ·intro h28
   try simp at h28
   have hF0:uqV (l.take (k+1))=l.take k:=by rw[hut,if_pos (by simpa using h28),List.append_nil,hk3]
   have hl0:(l.take k).length=k:=by rw[List.length_take];omega
   have hrow:l.take k++c::l.drop (k+1)=l:=by
    obtain⟨h1,h2⟩:=List.getElem?_eq_some_iff.1 hc
    rw[<-h2,<-List.drop_eq_getElem_cons h1,List.take_append_drop]
   refine rgn [] [[],[]] ?_
   iterate 2 refine op3 ?_
   refine qJ ?_
   refine qB.stepK [0,1,5,31] (zWE tok k rfl rfl rfl (by conv=>lhs;simp) trivial (by conv=>lhs;simp) trivial (by conv=>lhs;simp) rfl (by omega) rfl) (by conv=>lhs;simp) rfl ?_
   refine qB.run [[0,1,5,6]] ?_
   refine op3 ?_
   refine qA (AW.seq (rgn [] [[]] ?_))
   refine op3 ?_
   refine qA (AW.block ?_)
   refine AW.loop (α:=Nat × List Val × Val) (fun a=>1<=a.1/\k+a.1<=l.length/\(uqV (l.take (k+a.1))).length+a.2.1.length+1=k+a.1/\l[k+a.1-1]?=some a.2.2) (fun a=>⟨zA 66 [(0,.ms 890),(1,.p (.fn g)),(5,.p (.int .i64 (uqV (l.take (k+a.1))).length)),(6,.tl 890 k 9),(7,.p (.int .i64 a.1))],[890],[(890,.row 31 9 (zN (uqV (l.take (k+a.1))++(a.2.1++a.2.2::l.drop (k+a.1)))))],700⟩) (fun a=>l.length-a.1) ((1,[],c)) ⟨by simp,by simp only;omega,by simp only[hF0];simp;omega,by simpa using hc⟩ ⟨qE (by simp[hF0,hl0]),rfl,by simp[hF0,hrow],by simp[hF0,hrow]⟩ ?_
   rintro⟨i,J,p2⟩ ⟨hi1,hi2,hi3,hi4⟩
   simp only at hi1 hi2 hi3 hi4
   have hdl:(l.drop (k+i)).length=l.length-(k+i):=List.length_drop
   have hut2:=fun c hc=>zGO (l:=l) (k:=k+i) (p:=p2) (c:=c) (by omega) hi4 hc
   generalize hF:uqV (l.take (k+i))=F at *
   generalize hD:l.drop (k+i)=D at *
   have hrl2:(zN (F++(J++p2::D))).length=l.length:=by rw[kZ];simp;omega
   refine AW.seq (rgn [] [[],[]] ?_)
   iterate 2 refine op3 ?_
   refine qJ ?_
   refine qB.stepK [0,1,5,6,7,32,34] (zIX tok rfl rfl (by conv=>lhs;simp) trivial (by conv=>lhs;simp)) (by conv=>lhs;simp) rfl ?_
   refine qB.run [[0,1,5,6,7,35]] ?_
   refine op3 ?_
   refine qA (cnd ?_ ?_)
   ·intro h35
    try simp at h35
    obtain⟨d,C,rfl⟩:∃ d C,D=d::C:=by
     cases D with
     | nil=>simp only[List.length_nil]at hdl;omega
     | cons d C=>exact⟨d,C,rfl⟩
    have hd:l[k+i]?=some d:=by
     have:=congrArg List.head? hD
     rwa [List.head?_drop]at this
    have hC:l.drop (k+(i+1))=C:=by
     rw[show k+(i+1)=(k+i)+1 by omega,<-List.drop_drop,hD];rfl
    have hut3:=hut2 d hd
    have hgd:=hg d p2 (hm d (List.mem_of_getElem? hd)) (hm p2 (List.mem_of_getElem? hi4))
    have g3:(zN (F++(J++p2::d::C)))[k+i]?=some d.enc:=by
     have:=yH (A:=F++(J++[p2])) (B:=C) (x:=d)
     rw[show(F++(J++[p2])).length=k+i by simp;omega]at this
     simpa using this
    have g4:(zN (F++(J++p2::d::C)))[k+(i-1)]?=some p2.enc:=by
     have:=yH (A:=F++J) (B:=d::C) (x:=p2)
     rw[show(F++J).length=k+(i-1) by simp;omega]at this
     simpa using this
    obtain⟨x,J2,hJ⟩:∃ x J2,J++[p2]=x::J2:=by
     cases J with
     | nil=>exact⟨p2,[],rfl⟩
     | cons x J=>exact⟨x,J++[p2],rfl⟩
    have hJl:J2.length=J.length:=by have:=congrArg List.length hJ;simp at this;omega
    have e1:F++(J++p2::d::C)=F++x::(J2++d::C):=by
     rw[show J++p2::d::C=(J++[p2])++d::C by simp,hJ];rfl
    have s1:(zN (F++(J++p2::d::C))).set F.length d.enc=zN ((F++[d])++(J2++d::C)):=by
     rw[e1,qAX];simp
    have g5:(zN (F++(J++p2::d::C)))[F.length]?=some x.enc:=by rw[e1];exact yH
    have e2:F++(J++p2::d::C)=F++((J++[p2])++d::C):=by simp
    simp only[Val.enc_def]at hgd g3 g4 g5 s1
    refine AW.skip (AW.seq (AW.block ?_))
    refine AW.seqDrawR mixed 12 [[1],[6],[7],[39,40],[41],[6],[7],[44],[43,45],[46],[38,42,47],[48]] [] (by kernel_rfl) ?_
    iterate 3 refine qS.o0 tok (hv:=by first|exact True.intro|exact g3|exact g4|exact hgd|omega|(trace_state;fail);done|omega|simp) (k := ?_)
    refine qS.y [(890,.row 31 9 (zN (F++(J++p2::d::C))))] [(890,.row 31 9 (zN (F++(J++p2::d::C))))] (.rptr 890 (k+i) 9 0) true rfl (qKX tok i rfl rfl rfl (by conv=>lhs;simp) trivial (by conv=>lhs;simp) trivial (by conv=>lhs;simp) rfl (by rw[hrl2];omega) rfl) (fun _=>rfl) (by simp) (by simp) (by kernel_rfl) (by kernel_rfl) (by conv=>lhs;simp) ?_
    refine qS.o1 tok (orc:=[d.enc]) (hv:=by first|exact True.intro|exact g3|exact g4|exact hgd|omega|(trace_state;fail);done|omega|simp) (k := ?_)
    iterate 3 refine qS.o0 tok (hv:=by first|exact True.intro|exact g3|exact g4|exact hgd|omega|(trace_state;fail);done|omega|simp) (k := ?_)
    refine qS.y [(890,.row 31 9 (zN (F++(J++p2::d::C))))] [(890,.row 31 9 (zN (F++(J++p2::d::C))))] (.rptr 890 (k+(i-1)) 9 0) true rfl (qKX tok (i-1) rfl rfl rfl (by conv=>lhs;simp) trivial (by conv=>lhs;simp) trivial (by conv=>lhs;simp) rfl (by rw[hrl2];omega) (by omega)) (fun _=>rfl) (by simp) (by simp) (by kernel_rfl) (by kernel_rfl) (by conv=>lhs;simp) ?_
    refine qS.o1 tok (orc:=[p2.enc]) (hv:=by first|exact True.intro|exact g3|exact g4|exact hgd|omega|(trace_state;fail);done|omega|simp) (k := ?_)
    refine qS.o1 tok (orc:=[.nilp,.bool (decide (wT d p2=0))]) (hv:=by first|exact True.intro|exact g3|exact g4|exact hgd|omega|(trace_state;fail);done|omega|simp) (k := ?_)
    refine qS.o0 tok (hv:=by first|exact True.intro|exact g3|exact g4|exact hgd|omega|(trace_state;fail);done|omega|simp) (k := ?_)
    refine qS.nil (by kernel_rfl) ⟨by kernel_rfl, ?_⟩
    refine qB.nil ?_
    refine cnd ?_ ?_
    ·intro h49
     try simp at h49
     have hF1:uqV (l.take (k+(i+1)))=F++[d]:=by
      rw[show k+(i+1)=k+i+1 by omega,hut3,if_neg (by simpa using h49)]
     refine rgn [d.enc,x.enc,d.enc] [[],[],[],[]] ?_
     iterate 4 refine op3 ?_ (hv:=by first|exact True.intro|exact g3|exact g5|(rw[hrl2];omega)|(trace_state;fail);done|omega|simp)
     refine qJ ?_
     refine qB.stepK [0,1,5,6,7,50,51,54] (qKX tok i rfl rfl rfl (by conv=>lhs;simp) trivial (by conv=>lhs;simp) trivial (by conv=>lhs;simp) rfl (by rw[hrl2];omega) rfl) (by conv=>lhs;simp) rfl ?_
     refine qB.run [[],[],[0,1,5,6,7]] ?_
     iterate 3 refine op3 ?_ (hv:=by first|exact True.intro|exact g3|exact g5|(rw[hrl2];omega)|(trace_state;fail);done|omega|simp)
     refine qA (rgz [] [[],[],[0,1,5,6,7]] ?_)
     iterate 3 refine op3 ?_
     refine qA (rgz [] [[],[],[0,1,5,6,7]] ?_)
     iterate 3 refine op3 ?_
     refine qA ?_
     exact⟨(i+1,J2,d),⟨by simp only;omega,by simp only;omega,by simp only[hF1];simp;omega,by simpa using hd⟩,by simp only;omega,qE (by simp[hF1,hC,s1]),rfl,by simp[hF1,hC,s1],by simp[hF1,hC,s1]⟩
    intro h49
    try simp at h49
    have hF2:uqV (l.take (k+(i+1)))=F:=by
     rw[show k+(i+1)=k+i+1 by omega,hut3,if_pos (by simpa using h49),List.append_nil]
    refine AW.skip (rgz [] [[],[],[0,1,5,6,7]] ?_)
    iterate 3 refine op3 ?_
    refine qA ?_
    exact⟨(i+1,J++[p2],d),⟨by simp only;omega,by simp only;omega,by simp only[hF2];simp;omega,by simpa using hd⟩,by simp only;omega,qE (by simp[hF2,hC,e2]),rfl,by simp[hF2,hC,e2],by simp[hF2,hC,e2]⟩
   intro h35
   try simp at h35
   have hil:k+i=l.length:=by omega
   rw[hil,List.take_length]at hF
   rw[hF]
   have hFl:F.length<=l.length:=by omega
   have hcut:∀ R:List PD,((zN (F++(J++p2::D))).take F.length++R).take F.length=zN F:=fun R=>by
    unfold zN
    rw[List.map_append,List.take_append_of_le_length (by simp),List.take_of_length_le (by simp),List.take_append_of_le_length (by simp),List.take_of_length_le (by simp)]
   refine AW.exit ?_
   simp
   refine rgn [] [[],[]] ?_
   iterate 2 refine op3 ?_
   refine qJ ?_
   refine qB.clearFrom tok [0,5,61] (e0:=jG.enc) F.length rfl rfl rfl rfl rfl rfl rfl rfl rfl rfl (by simp) (by conv=>lhs;simp) trivial (by conv=>lhs;simp) trivial (by conv=>lhs;simp) rfl (by rw[hrl2];omega) rfl (by simp) ?_
   simp only[St.put,zMS,zEU,St.keep,zJA,qNH,zM]
   refine qB.nil ?_
   refine rgn [] [[],[]] ?_
   iterate 2 refine op3 ?_
   refine qJ ?_
   refine qB.stepK [64] (qYH tok rfl rfl F.length (by conv=>lhs;simp) trivial (by conv=>lhs;simp) trivial rfl (by conv=>lhs;simp) (by first|(simp;done)|(simp;omega)) rfl) (by conv=>lhs;simp[hcut]) rfl ?_
   refine qB.run [[4]] ?_
   refine op3 ?_
   refine qA ?_
   exact AW.ret qZ
  intro h28
  try simp at h28
  have hk4:uqV (l.take (k+1))=l.take (k+1):=by
   rw[hut,if_neg (by simpa using h28),hk3,List.take_add_one,hc];rfl
  refine AW.skip (rgz [] [[],[],[0,1,5]] ?_)
  iterate 3 refine op3 ?_
  refine qA ?_
  exact⟨k+1,⟨by omega,by omega,hk4⟩,by omega,qE (by simp),rfl,by simp,by simp⟩
 intro h15
 try simp at h15
 have hu:uqV l=l:=by rw[List.take_of_length_le (by omega)]at hk3;exact hk3
 rw[hu]
 refine AW.exit ?_
 simp
 refine rgn [] [[],[4]] ?_
 iterate 2 refine op3 ?_
 refine qA ?_
 exact AW.ret qZ
theorem zKU (a b:Val) (ha:zX a=true) (hb:zX b=true):AFn Tryz.prog G 85 [a.enc,b.enc] (.bool (decide (wT a b=0))):=by
 refine AFn.introU tok Tryz.func85 (by kernel_rfl) rfl rfl ?_
 simp only[Tryz.f85,qG,List.map_cons,List.map_nil]
 have hc:=qKN (G:=G) a b ha hb
 simp only[Val.enc_def]at hc
 refine rgn [] [[],[],[2,3]] ?_
 iterate 3 refine op3 ?_
 refine qA (rgn [.nilp,.int .i64 (wT a b)] [[],[],[7],[],[4]] ?_)
 iterate 5 refine oq1 tok hc ?_
 exact qA (AW.ret qI)
theorem zKT (a b:Val) (ha:zX a=true) (hb:zX b=true):AFn Tryz.prog G 88 [a.enc,b.enc] (.bool (decide (wT a b<0))):=by
 refine AFn.introU tok Tryz.func88 (by kernel_rfl) rfl rfl ?_
 simp only[Tryz.f88,qG,List.map_cons,List.map_nil]
 have hc:=qKN (G:=G) a b ha hb
 simp only[Val.enc_def]at hc
 refine rgn [] [[],[],[2,3]] ?_
 iterate 3 refine op3 ?_
 refine qA (rgn [.nilp,.int .i64 (wT a b)] [[],[],[7],[],[4]] ?_)
 iterate 5 refine oq1 tok hc ?_
 exact qA (AW.ret qI)
theorem zKS (a b:Val) (ha:zX a=true) (hb:zX b=true):AFn Tryz.prog G 89 [a.enc,b.enc] (.bool (decide (0<wT a b))):=by
 refine AFn.introU tok Tryz.func89 (by kernel_rfl) rfl rfl ?_
 simp only[Tryz.f89,qG,List.map_cons,List.map_nil]
 have hc:=qKN (G:=G) a b ha hb
 simp only[Val.enc_def]at hc
 refine rgn [] [[],[],[2,3]] ?_
 iterate 3 refine op3 ?_
 refine qA (rgn [.nilp,.int .i64 (wT a b)] [[],[],[7],[],[4]] ?_)
 iterate 5 refine oq1 tok hc ?_
 exact qA (AW.ret qI)
def qGM (b:Val->Val->Bool) (x:Val):List Val->Val
 | []=>x
 | v::l=>qGM b (if b v x=true then v else x) l
def qBM (b:Val->Val->Bool) (l:List Val) (m:Int):Val:=if l.length=0 then qWO m else qEV (qGM b (l.getD 0 jG) (l.drop 1)) m
theorem zAV (g:FuncId) (b:Val->Val->Bool) (l:List Val) (m:Int) (hg:∀ x∈l, ∀ y∈l,AFn Tryz.prog G g [x.enc,y.enc] (.bool (b x y))) (hl:l.length<=1000000) (hml:qAH l):AFn Tryz.prog G 87 [.agg [.int .u64 m],.sl 9 (l.map Val.enc),.fn g] ((qBM b l m).enc):=by
 refine AFn.introU tok Tryz.func87 (by kernel_rfl) rfl rfl ?_
 simp only[Tryz.f87,qG,List.map_cons,List.map_nil]
 have hn:=zAP (G:=G) m
 have hw:=fun x hx=>zSE (G:=G) x m (hml x hx)
 have hle:(l.map Val.enc).length=l.length:=by simp
 have e:qBM b l m=if l.length=0 then qWO m else qEV (qGM b (l.getD 0 jG) (l.drop 1)) m:=rfl
 rw[e]
 simp only[Val.enc_def]at hn
 refine rgn [] [[],[1,2,3,6]] ?_
 iterate 2 refine op3 ?_
 refine qA (AW.seq (rgn [] [[],[],[1,2,3,6,12]] ?_))
 iterate 3 refine op3 ?_
 refine qA (cnd ?_ ?_)
 ·intro h12
  try simp at h12
  rw[if_pos (by simpa using h12)]
  refine rgn [.nilp,(qWO m).enc] [[],[],[6]] ?_
  iterate 3 refine oq1 tok hn ?_
  exact qA (AW.ret qI)
 intro h12
 try simp at h12
 rw[if_neg (by simpa using h12)]
 obtain⟨x0,r,rfl⟩:∃ x r,l=x::r:=by
  cases l with
  | nil=>simp at h12
  | cons x r=>exact⟨x,r,rfl⟩
 simp only[List.getD_cons_zero,List.drop_succ_cons,List.drop_zero]
 obtain⟨R,hRe⟩:∃ R,qGM b x0 r=R:=⟨_,rfl⟩
 rw[hRe]
 have htake:(r.map Val.enc).take r.length=r.map Val.enc:=List.take_of_length_le (by simp)
 simp only[List.length_cons]at hl
 refine AW.skip (rgn [x0.enc] [[],[],[],[],[1,2,3,6,7]] ?_)
 iterate 5 refine op3 ?_
 refine qA (AW.seq (rgn [] [[],[],[],[2,3,6,7,19,20,21]] ?_))
 iterate 4 refine op3 ?_
 refine qA (AW.block ?_)
 refine AW.loop (α:=Nat × Val) (fun a=>a.1<=r.length/\R=qGM b a.2 (r.drop a.1)/\a.2∈x0::r) (fun a=>⟨zA 35 [(2,.p (.fn g)),(3,.ptr 3 0),(6,.ptr 6 0),(7,.ptr 7 0),(19,.p (.sl 9 (r.map Val.enc))),(20,.p (.int .i64 r.length)),(21,.p (.int .i64 a.1))],[],[(3,.vars 61 [.p (.int .u64 m)]),(6,.vars 31 [.p (.int .i64 0),.p (.int .u64 0),.p (.bool false),.p (.str []),.p (.int .i64 0),.p (.str []),.nilsl,.nilsl,.p (.int .i64 0)]),(7,.vars 31 a.2.cells)],0⟩) (fun a=>r.length-a.1) ((0,x0)) ⟨by simp,by simp[hRe],by simp⟩ ⟨qE (by simp[htake]),rfl,by simp,by simp⟩ ?_
 rintro⟨k,x⟩ ⟨hk,hs,hx⟩
 simp only at hk hs hx
 refine rgn [] [[]] ?_
 refine op3 ?_
 refine qA (AW.seq (cnd ?_ ?_))
 ·intro h22
  try simp at h22
  obtain⟨v,hv⟩:∃ v,r[k]?=some v:=⟨r[k]'(by omega),by simp[show k<r.length by omega]⟩
  have hvm:v∈x0::r:=List.mem_cons_of_mem _ (List.mem_of_getElem? hv)
  have hgv:=hg v hvm x hx
  have hdr:r.drop k=v::r.drop (k+1):=by
   obtain⟨h1,h2⟩:=List.getElem?_eq_some_iff.1 hv
   rw[List.drop_eq_getElem_cons h1,h2]
  have hst:qGM b x (r.drop k)=qGM b (if b v x=true then v else x) (r.drop (k+1)):=by rw[hdr];rfl
  generalize b v x=bv at *
  simp only[Val.enc_def]at hgv
  refine AW.skip (AW.seq (AW.block (rgn [v.enc] [[],[],[],[2,3,6,7,9,19,20,21]] ?_)))
  iterate 4 refine op3 ?_ (hv:=by first|exact True.intro|(simp[hv];done)|(simp[hv];omega);done|omega|simp)
  refine qA (rgn [.nilp,.bool bv] [[],[],[],[2,3,6,7,9,19,20,21,28]] ?_)
  iterate 4 refine oq1 tok hgv ?_
  refine qA (cnd ?_ ?_)
  ·intro h28
   try simp at h28
   rw[if_pos h28]at hst
   refine rgz [] [[],[2,3,6,7,19,20,21]] ?_
   iterate 2 refine op3 ?_
   refine qA (rgz [] [[],[2,3,6,7,19,20,21]] ?_)
   iterate 2 refine op3 ?_
   refine qA ?_
   exact⟨(k+1,v),⟨by simp only;omega,hs.trans hst,hvm⟩,by simp only;omega,qE (by simp),rfl,by simp,by simp⟩
  intro h28
  try simp at h28
  rw[if_neg (by simp[h28])]at hst
  refine AW.skip (rgz [] [[],[2,3,6,7,19,20,21]] ?_)
  iterate 2 refine op3 ?_
  refine qA ?_
  exact⟨(k+1,x),⟨by simp only;omega,hs.trans hst,hx⟩,by simp only;omega,qE (by simp),rfl,by simp,by simp⟩
 intro h22
 try simp at h22
 obtain rfl:k=r.length:=by omega
 rw[List.drop_length]at hs
 have hs2:R=x:=hs
 subst hs2
 have hwR:=hw R hx
 simp only[Val.enc_def]at hwR
 refine AW.exit ?_
 simp
 refine rgn [.nilp,(qEV R m).enc] [[],[],[],[6,34],[6]] ?_
 iterate 5 refine op3 ?_ (hv:=by first|exact True.intro|exact hwR|(simp at hwR ⊢; exact hwR);done|omega|simp)
 exact qA (AW.ret qI)
theorem zOG (arg:List UInt8) (v:Val) (m:Int) (hn:v.kids.length<=1000000) (hm:qAH v.kids) (hf:∀ k∈uqV (srt leV v.kids),Few k) (hu:(uqV (srt leV v.kids)).length<=1000000):AFn Tryz.prog G 46 [.agg [.int .u64 m],.str [117,110,105,113,117,101],.str arg,v.enc] ((if v.kind=6 then yE (uqV (srt leV v.kids)) m else qQ 40 m).enc):=by
 refine AFn.introU tok Tryz.func46 (by kernel_rfl) rfl rfl ?_
 simp only[Tryz.f46,qG,List.map_cons,List.map_nil]
 have hfa:=zT (G:=G) 40 m
 have hc:=jW (G:=G) v.kids (by omega)
 have hs:=qZL (G:=G) v.kids hn hm
 have hq:=zUH (G:=G) 85 (srt leV v.kids) (fun a b ha hb=>zKU a b ha hb) (by rw[vC];exact hn) (qJK hm)
 have hq2:=AX.ren 890 891 hq (by kernel_rfl)
 simp[V.ren,qNV,Box.ren]at hq2
 have hl:=qCU (G:=G) (uqV (srt leV v.kids)) m hf hu
 unfold zN at hs hq2
 generalize yE (uqV (srt leV v.kids)) m=W at *
 generalize uqV (srt leV v.kids)=U at *
 generalize srt leV v.kids=S at *
 simp only[Val.enc_def]at hfa hl
 refine rgn [] [[],[],[1,2,4,7,8]] ?_
 iterate 3 refine op3 ?_
 refine qA (AW.seq (rgn [] [[],[],[1,2,4,7,8,12]] ?_))
 iterate 3 refine op3 ?_
 refine qA (cnd ?_ ?_)
 ·intro h12
  try simp at h12
  rw[if_neg (by simpa using h12)]
  refine rgn [.nilp,(qQ 40 m).enc] [[],[],[8]] ?_
  iterate 3 refine oq1 tok hfa ?_
  exact qA (AW.ret qI)
 intro h12
 try simp at h12
 rw[if_pos (by simpa using h12)]
 refine AW.skip (rgn [.nilf,.sl 9 (v.kids.map Val.enc),.clo 31 []] [[],[],[],[1,2,4,8,9]] ?_)
 iterate 4 refine oq1 tok hc ?_
 refine qA (AW.seq (rgn [] [[]] ?_))
 refine op3 ?_
 refine qA (AW.block (rgn [] [[],[1,2,4,8,9,18,19]] ?_))
 iterate 2 refine op3 ?_
 refine qA (cnd ?_ ?_)
 ·intro h19
  try simp at h19
 intro h19
 try simp at h19
 refine rgn [] [[],[1,2,4,8,9,18,26]] ?_
 iterate 2 refine op3 ?_
 refine qA (cnd ?_ ?_)
 ·intro h26
  try simp at h26
  refine AW.renE 17 890 (by simp) (by conv=>lhs;simp) ?_
  refine rgn [] [[]] ?_
  refine op3 ?_
  refine qJ ?_
  refine qB.stepK [4,8,9] (zF rfl hs (by simp)) (by conv=>lhs;simp) rfl ?_
  refine qB.nil ?_
  refine AW.seqDrawR mixed 4 [[4],[9],[31],[30,32]] [] (by kernel_rfl) ?_
  refine qS.o0 tok (k := ?_)
  refine qS.q [890] (.ms 890) rfl (qDL tok (orc:=[]) (orc':=[]) (v:=True) (by conv=>lhs;simp) trivial) (by simp) (by kernel_rfl) (by conv=>lhs;simp) ?_
  refine qS.call [891] hq2 rfl rfl (by simp) (by simp) (by simp) (by simp) (by simp) (by first|(simp;done)|(simp;omega)) (by first|(simp;done)|(simp;omega)) (by kernel_rfl) (by conv=>lhs;simp) ?_
  refine qS.callZ [(891,.row 31 9 (U.map Val.enc))] hl rfl rfl rfl trivial (by simp) (by simp) (by kernel_rfl) (by simp) (by kernel_rfl) (by kernel_rfl) (by conv=>lhs;simp) ?_
  refine qS.nil (by kernel_rfl) ⟨by kernel_rfl, ?_⟩
  refine qB.run [[8]] ?_
  refine op3 ?_
  exact qA (AW.ret qI)
 intro h26
 try simp at h26
theorem zTL (arg:List UInt8) (v:Val) (m:Int) (hn:v.kids.length<=1000000) (hm:qAH v.kids):AFn Tryz.prog G 46 [.agg [.int .u64 m],.str [109,105,110],.str arg,v.enc] ((if v.kind=6 then qBM (fun a b=>decide (wT a b<0)) v.kids m else qQ 40 m).enc):=by
 refine AFn.introU tok Tryz.func46 (by kernel_rfl) rfl rfl ?_
 simp only[Tryz.f46,qG,List.map_cons,List.map_nil]
 have hfa:=zT (G:=G) 40 m
 have hc:=jW (G:=G) v.kids (by omega)
 have hb:=zAV (G:=G) 88 (fun a b=>decide (wT a b<0)) v.kids m (fun a ha b hb=>zKT a b (hm a ha) (hm b hb)) hn hm
 generalize qBM (fun a b=>decide (wT a b<0)) v.kids m=W at *
 simp only[Val.enc_def]at hfa hb
 refine rgn [] [[],[],[1,2,4,7,8]] ?_
 iterate 3 refine op3 ?_
 refine qA (AW.seq (rgn [] [[],[],[1,2,4,7,8,12]] ?_))
 iterate 3 refine op3 ?_
 refine qA (cnd ?_ ?_)
 ·intro h12
  try simp at h12
  rw[if_neg (by simpa using h12)]
  refine rgn [.nilp,(qQ 40 m).enc] [[],[],[8]] ?_
  iterate 3 refine oq1 tok hfa ?_
  exact qA (AW.ret qI)
 intro h12
 try simp at h12
 rw[if_pos (by simpa using h12)]
 refine AW.skip (rgn [.nilf,.sl 9 (v.kids.map Val.enc),.clo 31 []] [[],[],[],[1,2,4,8,9]] ?_)
 iterate 4 refine oq1 tok hc ?_
 refine qA (AW.seq (rgn [] [[]] ?_))
 refine op3 ?_
 refine qA (AW.block (rgn [] [[],[1,2,4,8,9,18,19]] ?_))
 iterate 2 refine op3 ?_
 refine qA (cnd ?_ ?_)
 ·intro h19
  try simp at h19
 intro h19
 try simp at h19
 refine rgn [] [[],[1,2,4,8,9,18,26]] ?_
 iterate 2 refine op3 ?_
 refine qA (cnd ?_ ?_)
 ·intro h26
  try simp at h26
 intro h26
 try simp at h26
 refine rgn [] [[],[1,2,4,8,9,18,34]] ?_
 iterate 2 refine op3 ?_
 refine qA (cnd ?_ ?_)
 ·intro h34
  try simp at h34
 intro h34
 try simp at h34
 refine rgn [] [[],[1,2,4,8,9,18,39]] ?_
 iterate 2 refine op3 ?_
 refine qA (cnd ?_ ?_)
 ·intro h39
  try simp at h39
  refine AW.freezeE 17 (by conv=>lhs;simp) ?_
  refine rgn [.nilp,W.enc] [[],[],[8,43],[8]] ?_
  iterate 4 refine oq1 tok hb ?_
  exact qA (AW.ret qI)
 intro h39
 try simp at h39
theorem zTM (arg:List UInt8) (v:Val) (m:Int) (hn:v.kids.length<=1000000) (hm:qAH v.kids):AFn Tryz.prog G 46 [.agg [.int .u64 m],.str [109,97,120],.str arg,v.enc] ((if v.kind=6 then qBM (fun a b=>decide (0<wT a b)) v.kids m else qQ 40 m).enc):=by
 refine AFn.introU tok Tryz.func46 (by kernel_rfl) rfl rfl ?_
 simp only[Tryz.f46,qG,List.map_cons,List.map_nil]
 have hfa:=zT (G:=G) 40 m
 have hc:=jW (G:=G) v.kids (by omega)
 have hb:=zAV (G:=G) 89 (fun a b=>decide (0<wT a b)) v.kids m (fun a ha b hb=>zKS a b (hm a ha) (hm b hb)) hn hm
 generalize qBM (fun a b=>decide (0<wT a b)) v.kids m=W at *
 simp only[Val.enc_def]at hfa hb
 refine rgn [] [[],[],[1,2,4,7,8]] ?_
 iterate 3 refine op3 ?_
 refine qA (AW.seq (rgn [] [[],[],[1,2,4,7,8,12]] ?_))
 iterate 3 refine op3 ?_
 refine qA (cnd ?_ ?_)
 ·intro h12
  try simp at h12
  rw[if_neg (by simpa using h12)]
  refine rgn [.nilp,(qQ 40 m).enc] [[],[],[8]] ?_
  iterate 3 refine oq1 tok hfa ?_
  exact qA (AW.ret qI)
 intro h12
 try simp at h12
 rw[if_pos (by simpa using h12)]
 refine AW.skip (rgn [.nilf,.sl 9 (v.kids.map Val.enc),.clo 31 []] [[],[],[],[1,2,4,8,9]] ?_)
 iterate 4 refine oq1 tok hc ?_
 refine qA (AW.seq (rgn [] [[]] ?_))
 refine op3 ?_
 refine qA (AW.block (rgn [] [[],[1,2,4,8,9,18,19]] ?_))
 iterate 2 refine op3 ?_
 refine qA (cnd ?_ ?_)
 ·intro h19
  try simp at h19
 intro h19
 try simp at h19
 refine rgn [] [[],[1,2,4,8,9,18,26]] ?_
 iterate 2 refine op3 ?_
 refine qA (cnd ?_ ?_)
 ·intro h26
  try simp at h26
 intro h26
 try simp at h26
 refine rgn [] [[],[1,2,4,8,9,18,34]] ?_
 iterate 2 refine op3 ?_
 refine qA (cnd ?_ ?_)
 ·intro h34
  try simp at h34
 intro h34
 try simp at h34
 refine rgn [] [[],[1,2,4,8,9,18,39]] ?_
 iterate 2 refine op3 ?_
 refine qA (cnd ?_ ?_)
 ·intro h39
  try simp at h39
 intro h39
 try simp at h39
 refine rgn [] [[],[1,2,4,8,9,18,44]] ?_
 iterate 2 refine op3 ?_
 refine qA (cnd ?_ ?_)
 ·intro h44
  try simp at h44
  refine AW.freezeE 17 (by conv=>lhs;simp) ?_
  refine rgn [.nilp,W.enc] [[],[],[8,48],[8]] ?_
  iterate 4 refine oq1 tok hb ?_
  exact qA (AW.ret qI)
 intro h44
 try simp at h44
theorem zOI (arg:List UInt8) (v:Val) (m:Int) (hn:v.kids.length<=1000000) (hm:qAH v.kids) (hf:∀ k∈v.kids,Few k):AFn Tryz.prog G 46 [.agg [.int .u64 m],.str [115,111,114,116],.str arg,v.enc] ((if v.kind=6 then yE (srt leV v.kids) m else qQ 40 m).enc):=by
 refine AFn.introU tok Tryz.func46 (by kernel_rfl) rfl rfl ?_
 simp only[Tryz.f46,qG,List.map_cons,List.map_nil]
 have hfa:=zT (G:=G) 40 m
 have hc:=jW (G:=G) v.kids (by omega)
 have hs:=qZL (G:=G) v.kids hn hm
 have hl:=qCU (G:=G) (srt leV v.kids) m (fun k hk=>hf k (qDP.1 hk)) (by rw[vC];exact hn)
 unfold zN at hs
 generalize yE (srt leV v.kids) m=W at *
 generalize srt leV v.kids=S at *
 simp only[Val.enc_def]at hfa hl
 refine rgn [] [[],[],[1,2,4,7,8]] ?_
 iterate 3 refine op3 ?_
 refine qA (AW.seq (rgn [] [[],[],[1,2,4,7,8,12]] ?_))
 iterate 3 refine op3 ?_
 refine qA (cnd ?_ ?_)
 ·intro h12
  try simp at h12
  rw[if_neg (by simpa using h12)]
  refine rgn [.nilp,(qQ 40 m).enc] [[],[],[8]] ?_
  iterate 3 refine oq1 tok hfa ?_
  exact qA (AW.ret qI)
 intro h12
 try simp at h12
 rw[if_pos (by simpa using h12)]
 refine AW.skip (rgn [.nilf,.sl 9 (v.kids.map Val.enc),.clo 31 []] [[],[],[],[1,2,4,8,9]] ?_)
 iterate 4 refine oq1 tok hc ?_
 refine qA (AW.seq (rgn [] [[]] ?_))
 refine op3 ?_
 refine qA (AW.block (rgn [] [[],[1,2,4,8,9,18,19]] ?_))
 iterate 2 refine op3 ?_
 refine qA (cnd ?_ ?_)
 ·intro h19
  try simp at h19
  refine AW.renE 17 890 (by simp) (by conv=>lhs;simp) ?_
  refine rgn [] [[]] ?_
  refine op3 ?_
  refine qJ ?_
  refine qB.stepK [4,8,9] (zF rfl hs (by simp)) (by conv=>lhs;simp) rfl ?_
  refine qB.nil ?_
  refine AW.freezeE 890 (by conv=>lhs;simp) ?_
  refine rgn [.nilp,W.enc] [[],[],[8,25],[8]] ?_
  iterate 4 refine op3 ?_ (hv:=by first|exact True.intro|exact hl|(simp at hl ⊢; exact hl);done|omega|simp)
  exact qA (AW.ret qI)
 intro h19
 try simp at h19
def qPR {α:Type} (d:α) (l:List α) (k:Nat):List α:=(List.range l.length).map fun i=>if i<k\/l.length-k<=i then l.getD (l.length-1-i) d else l.getD i d
theorem qCQ {α:Type} {d:α} (l:List α) (k:Nat):(qPR d l k).length=l.length:=by simp[qPR]
theorem qCR {α:Type} {d:α} (l:List α) (k:Nat) {i:Nat} (h:i<l.length):(qPR d l k)[i]?=some (if i<k\/l.length-k<=i then l.getD (l.length-1-i) d else l.getD i d):=by
 simp[qPR,h]
theorem zJW {α:Type} {d:α} (l:List α):qPR d l 0=l:=by
 apply List.ext_getElem?
 intro i
 by_cases h:i<l.length
 ·rw[qCR l 0 h,if_neg (by omega),List.getD_eq_getElem?_getD,List.getElem?_eq_getElem h];rfl
 rw[List.getElem?_eq_none (by rw[qCQ];omega),List.getElem?_eq_none (by omega)]
theorem zNN {α:Type} {d:α} (l:List α) {k:Nat} (h:l.length<=2 * k+1):qPR d l k=l.reverse:=by
 apply List.ext_getElem?
 intro i
 by_cases hi:i<l.length
 ·rw[qCR l k hi,List.getElem?_reverse hi]
  have h1:l[l.length-1-i]?=some (l[l.length-1-i]'(by omega)):=List.getElem?_eq_getElem _
  rw[h1]
  congr 1
  split
  ·rw[List.getD_eq_getElem?_getD,h1];rfl
  have h2:l[i]?=some (l[l.length-1-i]'(by omega)):=by rw[<-h1];congr 1;omega
  rw[List.getD_eq_getElem?_getD,h2];rfl
 rw[List.getElem?_eq_none (by rw[qCQ];omega),List.getElem?_eq_none (by rw[List.length_reverse];omega)]
theorem zJX {α:Type} {d:α} (l:List α) {k:Nat} (h:2 * k+1<l.length):((qPR d l k).set k (l.getD (l.length-1-k) d)).set (l.length-1-k) (l.getD k d)=qPR d l (k+1):=by
 apply List.ext_getElem?
 intro i
 by_cases hi:i<l.length
 ·rw[qCR l (k+1) hi,List.getElem?_set,List.getElem?_set]
  simp only[List.length_set,qCQ]
  by_cases h1:l.length-1-k=i
  ·subst h1
   rw[if_pos rfl,if_pos (by omega),if_pos (.inr (by omega)),show l.length-1-(l.length-1-k)=k by omega]
  rw[if_neg h1]
  by_cases h2:k=i
  ·subst h2
   rw[if_pos rfl,if_pos (by omega),if_pos (.inl (by omega))]
  rw[if_neg h2,qCR l k hi]
  congr 1
  by_cases h3:i<k\/l.length-k<=i
  ·rw[if_pos h3,if_pos (by omega)]
  rw[if_neg h3,if_neg (by omega)]
 rw[List.getElem?_eq_none (by simp[qCQ];omega),List.getElem?_eq_none (by rw[qCQ];omega)]
theorem zTC (l:List Val) (hl:l.length<=1000000):AX Tryz.prog G 39 [.ms 890] [(890,.row 31 9 (l.map Val.enc))] (.tuple []) [890] [(890,.row 31 9 (l.reverse.map Val.enc))]:=by
 refine AX.introU tok 700 Tryz.func39 (by kernel_rfl) rfl rfl ?_
 simp only[Tryz.f39,qG,List.map_cons,List.map_nil]
 refine rgn [] [[],[],[],[],[0,2,3]] ?_
 iterate 5 refine op3 ?_
 refine qA (AW.block ?_)
 refine AW.loop (α:=Nat) (fun k=>k<=l.length) (fun k=>⟨zA 28 [(0,.ms 890),(2,.p (.int .i64 k)),(3,.p (.int .i64 ((l.length:Int)-1-k)))],[890],[(890,.row 31 9 ((qPR jG l k).map Val.enc))],700⟩) (fun k=>l.length-k) (0) (by omega) ⟨qE (by simp),rfl,by simp[zJW],by simp⟩ ?_
 rintro k hk
 have hlen:=qCQ (d:=jG) l k
 refine AW.seq (rgn [] [[],[],[0,2,3,9]] ?_)
 iterate 3 refine op3 ?_
 refine qA (cnd ?_ ?_)
 ·intro h9
  try simp at h9
  have h2:2 * k+1<l.length:=by omega
  have g1:=qCR (d:=jG) l k (i:=k) (by omega)
  have g2:=qCR (d:=jG) l k (i:=l.length-1-k) (by omega)
  rw[if_neg (by omega)]at g1 g2
  have hst:=zJX (d:=jG) l h2
  generalize l.getD k jG=x at *
  generalize l.getD (l.length-1-k) jG=y at *
  generalize qPR jG l k=R at *
  have hix:((l.length:Int)-1-k).toNat=l.length-1-k:=by omega
  have b1:(R.map Val.enc)[k]?=some x.enc:=by rw[List.getElem?_map,g1];rfl
  have b2:(R.map Val.enc)[l.length-1-k]?=some y.enc:=by rw[List.getElem?_map,g2];rfl
  have b3:((R.map Val.enc).set k y.enc)[l.length-1-k]?=some y.enc:=by rw[List.getElem?_set_ne (by omega)];exact b2
  have hst2:((R.map Val.enc).set k y.enc).set (l.length-1-k) x.enc=(qPR jG l (k+1)).map Val.enc:=by rw[<-hst,List.map_set,List.map_set]
  simp only[Val.enc_def]at b1 b2 b3 hst2
  refine AW.skip (AW.seq (AW.block ?_))
  refine AW.drawR mixed 14 [[0],[2],[0],[3],[0],[3],[18,19],[20],[0],[2],[22,23],[24],[14,15],[26,21]] [y.enc,x.enc] (by kernel_rfl) ?_
  iterate 2 refine qS.o0 tok (hv:=by first|exact True.intro|exact⟨y,g2,rfl,rfl,rfl,rfl,rfl,rfl,rfl,rfl,rfl⟩|exact⟨x,g1,rfl,rfl,rfl,rfl,rfl,rfl,rfl,rfl,rfl⟩|(simp[b1,b2,hix,hlen];done)|(simp[b1,b2,hix,hlen];omega);done|omega|simp) (k := ?_)
  refine qS.q [890] (.ms 890) rfl (qDL tok (orc:=[]) (orc':=[]) (v:=True) (by conv=>lhs;simp) trivial) (by simp) (by kernel_rfl) (by conv=>lhs;simp) ?_
  iterate 4 refine qS.o0 tok (hv:=by first|exact True.intro|exact⟨y,g2,rfl,rfl,rfl,rfl,rfl,rfl,rfl,rfl,rfl⟩|exact⟨x,g1,rfl,rfl,rfl,rfl,rfl,rfl,rfl,rfl,rfl⟩|(simp[b1,b2,hix,hlen];done)|(simp[b1,b2,hix,hlen];omega);done|omega|simp) (k := ?_)
  refine qS.o1 tok (orc:=[y.enc]) (hv:=by first|exact True.intro|exact⟨y,g2,rfl,rfl,rfl,rfl,rfl,rfl,rfl,rfl,rfl⟩|exact⟨x,g1,rfl,rfl,rfl,rfl,rfl,rfl,rfl,rfl,rfl⟩|(simp[b1,b2,hix,hlen];done)|(simp[b1,b2,hix,hlen];omega);done|omega|simp) (k := ?_)
  iterate 3 refine qS.o0 tok (hv:=by first|exact True.intro|exact⟨y,g2,rfl,rfl,rfl,rfl,rfl,rfl,rfl,rfl,rfl⟩|exact⟨x,g1,rfl,rfl,rfl,rfl,rfl,rfl,rfl,rfl,rfl⟩|(simp[b1,b2,hix,hlen];done)|(simp[b1,b2,hix,hlen];omega);done|omega|simp) (k := ?_)
  refine qS.o1 tok (orc:=[x.enc]) (hv:=by first|exact True.intro|exact⟨y,g2,rfl,rfl,rfl,rfl,rfl,rfl,rfl,rfl,rfl⟩|exact⟨x,g1,rfl,rfl,rfl,rfl,rfl,rfl,rfl,rfl,rfl⟩|(simp[b1,b2,hix,hlen];done)|(simp[b1,b2,hix,hlen];omega);done|omega|simp) (k := ?_)
  refine qS.o0 tok (hv:=by first|exact True.intro|exact⟨y,g2,rfl,rfl,rfl,rfl,rfl,rfl,rfl,rfl,rfl⟩|exact⟨x,g1,rfl,rfl,rfl,rfl,rfl,rfl,rfl,rfl,rfl⟩|(simp[b1,b2,hix,hlen];done)|(simp[b1,b2,hix,hlen];omega);done|omega|simp) (k := ?_)
  refine qS.o1 tok (orc:=[x.enc,y.enc]) (hv:=by first|exact True.intro|exact⟨y,g2,rfl,rfl,rfl,rfl,rfl,rfl,rfl,rfl,rfl⟩|exact⟨x,g1,rfl,rfl,rfl,rfl,rfl,rfl,rfl,rfl,rfl⟩|(simp[b1,b2,hix,hlen];done)|(simp[b1,b2,hix,hlen];omega);done|omega|simp) (k := ?_)
  refine qS.nil (by kernel_rfl) ⟨by kernel_rfl, ?_⟩
  refine qB.run [[],[0,2,3]] ?_
  iterate 2 refine op3 ?_ (hv:=by first|exact True.intro|(simp[b1,b2,b3,hix,hlen];done)|(simp[b1,b2,b3,hix,hlen];omega);done|omega|simp)
  refine qA (rgz [] [[],[],[],[0,11,13],[],[0,2,3]] ?_)
  iterate 6 refine op3 ?_
  refine qA ?_
  exact⟨k+1,by omega,by omega,qE (by simp[hix,hst2,show(l.length:Int)-1-k-1=l.length-1-(k+1) from by omega]),rfl,by simp[hix,hst2,show(l.length:Int)-1-k-1=l.length-1-(k+1) from by omega],by simp[hix,hst2,show(l.length:Int)-1-k-1=l.length-1-(k+1) from by omega]⟩
 intro h9
 try simp at h9
 have hall:=zNN (d:=jG) l (k:=k) (by omega)
 rw[<-hall]
 refine AW.exit ?_
 simp
 exact qBY
end Go.Proofs.YtgcbapchinideaaGreatDoor
