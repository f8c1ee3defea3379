import Derived.Test.YtgcbapchinideaaGreatDoorSRefSort
namespace Go.Proofs.YtgcbapchinideaaGreatDoor
open Sy Go
set_option maxRecDepth 100000
set_option maxHeartbeats 4000000
set_option linter.unusedSimpArgs false
set_option linter.unusedVariables false
variable {G:qK}
theorem qJR:∀ {l m:List (List UInt8)},zA zT l m=0→l=m
 | [],[],_=>rfl
 | [],_::_,h=>by simp [zA] at h
 | _::_,[],h=>by simp [zA] at h
 | x::l,y::m,h=>by
  simp only [zA] at h
  split at h
  ·omega
  rename_i h0
  have e:x=y:=by
   have h1:zT x y=0:=by omega
   unfold zT at h1
   split at h1
   ·omega
   split at h1
   ·assumption
   omega
  rw [e,qJR h]
theorem qSA (s t:List UInt8):AFn Tryz.prog G 19 [(qFF s).enc,(qFF t).enc] (.int .i64 (zT s t)):=by
 refine AFn.introU tok Tryz.func19 (by kernel_rfl) rfl rfl ?_
 simp only [Tryz.f19,qH,List.map_cons,List.map_nil]
 simp only [Val.enc_def,qFF,Val.kind_mk,Val.mask_mk,Val.num_mk,Val.text_mk,Val.keys_mk,Val.kids_mk,Val.code_mk,dc0,List.map_nil]
 refine rgn [] [[],[],[2,3]] ?_
 iterate 3 refine op1 tok ?_
 refine qA (AW.seq (rgn [] [[],[],[],[],[2,3,19]] ?_))
 iterate 5 refine op1 tok ?_
 refine qA (cnd ?_ ?_)
 ·intro h19
  try simp at h19
 intro h19
 try simp at h19
 refine AW.skip (AW.seq (rgn [] [[],[2,3,26]] ?_))
 iterate 2 refine op1 tok ?_
 refine qA (AW.block (rgn [] [[],[2,3,26,27]] ?_))
 iterate 2 refine op1 tok ?_
 refine qA (cnd ?_ ?_)
 ·intro h27
  try simp at h27
 intro h27
 try simp at h27
 refine rgn [] [[],[2,3,26,34]] ?_
 iterate 2 refine op1 tok ?_
 refine qA (cnd ?_ ?_)
 ·intro h34
  try simp at h34
  have hx:True:=trivial
  refine AW.seq (rgn [] [[],[],[],[],[2,3,40]] ?_)
  iterate 5 refine op1 tok ?_
  refine qA (cnd ?_ ?_)
  ·intro h40
   try simp at h40
   have hR:zT s t = -1:=by unfold zT; rw [if_pos h40]
   refine rgn [] [[]] ?_
   refine op1 tok ?_
   refine qA ?_
   exact AW.ret (qG (k:=by simp [hR]))
  intro h40
  try simp at h40
  refine AW.skip (AW.seq (rgn [] [[],[],[],[42,44],[45]] ?_))
  iterate 5 refine op1 tok ?_
  refine qA (cnd ?_ ?_)
  ·intro h45
   try simp at h45
   have hR:zT s t=1:=by unfold zT; rw [if_neg (by simp [h45.1]),if_neg h45.2]
   refine rgn [] [[]] ?_
   refine op1 tok ?_
   refine qA ?_
   exact AW.ret (qG (k:=by simp [hR]))
  intro h45
  try simp at h45
  have hR:zT s t=0:=by
   unfold zT; rw [if_neg (by simp [h40]),if_pos (h45 h40)]
  refine AW.skip (rgn [] [[]] ?_)
  refine op1 tok ?_
  refine qA ?_
  exact AW.ret (qG (k:=by simp [hR]))
 intro h34
 try simp at h34
theorem qGP (f:Nat) (a b:Val) (ha:zC a=true) (hb:zC b=true) (ih:∀ x∈a.kids, ∀ y∈b.kids,AFn Tryz.prog G 19 [x.enc,y.enc] (.int .i64 (zY f x y))):AFn Tryz.prog G 19 [a.enc,b.enc] (.int .i64 (zY (f+1) a b)):=by
 refine AFn.introU tok Tryz.func19 (by kernel_rfl) rfl rfl ?_
 simp only [Tryz.f19,qH,List.map_cons,List.map_nil]
 have hsa:=xZ ha
 have hsb:=xZ hb
 have hR:=vA f a b
 refine rgn [] [[],[],[2,3]] ?_
 iterate 3 refine op1 tok ?_
 refine qA (AW.seq (rgn [] [[],[],[],[],[2,3,19]] ?_))
 iterate 5 refine op1 tok ?_
 refine qA (cnd ?_ ?_)
 ·intro h19
  try simp at h19
  have hR:zY (f+1) a b=wX a.kind b.kind:=by rw [hR,if_pos]; intro e; exact h19 (uX e)
  refine AW.seq (rgn [] [[],[],[],[21,23],[24]] ?_)
  iterate 5 refine op1 tok ?_
  refine qA (cnd ?_ ?_)
  ·intro h24
   try simp at h24
   rw [qHQ h24] at hR
   refine rgn [] [[]] ?_
   refine op1 tok ?_
   refine qA ?_
   exact AW.ret (qG (k:=by simp [hR]))
  intro h24
  try simp at h24
  rw [qHR (by omega)] at hR
  refine AW.skip (rgn [] [[]] ?_)
  refine op1 tok ?_
  refine qA ?_
  exact AW.ret (qG (k:=by simp [hR]))
 intro h19
 try simp at h19
 have hkd:a.kind=b.kind:=by simpa using h19
 rw [← hkd,uY,if_neg (by simp),xI] at hR
 refine AW.skip (AW.seq (rgn [] [[],[2,3,26]] ?_))
 iterate 2 refine op1 tok ?_
 refine qA (AW.block (rgn [] [[],[2,3,26,27]] ?_))
 iterate 2 refine op1 tok ?_
 refine qA (cnd ?_ ?_)
 ·intro h27
  try simp at h27
  have hnum:=qSB (G:=G) a.num b.num (qCP ha h27) (qCP hb (by omega))
  rw [if_pos h27] at hR
  refine rgn [.nilp,.int .i64 (xU a.num b.num)] [[],[],[],[30,32],[],[4]] ?_
  iterate 6 refine op1 tok ?_ (hv:=by first | with_reducible exact True.intro | ((simp at hnum ⊢; exact hnum); done) | omega | simp | (simp +contextual; omega))
  refine qA ?_
  exact AW.ret (qG (k:=by simp [hR]))
 intro h27
 try simp at h27
 rw [if_neg h27] at hR
 refine rgn [] [[],[2,3,26,34]] ?_
 iterate 2 refine op1 tok ?_
 refine qA (cnd ?_ ?_)
 ·intro h34
  try simp at h34
  rw [if_pos h34,xO,← qNY] at hR
  refine AW.seq (rgn [] [[],[],[],[],[2,3,40]] ?_)
  iterate 5 refine op1 tok ?_
  refine qA (cnd ?_ ?_)
  ·intro h40
   try simp at h40
   rw [show zT a.text b.text = -1 by unfold zT; rw [if_pos h40]] at hR
   refine rgn [] [[]] ?_
   refine op1 tok ?_
   refine qA ?_
   exact AW.ret (qG (k:=by simp [hR]))
  intro h40
  try simp at h40
  refine AW.skip (AW.seq (rgn [] [[],[],[],[42,44],[45]] ?_))
  iterate 5 refine op1 tok ?_
  refine qA (cnd ?_ ?_)
  ·intro h45
   try simp at h45
   rw [show zT a.text b.text=1 by unfold zT; rw [if_neg (by simp [h45.1]),if_neg h45.2]] at hR
   refine rgn [] [[]] ?_
   refine op1 tok ?_
   refine qA ?_
   exact AW.ret (qG (k:=by simp [hR]))
  intro h45
  try simp at h45
  rw [show zT a.text b.text=0 by unfold zT; rw [if_neg (by simp [h40]),if_pos (h45 h40)]] at hR
  refine AW.skip (rgn [] [[]] ?_)
  refine op1 tok ?_
  refine qA ?_
  exact AW.ret (qG (k:=by simp [hR]))
 intro h34
 try simp at h34
 rw [if_neg h34] at hR
 refine rgn [] [[],[2,3,26,46]] ?_
 iterate 2 refine op1 tok ?_
 refine qA (cnd ?_ ?_)
 ·intro h46
  try simp at h46
  rw [if_pos h46] at hR
  have hcl:=qJD (G:=G) a.kids b.kids (zY f) (by omega) ih
  refine rgn [.nilp,.int .i64 (zA (zY f) a.kids b.kids)] [[],[],[],[49,51],[],[4]] ?_
  iterate 6 refine oq1 tok hcl ?_
  refine qA ?_
  exact AW.ret (qG (k:=by simp [hR]))
 intro h46
 try simp at h46
 rw [if_neg h46] at hR
 refine rgn [] [[],[2,3,26,53]] ?_
 iterate 2 refine op1 tok ?_
 refine qA (cnd ?_ ?_)
 ·intro h53
  try simp at h53
  rw [if_pos h53] at hR
  refine AW.seq (rgn [] [[],[],[],[],[2,3,59]] ?_)
  iterate 5 refine op1 tok ?_
  refine qA (cnd ?_ ?_)
  ·intro h59
   try simp at h59
   rw [qHQ h59] at hR
   refine rgn [] [[]] ?_
   refine op1 tok ?_
   refine qA ?_
   exact AW.ret (qG (k:=by simp [hR]))
  intro h59
  try simp at h59
  refine AW.skip (AW.seq (rgn [] [[],[],[],[61,63],[64]] ?_))
  iterate 5 refine op1 tok ?_
  refine qA (cnd ?_ ?_)
  ·intro h64
   try simp at h64
   rw [qHR h64] at hR
   refine rgn [] [[]] ?_
   refine op1 tok ?_
   refine qA ?_
   exact AW.ret (qG (k:=by simp [hR]))
  intro h64
  try simp at h64
  rw [show wX a.code b.code=0 by rw [show a.code=b.code by omega,uY]] at hR
  refine AW.skip (rgn [] [[]] ?_)
  refine op1 tok ?_
  refine qA ?_
  exact AW.ret (qG (k:=by simp [hR]))
 intro h53
 try simp at h53
 rw [if_neg h53] at hR
 refine rgn [] [[],[2,3,65]] ?_
 iterate 2 refine op1 tok ?_
 refine qA (cnd ?_ ?_)
 ·intro h65
  try simp at h65
  rw [if_pos h65] at hR
  obtain ⟨oa1,oa2,oa3⟩:=vW ha h65
  obtain ⟨ob1,ob2,ob3⟩:=vW hb (by omega)
  have q1:=qIJ (G:=G) a.keys (by omega)
  have q2:=qIJ (G:=G) b.keys (by omega)
  have w1:=qOO (G:=G) (qR a.keys) (by rw [jQ]; omega)
  have w2:=qOO (G:=G) (qR b.keys) (by rw [jQ]; omega)
  have hc:=qJD (G:=G) ((qR a.keys).map qFF) ((qR b.keys).map qFF) (fun x y=>zT x.text y.text) (by rw [List.length_map,jQ]; omega) (fun x hx y hy=>by
   obtain ⟨s,_,rfl⟩:=List.mem_map.1 hx
   obtain ⟨t,_,rfl⟩:=List.mem_map.1 hy
   exact qSA s t)
  have hcm:zA (fun x y:Val=>zT x.text y.text) ((qR a.keys).map qFF) ((qR b.keys).map qFF)=zA zT (qR a.keys) (qR b.keys):=by rw [qJS]; rfl
  rw [hcm] at hc
  have hco:(zA zT (qR a.keys) (qR b.keys)=0)→qR a.keys=qR b.keys:=qJR
  have hma:∀ s∈qR a.keys,s∈a.keys:=fun s h=>qCH.1 h
  have hmb:∀ s∈qR b.keys,s∈b.keys:=fun s h=>qCH.1 h
  have hcl:=qJD (G:=G) (zU a) (zU b) (zY f) (by unfold zU; rw [List.length_map,jQ]; omega) (fun x hx y hy=>ih x (jR (by omega) hx) y (jR (by omega) hy))
  have hka:zU a=(qR a.keys).map (xE a):=rfl
  have hkb:zU b=(qR b.keys).map (xE b):=rfl
  have hxl:(qR a.keys).length≤200:=by rw [jQ]; omega
  generalize zA zT (qR a.keys) (qR b.keys)=c at *
  generalize qR a.keys=xs at *
  generalize qR b.keys=ys at *
  refine rgn [.nilp,.sl 1 (xs.map PD.str)] [[],[],[],[2,3,5]] ?_
  iterate 4 refine oq1 tok q1 ?_
  refine qA (rgn [.nilp,.sl 1 (ys.map PD.str)] [[],[],[],[2,3,5,6]] ?_)
  iterate 4 refine oq1 tok q2 ?_
  refine qA (rgn [.nilp,.sl 9 ((xs.map qFF).map Val.enc),.nilp,.sl 9 ((ys.map qFF).map Val.enc),.nilp,.int .i64 c] [[],[],[],[],[2,3,5,77],[2,3,5,7]] ?_)
  iterate 6 refine op1 tok ?_ (hv:=by first | with_reducible exact True.intro | (first | exact w1 | exact w2 | exact hc | (simp at w1 ⊢; exact w1) | (simp at w2 ⊢; exact w2) | (simp at hc ⊢; exact hc); done) | omega | simp | (simp +contextual; omega))
  refine qA (rgn [] [[],[2,3,5,7,8]] ?_)
  iterate 2 refine op1 tok ?_
  refine qA (rgn [] [[],[2,3,5,7,8,9]] ?_)
  iterate 2 refine op1 tok ?_
  refine qA (AW.seq (rgn [] [[]] ?_))
  refine op1 tok ?_
  refine qA (AW.block ?_)
  refine AW.loop (α:=Nat) (fun k=>k≤xs.length∧(c≠0→k=0)) (fun k=>⟨qS 122 [(2,.ptr 2 0),(3,.ptr 3 0),(5,.p (.sl 1 (xs.map PD.str))),(7,.p (.int .i64 c)),(8,.ms 78),(9,.ms 79),(10,.p (.int .i64 k))],[],[(2,.vars 31 a.cells),(3,.vars 31 b.cells),(78,.row 31 9 (((xs.take k).map (xE a)).map Val.enc)),(79,.row 31 9 (((xs.take k).map (xE b)).map Val.enc))],0⟩) (fun k=>xs.length-k) (0) ⟨by omega,fun _=>rfl⟩ ⟨qB (by simp),rfl,by simp,by simp⟩ ?_
  rintro k ⟨hk,hz⟩
  refine AW.seq (rgn [] [[],[],[],[],[2,3,5,7,8,9,10,84],[],[],[2,3,5,7,8,9,10,87]] ?_)
  iterate 5 refine op1 tok ?_
  iterate 2 refine op2 tok ?_
  refine op1 tok ?_
  refine qA (cnd ?_ ?_)
  ·intro h87
   try simp at h87
   have hc0:c=0:=by omega
   have hkl:k<xs.length:=by omega
   obtain ⟨s,hs⟩:∃ s,xs[k]?=some s:=⟨xs[k],by simp [hkl]⟩
   have k1:=qLI (G:=G) a s (by omega) (by omega)
   have k2:=qLI (G:=G) b s (by omega) (by omega)
   have i1:s∈a.keys:=hma s (List.mem_of_getElem? hs)
   have i2:s∈b.keys:=hmb s (by rw [← hco hc0]; exact List.mem_of_getElem? hs)
   rw [if_pos i1,decide_eq_true i1] at k1
   rw [if_pos i2,decide_eq_true i2] at k2
   generalize hu:xE a s=u at k1
   generalize hw:xE b s=w at k2
   simp only [Val.enc_def] at k1 k2
   refine AW.skip (AW.seq (AW.block ?_))
   refine AW.seqDrawS tok mixed 11 [[2],[5],[10],[92,93],[94],[91,95],[96],[90],[90],[],[11,97]] [.str s,.nilp,.tup [u.enc,.bool true]] [] (by kernel_rfl) ?_
   iterate 11 refine d1 ?_ (hv:=by first | with_reducible exact True.intro | (first | (simp [hs]; done) | exact k1; done) | omega | simp | (simp +contextual; omega))
   refine DGo.nil (by kernel_rfl) ⟨by kernel_rfl, ?_⟩
   refine qF.run [[2,3,5,7,8,9,10,11]] ?_
   refine op1 tok ?_
   refine qA ?_
   refine AW.seqDrawS tok mixed 11 [[3],[5],[10],[101,102],[103],[100,104],[105],[99],[99],[],[13,106]] [.str s,.nilp,.tup [w.enc,.bool true]] [] (by kernel_rfl) ?_
   iterate 11 refine d1 ?_ (hv:=by first | with_reducible exact True.intro | (first | (simp [hs]; done) | exact k2; done) | omega | simp | (simp +contextual; omega))
   refine DGo.nil (by kernel_rfl) ⟨by kernel_rfl, ?_⟩
   refine qF.run [[2,3,5,7,8,9,10,11,13]] ?_
   refine op1 tok ?_
   refine qA (rgn [u.enc] [[],[],[],[2,3,5,7,9,10,13,111],[2,3,5,7,8,9,10,13]] ?_)
   iterate 5 refine op1 tok ?_ (hv:=by first | with_reducible exact True.intro | ((simp; omega); done) | omega | simp | (simp +contextual; omega))
   refine qA (rgz [w.enc] [[],[],[],[2,3,5,7,8,10,115],[2,3,5,7,8,9,10]] ?_)
   iterate 5 refine op1 tok ?_ (hv:=by first | with_reducible exact True.intro | ((simp; omega); done) | omega | simp | (simp +contextual; omega))
   refine qA (rgz [] [[],[],[2,3,5,7,8,9,10]] ?_)
   iterate 3 refine op1 tok ?_
   refine qA ?_
   exact ⟨k+1,⟨by omega,fun h=>(h hc0).elim⟩,by omega,qB (by simp [List.take_add_one,hs,hu,hw]),rfl,by simp [List.take_add_one,hs,hu,hw],by simp [List.take_add_one,hs,hu,hw]⟩
  intro h87
  try simp at h87
  refine AW.exit ?_
  simp
  refine AW.seq (rgn [] [[],[7,8,9,117]] ?_)
  iterate 2 refine op1 tok ?_
  refine qA (cnd ?_ ?_)
  ·intro h117
   try simp at h117
   rw [if_pos h117] at hR
   refine rgn [] [[],[4]] ?_
   iterate 2 refine op1 tok ?_
   refine qA ?_
   exact AW.ret (qG (k:=by simp [hR]))
  intro h117
  try simp at h117
  rw [if_neg (by simp [h117])] at hR
  have hkx:k=xs.length:=by omega
  have hxy:=hco h117
  subst hkx
  subst hxy
  refine AW.skip ?_
  refine AW.seqRegionO [.nilp,.int .i64 (zA (zY f) (zU a) (zU b))] ?_
  refine qF.freeze 78 (by conv=>lhs; simp) ?_
  refine qF.freeze 79 (by conv=>lhs; simp) ?_
  refine qF.run [[],[],[121],[4]] ?_
  iterate 4 refine op1 tok ?_ (hv:=by first | with_reducible exact True.intro | ((rw [hka,hkb] at hcl ⊢; simp at hcl ⊢; rw [List.take_of_length_le (by simp),List.take_of_length_le (by simp)]; exact hcl); done) | omega | simp | (simp +contextual; omega))
  refine qA ?_
  exact AW.ret (qG (k:=by simp [hR]))
 intro h65
 try simp at h65
 rw [if_neg h65] at hR
 refine AW.skip (rgn [] [[]] ?_)
 refine op1 tok ?_
 refine qA ?_
 exact AW.ret (qG (k:=by simp [hR]))
theorem qIR:∀ (f:Nat) (a b:Val),zC a=true→zC b=true→Val.sz a≤f→AFn Tryz.prog G 19 [a.enc,b.enc] (.int .i64 (zY (f+1) a b))
 | 0,a,b,ha,hb,h=>qGP 0 a b ha hb fun x hx=>by have:=Val.sz_kid hx; omega
 | f+1,a,b,ha,hb,h=>qGP (f+1) a b ha hb fun x hx y hy=>qIR f x y (kO ha hx) (kO hb hy) (by have:=Val.sz_kid hx; omega)
theorem qCM (a b:Val) (ha:zC a=true) (hb:zC b=true):AFn Tryz.prog G 19 [a.enc,b.enc] (.int .i64 (zD a b)):=qIR _ a b ha hb (Nat.le_refl _)
end Go.Proofs.YtgcbapchinideaaGreatDoor
