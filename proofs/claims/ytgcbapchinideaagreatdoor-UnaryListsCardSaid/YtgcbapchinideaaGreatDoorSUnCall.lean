import Derived.Test.YtgcbapchinideaaGreatDoorK2
namespace Go.Proofs.YtgcbapchinideaaGreatDoor
open Sy Go
set_option maxRecDepth 100000
set_option maxHeartbeats 4000000
set_option linter.unusedSimpArgs false
set_option linter.unusedVariables false
variable {G:qK}
def zJP (v:Val) (m:Int):Val:=if (uD v).2=false then wD 40 m else qMU (!(uD v).1) m
structure CallOK (G:qK) (call arg:List UInt8) (v r:Val):Prop where
 len:call=[108,101,110,103,116,104]→AFn Tryz.prog G 31 [.agg [.int .u64 v.mask],v.enc] r.enc
 key:call=[107,101,121,115]→AFn Tryz.prog G 32 [.agg [.int .u64 v.mask],v.enc] r.enc
 not_:call=[110,111,116]→r=zJP v v.mask
 typ:call=[116,121,112,101]→∃ s,AFn Tryz.prog G 37 [.int .i64 v.kind] (.str s)∧r=kG s v.mask
 rev:call=[114,101,118,101,114,115,101]→(v.kind≠6→r=wD 40 v.mask)∧(v.kind=6→AX Tryz.prog G 39 [.ms 890] [(890,.row 31 9 (v.kids.map Val.enc))] (.tuple []) [890] [(890,.row 31 9 (v.kids.reverse.map Val.enc))]∧v.kids.length≤1000000∧AFn Tryz.prog G 40 [.agg [.int .u64 v.mask],.sl 9 (v.kids.reverse.map Val.enc)] r.enc)
 tnu:call=[116,111,110,117,109,98,101,114]→(v.kind=4→r = .mk 4 v.mask v.num [] [] [] 0)∧(v.kind≠4→AFn Tryz.prog G 42 [.agg [.int .u64 v.mask],.str call,.str arg,v.enc] r.enc)
 num:call=[102,108,111,111,114]∨call=[99,101,105,108]∨call=[114,111,117,110,100]→AFn Tryz.prog G 43 [.agg [.int .u64 v.mask],.str call,v.enc] r.enc
 obj:call=[101,110,116,114,105,101,115]∨call=[104,97,115]→AFn Tryz.prog G 44 [.agg [.int .u64 v.mask],.str call,.str arg,v.enc] r.enc
 txt:call=[116,101,115,116]∨call=[115,116,97,114,116,115]∨call=[101,110,100,115]∨call=[115,112,108,105,116]→AFn Tryz.prog G 42 [.agg [.int .u64 v.mask],.str call,.str arg,v.enc] r.enc
 str:call=[116,111,115,116,114,105,110,103]→(v.kind=5→r=kG v.text (zV v))∧(v.kind≠5→AFn Tryz.prog G 45 [.agg [.int .u64 (zV v)],v.enc] r.enc)
 jsn:call=[116,111,106,115,111,110]→AFn Tryz.prog G 45 [.agg [.int .u64 (zV v)],v.enc] r.enc
 lst:call ∉ [[108,101,110,103,116,104],[107,101,121,115],[110,111,116],[116,121,112,101],[114,101,118,101,114,115,101],[116,111,110,117,109,98,101,114],[102,108,111,111,114],[99,101,105,108],[114,111,117,110,100],[101,110,116,114,105,101,115],[104,97,115],[116,101,115,116],[115,116,97,114,116,115],[101,110,100,115],[115,112,108,105,116],[116,111,115,116,114,105,110,103],[116,111,106,115,111,110]]→AFn Tryz.prog G 46 [.agg [.int .u64 (zV v)],.str call,.str arg,v.enc] r.enc
theorem qHS (call arg:List UInt8) (v r:Val) (h:CallOK G call arg v r):AFn Tryz.prog G 11 [.str call,.str arg,v.enc] (r.enc):=by
 refine AFn.introU tok Tryz.func11 (by kernel_rfl) rfl rfl ?_
 simp only [Tryz.f11,qH,List.map_cons,List.map_nil]
 obtain ⟨f1,f2,f3,f4,f5,f6,f7,f8,f9,f10,f11,f12⟩:=h
 have hd:=zDJ (G:=G) v
 simp only [Val.enc_def] at f1 f2 f5 f6 f7 f8 f9 f10 f11 f12 hd
 refine rgn [] [[],[0,1,5,6]] ?_
 iterate 2 refine op1 tok ?_
 refine qA ?_
 refine AW.seqDrawS tok mixed 9 [[5],[12],[13],[5],[15],[16],[],[],[7,14]] [.nilp,.int .u64 (zV v)] [] (by kernel_rfl) ?_
 iterate 9 refine dq1 hd ?_
 refine DGo.nil (by kernel_rfl) ⟨by kernel_rfl, ?_⟩
 refine qF.run [[0,1,5,6,7,8]] ?_
 refine op1 tok ?_
 refine qA (AW.seq (rgn [] [[]] ?_))
 refine op1 tok ?_
 refine qA (AW.block (rgn [] [[],[0,1,5,6,7,8,18,19]] ?_))
 iterate 2 refine op1 tok ?_
 refine qA (cnd ?_ ?_)
 ·intro h19
  try simp at h19
  have f1:=f1 h19
  refine rgn [.nilp,r.enc] [[],[],[6,23],[6]] ?_
  iterate 4 refine oq1 tok f1 ?_
  exact qA (AW.ret qG)
 intro h19
 try simp at h19
 refine rgn [] [[],[0,1,5,6,7,8,18,24]] ?_
 iterate 2 refine op1 tok ?_
 refine qA (cnd ?_ ?_)
 ·intro h24
  try simp at h24
  have f2:=f2 h24
  refine rgn [.nilp,r.enc] [[],[],[6,28],[6]] ?_
  iterate 4 refine oq1 tok f2 ?_
  exact qA (AW.ret qG)
 intro h24
 try simp at h24
 refine rgn [] [[],[0,1,5,6,7,8,18,29]] ?_
 iterate 2 refine op1 tok ?_
 refine qA (cnd ?_ ?_)
 ·intro h29
  try simp at h29
  have f3:=f3 h29
  have ht:=qVR (G:=G) v
  have hf:=yD (G:=G) 40 v.mask
  have hx:=fun x=>qWO (G:=G) x v.mask
  unfold zJP at f3
  generalize uD v=tk at *
  obtain ⟨t1,t2⟩:=tk
  simp only [Val.enc_def] at ht hf hx f3
  subst f3
  refine rgn [.nilp,.tup [.bool t1,.bool t2]] [[],[],[],[],[6,7,34,35],[],[6,7,9,10]] ?_
  iterate 7 refine oq1 tok ht ?_
  refine qA (AW.seq (rgn [] [[],[6,7,9,37]] ?_))
  iterate 2 refine op1 tok ?_
  refine qA (cnd ?_ ?_)
  ·intro h37
   try simp at h37
   rw [if_pos h37]
   refine rgn [.nilp,(wD 40 v.mask).enc] [[],[],[6]] ?_
   iterate 3 refine oq1 tok hf ?_
   exact qA (AW.ret qG)
  intro h37
  try simp at h37
  rw [if_neg (by simp [h37])]
  have hx:=hx (!t1)
  generalize qMU (!t1) v.mask=X at *
  refine AW.skip (rgn [.nilp,X.enc] [[],[],[],[6,43],[6]] ?_)
  iterate 5 refine op1 tok ?_ (hv:=by first | with_reducible exact True.intro | (first | exact hx | (simp at hx ⊢; exact hx); done) | omega | simp | (simp +contextual; omega))
  exact qA (AW.ret qG)
 intro h29
 try simp at h29
 refine rgn [] [[],[0,1,5,6,7,8,18,44]] ?_
 iterate 2 refine op1 tok ?_
 refine qA (cnd ?_ ?_)
 ·intro h44
  try simp at h44
  obtain ⟨s,g4,rfl⟩:=f4 h44
  have hw:=qEG (G:=G) s v.mask
  generalize kG s v.mask=W at *
  simp only [Val.enc_def] at hw
  refine AW.seqRunDrawK tok mixed [6] 5 [[7],[5],[47],[48],[46,49]] [.nilp,.str s,.nilp,W.enc] [] (by kernel_rfl) (by intro C; conv=>lhs; simp) (by exact ⟨g4,hw⟩) (by simp [Sm.sum,Sm.foot,Sm.tch,Sm.refs]; kernel_rfl) (by intro C; conv=>lhs; simp) (by first | with_reducible exact True.intro | omega | simp | (simp +contextual; omega)) ?_
  exact AW.ret qG
 intro h44
 try simp at h44
 refine rgn [] [[],[0,1,5,6,7,8,18,51]] ?_
 iterate 2 refine op1 tok ?_
 refine qA (cnd ?_ ?_)
 ·intro h51
  try simp at h51
  obtain ⟨f5,f5b⟩:=f5 h51
  refine AW.seq (rgn [] [[],[],[5,6,7,55]] ?_)
  iterate 3 refine op1 tok ?_
  refine qA (cnd ?_ ?_)
  ·intro h55
   try simp at h55
   have f5:=f5 h55
   subst f5
   have hf:=yD (G:=G) 40 v.mask
   simp only [Val.enc_def] at hf
   refine rgn [.nilp,(wD 40 v.mask).enc] [[],[],[6]] ?_
   iterate 3 refine oq1 tok hf ?_
   exact qA (AW.ret qG)
  intro h55
  try simp at h55
  obtain ⟨g1,g2,g3⟩:=f5b (by simpa using h55)
  have hcl:=jU (G:=G) v.kids (by omega)
  refine AW.skip (rgn [.nilf,.sl 9 (v.kids.map Val.enc),.clo 31 []] [[],[],[],[6,7,11]] ?_)
  iterate 4 refine oq1 tok hcl ?_
  refine qA ?_
  refine AW.renE 60 890 (by simp) (by conv=>lhs; simp) ?_
  refine rgn [] [[]] ?_
  refine op1 tok ?_
  refine zX ?_
  refine qF.stepK [6,7,11] (uC rfl g1 (by simp)) (by conv=>lhs; simp) rfl ?_
  refine qF.nil ?_
  refine AW.freezeE 890 (by conv=>lhs; simp) ?_
  refine rgn [.nilp,r.enc] [[],[],[6,65],[6]] ?_
  iterate 4 refine op1 tok ?_ (hv:=by first | with_reducible exact True.intro | (first | exact g3 | (simp [List.map_reverse] at g3 ⊢; exact g3); done) | omega | simp | (simp +contextual; omega))
  exact qA (AW.ret qG)
 intro h51
 try simp at h51
 refine rgn [] [[],[0,1,5,6,7,8,18,66]] ?_
 iterate 2 refine op1 tok ?_
 refine qA (cnd ?_ ?_)
 ·intro h66
  try simp at h66
  obtain ⟨f6,f6b⟩:=f6 h66
  refine AW.seq (rgn [] [[],[],[0,1,5,6,7,70]] ?_)
  iterate 3 refine op1 tok ?_
  refine qA (cnd ?_ ?_)
  ·intro h70
   try simp at h70
   have f6:=f6 h70
   have hn:=qJA (G:=G) (v.num,0) v.mask
   have e:qSG (v.num,0) v.mask = .mk 4 v.mask v.num [] [] [] 0:=rfl
   rw [e,← f6] at hn
   simp only [Val.enc_def,Dc.enc] at hn
   refine rgn [.nilp,r.enc] [[],[],[],[6,74],[6]] ?_
   iterate 5 refine oq1 tok hn ?_
   exact qA (AW.ret qG)
  intro h70
  try simp at h70
  have f6b:=f6b h70
  refine AW.skip (rgn [.nilp,r.enc] [[],[],[],[6,75,76,77,78],[6,79],[6]] ?_)
  iterate 6 refine oq1 tok f6b ?_
  exact qA (AW.ret qG)
 intro h66
 try simp at h66
 refine AW.seq (rgn [] [[],[0,1,5,6,7,8,18,80]] ?_)
 iterate 2 refine op1 tok ?_
 refine qA (cnd ?_ ?_)
 ·intro h80
  try simp at h80
  have g7:=f7 (by first | exact .inl h80 | exact .inr (.inl h80) | exact .inr (.inr h80) | simp_all)
  refine AW.skip (cnd ?_ ?_)
  ·intro h80
   try simp at h80
   have g7:=f7 (by first | exact .inl h80 | exact .inr (.inl h80) | exact .inr (.inr h80) | simp_all)
   refine rgn [.nilp,r.enc] [[],[],[],[6,87],[6]] ?_
   iterate 5 refine oq1 tok g7 ?_
   exact qA (AW.ret qG)
  intro h80
  try simp at h80
  contradiction
 intro h80
 try simp at h80
 refine rgn [] [[],[0,1,5,6,7,8,18,80]] ?_
 iterate 2 refine op1 tok ?_
 refine qA (cnd ?_ ?_)
 ·intro h80
  try simp at h80
  have g7:=f7 (by first | exact .inl h80 | exact .inr (.inl h80) | exact .inr (.inr h80) | simp_all)
  refine AW.skip (cnd ?_ ?_)
  ·intro h80
   try simp at h80
   have g7:=f7 (by first | exact .inl h80 | exact .inr (.inl h80) | exact .inr (.inr h80) | simp_all)
   refine rgn [.nilp,r.enc] [[],[],[],[6,87],[6]] ?_
   iterate 5 refine oq1 tok g7 ?_
   exact qA (AW.ret qG)
  intro h80
  try simp at h80
  contradiction
 intro h80
 try simp at h80
 refine rgz [] [[],[0,1,5,6,7,8,18,80]] ?_
 iterate 2 refine op1 tok ?_
 refine qA (cnd ?_ ?_)
 ·intro h80
  try simp at h80
  have g7:=f7 (by first | exact .inl h80 | exact .inr (.inl h80) | exact .inr (.inr h80) | simp_all)
  refine rgn [.nilp,r.enc] [[],[],[],[6,87],[6]] ?_
  iterate 5 refine oq1 tok g7 ?_
  exact qA (AW.ret qG)
 intro h80
 try simp at h80
 refine AW.seq (rgn [] [[],[0,1,5,6,7,8,18,88]] ?_)
 iterate 2 refine op1 tok ?_
 refine qA (cnd ?_ ?_)
 ·intro h88
  try simp at h88
  have g8:=f8 (by first | exact .inl h88 | exact .inr h88 | simp_all)
  refine AW.skip (cnd ?_ ?_)
  ·intro h88
   try simp at h88
   have g8:=f8 (by first | exact .inl h88 | exact .inr h88 | simp_all)
   refine rgn [.nilp,r.enc] [[],[],[],[6,91,92,93,94],[6,95],[6]] ?_
   iterate 6 refine oq1 tok g8 ?_
   exact qA (AW.ret qG)
  intro h88
  try simp at h88
  contradiction
 intro h88
 try simp at h88
 refine rgz [] [[],[0,1,5,6,7,8,18,88]] ?_
 iterate 2 refine op1 tok ?_
 refine qA (cnd ?_ ?_)
 ·intro h88
  try simp at h88
  have g8:=f8 (by first | exact .inl h88 | exact .inr h88 | simp_all)
  refine rgn [.nilp,r.enc] [[],[],[],[6,91,92,93,94],[6,95],[6]] ?_
  iterate 6 refine oq1 tok g8 ?_
  exact qA (AW.ret qG)
 intro h88
 try simp at h88
 refine AW.seq (rgn [] [[],[0,1,5,6,7,8,18,96]] ?_)
 iterate 2 refine op1 tok ?_
 refine qA (cnd ?_ ?_)
 ·intro h96
  try simp at h96
  have g9:=f9 (by first | exact .inl h96 | exact .inr (.inl h96) | exact .inr (.inr (.inl h96)) | exact .inr (.inr (.inr h96)) | simp_all)
  refine AW.skip (cnd ?_ ?_)
  ·intro h96
   try simp at h96
   have g9:=f9 (by first | exact .inl h96 | exact .inr (.inl h96) | exact .inr (.inr (.inl h96)) | exact .inr (.inr (.inr h96)) | simp_all)
   refine rgn [.nilp,r.enc] [[],[],[],[6,101,102,103,104],[6,105],[6]] ?_
   iterate 6 refine oq1 tok g9 ?_
   exact qA (AW.ret qG)
  intro h96
  try simp at h96
  contradiction
 intro h96
 try simp at h96
 refine rgn [] [[],[0,1,5,6,7,8,18,96]] ?_
 iterate 2 refine op1 tok ?_
 refine qA (cnd ?_ ?_)
 ·intro h96
  try simp at h96
  have g9:=f9 (by first | exact .inl h96 | exact .inr (.inl h96) | exact .inr (.inr (.inl h96)) | exact .inr (.inr (.inr h96)) | simp_all)
  refine AW.skip (cnd ?_ ?_)
  ·intro h96
   try simp at h96
   have g9:=f9 (by first | exact .inl h96 | exact .inr (.inl h96) | exact .inr (.inr (.inl h96)) | exact .inr (.inr (.inr h96)) | simp_all)
   refine rgn [.nilp,r.enc] [[],[],[],[6,101,102,103,104],[6,105],[6]] ?_
   iterate 6 refine oq1 tok g9 ?_
   exact qA (AW.ret qG)
  intro h96
  try simp at h96
  contradiction
 intro h96
 try simp at h96
 refine rgn [] [[],[0,1,5,6,7,8,18,96]] ?_
 iterate 2 refine op1 tok ?_
 refine qA (cnd ?_ ?_)
 ·intro h96
  try simp at h96
  have g9:=f9 (by first | exact .inl h96 | exact .inr (.inl h96) | exact .inr (.inr (.inl h96)) | exact .inr (.inr (.inr h96)) | simp_all)
  refine AW.skip (cnd ?_ ?_)
  ·intro h96
   try simp at h96
   have g9:=f9 (by first | exact .inl h96 | exact .inr (.inl h96) | exact .inr (.inr (.inl h96)) | exact .inr (.inr (.inr h96)) | simp_all)
   refine rgn [.nilp,r.enc] [[],[],[],[6,101,102,103,104],[6,105],[6]] ?_
   iterate 6 refine oq1 tok g9 ?_
   exact qA (AW.ret qG)
  intro h96
  try simp at h96
  contradiction
 intro h96
 try simp at h96
 refine rgz [] [[],[0,1,5,6,7,8,18,96]] ?_
 iterate 2 refine op1 tok ?_
 refine qA (cnd ?_ ?_)
 ·intro h96
  try simp at h96
  have g9:=f9 (by first | exact .inl h96 | exact .inr (.inl h96) | exact .inr (.inr (.inl h96)) | exact .inr (.inr (.inr h96)) | simp_all)
  refine rgn [.nilp,r.enc] [[],[],[],[6,101,102,103,104],[6,105],[6]] ?_
  iterate 6 refine oq1 tok g9 ?_
  exact qA (AW.ret qG)
 intro h96
 try simp at h96
 refine rgn [] [[],[0,1,5,6,8,18,106]] ?_
 iterate 2 refine op1 tok ?_
 refine qA (cnd ?_ ?_)
 ·intro h106
  try simp at h106
  obtain ⟨f10,f10b⟩:=f10 h106
  refine AW.seq (rgn [] [[],[],[5,6,8,110]] ?_)
  iterate 3 refine op1 tok ?_
  refine qA (cnd ?_ ?_)
  ·intro h110
   try simp at h110
   have f10:=f10 h110
   subst f10
   have hw:=qEG (G:=G) v.text (zV v)
   generalize kG v.text (zV v)=W at *
   simp only [Val.enc_def] at hw
   refine rgn [.nilp,W.enc] [[],[],[],[6,114],[6]] ?_
   iterate 5 refine oq1 tok hw ?_
   exact qA (AW.ret qG)
  intro h110
  try simp at h110
  have f10b:=f10b h110
  refine AW.skip (rgn [.nilp,r.enc] [[],[],[6,117],[6]] ?_)
  iterate 4 refine oq1 tok f10b ?_
  exact qA (AW.ret qG)
 intro h106
 try simp at h106
 refine rgn [] [[],[0,1,5,6,8,118]] ?_
 iterate 2 refine op1 tok ?_
 refine qA (cnd ?_ ?_)
 ·intro h118
  try simp at h118
  have f11:=f11 h118
  refine rgn [.nilp,r.enc] [[],[],[6,122],[6]] ?_
  iterate 4 refine oq1 tok f11 ?_
  exact qA (AW.ret qG)
 intro h118
 try simp at h118
 have f12:=f12 (by simp [*])
 refine AW.skip (rgn [.nilp,r.enc] [[],[],[],[6,123,124,125,126],[6,127],[6]] ?_)
 iterate 6 refine oq1 tok f12 ?_
 exact qA (AW.ret qG)
end Go.Proofs.YtgcbapchinideaaGreatDoor
