import Derived.Test.YtdojfdaglbphlaaGreatDoorK4
namespace Go.Proofs.YtdojfdaglbphlaaGreatDoor
open Sy Go
set_option maxRecDepth 100000
set_option maxHeartbeats 4000000
set_option linter.unusedSimpArgs false
set_option linter.unusedVariables false
variable {G:qR}
def wT (v:Val):Bool × Bool:=if v.kind=8 then (false,false) else if v.kind=1∨v.kind=2 then (false,true) else (true,true)
theorem qRY (v:Val):AFn Tryz.prog G 101 [v.enc] (.tup [.bool (wT v).1,.bool (wT v).2]):=by
 refine AFn.introU tok Tryz.func101 (by kernel_rfl) rfl rfl ?_
 simp only [Tryz.f101,qI,List.map_cons,List.map_nil]
 refine rgn [] [[],[],[1]] ?_
 iterate 3 refine op1 tok ?_
 refine qA (AW.seq (rgn [] [[],[5]] ?_))
 iterate 2 refine op1 tok ?_
 refine qA (AW.block (rgn [] [[],[5,6]] ?_))
 iterate 2 refine op1 tok ?_
 refine qA (cnd ?_ ?_)
 ·intro h6
  try simp at h6
  refine rgn [] [[],[]] ?_
  iterate 2 refine op1 tok ?_
  refine qA ?_
  exact AW.ret (qG (k:=by (first | (exfalso; omega) | (simp [wT, *]; done))))
 intro h6
 try simp at h6
 refine AW.seq (rgn [] [[],[5,8]] ?_)
 iterate 2 refine op1 tok ?_
 refine qA (cnd ?_ ?_)
 ·intro h8
  try simp at h8
  refine AW.skip (cnd ?_ ?_)
  ·intro h8
   try simp at h8
   refine rgn [] [[],[]] ?_
   iterate 2 refine op1 tok ?_
   refine qA ?_
   exact AW.ret (qG (k:=by (first | (exfalso; omega) | (simp [wT, *]; done))))
  intro h8
  try simp at h8
  refine AW.skip (rgn [] [[],[]] ?_)
  iterate 2 refine op1 tok ?_
  refine qA ?_
  exact AW.ret (qG (k:=by (first | (exfalso; omega) | (simp [wT, *]; done))))
 intro h8
 try simp at h8
 refine rgz [] [[],[8]] ?_
 iterate 2 refine op1 tok ?_
 refine qA (cnd ?_ ?_)
 ·intro h8
  try simp at h8
  refine rgn [] [[],[]] ?_
  iterate 2 refine op1 tok ?_
  refine qA ?_
  exact AW.ret (qG (k:=by (first | (exfalso; omega) | (simp [wT, *]; done))))
 intro h8
 try simp at h8
 refine AW.skip (rgn [] [[],[]] ?_)
 iterate 2 refine op1 tok ?_
 refine qA ?_
 exact AW.ret (qG (k:=by (first | (exfalso; omega) | (simp [wT, *]; done))))
def uI (p:Bool→Bool→Bool) (a b:Val) (m:Int):Val:=if (wT a).2=true∧(wT b).2=true then kG (p (wT a).1 (wT b).1) m else wQ 40 m
theorem qZQ (a b:Val) (top deep:Int) (g:FuncId) (p:Bool→Bool→Bool) (hg:∀ x y,AFn Tryz.prog G g [.bool x,.bool y] (.bool (p x y))):AFn Tryz.prog G 38 [.agg (prC a b top deep),.fn g] ((uI p a b top).enc):=by
 refine AFn.introU tok Tryz.func38 (by kernel_rfl) rfl rfl ?_
 simp only [Tryz.f38,qI,List.map_cons,List.map_nil]
 have h1:=qRY (G:=G) a
 have h2:=qRY (G:=G) b
 have hf:=qFI (G:=G) a b top deep 40
 have e:uI p a b top=if (wT a).2=true∧(wT b).2=true then kG (p (wT a).1 (wT b).1) top else wQ 40 top:=rfl
 rw [e]
 generalize wT a=x at *
 generalize wT b=y at *
 obtain ⟨x1,x2⟩:=x
 obtain ⟨y1,y2⟩:=y
 simp only at h1 h2 ⊢
 have hgg:=hg x1 y1
 generalize p x1 y1=z at *
 have ht:=qXT (G:=G) z top
 simp only [Val.enc_def] at h1 h2 hf ht
 refine rgn [] [[],[1,2,4]] ?_
 iterate 2 refine op1 tok ?_
 refine qA (rgn [.nilp,.tup [.bool x1,.bool x2]] [[],[],[],[],[],[1,2,4,13,14],[],[1,2,4,5,6]] ?_)
 iterate 8 refine oq1 tok h1 ?_
 refine qA (rgn [.nilp,.tup [.bool y1,.bool y2]] [[],[],[],[],[],[1,2,4,5,6,19,20],[],[1,2,4,5,6,7,8]] ?_)
 iterate 8 refine oq1 tok h2 ?_
 refine qA (AW.seq (rgn [] [[],[],[],[1,2,4,5,7,23,24],[],[1,2,4,5,7,26]] ?_))
 iterate 3 refine op1 tok ?_
 iterate 2 refine op2 tok ?_
 refine op1 tok ?_
 refine qA (cnd ?_ ?_)
 ·intro h26
  try simp at h26
  rw [if_neg (by intro h; simp [h.1,h.2] at h26)]
  refine rgn [.nilp,(wQ 40 top).enc] [[],[],[4]] ?_
  iterate 3 refine oq1 tok hf ?_
  exact qA (AW.ret qG)
 intro h26
 try simp at h26
 rw [if_pos (by simpa using h26)]
 generalize kG z top=R at *
 refine AW.skip ?_
 refine AW.seqDrawS tok mixed 7 [[1],[5],[7],[29,30,31],[2],[33],[32,34]] [.tup [.bool x1,.bool y1],.bool z,.nilp,R.enc] [] (by kernel_rfl) ?_
 iterate 7 refine dq1 (ai hgg ht) ?_
 refine DGo.nil (by kernel_rfl) ⟨by kernel_rfl, ?_⟩
 refine qC.run [[4]] ?_
 refine op1 tok ?_
 exact qA (AW.ret qG)
theorem zRM (x y:Bool):AFn Tryz.prog G 39 [.bool x,.bool y] (.bool (x && y)):=by
 refine AFn.introU tok Tryz.func39 (by kernel_rfl) rfl rfl ?_
 simp only [Tryz.f39,qI,List.map_cons,List.map_nil]
 refine rgn [] [[0,1]] ?_
 refine op1 tok ?_
 refine qA (rgn [] [[],[],[],[8],[4]] ?_)
 iterate 2 refine op1 tok ?_
 refine op2 tok ?_
 iterate 2 refine op1 tok ?_
 exact qA (AW.ret qG)
theorem zPZ (x y:Bool):AFn Tryz.prog G 40 [.bool x,.bool y] (.bool (x || y)):=by
 refine AFn.introU tok Tryz.func40 (by kernel_rfl) rfl rfl ?_
 simp only [Tryz.f40,qI,List.map_cons,List.map_nil]
 refine rgn [] [[0,1]] ?_
 refine op1 tok ?_
 refine qA (rgn [] [[],[],[],[8],[4]] ?_)
 iterate 2 refine op1 tok ?_
 refine op2 tok ?_
 iterate 2 refine op1 tok ?_
 exact qA (AW.ret qG)
theorem zGW (a b:Val):AFn Tryz.prog G 12 [.str [97,110,100],a.enc,b.enc] ((uI (fun x y=>x && y) a b (orM a.mask b.mask)).enc):=by
 refine AFn.introU tok Tryz.func12 (by kernel_rfl) rfl rfl ?_
 simp only [Tryz.f12,qI,List.map_cons,List.map_nil]
 have h1:=yN (G:=G) a
 have h2:=yN (G:=G) b
 have hp:=qZQ (G:=G) a b (orM a.mask b.mask) (orM (qU a) (qU b)) 39 (fun x y=>x && y) zRM
 generalize uI (fun x y=>x && y) a b (orM a.mask b.mask)=M at *
 simp only [Val.enc_def] at h1 h2 hp
 refine rgn [] [[],[],[0,4,5,6]] ?_
 iterate 3 refine op1 tok ?_
 refine qA ?_
 refine AW.seqDrawS tok mixed 14 [[4],[5],[4],[12],[5],[14],[13,15],[4],[17],[5],[19],[18,20],[10,11,16,21],[]] [.nilp,.int .u64 (qU a),.nilp,.int .u64 (qU b)] [] (by kernel_rfl) ?_
 iterate 14 refine dq1 (ai h1 h2) ?_ (h:=by intro C; conv=>lhs; simp [zB])
 refine DGo.nil (by kernel_rfl) ⟨by kernel_rfl, ?_⟩
 refine qC.run [[0,4,5,6,7]] ?_
 refine op1 tok ?_ (h:=by intro C; conv=>lhs; simp [zB])
 refine qA (AW.seq (rgn [] [[]] ?_))
 refine op1 tok ?_
 refine qA (AW.block (rgn [] [[],[0,4,5,6,7,23,24]] ?_))
 iterate 2 refine op1 tok ?_
 refine qA (cnd ?_ ?_)
 ·intro h24
  try simp at h24
 intro h24
 try simp at h24
 refine rgn [] [[],[0,4,5,6,7,23,28]] ?_
 iterate 2 refine op1 tok ?_
 refine qA (cnd ?_ ?_)
 ·intro h28
  try simp at h28
 intro h28
 try simp at h28
 refine rgn [] [[],[0,4,5,6,7,23,32]] ?_
 iterate 2 refine op1 tok ?_
 refine qA (cnd ?_ ?_)
 ·intro h32
  try simp at h32
 intro h32
 try simp at h32
 refine rgn [] [[],[0,4,5,6,7,23,36]] ?_
 iterate 2 refine op1 tok ?_
 refine qA (cnd ?_ ?_)
 ·intro h36
  try simp at h36
 intro h36
 try simp at h36
 refine rgn [] [[],[0,4,5,6,7,23,40]] ?_
 iterate 2 refine op1 tok ?_
 refine qA (cnd ?_ ?_)
 ·intro h40
  try simp at h40
 intro h40
 try simp at h40
 refine rgn [] [[],[0,4,5,6,7,23,44]] ?_
 iterate 2 refine op1 tok ?_
 refine qA (cnd ?_ ?_)
 ·intro h44
  try simp at h44
  refine rgn [.nilp,M.enc] [[],[],[6]] ?_
  iterate 3 refine op1 tok ?_ (hv:=by first | with_reducible exact True.intro | ((simp at hp ⊢; exact hp); done) | omega | simp | (simp +contextual; omega))
  exact qA (AW.ret qG)
 intro h44
 try simp at h44
theorem zKT (a b:Val):AFn Tryz.prog G 12 [.str [111,114],a.enc,b.enc] ((uI (fun x y=>x || y) a b (orM a.mask b.mask)).enc):=by
 refine AFn.introU tok Tryz.func12 (by kernel_rfl) rfl rfl ?_
 simp only [Tryz.f12,qI,List.map_cons,List.map_nil]
 have h1:=yN (G:=G) a
 have h2:=yN (G:=G) b
 have hp:=qZQ (G:=G) a b (orM a.mask b.mask) (orM (qU a) (qU b)) 40 (fun x y=>x || y) zPZ
 generalize uI (fun x y=>x || y) a b (orM a.mask b.mask)=M at *
 simp only [Val.enc_def] at h1 h2 hp
 refine rgn [] [[],[],[0,4,5,6]] ?_
 iterate 3 refine op1 tok ?_
 refine qA ?_
 refine AW.seqDrawS tok mixed 14 [[4],[5],[4],[12],[5],[14],[13,15],[4],[17],[5],[19],[18,20],[10,11,16,21],[]] [.nilp,.int .u64 (qU a),.nilp,.int .u64 (qU b)] [] (by kernel_rfl) ?_
 iterate 14 refine dq1 (ai h1 h2) ?_ (h:=by intro C; conv=>lhs; simp [zB])
 refine DGo.nil (by kernel_rfl) ⟨by kernel_rfl, ?_⟩
 refine qC.run [[0,4,5,6,7]] ?_
 refine op1 tok ?_ (h:=by intro C; conv=>lhs; simp [zB])
 refine qA (AW.seq (rgn [] [[]] ?_))
 refine op1 tok ?_
 refine qA (AW.block (rgn [] [[],[0,4,5,6,7,23,24]] ?_))
 iterate 2 refine op1 tok ?_
 refine qA (cnd ?_ ?_)
 ·intro h24
  try simp at h24
 intro h24
 try simp at h24
 refine rgn [] [[],[0,4,5,6,7,23,28]] ?_
 iterate 2 refine op1 tok ?_
 refine qA (cnd ?_ ?_)
 ·intro h28
  try simp at h28
 intro h28
 try simp at h28
 refine rgn [] [[],[0,4,5,6,7,23,32]] ?_
 iterate 2 refine op1 tok ?_
 refine qA (cnd ?_ ?_)
 ·intro h32
  try simp at h32
 intro h32
 try simp at h32
 refine rgn [] [[],[0,4,5,6,7,23,36]] ?_
 iterate 2 refine op1 tok ?_
 refine qA (cnd ?_ ?_)
 ·intro h36
  try simp at h36
 intro h36
 try simp at h36
 refine rgn [] [[],[0,4,5,6,7,23,40]] ?_
 iterate 2 refine op1 tok ?_
 refine qA (cnd ?_ ?_)
 ·intro h40
  try simp at h40
 intro h40
 try simp at h40
 refine rgn [] [[],[0,4,5,6,7,23,44]] ?_
 iterate 2 refine op1 tok ?_
 refine qA (cnd ?_ ?_)
 ·intro h44
  try simp at h44
 intro h44
 try simp at h44
 refine rgn [] [[],[0,4,5,6,7,48]] ?_
 iterate 2 refine op1 tok ?_
 refine qA (cnd ?_ ?_)
 ·intro h48
  try simp at h48
  refine rgn [.nilp,M.enc] [[],[],[6]] ?_
  iterate 3 refine op1 tok ?_ (hv:=by first | with_reducible exact True.intro | ((simp at hp ⊢; exact hp); done) | omega | simp | (simp +contextual; omega))
  exact qA (AW.ret qG)
 intro h48
 try simp at h48
end Go.Proofs.YtdojfdaglbphlaaGreatDoor
