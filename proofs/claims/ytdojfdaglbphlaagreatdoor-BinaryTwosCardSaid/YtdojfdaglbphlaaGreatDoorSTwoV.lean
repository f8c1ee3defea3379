import Derived.Test.YtdojfdaglbphlaaGreatDoorSNumW
import Derived.Test.YtdojfdaglbphlaaGreatDoorSLogic
import Derived.Test.YtdojfdaglbphlaaGreatDoorSDivE
namespace Go.Proofs.YtdojfdaglbphlaaGreatDoor
open Sy Go
set_option maxRecDepth 100000
set_option maxHeartbeats 4000000
set_option linter.unusedSimpArgs false
set_option linter.unusedVariables false
variable {G:qR}
def uD (f:Dc→Dc→Dc × Int) (a b:Val) (m:Int):Val:=if a.kind=4∧b.kind=4 then qFJ (f a.num b.num) m else wQ 40 m
theorem qMP (a b : Val) (top deep : Int) (g : FuncId) (f : Dc → Dc → Dc × Int) (hw : a.kind = 4 → b.kind = 4 → AFn Tryz.prog G g [a.num.enc, b.num.enc] (.tup [(f a.num b.num).1.enc, .int .i64 (f a.num b.num).2])) :
  AFn Tryz.prog G 34 [.agg (prC a b top deep),.fn g] (uD f a b top).enc:=by
 unfold uD
 split
 ·rename_i h; exact qOM a b top deep g _ h.1 h.2 (hw h.1 h.2)
 rename_i h; exact qON a b top deep g h
theorem zDW (a b:Val) (top deep:Int) (ha:qS a=true) (hb:qS b=true) (hn:¬ (a.kind=6∧b.kind=6)):AFn Tryz.prog G 33 [.agg (prC a b top deep)] ((uD qCS a b top).enc):=by
 refine AFn.introU tok Tryz.func33 (by kernel_rfl) rfl rfl ?_
 simp only [Tryz.f33,qI,List.map_cons,List.map_nil]
 have hk:=kS (G:=G) a b top deep 6
 rw [show (decide (a.kind=6) && decide (b.kind=6))=false by
  cases h:(decide (a.kind=6) && decide (b.kind=6)) with
  | false=>rfl
  | true=>simp at h; exact absurd h hn] at hk
 have hw:=qMP (G:=G) a b top deep 83 qCS (fun h4 h5=>zKG a.num b.num (zF (yW ha h4)).1 (zF (yW hb h5)).1)
 generalize uD qCS a b top=M at *
 simp only [Val.enc_def] at hw
 refine rgn [] [[],[1,2]] ?_
 iterate 2 refine op1 tok ?_
 refine qA (AW.seq (rgn [.nilp,.bool false] [[],[],[1,2,6]] ?_))
 iterate 3 refine oq1 tok hk ?_
 refine qA (cnd ?_ ?_)
 ·intro h6
  try simp at h6
  refine rgn [.nilp,M.enc] [[],[],[2]] ?_
  iterate 3 refine oq1 tok hw ?_
  exact qA (AW.ret qG)
 intro h6
 try simp at h6
theorem qUT (a b:Val) (ha:qS a=true) (hb:qS b=true) (hn:¬ (a.kind=6∧b.kind=6)):AFn Tryz.prog G 12 [.str [45],a.enc,b.enc] ((uD qCS a b (orM a.mask b.mask)).enc):=by
 refine AFn.introU tok Tryz.func12 (by kernel_rfl) rfl rfl ?_
 simp only [Tryz.f12,qI,List.map_cons,List.map_nil]
 have h1:=yN (G:=G) a
 have h2:=yN (G:=G) b
 have hp:=zDW (G:=G) a b (orM a.mask b.mask) (orM (qU a) (qU b)) ha hb hn
 generalize uD qCS a b (orM a.mask b.mask)=M at *
 simp only [Val.enc_def] at h1 h2 hp
 refine rgn [] [[],[],[0,4,5,6]] ?_
 iterate 3 refine op1 tok ?_
 refine qA ?_
 refine AW.seqDrawS tok mixed 14 [[4],[5],[4],[12],[5],[14],[13,15],[4],[17],[5],[19],[18,20],[10,11,16,21],[]] [.nilp,.int .u64 (qU a),.nilp,.int .u64 (qU b)] [] (by kernel_rfl) ?_
 iterate 14 refine dq1 (ai h1 h2) ?_ (h:=by intro C; conv=>lhs; simp [zB])
 refine DGo.nil (by kernel_rfl) ⟨by kernel_rfl, ?_⟩
 refine qC.run [[0,4,5,6,7]] ?_
 refine op1 tok ?_ (h:=by intro C; conv=>lhs; simp [zB])
 refine qA (AW.seq (rgn [] [[]] ?_))
 refine op1 tok ?_
 refine qA (AW.block (rgn [] [[],[0,4,5,6,7,23,24]] ?_))
 iterate 2 refine op1 tok ?_
 refine qA (cnd ?_ ?_)
 ·intro h24
  try simp at h24
 intro h24
 try simp at h24
 refine rgn [] [[],[0,4,5,6,7,23,28]] ?_
 iterate 2 refine op1 tok ?_
 refine qA (cnd ?_ ?_)
 ·intro h28
  try simp at h28
  refine rgn [.nilp,M.enc] [[],[],[6]] ?_
  iterate 3 refine op1 tok ?_ (hv:=by first | with_reducible exact True.intro | ((simp at hp ⊢; exact hp); done) | omega | simp | (simp +contextual; omega))
  exact qA (AW.ret qG)
 intro h28
 try simp at h28
theorem zGS (a b:Val) (ha:qS a=true) (hb:qS b=true):AFn Tryz.prog G 12 [.str [42],a.enc,b.enc] ((uD qEW a b (orM a.mask b.mask)).enc):=by
 refine AFn.introU tok Tryz.func12 (by kernel_rfl) rfl rfl ?_
 simp only [Tryz.f12,qI,List.map_cons,List.map_nil]
 have h1:=yN (G:=G) a
 have h2:=yN (G:=G) b
 have hp:=qMP (G:=G) a b (orM a.mask b.mask) (orM (qU a) (qU b)) 35 qEW (fun h4 h5=>zKH a.num b.num (zF (yW ha h4)).1 (zF (yW hb h5)).1)
 generalize uD qEW a b (orM a.mask b.mask)=M at *
 simp only [Val.enc_def] at h1 h2 hp
 refine rgn [] [[],[],[0,4,5,6]] ?_
 iterate 3 refine op1 tok ?_
 refine qA ?_
 refine AW.seqDrawS tok mixed 14 [[4],[5],[4],[12],[5],[14],[13,15],[4],[17],[5],[19],[18,20],[10,11,16,21],[]] [.nilp,.int .u64 (qU a),.nilp,.int .u64 (qU b)] [] (by kernel_rfl) ?_
 iterate 14 refine dq1 (ai h1 h2) ?_ (h:=by intro C; conv=>lhs; simp [zB])
 refine DGo.nil (by kernel_rfl) ⟨by kernel_rfl, ?_⟩
 refine qC.run [[0,4,5,6,7]] ?_
 refine op1 tok ?_ (h:=by intro C; conv=>lhs; simp [zB])
 refine qA (AW.seq (rgn [] [[]] ?_))
 refine op1 tok ?_
 refine qA (AW.block (rgn [] [[],[0,4,5,6,7,23,24]] ?_))
 iterate 2 refine op1 tok ?_
 refine qA (cnd ?_ ?_)
 ·intro h24
  try simp at h24
 intro h24
 try simp at h24
 refine rgn [] [[],[0,4,5,6,7,23,28]] ?_
 iterate 2 refine op1 tok ?_
 refine qA (cnd ?_ ?_)
 ·intro h28
  try simp at h28
 intro h28
 try simp at h28
 refine rgn [] [[],[0,4,5,6,7,23,32]] ?_
 iterate 2 refine op1 tok ?_
 refine qA (cnd ?_ ?_)
 ·intro h32
  try simp at h32
  refine rgn [.nilp,M.enc] [[],[],[6]] ?_
  iterate 3 refine op1 tok ?_ (hv:=by first | with_reducible exact True.intro | ((simp at hp ⊢; exact hp); done) | omega | simp | (simp +contextual; omega))
  exact qA (AW.ret qG)
 intro h32
 try simp at h32
theorem zGU (a b:Val) (ha:qS a=true) (hb:qS b=true):AFn Tryz.prog G 12 [.str [47],a.enc,b.enc] ((uD qBE a b (orM a.mask b.mask)).enc):=by
 refine AFn.introU tok Tryz.func12 (by kernel_rfl) rfl rfl ?_
 simp only [Tryz.f12,qI,List.map_cons,List.map_nil]
 have h1:=yN (G:=G) a
 have h2:=yN (G:=G) b
 have hp:=qMP (G:=G) a b (orM a.mask b.mask) (orM (qU a) (qU b)) 36 qBE (fun h4 h5=>zVC a.num b.num (yW ha h4) (yW hb h5))
 generalize uD qBE a b (orM a.mask b.mask)=M at *
 simp only [Val.enc_def] at h1 h2 hp
 refine rgn [] [[],[],[0,4,5,6]] ?_
 iterate 3 refine op1 tok ?_
 refine qA ?_
 refine AW.seqDrawS tok mixed 14 [[4],[5],[4],[12],[5],[14],[13,15],[4],[17],[5],[19],[18,20],[10,11,16,21],[]] [.nilp,.int .u64 (qU a),.nilp,.int .u64 (qU b)] [] (by kernel_rfl) ?_
 iterate 14 refine dq1 (ai h1 h2) ?_ (h:=by intro C; conv=>lhs; simp [zB])
 refine DGo.nil (by kernel_rfl) ⟨by kernel_rfl, ?_⟩
 refine qC.run [[0,4,5,6,7]] ?_
 refine op1 tok ?_ (h:=by intro C; conv=>lhs; simp [zB])
 refine qA (AW.seq (rgn [] [[]] ?_))
 refine op1 tok ?_
 refine qA (AW.block (rgn [] [[],[0,4,5,6,7,23,24]] ?_))
 iterate 2 refine op1 tok ?_
 refine qA (cnd ?_ ?_)
 ·intro h24
  try simp at h24
 intro h24
 try simp at h24
 refine rgn [] [[],[0,4,5,6,7,23,28]] ?_
 iterate 2 refine op1 tok ?_
 refine qA (cnd ?_ ?_)
 ·intro h28
  try simp at h28
 intro h28
 try simp at h28
 refine rgn [] [[],[0,4,5,6,7,23,32]] ?_
 iterate 2 refine op1 tok ?_
 refine qA (cnd ?_ ?_)
 ·intro h32
  try simp at h32
 intro h32
 try simp at h32
 refine rgn [] [[],[0,4,5,6,7,23,36]] ?_
 iterate 2 refine op1 tok ?_
 refine qA (cnd ?_ ?_)
 ·intro h36
  try simp at h36
  refine rgn [.nilp,M.enc] [[],[],[6]] ?_
  iterate 3 refine op1 tok ?_ (hv:=by first | with_reducible exact True.intro | ((simp at hp ⊢; exact hp); done) | omega | simp | (simp +contextual; omega))
  exact qA (AW.ret qG)
 intro h36
 try simp at h36
theorem zGT (a b:Val) (ha:qS a=true) (hb:qS b=true):AFn Tryz.prog G 12 [.str [37],a.enc,b.enc] ((uD qAX a b (orM a.mask b.mask)).enc):=by
 refine AFn.introU tok Tryz.func12 (by kernel_rfl) rfl rfl ?_
 simp only [Tryz.f12,qI,List.map_cons,List.map_nil]
 have h1:=yN (G:=G) a
 have h2:=yN (G:=G) b
 have hp:=qMP (G:=G) a b (orM a.mask b.mask) (orM (qU a) (qU b)) 37 qAX (fun h4 h5=>zVA a.num b.num (yW ha h4) (yW hb h5))
 generalize uD qAX a b (orM a.mask b.mask)=M at *
 simp only [Val.enc_def] at h1 h2 hp
 refine rgn [] [[],[],[0,4,5,6]] ?_
 iterate 3 refine op1 tok ?_
 refine qA ?_
 refine AW.seqDrawS tok mixed 14 [[4],[5],[4],[12],[5],[14],[13,15],[4],[17],[5],[19],[18,20],[10,11,16,21],[]] [.nilp,.int .u64 (qU a),.nilp,.int .u64 (qU b)] [] (by kernel_rfl) ?_
 iterate 14 refine dq1 (ai h1 h2) ?_ (h:=by intro C; conv=>lhs; simp [zB])
 refine DGo.nil (by kernel_rfl) ⟨by kernel_rfl, ?_⟩
 refine qC.run [[0,4,5,6,7]] ?_
 refine op1 tok ?_ (h:=by intro C; conv=>lhs; simp [zB])
 refine qA (AW.seq (rgn [] [[]] ?_))
 refine op1 tok ?_
 refine qA (AW.block (rgn [] [[],[0,4,5,6,7,23,24]] ?_))
 iterate 2 refine op1 tok ?_
 refine qA (cnd ?_ ?_)
 ·intro h24
  try simp at h24
 intro h24
 try simp at h24
 refine rgn [] [[],[0,4,5,6,7,23,28]] ?_
 iterate 2 refine op1 tok ?_
 refine qA (cnd ?_ ?_)
 ·intro h28
  try simp at h28
 intro h28
 try simp at h28
 refine rgn [] [[],[0,4,5,6,7,23,32]] ?_
 iterate 2 refine op1 tok ?_
 refine qA (cnd ?_ ?_)
 ·intro h32
  try simp at h32
 intro h32
 try simp at h32
 refine rgn [] [[],[0,4,5,6,7,23,36]] ?_
 iterate 2 refine op1 tok ?_
 refine qA (cnd ?_ ?_)
 ·intro h36
  try simp at h36
 intro h36
 try simp at h36
 refine rgn [] [[],[0,4,5,6,7,23,40]] ?_
 iterate 2 refine op1 tok ?_
 refine qA (cnd ?_ ?_)
 ·intro h40
  try simp at h40
  refine rgn [.nilp,M.enc] [[],[],[6]] ?_
  iterate 3 refine op1 tok ?_ (hv:=by first | with_reducible exact True.intro | ((simp at hp ⊢; exact hp); done) | omega | simp | (simp +contextual; omega))
  exact qA (AW.ret qG)
 intro h40
 try simp at h40
def qVT (op:List UInt8) (a b:Val):Val :=
 if op=[43] then qHA a b (orM a.mask b.mask)
 else if op=[45] then (if a.kind=6∧b.kind=6 then qES a b (orM (qU a) (qU b)) else uD qCS a b (orM a.mask b.mask))
 else if op=[42] then uD qEW a b (orM a.mask b.mask)
 else if op=[47] then uD qBE a b (orM a.mask b.mask)
 else if op=[37] then uD qAX a b (orM a.mask b.mask)
 else if op=[97,110,100] then uI (fun x y=>x && y) a b (orM a.mask b.mask)
 else if op=[111,114] then uI (fun x y=>x || y) a b (orM a.mask b.mask)
 else kG (uP op (vL a b)) (orM (qU a) (qU b))
theorem zSY (op:List UInt8) (a b:Val) (ha:qS a=true) (hb:qS b=true):AFn Tryz.prog G 12 [.str op,a.enc,b.enc] (qVT op a b).enc:=by
 unfold qVT
 split
 ·rename_i h; subst h; exact zBZ a b ha hb
 split
 ·rename_i h; subst h
  split
  ·rename_i h; exact qIG a b ha hb h.1 h.2
  rename_i h; exact qUT a b ha hb h
 split
 ·rename_i h; subst h; exact zGS a b ha hb
 split
 ·rename_i h; subst h; exact zGU a b ha hb
 split
 ·rename_i h; subst h; exact zGT a b ha hb
 split
 ·rename_i h; subst h; exact zGW a b
 split
 ·rename_i h; subst h; exact zKT a b
 rename_i h1 h2 h3 h4 h5 h6 h7
 exact zGV op a b ⟨h1,h2,h3,h4,h5,h6,h7⟩ ha hb
end Go.Proofs.YtdojfdaglbphlaaGreatDoor
