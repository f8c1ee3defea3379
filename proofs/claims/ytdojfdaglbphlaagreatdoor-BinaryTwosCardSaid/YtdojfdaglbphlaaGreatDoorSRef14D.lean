import Derived.Test.YtdojfdaglbphlaaGreatDoorSRef14C
import Derived.Test.YtdojfdaglbphlaaGreatDoorSMasks14
namespace Go.Proofs.YtdojfdaglbphlaaGreatDoor
open Sy Go
set_option maxRecDepth 100000
set_option maxHeartbeats 4000000
set_option linter.unusedSimpArgs false
set_option linter.unusedVariables false
variable {G:qR}
theorem zZA {a b:Val} (ha:qS a=true) (h7:a.kind=7) (m:Int):qEY (kV a b m) m=qKM a b m:=by
 obtain ⟨e1,e2,e3,_⟩:=qOY ha h7
 unfold qEY qKM kV
 rw [e1,e2,e3,h7]
 simp
theorem zIC (a b:Val) (m:Int) (ha:qS a=true) (hb:qS b=true):AFn Tryz.prog G 43 [a.enc,b.enc,.int .u64 m] ((qHA a b m).enc):=by
 refine AFn.introU tok Tryz.func43 (by kernel_rfl) rfl rfl ?_
 simp only [Tryz.f43,qI,List.map_cons,List.map_nil]
 have w1:=qOA (G:=G) a m
 have w2:=qOA (G:=G) b m
 have hf:=vJ (G:=G) 40 m
 have hw:=zGN (G:=G) (a.text++b.text) m
 have hl:=qTC (G:=G) (a.kids++b.kids) m
 have hsa:=wZ ha
 have hsb:=wZ hb
 have ta:=qBV ha
 have tb:=qBV hb
 have hm:=fun (h7:a.kind=7) (h8:b.kind=7)=>zCZ (G:=G) a b m (by omega) (by omega) (jW ha h7).1 (jW hb h8).1 (jW ha h7).2.2 (jW hb h8).2.2
 have hadd:=fun (h4:a.kind=4) (h5:b.kind=4)=>zGI (G:=G) a.num b.num (zF (yW ha h4)).1 (zF (yW hb h5)).1
 have hN:=qZC (G:=G) (qEO a.num b.num) m
 have e:qHA a b m=if a.kind=4∧b.kind=4 then qFJ (qEO a.num b.num) m else if a.kind=1 then vD b m else if b.kind=1 then vD a m else if a.kind=5∧b.kind=5 then qEY (.mk 5 m dc0 (a.text++b.text) [] [] 0) m
  else if a.kind=6∧b.kind=6 then qEY (.mk 6 m dc0 [] [] (a.kids++b.kids) 0) m else if a.kind=7∧b.kind=7 then qEY (kV a b m) m else wQ 40 m:=rfl
 have e5:qEY (.mk 5 m dc0 (a.text++b.text) [] [] 0) m=qXL (a.text++b.text) m:=by unfold qEY qXL; simp
 have e6:qEY (.mk 6 m dc0 [] [] (a.kids++b.kids) 0) m=qIY (a.kids++b.kids) m:=by unfold qEY qIY; simp
 have e7:=fun h7=>zZA (b:=b) ha h7 m
 rw [e]
 simp only [e5,e6]
 generalize qXL (a.text++b.text) m=RW at *
 generalize qIY (a.kids++b.kids) m=RL at *
 generalize qEO a.num b.num=rr at *
 obtain ⟨dd,ee⟩:=rr
 simp only [Dc.enc] at hadd hN
 simp only [Val.enc_def] at w1 w2 hf hw hl hm hN
 refine rgn [] [[],[],[2,3,4,6]] ?_
 iterate 3 refine op1 tok ?_
 refine qA (AW.seq (rgn [] [[],[],[2,3,4,6,11]] ?_))
 iterate 3 refine op1 tok ?_
 refine qA (cnd ?_ ?_)
 ·intro h11
  try simp at h11
  rw [if_neg (show ¬ (a.kind=4∧b.kind=4) from fun h=>by omega),if_pos h11]
  refine rgn [.nilp,(vD b m).enc] [[],[],[6,14],[6]] ?_
  iterate 4 refine oq1 tok w2 ?_
  exact qA (AW.ret qG)
 intro h11
 try simp at h11
 refine AW.skip (AW.seq (rgn [] [[],[],[2,3,4,6,17]] ?_))
 iterate 3 refine op1 tok ?_
 refine qA (cnd ?_ ?_)
 ·intro h17
  try simp at h17
  rw [if_neg (show ¬ (a.kind=4∧b.kind=4) from fun h=>by omega),if_neg h11,if_pos h17]
  refine rgn [.nilp,(vD a m).enc] [[],[],[6,20],[6]] ?_
  iterate 4 refine oq1 tok w1 ?_
  exact qA (AW.ret qG)
 intro h17
 try simp at h17
 refine AW.skip (AW.seq (rgn [] [[],[],[],[],[2,3,4,6,25]] ?_))
 iterate 5 refine op1 tok ?_
 refine qA (cnd ?_ ?_)
 ·intro h25
  try simp at h25
  rw [if_neg (show ¬ (a.kind=4∧b.kind=4) from fun h=>by omega),if_neg h11,if_neg h17,if_neg (show ¬ (a.kind=5∧b.kind=5) from fun h=>by omega),if_neg (show ¬ (a.kind=6∧b.kind=6) from fun h=>by omega),if_neg (show ¬ (a.kind=7∧b.kind=7) from fun h=>by omega)]
  refine rgn [.nilp,(wQ 40 m).enc] [[],[],[6]] ?_
  iterate 3 refine oq1 tok hf ?_
  exact qA (AW.ret qG)
 intro h25
 try simp at h25
 have hkk:a.kind=b.kind:=by omega
 refine AW.skip (AW.seq (rgn [] [[],[2,3,4,6,29]] ?_))
 iterate 2 refine op1 tok ?_
 refine qA (AW.block (rgn [] [[],[2,3,4,6,29,30]] ?_))
 iterate 2 refine op1 tok ?_
 refine qA (cnd ?_ ?_)
 ·intro h30
  try simp at h30
  rw [if_pos (show a.kind=4∧b.kind=4 from ⟨h30,by omega⟩)]
  have hadd:=hadd h30 (by omega)
  refine rgn [.nilp,.tup [dd.enc,.int .i64 ee]] [[],[],[],[2,6,34,36],[],[],[],[2,6,38,39],[],[],[2,6,7,8]] ?_
  iterate 11 refine oq1 tok hadd ?_
  refine qA (rgn [.nilp,(qFJ (dd,ee) m).enc] [[],[],[],[6,43],[6]] ?_)
  iterate 5 refine oq1 tok hN ?_
  exact qA (AW.ret qG)
 intro h30
 try simp at h30
 rw [if_neg (show ¬ (a.kind=4∧b.kind=4) from fun h=>by omega),if_neg h11,if_neg h17]
 refine rgn [] [[],[2,3,4,6,29,44]] ?_
 iterate 2 refine op1 tok ?_
 refine qA (cnd ?_ ?_)
 ·intro h44
  try simp at h44
  rw [if_pos (show a.kind=5∧b.kind=5 from ⟨h44,by omega⟩)]
  refine rgn [.nilp,RW.enc] [[],[],[],[2,6,47,49],[],[],[6,52],[6]] ?_
  iterate 8 refine oq1 tok hw ?_
  exact qA (AW.ret qG)
 intro h44
 try simp at h44
 rw [if_neg (show ¬ (a.kind=5∧b.kind=5) from fun h=>by omega)]
 refine rgn [] [[],[2,3,4,6,29,53]] ?_
 iterate 2 refine op1 tok ?_
 refine qA (cnd ?_ ?_)
 ·intro h53
  try simp at h53
  rw [if_pos (show a.kind=6∧b.kind=6 from ⟨h53,by omega⟩)]
  refine AW.seqDrawS tok mixed 9 [[],[3],[56],[55,57],[4],[59],[58,60],[2],[61,62]] [.nilp,RL.enc] [] (by kernel_rfl) ?_
  iterate 9 refine dq1 hl ?_
  refine DGo.nil (by kernel_rfl) ⟨by kernel_rfl, ?_⟩
  refine qC.run [[6]] ?_
  refine op1 tok ?_
  exact qA (AW.ret qG)
 intro h53
 try simp at h53
 rw [if_neg (show ¬ (a.kind=6∧b.kind=6) from fun h=>by omega)]
 refine rgn [] [[],[2,3,4,6,64]] ?_
 iterate 2 refine op1 tok ?_
 refine qA (cnd ?_ ?_)
 ·intro h64
  try simp at h64
  rw [if_pos (show a.kind=7∧b.kind=7 from ⟨h64,by omega⟩),e7 h64]
  have hm:=hm h64 (by omega)
  generalize qKM a b m=RM at *
  refine rgn [.nilp,RM.enc] [[],[],[],[6,69],[6]] ?_
  iterate 5 refine oq1 tok hm ?_
  exact qA (AW.ret qG)
 intro h64
 try simp at h64
 rw [if_neg (show ¬ (a.kind=7∧b.kind=7) from fun h=>by omega)]
 refine AW.skip (rgn [.nilp,(wQ 40 m).enc] [[],[],[6]] ?_)
 iterate 3 refine oq1 tok hf ?_
 exact qA (AW.ret qG)
theorem zGX (a b:Val) (ha:qS a=true) (hb:qS b=true):AFn Tryz.prog G 14 [.str [43],a.enc,b.enc] ((qHA a b (orM a.mask b.mask)).enc):=by
 refine AFn.introU tok Tryz.func14 (by kernel_rfl) rfl rfl ?_
 simp only [Tryz.f14,qI,List.map_cons,List.map_nil]
 have h1:=wG (G:=G) a ha
 have h2:=wG (G:=G) b hb
 have hp:=zIC (G:=G) a b (orM a.mask b.mask) ha hb
 generalize qHA a b (orM a.mask b.mask)=M at *
 simp only [Val.enc_def] at h1 h2 hp
 refine rgn [] [[],[],[0,4,5,6]] ?_
 iterate 3 refine op1 tok ?_
 refine qA (rgn [] [[],[],[],[],[0,4,5,6,19],[0,4,5,6,7]] ?_)
 iterate 6 refine op1 tok ?_ (h:=by intro C; conv=>lhs; simp [zB])
 refine qA ?_
 refine AW.seqDrawS tok mixed 5 [[4],[20],[5],[22],[21,23]] [.nilp,.int .u64 (qU a),.nilp,.int .u64 (qU b)] [] (by kernel_rfl) ?_
 iterate 5 refine dq1 (ai h1 h2) ?_ (h:=by intro C; conv=>lhs; simp [zB])
 refine DGo.nil (by kernel_rfl) ⟨by kernel_rfl, ?_⟩
 refine qC.run [[0,4,5,6,7,8]] ?_
 refine op1 tok ?_ (h:=by intro C; conv=>lhs; simp [zB])
 refine qA (AW.seq (rgn [] [[]] ?_))
 refine op1 tok ?_
 refine qA (AW.block (rgn [] [[],[0,4,5,6,7,8,25,26]] ?_))
 iterate 2 refine op1 tok ?_
 refine qA (cnd ?_ ?_)
 ·intro h26
  try simp at h26
  refine rgn [.nilp,M.enc] [[],[],[],[6,31],[6]] ?_
  iterate 5 refine oq1 tok hp ?_
  exact qA (AW.ret qG)
 intro h26
 try simp at h26
theorem zYN {a b:Val} (ha:qS a=true) (h6:a.kind=6) (m:Int):qIY (a.kids.filter fun v => !(b.kids.any fun w=>decide (vL v w=0))) m=qES a b m:=by
 obtain ⟨e1,e2,e3,e4⟩:=qSS ha h6
 unfold qIY qES
 rw [if_neg (show ¬ 200<_ from fun h=>by
  have:=List.length_filter_le (fun v => !(b.kids.any fun w=>decide (vL v w=0))) a.kids
  have:=(wZ ha).2
  omega),e1,e2,e3,e4,h6]
theorem zHD (a b:Val) (ha:qS a=true) (hb:qS b=true) (hka:a.kind=6) (hkb:b.kind=6):AFn Tryz.prog G 14 [.str [45],a.enc,b.enc] ((qES a b (orM (qU a) (qU b))).enc):=by
 refine AFn.introU tok Tryz.func14 (by kernel_rfl) rfl rfl ?_
 simp only [Tryz.f14,qI,List.map_cons,List.map_nil]
 have h1:=wG (G:=G) a ha
 have h2:=wG (G:=G) b hb
 have hp:=zIX (G:=G) a b (orM (qU a) (qU b)) ha hb
 rw [zYN ha hka] at hp
 generalize qES a b (orM (qU a) (qU b))=M at *
 simp only [Val.enc_def] at h1 h2 hp
 refine rgn [] [[],[],[0,4,5,6]] ?_
 iterate 3 refine op1 tok ?_
 refine qA (rgn [] [[],[],[],[],[0,4,5,6,19],[0,4,5,6,7]] ?_)
 iterate 6 refine op1 tok ?_ (h:=by intro C; conv=>lhs; simp [zB])
 refine qA ?_
 refine AW.seqDrawS tok mixed 5 [[4],[20],[5],[22],[21,23]] [.nilp,.int .u64 (qU a),.nilp,.int .u64 (qU b)] [] (by kernel_rfl) ?_
 iterate 5 refine dq1 (ai h1 h2) ?_ (h:=by intro C; conv=>lhs; simp [zB])
 refine DGo.nil (by kernel_rfl) ⟨by kernel_rfl, ?_⟩
 refine qC.run [[0,4,5,6,7,8]] ?_
 refine op1 tok ?_ (h:=by intro C; conv=>lhs; simp [zB])
 refine qA (AW.seq (rgn [] [[]] ?_))
 refine op1 tok ?_
 refine qA (AW.block (rgn [] [[],[0,4,5,6,7,8,25,26]] ?_))
 iterate 2 refine op1 tok ?_
 refine qA (cnd ?_ ?_)
 ·intro h26
  try simp at h26
 intro h26
 try simp at h26
 refine AW.seq (rgn [] [[],[0,4,5,6,7,8,25,32]] ?_)
 iterate 2 refine op1 tok ?_
 refine qA (cnd ?_ ?_)
 ·intro h32
  try simp at h32
  refine AW.skip (cnd ?_ ?_)
  ·intro h32
   try simp at h32
   refine AW.seq (rgn [] [[],[],[],[],[],[0,4,5,6,7,8,39,42],[],[],[],[0,4,5,6,7,8,44,46],[],[0,4,5,6,7,8,48]] ?_)
   iterate 12 first | refine op1 tok ?_ | refine op2 tok ?_
   refine qA (cnd ?_ ?_)
   ·intro h48
    try simp at h48
    refine rgn [.nilp,M.enc] [[],[],[],[6,52],[6]] ?_
    iterate 5 refine op1 tok ?_ (hv:=by first | with_reducible exact True.intro | ((simpa [hka,hkb] using hp); done) | omega | simp | (simp +contextual; omega))
    exact qA (AW.ret qG)
   intro h48
   try simp at h48
   (first | omega | (simp [hka,hkb] at h48))
  intro h32
  try simp at h32
 intro h32
 try simp at h32
theorem qIU (op:List UInt8) (a b:Val) (m:Int) (ha:qS a=true) (hb:qS b=true):AFn Tryz.prog G 45 [.str op,a.enc,b.enc,.int .u64 m] (uD (opD op) a b m).enc:=by
 unfold uD
 split
 ·rename_i h; exact zIH op a b _ ha hb h.1 h.2
 rename_i h; exact zII op a b _ h
theorem zGZ (a b:Val) (ha:qS a=true) (hb:qS b=true) (hn:¬ (a.kind=6∧b.kind=6)):AFn Tryz.prog G 14 [.str [45],a.enc,b.enc] ((uD qCS a b (orM a.mask b.mask)).enc):=by
 refine AFn.introU tok Tryz.func14 (by kernel_rfl) rfl rfl ?_
 simp only [Tryz.f14,qI,List.map_cons,List.map_nil]
 have h1:=wG (G:=G) a ha
 have h2:=wG (G:=G) b hb
 have hp:=qIU (G:=G) [45] a b (orM a.mask b.mask) ha hb
 rw [show opD [45]=qCS from rfl] at hp
 generalize uD qCS a b (orM a.mask b.mask)=M at *
 simp only [Val.enc_def] at h1 h2 hp
 refine rgn [] [[],[],[0,4,5,6]] ?_
 iterate 3 refine op1 tok ?_
 refine qA (rgn [] [[],[],[],[],[0,4,5,6,19],[0,4,5,6,7]] ?_)
 iterate 6 refine op1 tok ?_ (h:=by intro C; conv=>lhs; simp [zB])
 refine qA ?_
 refine AW.seqDrawS tok mixed 5 [[4],[20],[5],[22],[21,23]] [.nilp,.int .u64 (qU a),.nilp,.int .u64 (qU b)] [] (by kernel_rfl) ?_
 iterate 5 refine dq1 (ai h1 h2) ?_ (h:=by intro C; conv=>lhs; simp [zB])
 refine DGo.nil (by kernel_rfl) ⟨by kernel_rfl, ?_⟩
 refine qC.run [[0,4,5,6,7,8]] ?_
 refine op1 tok ?_ (h:=by intro C; conv=>lhs; simp [zB])
 refine qA (AW.seq (rgn [] [[]] ?_))
 refine op1 tok ?_
 refine qA (AW.block (rgn [] [[],[0,4,5,6,7,8,25,26]] ?_))
 iterate 2 refine op1 tok ?_
 refine qA (cnd ?_ ?_)
 ·intro h26
  try simp at h26
 intro h26
 try simp at h26
 refine AW.seq (rgn [] [[],[0,4,5,6,7,8,25,32]] ?_)
 iterate 2 refine op1 tok ?_
 refine qA (cnd ?_ ?_)
 ·intro h32
  try simp at h32
  refine AW.skip (cnd ?_ ?_)
  ·intro h32
   try simp at h32
   refine AW.seq (rgn [] [[],[],[],[],[],[0,4,5,6,7,8,39,42],[],[],[],[0,4,5,6,7,8,44,46],[],[0,4,5,6,7,8,48]] ?_)
   iterate 12 first | refine op1 tok ?_ | refine op2 tok ?_
   refine qA (cnd ?_ ?_)
   ·intro h48
    try simp at h48
    exact absurd (by simpa using h48) hn
   intro h48
   try simp at h48
   refine AW.skip (rgn [.nilp,M.enc] [[],[],[],[6,53,54,55,56],[6,57],[6]] ?_)
   iterate 6 refine oq1 tok hp ?_
   exact qA (AW.ret qG)
  intro h32
  try simp at h32
 intro h32
 try simp at h32
theorem zHC (a b:Val) (ha:qS a=true) (hb:qS b=true):AFn Tryz.prog G 14 [.str [42],a.enc,b.enc] ((uD qEW a b (orM a.mask b.mask)).enc):=by
 refine AFn.introU tok Tryz.func14 (by kernel_rfl) rfl rfl ?_
 simp only [Tryz.f14,qI,List.map_cons,List.map_nil]
 have h1:=wG (G:=G) a ha
 have h2:=wG (G:=G) b hb
 have hp:=qIU (G:=G) [42] a b (orM a.mask b.mask) ha hb
 rw [show opD [42]=qEW from rfl] at hp
 generalize uD qEW a b (orM a.mask b.mask)=M at *
 simp only [Val.enc_def] at h1 h2 hp
 refine rgn [] [[],[],[0,4,5,6]] ?_
 iterate 3 refine op1 tok ?_
 refine qA (rgn [] [[],[],[],[],[0,4,5,6,19],[0,4,5,6,7]] ?_)
 iterate 6 refine op1 tok ?_ (h:=by intro C; conv=>lhs; simp [zB])
 refine qA ?_
 refine AW.seqDrawS tok mixed 5 [[4],[20],[5],[22],[21,23]] [.nilp,.int .u64 (qU a),.nilp,.int .u64 (qU b)] [] (by kernel_rfl) ?_
 iterate 5 refine dq1 (ai h1 h2) ?_ (h:=by intro C; conv=>lhs; simp [zB])
 refine DGo.nil (by kernel_rfl) ⟨by kernel_rfl, ?_⟩
 refine qC.run [[0,4,5,6,7,8]] ?_
 refine op1 tok ?_ (h:=by intro C; conv=>lhs; simp [zB])
 refine qA (AW.seq (rgn [] [[]] ?_))
 refine op1 tok ?_
 refine qA (AW.block (rgn [] [[],[0,4,5,6,7,8,25,26]] ?_))
 iterate 2 refine op1 tok ?_
 refine qA (cnd ?_ ?_)
 ·intro h26
  try simp at h26
 intro h26
 try simp at h26
 refine AW.seq (rgn [] [[],[0,4,5,6,7,8,25,32]] ?_)
 iterate 2 refine op1 tok ?_
 refine qA (cnd ?_ ?_)
 ·intro h32
  try simp at h32
 intro h32
 try simp at h32
 refine rgn [] [[],[0,4,5,6,7,8,25,32]] ?_
 iterate 2 refine op1 tok ?_
 refine qA (cnd ?_ ?_)
 ·intro h32
  try simp at h32
  refine AW.skip (cnd ?_ ?_)
  ·intro h32
   try simp at h32
   refine AW.seq (rgn [] [[],[],[],[],[],[0,4,5,6,7,8,39,42],[],[],[],[0,4,5,6,7,8,44,46],[],[0,4,5,6,7,8,48]] ?_)
   iterate 12 first | refine op1 tok ?_ | refine op2 tok ?_
   refine qA (cnd ?_ ?_)
   ·intro h48
    try simp at h48
   intro h48
   try simp at h48
   refine AW.skip (rgn [.nilp,M.enc] [[],[],[],[6,53,54,55,56],[6,57],[6]] ?_)
   iterate 6 refine oq1 tok hp ?_
   exact qA (AW.ret qG)
  intro h32
  try simp at h32
 intro h32
 try simp at h32
theorem zGY (a b:Val) (ha:qS a=true) (hb:qS b=true):AFn Tryz.prog G 14 [.str [47],a.enc,b.enc] ((uD qBE a b (orM a.mask b.mask)).enc):=by
 refine AFn.introU tok Tryz.func14 (by kernel_rfl) rfl rfl ?_
 simp only [Tryz.f14,qI,List.map_cons,List.map_nil]
 have h1:=wG (G:=G) a ha
 have h2:=wG (G:=G) b hb
 have hp:=qIU (G:=G) [47] a b (orM a.mask b.mask) ha hb
 rw [show opD [47]=qBE from rfl] at hp
 generalize uD qBE a b (orM a.mask b.mask)=M at *
 simp only [Val.enc_def] at h1 h2 hp
 refine rgn [] [[],[],[0,4,5,6]] ?_
 iterate 3 refine op1 tok ?_
 refine qA (rgn [] [[],[],[],[],[0,4,5,6,19],[0,4,5,6,7]] ?_)
 iterate 6 refine op1 tok ?_ (h:=by intro C; conv=>lhs; simp [zB])
 refine qA ?_
 refine AW.seqDrawS tok mixed 5 [[4],[20],[5],[22],[21,23]] [.nilp,.int .u64 (qU a),.nilp,.int .u64 (qU b)] [] (by kernel_rfl) ?_
 iterate 5 refine dq1 (ai h1 h2) ?_ (h:=by intro C; conv=>lhs; simp [zB])
 refine DGo.nil (by kernel_rfl) ⟨by kernel_rfl, ?_⟩
 refine qC.run [[0,4,5,6,7,8]] ?_
 refine op1 tok ?_ (h:=by intro C; conv=>lhs; simp [zB])
 refine qA (AW.seq (rgn [] [[]] ?_))
 refine op1 tok ?_
 refine qA (AW.block (rgn [] [[],[0,4,5,6,7,8,25,26]] ?_))
 iterate 2 refine op1 tok ?_
 refine qA (cnd ?_ ?_)
 ·intro h26
  try simp at h26
 intro h26
 try simp at h26
 refine AW.seq (rgn [] [[],[0,4,5,6,7,8,25,32]] ?_)
 iterate 2 refine op1 tok ?_
 refine qA (cnd ?_ ?_)
 ·intro h32
  try simp at h32
 intro h32
 try simp at h32
 refine rgn [] [[],[0,4,5,6,7,8,25,32]] ?_
 iterate 2 refine op1 tok ?_
 refine qA (cnd ?_ ?_)
 ·intro h32
  try simp at h32
 intro h32
 try simp at h32
 refine rgn [] [[],[0,4,5,6,7,8,25,32]] ?_
 iterate 2 refine op1 tok ?_
 refine qA (cnd ?_ ?_)
 ·intro h32
  try simp at h32
  refine AW.skip (cnd ?_ ?_)
  ·intro h32
   try simp at h32
   refine AW.seq (rgn [] [[],[],[],[],[],[0,4,5,6,7,8,39,42],[],[],[],[0,4,5,6,7,8,44,46],[],[0,4,5,6,7,8,48]] ?_)
   iterate 12 first | refine op1 tok ?_ | refine op2 tok ?_
   refine qA (cnd ?_ ?_)
   ·intro h48
    try simp at h48
   intro h48
   try simp at h48
   refine AW.skip (rgn [.nilp,M.enc] [[],[],[],[6,53,54,55,56],[6,57],[6]] ?_)
   iterate 6 refine oq1 tok hp ?_
   exact qA (AW.ret qG)
  intro h32
  try simp at h32
 intro h32
 try simp at h32
theorem zHA (a b:Val) (ha:qS a=true) (hb:qS b=true):AFn Tryz.prog G 14 [.str [37],a.enc,b.enc] ((uD qAX a b (orM a.mask b.mask)).enc):=by
 refine AFn.introU tok Tryz.func14 (by kernel_rfl) rfl rfl ?_
 simp only [Tryz.f14,qI,List.map_cons,List.map_nil]
 have h1:=wG (G:=G) a ha
 have h2:=wG (G:=G) b hb
 have hp:=qIU (G:=G) [37] a b (orM a.mask b.mask) ha hb
 rw [show opD [37]=qAX from rfl] at hp
 generalize uD qAX a b (orM a.mask b.mask)=M at *
 simp only [Val.enc_def] at h1 h2 hp
 refine rgn [] [[],[],[0,4,5,6]] ?_
 iterate 3 refine op1 tok ?_
 refine qA (rgn [] [[],[],[],[],[0,4,5,6,19],[0,4,5,6,7]] ?_)
 iterate 6 refine op1 tok ?_ (h:=by intro C; conv=>lhs; simp [zB])
 refine qA ?_
 refine AW.seqDrawS tok mixed 5 [[4],[20],[5],[22],[21,23]] [.nilp,.int .u64 (qU a),.nilp,.int .u64 (qU b)] [] (by kernel_rfl) ?_
 iterate 5 refine dq1 (ai h1 h2) ?_ (h:=by intro C; conv=>lhs; simp [zB])
 refine DGo.nil (by kernel_rfl) ⟨by kernel_rfl, ?_⟩
 refine qC.run [[0,4,5,6,7,8]] ?_
 refine op1 tok ?_ (h:=by intro C; conv=>lhs; simp [zB])
 refine qA (AW.seq (rgn [] [[]] ?_))
 refine op1 tok ?_
 refine qA (AW.block (rgn [] [[],[0,4,5,6,7,8,25,26]] ?_))
 iterate 2 refine op1 tok ?_
 refine qA (cnd ?_ ?_)
 ·intro h26
  try simp at h26
 intro h26
 try simp at h26
 refine AW.seq (rgn [] [[],[0,4,5,6,7,8,25,32]] ?_)
 iterate 2 refine op1 tok ?_
 refine qA (cnd ?_ ?_)
 ·intro h32
  try simp at h32
 intro h32
 try simp at h32
 refine rgn [] [[],[0,4,5,6,7,8,25,32]] ?_
 iterate 2 refine op1 tok ?_
 refine qA (cnd ?_ ?_)
 ·intro h32
  try simp at h32
 intro h32
 try simp at h32
 refine rgn [] [[],[0,4,5,6,7,8,25,32]] ?_
 iterate 2 refine op1 tok ?_
 refine qA (cnd ?_ ?_)
 ·intro h32
  try simp at h32
 intro h32
 try simp at h32
 refine rgz [] [[],[0,4,5,6,7,8,25,32]] ?_
 iterate 2 refine op1 tok ?_
 refine qA (cnd ?_ ?_)
 ·intro h32
  try simp at h32
  refine AW.seq (rgn [] [[],[],[],[],[],[0,4,5,6,7,8,39,42],[],[],[],[0,4,5,6,7,8,44,46],[],[0,4,5,6,7,8,48]] ?_)
  iterate 12 first | refine op1 tok ?_ | refine op2 tok ?_
  refine qA (cnd ?_ ?_)
  ·intro h48
   try simp at h48
  intro h48
  try simp at h48
  refine AW.skip (rgn [.nilp,M.enc] [[],[],[],[6,53,54,55,56],[6,57],[6]] ?_)
  iterate 6 refine oq1 tok hp ?_
  exact qA (AW.ret qG)
 intro h32
 try simp at h32
theorem zFK (p:Bool→Bool→Bool) (a b:Val) (m:Int):uI p a b m=if (wT a).2=true∧(wT b).2=true then kG (p (wT a).1 (wT b).1) m else wQ 40 m:=rfl
theorem zHF (a b:Val) (ha:qS a=true) (hb:qS b=true):AFn Tryz.prog G 14 [.str [97,110,100],a.enc,b.enc] ((uI (fun x y=>x && y) a b (orM a.mask b.mask)).enc):=by
 refine AFn.introU tok Tryz.func14 (by kernel_rfl) rfl rfl ?_
 simp only [Tryz.f14,qI,List.map_cons,List.map_nil]
 have h1:=wG (G:=G) a ha
 have h2:=wG (G:=G) b hb
 have t1:=qDR (G:=G) a
 have t2:=qDR (G:=G) b
 have hf:=vJ (G:=G) 40 (orM a.mask b.mask)
 have hB:=fun x=>qLC (G:=G) x (orM a.mask b.mask)
 rw [zFK]
 generalize hmm:orM a.mask b.mask=m at *
 obtain ⟨x1,k1⟩:∃ x:Bool × Bool,x=wT a:=⟨_,rfl⟩
 obtain ⟨x2,k2⟩:∃ x:Bool × Bool,x=wT b:=⟨_,rfl⟩
 rw [← k1] at t1
 rw [← k2] at t2
 rw [← k1,← k2]
 obtain ⟨u1,o1⟩:=x1
 obtain ⟨u2,o2⟩:=x2
 simp only at t1 t2 ⊢
 have hBa:=hB (u1 && u2)
 generalize kG (u1 && u2) m=M at *
 generalize wQ 40 m=F at *
 simp only [Val.enc_def] at h1 h2 hf t1 t2 hBa
 refine rgn [] [[],[],[0,4,5,6]] ?_
 iterate 3 refine op1 tok ?_
 refine qA (rgn [] [[],[],[],[],[0,4,5,6,19],[0,4,5,6,7]] ?_)
 iterate 6 refine op1 tok ?_ (h:=by intro C; conv=>lhs; simp [zB,hmm])
 refine qA ?_
 refine AW.seqDrawS tok mixed 5 [[4],[20],[5],[22],[21,23]] [.nilp,.int .u64 (qU a),.nilp,.int .u64 (qU b)] [] (by kernel_rfl) ?_
 iterate 5 refine dq1 (ai h1 h2) ?_ (h:=by intro C; conv=>lhs; simp [zB])
 refine DGo.nil (by kernel_rfl) ⟨by kernel_rfl, ?_⟩
 refine qC.run [[0,4,5,6,7,8]] ?_
 refine op1 tok ?_ (h:=by intro C; conv=>lhs; simp [zB])
 refine qA (AW.seq (rgn [] [[]] ?_))
 refine op1 tok ?_
 refine qA (AW.block (rgn [] [[],[0,4,5,6,7,8,25,26]] ?_))
 iterate 2 refine op1 tok ?_
 refine qA (cnd ?_ ?_)
 ·intro h26
  try simp at h26
 intro h26
 try simp at h26
 refine AW.seq (rgn [] [[],[0,4,5,6,7,8,25,32]] ?_)
 iterate 2 refine op1 tok ?_
 refine qA (cnd ?_ ?_)
 ·intro h32
  try simp at h32
 intro h32
 try simp at h32
 refine rgn [] [[],[0,4,5,6,7,8,25,32]] ?_
 iterate 2 refine op1 tok ?_
 refine qA (cnd ?_ ?_)
 ·intro h32
  try simp at h32
 intro h32
 try simp at h32
 refine rgn [] [[],[0,4,5,6,7,8,25,32]] ?_
 iterate 2 refine op1 tok ?_
 refine qA (cnd ?_ ?_)
 ·intro h32
  try simp at h32
 intro h32
 try simp at h32
 refine rgz [] [[],[0,4,5,6,7,8,25,32]] ?_
 iterate 2 refine op1 tok ?_
 refine qA (cnd ?_ ?_)
 ·intro h32
  try simp at h32
 intro h32
 try simp at h32
 refine AW.seq (rgn [] [[],[0,4,5,6,7,8,25,58]] ?_)
 iterate 2 refine op1 tok ?_
 refine qA (cnd ?_ ?_)
 ·intro h58
  try simp at h58
  refine AW.skip (cnd ?_ ?_)
  ·intro h58
   try simp at h58
   refine rgn [.nilp,.tup [.bool u1,.bool o1]] [[],[],[],[],[0,5,6,7,64,65],[],[0,5,6,7,9,10]] ?_
   iterate 7 refine oq1 tok t1 ?_
   refine qA (rgn [.nilp,.tup [.bool u2,.bool o2]] [[],[],[],[],[0,6,7,9,10,69,70],[],[0,6,7,9,10,11,12]] ?_)
   iterate 7 refine oq1 tok t2 ?_
   refine qA (AW.seq (rgn [] [[],[],[],[0,6,7,9,11,73,74],[],[0,6,7,9,11,76]] ?_))
   iterate 3 refine op1 tok ?_
   iterate 2 refine op2 tok ?_
   refine op1 tok ?_
   refine qA (cnd ?_ ?_)
   ·intro h76
    try simp at h76
    rw [if_neg (show ¬ (o1=true∧o2=true) from fun h=>by simp [h.1,h.2] at h76)]
    refine rgn [.nilp,F.enc] [[],[],[6]] ?_
    iterate 3 refine oq1 tok hf ?_
    exact qA (AW.ret qG)
   intro h76
   try simp at h76
   rw [if_pos (show o1=true∧o2=true by cases o1 <;> cases o2 <;> simp at h76 ⊢)]
   refine AW.skip (AW.seq (rgn [] [[],[6,7,9,11,80]] ?_))
   iterate 2 refine op1 tok ?_
   refine qA (cnd ?_ ?_)
   ·intro h80
    try simp at h80
    refine rgn [.nilp,M.enc] [[],[],[],[6,7,84],[],[],[6]] ?_
    iterate 2 refine op1 tok ?_ (hv:=by first | with_reducible exact True.intro | ((first | (cases u1 <;> simpa using hBa) | (simpa using hBa)); done) | omega | simp | (simp +contextual; omega))
    refine op2 tok ?_ (hv:=by first | with_reducible exact True.intro | ((first | (cases u1 <;> simpa using hBa) | (simpa using hBa)); done) | omega | simp | (simp +contextual; omega))
    iterate 4 refine op1 tok ?_ (hv:=by first | with_reducible exact True.intro | ((first | (cases u1 <;> simpa using hBa) | (simpa using hBa)); done) | omega | simp | (simp +contextual; omega))
    exact qA (AW.ret qG)
   intro h80
   try simp at h80
  intro h58
  try simp at h58
 intro h58
 try simp at h58
theorem zHB (a b:Val) (ha:qS a=true) (hb:qS b=true):AFn Tryz.prog G 14 [.str [111,114],a.enc,b.enc] ((uI (fun x y=>Bool.or x y) a b (orM a.mask b.mask)).enc):=by
 refine AFn.introU tok Tryz.func14 (by kernel_rfl) rfl rfl ?_
 simp only [Tryz.f14,qI,List.map_cons,List.map_nil]
 have h1:=wG (G:=G) a ha
 have h2:=wG (G:=G) b hb
 have t1:=qDR (G:=G) a
 have t2:=qDR (G:=G) b
 have hf:=vJ (G:=G) 40 (orM a.mask b.mask)
 have hB:=fun x=>qLC (G:=G) x (orM a.mask b.mask)
 rw [zFK]
 generalize hmm:orM a.mask b.mask=m at *
 obtain ⟨x1,k1⟩:∃ x:Bool × Bool,x=wT a:=⟨_,rfl⟩
 obtain ⟨x2,k2⟩:∃ x:Bool × Bool,x=wT b:=⟨_,rfl⟩
 rw [← k1] at t1
 rw [← k2] at t2
 rw [← k1,← k2]
 obtain ⟨u1,o1⟩:=x1
 obtain ⟨u2,o2⟩:=x2
 simp only at t1 t2 ⊢
 have hBa:=hB (Bool.or u1 u2)
 generalize kG (Bool.or u1 u2) m=M at *
 generalize wQ 40 m=F at *
 simp only [Val.enc_def] at h1 h2 hf t1 t2 hBa
 refine rgn [] [[],[],[0,4,5,6]] ?_
 iterate 3 refine op1 tok ?_
 refine qA (rgn [] [[],[],[],[],[0,4,5,6,19],[0,4,5,6,7]] ?_)
 iterate 6 refine op1 tok ?_ (h:=by intro C; conv=>lhs; simp [zB,hmm])
 refine qA ?_
 refine AW.seqDrawS tok mixed 5 [[4],[20],[5],[22],[21,23]] [.nilp,.int .u64 (qU a),.nilp,.int .u64 (qU b)] [] (by kernel_rfl) ?_
 iterate 5 refine dq1 (ai h1 h2) ?_ (h:=by intro C; conv=>lhs; simp [zB])
 refine DGo.nil (by kernel_rfl) ⟨by kernel_rfl, ?_⟩
 refine qC.run [[0,4,5,6,7,8]] ?_
 refine op1 tok ?_ (h:=by intro C; conv=>lhs; simp [zB])
 refine qA (AW.seq (rgn [] [[]] ?_))
 refine op1 tok ?_
 refine qA (AW.block (rgn [] [[],[0,4,5,6,7,8,25,26]] ?_))
 iterate 2 refine op1 tok ?_
 refine qA (cnd ?_ ?_)
 ·intro h26
  try simp at h26
 intro h26
 try simp at h26
 refine AW.seq (rgn [] [[],[0,4,5,6,7,8,25,32]] ?_)
 iterate 2 refine op1 tok ?_
 refine qA (cnd ?_ ?_)
 ·intro h32
  try simp at h32
 intro h32
 try simp at h32
 refine rgn [] [[],[0,4,5,6,7,8,25,32]] ?_
 iterate 2 refine op1 tok ?_
 refine qA (cnd ?_ ?_)
 ·intro h32
  try simp at h32
 intro h32
 try simp at h32
 refine rgn [] [[],[0,4,5,6,7,8,25,32]] ?_
 iterate 2 refine op1 tok ?_
 refine qA (cnd ?_ ?_)
 ·intro h32
  try simp at h32
 intro h32
 try simp at h32
 refine rgz [] [[],[0,4,5,6,7,8,25,32]] ?_
 iterate 2 refine op1 tok ?_
 refine qA (cnd ?_ ?_)
 ·intro h32
  try simp at h32
 intro h32
 try simp at h32
 refine AW.seq (rgn [] [[],[0,4,5,6,7,8,25,58]] ?_)
 iterate 2 refine op1 tok ?_
 refine qA (cnd ?_ ?_)
 ·intro h58
  try simp at h58
 intro h58
 try simp at h58
 refine rgz [] [[],[0,4,5,6,7,8,58]] ?_
 iterate 2 refine op1 tok ?_
 refine qA (cnd ?_ ?_)
 ·intro h58
  try simp at h58
  refine rgn [.nilp,.tup [.bool u1,.bool o1]] [[],[],[],[],[0,5,6,7,64,65],[],[0,5,6,7,9,10]] ?_
  iterate 7 refine oq1 tok t1 ?_
  refine qA (rgn [.nilp,.tup [.bool u2,.bool o2]] [[],[],[],[],[0,6,7,9,10,69,70],[],[0,6,7,9,10,11,12]] ?_)
  iterate 7 refine oq1 tok t2 ?_
  refine qA (AW.seq (rgn [] [[],[],[],[0,6,7,9,11,73,74],[],[0,6,7,9,11,76]] ?_))
  iterate 3 refine op1 tok ?_
  iterate 2 refine op2 tok ?_
  refine op1 tok ?_
  refine qA (cnd ?_ ?_)
  ·intro h76
   try simp at h76
   rw [if_neg (show ¬ (o1=true∧o2=true) from fun h=>by simp [h.1,h.2] at h76)]
   refine rgn [.nilp,F.enc] [[],[],[6]] ?_
   iterate 3 refine oq1 tok hf ?_
   exact qA (AW.ret qG)
  intro h76
  try simp at h76
  rw [if_pos (show o1=true∧o2=true by cases o1 <;> cases o2 <;> simp at h76 ⊢)]
  refine AW.skip (AW.seq (rgn [] [[],[6,7,9,11,80]] ?_))
  iterate 2 refine op1 tok ?_
  refine qA (cnd ?_ ?_)
  ·intro h80
   try simp at h80
  intro h80
  try simp at h80
  refine AW.skip (rgn [.nilp,M.enc] [[],[],[],[6,7,90],[],[],[6]] ?_)
  iterate 2 refine op1 tok ?_ (hv:=by first | with_reducible exact True.intro | ((first | (cases u1 <;> simpa using hBa) | (simpa using hBa)); done) | omega | simp | (simp +contextual; omega))
  refine op2 tok ?_ (hv:=by first | with_reducible exact True.intro | ((first | (cases u1 <;> simpa using hBa) | (simpa using hBa)); done) | omega | simp | (simp +contextual; omega))
  iterate 4 refine op1 tok ?_ (hv:=by first | with_reducible exact True.intro | ((first | (cases u1 <;> simpa using hBa) | (simpa using hBa)); done) | omega | simp | (simp +contextual; omega))
  exact qA (AW.ret qG)
 intro h58
 try simp at h58
theorem zHE (op:List UInt8) (a b:Val) (ha:qS a=true) (hb:qS b=true) (hop:op=[61,61]∨op=[33,61]∨op=[60]∨op=[60,61]∨op=[62]∨op=[62,61]):AFn Tryz.prog G 14 [.str op,a.enc,b.enc] ((kG (uP op (vL a b)) (orM (qU a) (qU b))).enc):=by
 refine AFn.introU tok Tryz.func14 (by kernel_rfl) rfl rfl ?_
 simp only [Tryz.f14,qI,List.map_cons,List.map_nil]
 have h1:=wG (G:=G) a ha
 have h2:=wG (G:=G) b hb
 have hc:=qSK (G:=G) a b ha hb
 have hB:=fun x=>qLC (G:=G) x (orM (qU a) (qU b))
 have hne:op≠[43]∧op≠[45]∧op≠[42]∧op≠[47]∧op≠[37]∧op≠[97,110,100]∧op≠[111,114]:=by rcases hop with rfl | rfl | rfl | rfl | rfl | rfl <;> decide
 generalize vL a b=c at *
 generalize hmm:orM (qU a) (qU b)=m at *
 simp only [Val.enc_def] at h1 h2 hc hB
 refine rgn [] [[],[],[0,4,5,6]] ?_
 iterate 3 refine op1 tok ?_
 refine qA (rgn [] [[],[],[],[],[0,4,5,6,19],[0,4,5,6,7]] ?_)
 iterate 6 refine op1 tok ?_ (h:=by intro C; conv=>lhs; simp [zB])
 refine qA ?_
 refine AW.seqDrawS tok mixed 5 [[4],[20],[5],[22],[21,23]] [.nilp,.int .u64 (qU a),.nilp,.int .u64 (qU b)] [] (by kernel_rfl) ?_
 iterate 5 refine dq1 (ai h1 h2) ?_ (h:=by intro C; conv=>lhs; simp [zB,hmm])
 refine DGo.nil (by kernel_rfl) ⟨by kernel_rfl, ?_⟩
 refine qC.run [[0,4,5,6,7,8]] ?_
 refine op1 tok ?_ (h:=by intro C; conv=>lhs; simp [zB,hmm])
 refine qA (AW.seq (rgn [] [[]] ?_))
 refine op1 tok ?_
 refine qA (AW.block (rgn [] [[],[0,4,5,6,7,8,25,26]] ?_))
 iterate 2 refine op1 tok ?_
 refine qA (cnd ?_ ?_)
 ·intro h26
  try simp at h26
  exact absurd h26 hne.1
 intro h26
 try simp at h26
 refine AW.seq (rgn [] [[],[0,4,5,6,7,8,25,32]] ?_)
 iterate 2 refine op1 tok ?_
 refine qA (cnd ?_ ?_)
 ·intro h32
  try simp at h32
  exact absurd h32 hne.2.1
 intro h32
 try simp at h32
 refine rgn [] [[],[0,4,5,6,7,8,25,32]] ?_
 iterate 2 refine op1 tok ?_
 refine qA (cnd ?_ ?_)
 ·intro h32
  try simp at h32
  exact absurd h32 hne.2.2.1
 intro h32
 try simp at h32
 refine rgn [] [[],[0,4,5,6,7,8,25,32]] ?_
 iterate 2 refine op1 tok ?_
 refine qA (cnd ?_ ?_)
 ·intro h32
  try simp at h32
  exact absurd h32 hne.2.2.2.1
 intro h32
 try simp at h32
 refine rgz [] [[],[0,4,5,6,7,8,25,32]] ?_
 iterate 2 refine op1 tok ?_
 refine qA (cnd ?_ ?_)
 ·intro h32
  try simp at h32
  exact absurd h32 hne.2.2.2.2.1
 intro h32
 try simp at h32
 refine AW.seq (rgn [] [[],[0,4,5,6,7,8,25,58]] ?_)
 iterate 2 refine op1 tok ?_
 refine qA (cnd ?_ ?_)
 ·intro h58
  try simp at h58
  exact absurd h58 hne.2.2.2.2.2.1
 intro h58
 try simp at h58
 refine rgz [] [[],[0,4,5,6,7,8,58]] ?_
 iterate 2 refine op1 tok ?_
 refine qA (cnd ?_ ?_)
 ·intro h58
  try simp at h58
  exact absurd h58 hne.2.2.2.2.2.2
 intro h58
 try simp at h58
 refine AW.skip (rgn [.nilp,.int .i64 c] [[],[],[0,6,8,95],[0,6,8,13]] ?_)
 iterate 4 refine oq1 tok hc ?_
 refine qA (rgn [] [[],[],[0,6,8,13,14]] ?_)
 iterate 3 refine op1 tok ?_
 refine qA (AW.seq (rgn [] [[6,8,13,14,98]] ?_))
 refine op1 tok ?_
 refine qA (AW.block (rgn [] [[],[6,8,13,14,98,99]] ?_))
 iterate 2 refine op1 tok ?_
 refine qA (cnd ?_ ?_)
 ·intro h99
  try simp at h99
  subst h99
  have hBa:=hB (decide (c≠0))
  rw [show uP [33,61] c=decide (c≠0) by unfold uP; simp]
  generalize kG (decide (c≠0)) m=M at *
  refine rgz [] [[],[],[6,8,14]] ?_
  iterate 3 refine op1 tok ?_
  refine qA (rgn [.nilp,M.enc] [[],[],[6,121],[6]] ?_)
  iterate 4 refine oq1 tok hBa ?_
  exact qA (AW.ret qG)
 intro h99
 try simp at h99
 refine rgn [] [[],[6,8,13,14,98,103]] ?_
 iterate 2 refine op1 tok ?_
 refine qA (cnd ?_ ?_)
 ·intro h103
  try simp at h103
  subst h103
  have hBa:=hB (decide (c<0))
  rw [show uP [60] c=decide (c<0) by unfold uP; simp]
  generalize kG (decide (c<0)) m=M at *
  refine rgz [] [[],[],[6,8,14]] ?_
  iterate 3 refine op1 tok ?_
  refine qA (rgn [.nilp,M.enc] [[],[],[6,121],[6]] ?_)
  iterate 4 refine oq1 tok hBa ?_
  exact qA (AW.ret qG)
 intro h103
 try simp at h103
 refine rgn [] [[],[6,8,13,14,98,107]] ?_
 iterate 2 refine op1 tok ?_
 refine qA (cnd ?_ ?_)
 ·intro h107
  try simp at h107
  subst h107
  have hBa:=hB (decide (c≤0))
  rw [show uP [60,61] c=decide (c≤0) by unfold uP; simp; rw [← Bool.decide_or]; congr 1; exact propext (by omega)]
  generalize kG (decide (c≤0)) m=M at *
  refine rgz [] [[],[],[6,8,14]] ?_
  iterate 3 refine op1 tok ?_
  refine qA (rgn [.nilp,M.enc] [[],[],[6,121],[6]] ?_)
  iterate 4 refine oq1 tok hBa ?_
  exact qA (AW.ret qG)
 intro h107
 try simp at h107
 refine rgn [] [[],[6,8,13,14,98,111]] ?_
 iterate 2 refine op1 tok ?_
 refine qA (cnd ?_ ?_)
 ·intro h111
  try simp at h111
  subst h111
  have hBa:=hB (decide (0<c))
  rw [show uP [62] c=decide (0<c) by unfold uP; simp]
  generalize kG (decide (0<c)) m=M at *
  refine rgz [] [[],[],[6,8,14]] ?_
  iterate 3 refine op1 tok ?_
  refine qA (rgn [.nilp,M.enc] [[],[],[6,121],[6]] ?_)
  iterate 4 refine oq1 tok hBa ?_
  exact qA (AW.ret qG)
 intro h111
 try simp at h111
 refine rgn [] [[],[6,8,13,14,115]] ?_
 iterate 2 refine op1 tok ?_
 refine qA (cnd ?_ ?_)
 ·intro h115
  try simp at h115
  subst h115
  have hBa:=hB (decide (0≤c))
  rw [show uP [62,61] c=decide (0≤c) by unfold uP; simp; rw [← Bool.decide_or]; congr 1; exact propext (by omega)]
  generalize kG (decide (0≤c)) m=M at *
  refine rgz [] [[],[],[6,8,14]] ?_
  iterate 3 refine op1 tok ?_
  refine qA (rgn [.nilp,M.enc] [[],[],[6,121],[6]] ?_)
  iterate 4 refine oq1 tok hBa ?_
  exact qA (AW.ret qG)
 intro h115
 try simp at h115
 have ho:op=[61,61]:=by
  rcases hop with h | h | h | h | h | h
  ·exact h
  ·exact absurd h h99
  ·exact absurd h h103
  ·exact absurd h h107
  ·exact absurd h h111
  exact absurd h h115
 subst ho
 have hBa:=hB (decide (c=0))
 rw [show uP [61,61] c=decide (c=0) by unfold uP; simp]
 generalize kG (decide (c=0)) m=M at *
 refine AW.skip (rgn [.nilp,M.enc] [[],[],[6,121],[6]] ?_)
 iterate 4 refine oq1 tok hBa ?_
 exact qA (AW.ret qG)
theorem zKU (op:List UInt8) (a b:Val) (ha:qS a=true) (hb:qS b=true) (hop:op∈qYY):AFn Tryz.prog G 14 [.str op,a.enc,b.enc] (qVT op a b).enc:=by
 simp only [qYY,List.mem_cons,List.not_mem_nil,or_false] at hop
 unfold qVT
 split
 ·rename_i h; subst h; exact zGX a b ha hb
 rename_i n1
 split
 ·rename_i h; subst h
  split
  ·rename_i h; exact zHD a b ha hb h.1 h.2
  rename_i h; exact zGZ a b ha hb h
 rename_i n2
 split
 ·rename_i h; subst h; exact zHC a b ha hb
 rename_i n3
 split
 ·rename_i h; subst h; exact zGY a b ha hb
 rename_i n4
 split
 ·rename_i h; subst h; exact zHA a b ha hb
 rename_i n5
 split
 ·rename_i h; subst h; exact zHF a b ha hb
 rename_i n6
 split
 ·rename_i h; subst h; exact zHB a b ha hb
 rename_i n7
 refine zHE op a b ha hb ?_
 rcases hop with h | h | h | h | h | h | h | h | h | h | h | h | h
 ·exact absurd h n1
 ·exact absurd h n2
 ·exact absurd h n3
 ·exact absurd h n4
 ·exact absurd h n5
 ·exact .inl h
 ·exact .inr (.inl h)
 ·exact .inr (.inr (.inl h))
 ·exact .inr (.inr (.inr (.inl h)))
 ·exact .inr (.inr (.inr (.inr (.inl h))))
 ·exact .inr (.inr (.inr (.inr (.inr h))))
 ·exact absurd h n6
 exact absurd h n7
end Go.Proofs.YtdojfdaglbphlaaGreatDoor
