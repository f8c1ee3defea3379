import Derived.Test.YtdojfdaglbphlaaGreatDoorK4
import Derived.Test.YtdojfdaglbphlaaGreatDoorSDecAddF
import Derived.Test.YtdojfdaglbphlaaGreatDoorK1
namespace Go.Proofs.YtdojfdaglbphlaaGreatDoor
open Sy Go
set_option maxRecDepth 100000
set_option maxHeartbeats 4000000
set_option linter.unusedSimpArgs false
set_option linter.unusedVariables false
variable {G:qR}
def qFJ (r:Dc × Int) (m:Int):Val:=if r.2=0 then .mk 4 m r.1 [] [] [] 0 else wQ r.2 m
theorem qOM (a b:Val) (top deep:Int) (g:FuncId) (r:Dc × Int) (ha:a.kind=4) (hb:b.kind=4) (hw:AFn Tryz.prog G g [a.num.enc,b.num.enc] (.tup [r.1.enc,.int .i64 r.2])):AFn Tryz.prog G 34 [.agg (prC a b top deep),.fn g] ((qFJ r top).enc):=by
 refine AFn.introU tok Tryz.func34 (by kernel_rfl) rfl rfl ?_
 simp only [Tryz.f34,qI,List.map_cons,List.map_nil]
 have hk:=kS (G:=G) a b top deep 4
 have hf:=qFI (G:=G) a b top deep r.2
 rw [show (decide (a.kind=4) && decide (b.kind=4))=true by simp [ha,hb]] at hk
 simp only [Val.enc_def] at hf
 have e:qFJ r top=if r.2=0 then .mk 4 top r.1 [] [] [] 0 else wQ r.2 top:=rfl
 rw [e]
 obtain ⟨d,c⟩:=r
 simp only at hf hw ⊢
 refine rgn [] [[],[1,2,4]] ?_
 iterate 2 refine op1 tok ?_
 refine qA (AW.seq (rgn [.nilp,.bool true] [[],[],[1,2,4,9]] ?_))
 iterate 3 refine oq1 tok hk ?_
 refine qA (cnd ?_ ?_)
 ·intro h9
  try simp at h9
 intro h9
 try simp at h9
 refine AW.skip (rgn [.tup [a.num.enc,b.num.enc],.tup [d.enc,.int .i64 c]] [[],[],[],[],[],[2,4,13,16,18],[],[2,4,20],[],[],[],[],[],[2,4,5,6]] ?_)
 iterate 14 refine oq1 tok hw ?_
 refine qA (AW.seq (rgn [] [[],[2,4,5,6,24]] ?_))
 iterate 2 refine op1 tok ?_
 refine qA (cnd ?_ ?_)
 ·intro h24
  try simp at h24
  rw [if_neg h24]
  refine rgn [.nilp,(wQ c top).enc] [[],[],[4,27],[4]] ?_
  iterate 4 refine oq1 tok hf ?_
  exact qA (AW.ret qG)
 intro h24
 try simp at h24
 rw [if_pos (by omega)]
 refine AW.skip (rgn [] [[],[],[],[4,31],[4]] ?_)
 iterate 5 refine op1 tok ?_
 exact qA (AW.ret qG)
theorem zMD (a b:Val) (top deep:Int) (ha:qS a=true) (hb:qS b=true) (hka:a.kind=4) (hkb:b.kind=4):AFn Tryz.prog G 32 [.agg (prC a b top deep)] ((qFJ (qEO a.num b.num) top).enc):=by
 refine AFn.introU tok Tryz.func32 (by kernel_rfl) rfl rfl ?_
 simp only [Tryz.f32,qI,List.map_cons,List.map_nil]
 have k5:=kS (G:=G) a b top deep 5
 have k6:=kS (G:=G) a b top deep 6
 have k7:=kS (G:=G) a b top deep 7
 have hw:=qOM (G:=G) a b top deep 81 (qEO a.num b.num) hka hkb (qUL a.num b.num (zF (yW ha hka)).1 (zF (yW hb hkb)).1)
 generalize qFJ (qEO a.num b.num) top=M at *
 simp only [Val.enc_def] at hw
 simp only [hka,hkb] at k5 k6 k7 hw
 refine rgn [] [[],[1,2]] ?_
 iterate 2 refine op1 tok ?_
 refine qA (rgn [] [[]] ?_)
 refine op1 tok ?_
 refine qA (AW.seq (AW.block (rgn [] [[],[],[],[],[1,2,3,6]] ?_)))
 iterate 5 refine op1 tok ?_
 refine qA (cnd ?_ ?_)
 ·intro h6
  try simp at h6
  omega
 intro h6
 try simp at h6
 refine rgn [] [[],[],[],[],[1,2,3,16]] ?_
 iterate 5 refine op1 tok ?_
 refine qA (cnd ?_ ?_)
 ·intro h16
  try simp at h16
  omega
 intro h16
 try simp at h16
 refine rgn [.nilp,.bool false] [[],[],[1,2,3,26]] ?_
 iterate 3 refine op1 tok ?_ (hv:=by first | with_reducible exact True.intro | ((simpa [hka,hkb] using k5); done) | omega | simp | (simp +contextual; omega))
 refine qA (cnd ?_ ?_)
 ·intro h26
  try simp at h26
 intro h26
 try simp at h26
 refine rgn [.nilp,.bool false] [[],[],[1,2,3,39]] ?_
 iterate 3 refine op1 tok ?_ (hv:=by first | with_reducible exact True.intro | ((simpa [hka,hkb] using k6); done) | omega | simp | (simp +contextual; omega))
 refine qA (cnd ?_ ?_)
 ·intro h39
  try simp at h39
 intro h39
 try simp at h39
 refine rgn [.nilp,.bool false] [[],[],[1,2,3,54]] ?_
 iterate 3 refine op1 tok ?_ (hv:=by first | with_reducible exact True.intro | ((simpa [hka,hkb] using k7); done) | omega | simp | (simp +contextual; omega))
 refine qA (cnd ?_ ?_)
 ·intro h54
  try simp at h54
 intro h54
 try simp at h54
 refine rgn [.nilp,M.enc] [[],[],[2]] ?_
 iterate 3 refine op1 tok ?_ (hv:=by first | with_reducible exact True.intro | ((simpa [hka,hkb] using hw); done) | omega | simp | (simp +contextual; omega))
 exact qA (AW.ret qG)
def qHA (a b:Val) (m:Int):Val:=if a.kind=4∧b.kind=4 then qFJ (qEO a.num b.num) m else qYT a b m
theorem zMG (a b:Val) (top deep:Int) (ha:qS a=true) (hb:qS b=true):AFn Tryz.prog G 32 [.agg (prC a b top deep)] (qHA a b top).enc:=by
 unfold qHA
 split
 ·rename_i h; exact zMD a b top deep ha hb h.1 h.2
 rename_i h; exact zMF a b top deep ha hb h (fun h7=>(jW ha h7).1) (fun h7=>(jW hb h7).1)
theorem zBZ (a b:Val) (ha:qS a=true) (hb:qS b=true):AFn Tryz.prog G 12 [.str [43],a.enc,b.enc] ((qHA a b (orM a.mask b.mask)).enc):=by
 refine AFn.introU tok Tryz.func12 (by kernel_rfl) rfl rfl ?_
 simp only [Tryz.f12,qI,List.map_cons,List.map_nil]
 have h1:=yN (G:=G) a
 have h2:=yN (G:=G) b
 have hp:=zMG (G:=G) a b (orM a.mask b.mask) (orM (qU a) (qU b)) ha hb
 generalize qHA a b (orM a.mask b.mask)=M at *
 simp only [Val.enc_def] at h1 h2 hp
 refine rgn [] [[],[],[0,4,5,6]] ?_
 iterate 3 refine op1 tok ?_
 refine qA ?_
 refine AW.seqDrawS tok mixed 14 [[4],[5],[4],[12],[5],[14],[13,15],[4],[17],[5],[19],[18,20],[10,11,16,21],[]] [.nilp,.int .u64 (qU a),.nilp,.int .u64 (qU b)] [] (by kernel_rfl) ?_
 iterate 14 refine dq1 (ai h1 h2) ?_ (h:=by intro C; conv=>lhs; simp [zB])
 refine DGo.nil (by kernel_rfl) ⟨by kernel_rfl, ?_⟩
 refine qC.run [[0,4,5,6,7]] ?_
 refine op1 tok ?_ (h:=by intro C; conv=>lhs; simp [zB])
 refine qA (AW.seq (rgn [] [[]] ?_))
 refine op1 tok ?_
 refine qA (AW.block (rgn [] [[],[0,4,5,6,7,23,24]] ?_))
 iterate 2 refine op1 tok ?_
 refine qA (cnd ?_ ?_)
 ·intro h24
  try simp at h24
  refine rgn [.nilp,M.enc] [[],[],[6]] ?_
  iterate 3 refine op1 tok ?_ (hv:=by first | with_reducible exact True.intro | ((simp at hp ⊢; exact hp); done) | omega | simp | (simp +contextual; omega))
  exact qA (AW.ret qG)
 intro h24
 try simp at h24
end Go.Proofs.YtdojfdaglbphlaaGreatDoor
