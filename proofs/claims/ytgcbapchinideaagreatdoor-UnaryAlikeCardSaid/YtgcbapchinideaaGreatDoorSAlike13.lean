import Derived.Test.YtgcbapchinideaaGreatDoorSCallW
import Derived.Test.YtgcbapchinideaaGreatDoorSAlikeE
import Derived.Test.YtgcbapchinideaaGreatDoorSNames13
namespace Go.Proofs.YtgcbapchinideaaGreatDoor
open Sy Go
set_option maxRecDepth 100000
set_option maxHeartbeats 4000000
set_option linter.all false
variable {G:qR}
theorem qSM (l1 l2:List Item) (s:List UInt8) (n:Nat) (c:Int) (hG:U8 G) (hM:qMM 0 G) (h1:∀ x∈l1,x.keys.length<=140737488351232) (h2:∀ x∈l2,x.keys.length<=140737488351232) (hn:n<256):AFn Tryz.prog G 4 [.agg [.sl 6 (l1.map Item.enc),.sl 6 (l2.map Item.enc),.str s],.int .u8 n,.int .u64 c] (.bool true):=by
 refine AFn.introU tok Tryz.func4 (by kernel_rfl) rfl rfl ?_
 simp only[Tryz.f4,qG,List.map_cons,List.map_nil]
 have hsh:=zDW (G:=G)
 have hb1:=zCZ (G:=G) l1 h1
 have hb2:=zCZ (G:=G) l2 h2
 have m1:=qVE l1
 have m2:=qVE l2
 have z1:=zCI l1
 have z2:=zCI l2
 have hca:=zQI (G:=G) n hn
 have hk:jM n=jM (n % 25):=by unfold jM;rw[Nat.mod_mod]
 have h25:n % 25<25:=Nat.mod_lt _ (by decide)
 rw[hk]at hca
 have ha:=zQT (G:=G) s
 have hal:(zCQ s).length<=40:=by
  unfold zCQ;split
  ·simp
  exact zBV s
 generalize zCQ s=w at *
 generalize uS l1=a at *
 generalize uS l2=b at *
 have t1:=qVD (G:=G) hG hM (n % 25) h25 w hal a m1 (by omega)
 have t2:=qVD (G:=G) hG hM (n % 25) h25 w hal b m2 (by omega)
 have y1:=qVC h25 w (qOB _ m1)
 have y2:=qVC h25 w (qOB _ m2)
 have e1:=qVJ (G:=G) c a (qOB _ m1) b (qOB _ m2)
 have e3:=qVJ (G:=G) c _ y1 _ y2
 have hL:uT c a b=true->uT c (uI (n % 25) w a) (uI (n % 25) w b)=true:=fun g1=>(qGR _ _ _).2 (zLS h25 w ((qGR _ _ _).1 g1))
 generalize jM (n % 25)=cn at *
 generalize uI (n % 25) w a=u at *
 generalize uI (n % 25) w b=v at *
 generalize uT c a b=p at *
 generalize uT c u v=r at *
 simp only[Val.enc_def,Item.enc]at hb1 hb2 e1 e3 t1 t2
 refine rgn [] [[],[1,2,3]] ?_
 iterate 2 refine op3 ?_
 refine qA (rgn [.nilp,.bool true] [[],[1,2,3,7]] ?_)
 iterate 2 refine oq1 tok hsh ?_
 refine qA (rgn [.nilp,a.enc] [[],[],[],[],[1,2,3,7,8]] ?_)
 iterate 5 refine op3 ?_ (hv:=by first|exact True.intro|((simp at hb1 ⊢; exact hb1);done)|omega|simp)
 refine qA (rgn [.nilp,b.enc] [[],[],[],[],[1,2,3,7,8,9]] ?_)
 iterate 5 refine op3 ?_ (hv:=by first|exact True.intro|((simp at hb2 ⊢; exact hb2);done)|omega|simp)
 refine qA (rgn [.nilp,.bool p] [[],[],[],[],[1,2,3,7,8,9,10]] ?_)
 iterate 5 refine oq1 tok e1 ?_
 refine qA (AW.seq (rgn [] [[],[1,2,3,7,8,9,23]] ?_))
 iterate 2 refine op3 ?_
 refine qA (cnd ?_ ?_)
 ·intro h23
  try simp at h23
  refine rgn [] [[],[6]] ?_
  iterate 2 refine op3 ?_
  exact qA (AW.ret qI)
 intro h23
 try simp at h23
 have hp:p=true:=by cases p <;> simp at h23 ⊢
 have hr:=hL hp
 subst hr
 refine AW.skip ?_
 refine AW.seqDrawS tok mixed 19 [[7],[25],[1,26],[27,26],[3,26],[29,26],[30,26],[8,26],[28,31,32,26],[1,26],[34,26],[3,26],[36,26],[37,26],[9,26],[35,38,39,26],[2,26],[33,40,41,26],[26,42]] [.nilp,.str cn,.nilp,.str w,.nilp,u.enc,.nilp,.str cn,.nilp,.str w,.nilp,v.enc,.nilp,.bool true] [] (by kernel_rfl) ?_
 iterate 2 refine d1 ?_ (hv:=by first|exact True.intro|exact hca|exact ha|exact t1|exact t2|exact e3;done|omega|simp)
 iterate 16 refine d2 26 rfl rfl ?_ (hv:=by first|exact True.intro|exact hca|exact ha|exact t1|exact t2|exact e3;done|omega|simp)
 refine d1 ?_ (hv:=by first|exact True.intro|exact hca|exact ha|exact t1|exact t2|exact e3;done|omega|simp)
 refine DGo.nil (by kernel_rfl) ⟨by kernel_rfl, ?_⟩
 refine qB.run [[6]] ?_
 refine op3 ?_
 exact qA (AW.ret qI)
end Go.Proofs.YtgcbapchinideaaGreatDoor
