import Derived.Test.YtgcbapchinideaaGreatDoorSCallB
import Derived.Test.YtgcbapchinideaaGreatDoorSNames13
import Derived.Test.YtgcbapchinideaaGreatDoorSRefDeep
import Derived.Test.YtgcbapchinideaaGreatDoorSRefMay
import Derived.Test.YtgcbapchinideaaGreatDoorK5
import Derived.Test.YtgcbapchinideaaGreatDoorM3
set_option linter.all false
namespace Go.Proofs.YtgcbapchinideaaGreatDoor
open Sy Go
set_option maxRecDepth 100000
set_option maxHeartbeats 4000000
variable {G:qT}
theorem qVE (l:List Item) (n:Nat) (s:List UInt8) (hG:U8 G) (hM:qOP 0 G) (hl:∀ x∈l,x.keys.length<=140737488351232) (il:∀ x∈l,InM x.mask) (hn:n<256):AFn Tryz.prog G 3 [.sl 6 (l.map Item.enc),.int .u8 n,.str s] (.bool true):=by
 refine AFn.introU tok Tryz.func3 (by kernel_rfl) rfl rfl ?_;simp only[Tryz.f3,qG,bA,bC];have hsh:=zHE (G:=G);have hbl:=zWD (G:=G) l hl;have ma:=zQE l;have ia:=zUZ il;have za:=zUY l;have hca:=zUX (G:=G) n hn;have hk:xE n=xE (n % 25):=by unfold xE;rw[Nat.mod_mod]
 have h25:n % 25<25:=eQ _ (by decide);rw[hk]at hca;have ha:=zVL (G:=G) s;obtain⟨hal,hav⟩:=zVK s;generalize qYG s=w at *;generalize qAB l=a at *;have mb:qU (qP a)=true:=by rw[qMQ];exact ma
 have t1:=qXZ (G:=G) hG hM (n % 25) h25 w hal a ma (by omega);have t2:=qXZ (G:=G) hG hM (n % 25) h25 w hal (qP a) mb (by rw[zMJ];omega);rw[zJJ h25 w ma]at t2;have ba:=qSG (G:=G) a ma;obtain⟨b1,b2⟩:=zFT h25 w ia;have hx:=zQB h25 hav ma;have da:=qSF (G:=G) a ma;have dx:=qSF (G:=G) _ hx;have bx:=qSG (G:=G) _ hx;have sx:=zHG (G:=G) (qP (vL (n % 25) w a)) (by rw[qMQ];exact hx) (qP (vL (n % 25) w a));rw[zNT]at sx;have mx:=zHH (G:=G) (vL (n % 25) w a);rw[hx]at mx;have e1:zZL (vL (n % 25) w a).mask a.mask=a.mask:=b1.and (qIK ia);have e2:qUN (qX (vL (n % 25) w a)) (qX a)=0:=b2.sub;generalize xE (n % 25)=cn at *;generalize vL (n % 25) w a=x at *;generalize qP x=y at *;generalize qP a=a0 at *;simp only[iK,Item.enc]at hbl t1 t2 ba da dx bx sx mx;refine rgn [] [[0,1,2]] ?_;refine op3 ?_;refine qA (rgn [.nilp,.bool true] [[],[0,1,2,7]] ?_);iterate 2 refine oq1 tok hsh ?_
 refine qA (rgn [.nilp,a.enc] [[],[],[],[1,2,7,8]] ?_);iterate 4 refine op3 ?_ (hv:=by first|exact True.intro|((simp at hbl ⊢; exact hbl);done)|omega|simp)
 refine qA ?_;refine iU tok mixed 7 [[1],[16],[2],[18],[8],[17,19,20],[]] [.nilp,.str cn,.nilp,.str w,.nilp,x.enc] [] (by kernel_rfl) ?_;iterate 7 refine dq1 (ai hca (ai ha t1)) ?_
 refine DGo.nil (by kernel_rfl) ⟨by kernel_rfl, ?_⟩;refine qB.run [[1,2,7,8,9]] ?_;refine op3 ?_;refine qA ?_;refine iU tok mixed 8 [[1],[22],[2],[24],[8],[26],[23,25,27],[]] [.nilp,.str cn,.nilp,.str w,.nilp,a0.enc,.nilp,y.enc] [] (by kernel_rfl) ?_;iterate 8 refine d1 ?_ (hv:=by first|exact True.intro|exact hca|exact ha|exact ba|exact t2;done|omega|simp)
 refine DGo.nil (by kernel_rfl) ⟨by kernel_rfl, ?_⟩;refine qB.run [[7,8,9,10]] ?_;refine op3 ?_;refine qA ?_;refine iU tok mixed 4 [[9],[29],[10],[30,31]] [.nilp,y.enc,.nilp,.bool true] [] (by kernel_rfl) ?_;iterate 4 refine dq1 (ai bx sx) ?_
 refine DGo.nil (by kernel_rfl) ⟨by kernel_rfl, ?_⟩;refine qB.run [[7,8,9,11]] ?_;refine op3 ?_;refine qA (rgn [.nilp,.bool true] [[],[],[7,8,9,11,12]] ?_);iterate 3 refine oq1 tok mx ?_
 refine qA ?_;refine iU tok mixed 25 [[7],[35],[9,36],[37,36],[8,36],[39,36],[38,40,36],[8,36],[42,36],[41,43,36],[36,44],[45],[9,46],[47,46],[8,46],[49,46],[48,50,46],[51,46],[46,52],[53],[11,54],[54,55],[56],[12,57],[57,58]] [.nilp,.int .u64 (qX x),.nilp,.int .u64 (qX a)] [] (by kernel_rfl) ?_;iterate 2 refine d1 ?_ (h:=by intro C;conv=>lhs;simp[vN,vA,e1,e2]) (hv:=by first|exact True.intro|exact fun _=>dx|exact dx|exact fun _=>da|exact da|(simp;done);done|omega|simp)
 iterate 8 refine d2 36 rfl rfl ?_ (h:=by intro C;conv=>lhs;simp[vN,vA,e1,e2]) (hv:=by first|exact True.intro|exact fun _=>dx|exact dx|exact fun _=>da|exact da|(simp;done);done|omega|simp)
 iterate 2 refine d1 ?_ (h:=by intro C;conv=>lhs;simp[vN,vA,e1,e2]) (hv:=by first|exact True.intro|exact fun _=>dx|exact dx|exact fun _=>da|exact da|(simp;done);done|omega|simp)
 iterate 6 refine d2 46 rfl rfl ?_ (h:=by intro C;conv=>lhs;simp[vN,vA,e1,e2]) (hv:=by first|exact True.intro|exact fun _=>dx|exact dx|exact fun _=>da|exact da|(simp;done);done|omega|simp)
 iterate 2 refine d1 ?_ (h:=by intro C;conv=>lhs;simp[vN,vA,e1,e2]) (hv:=by first|exact True.intro|exact fun _=>dx|exact dx|exact fun _=>da|exact da|(simp;done);done|omega|simp)
 refine d2 54 rfl rfl ?_ (h:=by intro C;conv=>lhs;simp[vN,vA,e1,e2]) (hv:=by first|exact True.intro|exact fun _=>dx|exact dx|exact fun _=>da|exact da|(simp;done);done|omega|simp);iterate 2 refine d1 ?_ (h:=by intro C;conv=>lhs;simp[vN,vA,e1,e2]) (hv:=by first|exact True.intro|exact fun _=>dx|exact dx|exact fun _=>da|exact da|(simp;done);done|omega|simp)
 refine d2 57 rfl rfl ?_ (h:=by intro C;conv=>lhs;simp[vN,vA,e1,e2]) (hv:=by first|exact True.intro|exact fun _=>dx|exact dx|exact fun _=>da|exact da|(simp;done);done|omega|simp);refine d1 ?_ (h:=by intro C;conv=>lhs;simp[vN,vA,e1,e2]) (hv:=by first|exact True.intro|exact fun _=>dx|exact dx|exact fun _=>da|exact da|(simp;done);done|omega|simp);refine DGo.nil (by kernel_rfl) ⟨by kernel_rfl, ?_⟩;refine qB.run [[6]] ?_;refine op3 ?_ (h:=by intro C;conv=>lhs;simp[vN,vA,e1,e2]);exact qA (AW.ret qI)
end Go.Proofs.YtgcbapchinideaaGreatDoor
