import Derived.Test.YtgcbapchinideaaGreatDoorM3
import Derived.Test.YtgcbapchinideaaGreatDoorSAlkB
import Derived.Test.YtgcbapchinideaaGreatDoorK4
import Derived.Test.YtgcbapchinideaaGreatDoorSBuiltL
import Derived.Test.YtgcbapchinideaaGreatDoorK5
namespace Go.Proofs.YtgcbapchinideaaGreatDoor
open Sy Go
set_option maxRecDepth 100000
set_option maxHeartbeats 4000000
set_option linter.all false
variable {G:qR}
noncomputable def uT (c:Int) (a b:Val):Bool := @decide (Alk c a b) (Classical.propDecidable _)
theorem qGR (c:Int) (a b:Val):uT c a b=true↔Alk c a b:=by unfold uT;exact @decide_eq_true_iff _ (Classical.propDecidable _)
def qLU (c:Int) (v:Val):Bool:=decide (yV v.mask c≠0)
theorem zIY (m c:Int):AFn Tryz.prog G 93 [.int .u64 m,.int .u64 c] (.bool (decide (yV m c=0))):=by
 refine AFn.introU tok Tryz.func93 (by kernel_rfl) rfl rfl ?_
 simp only[Tryz.f93,qG,List.map_cons,List.map_nil]
 refine rgn [] [[0,1]] ?_
 refine op3 ?_
 refine qA (rgn [] [[],[],[7],[],[4]] ?_)
 iterate 5 refine op3 ?_ (h:=by intro C;conv=>lhs;simp[zND])
 exact qA (AW.ret qI)
theorem qUQ (v:Val) (c:Int):AFn Tryz.prog G 52 [v.enc,.int .u64 c] (.bool (qLU c v)):=by
 refine AFn.introU tok Tryz.func52 (by kernel_rfl) rfl rfl ?_
 simp only[Tryz.f52,qG,List.map_cons,List.map_nil]
 have h:=zIY (G:=G) v.mask c
 have e:qLU c v = !decide (yV v.mask c=0):=by simp[qLU]
 rw[e]
 refine rgn [] [[],[1,2]] ?_
 iterate 2 refine op3 ?_
 refine qA (rgn [.nilp,.bool (decide (yV v.mask c=0))] [[],[],[],[8],[],[4]] ?_)
 iterate 6 refine oq1 tok h ?_
 exact qA (AW.ret qI)
theorem zRA {c:Int} {a b:Val} (h:qLU c a=true\/qLU c b=true):uT c a b=(qLU c a && qLU c b):=by
 rw[Bool.eq_iff_iff,qGR,qEU]
 unfold qLU at h ⊢
 simp only[Bool.and_eq_true,decide_eq_true_eq]at h ⊢
 constructor
 ·rintro(h1|⟨h1,h2,_⟩)
  ·exact h1
  rcases h with h|h
  ·exact absurd h1 h
  exact absurd h2 h
 exact fun h1 => .inl h1
noncomputable def zSN (a b:Val):Bool:=xH (qHK a []) (qHK b [])
theorem zMC {c:Int} {a b:Val} (h1:qLU c a=false) (h2:qLU c b=false):uT c a b=(zSN a b && eqL (uT c) a.kids b.kids):=by
 have eqL_alk:∀ l m:List Val,eqL (uT c) l m=true↔kH c l m:=by
  intro l
  induction l with
  | nil=>intro m;cases m <;> simp[eqL,kH]
  | cons x l ih =>
   intro m
   cases m with
   | nil=>simp[eqL,kH]
   | cons y m=>simp only[eqL,kH,Bool.and_eq_true,qGR,ih]
 rw[Bool.eq_iff_iff,qGR,qEU,Bool.and_eq_true,eqL_alk]
 unfold qLU at h1 h2
 have g1:yV a.mask c=0:=by simpa using h1
 have g2:yV b.mask c=0:=by simpa using h2
 unfold zSN
 rw[qAL]
 unfold qHK
 rw[Val.mk.injEq]
 constructor
 ·rintro(⟨h,_⟩|⟨_,_,e1,e2,e3,e4,e5,e6,hL⟩)
  ·exact absurd g1 h
  exact⟨⟨e1,e2,e3,e4,e5,rfl,e6⟩,hL⟩
 rintro⟨⟨e1,e2,e3,e4,e5,_,e6⟩,hL⟩
 exact .inr ⟨g1,g2,e1,e2,e3,e4,e5,e6,hL⟩
theorem zGC (a b:Val) (c:Int) (hla:a.kids.length<=1000000) (hlb:b.kids.length<=1000000) (ih:∀ x∈a.kids, ∀ y∈b.kids,AFn Tryz.prog G 18 [x.enc,y.enc,.int .u64 c] (.bool (uT c x y))):AFn Tryz.prog G 18 [a.enc,b.enc,.int .u64 c] (.bool (uT c a b)):=by
 refine AFn.introU tok Tryz.func18 (by kernel_rfl) rfl rfl ?_
 simp only[Tryz.f18,qG,List.map_cons,List.map_nil]
 have h1:=qUQ (G:=G) a c
 have h2:=qUQ (G:=G) b c
 have hs:=zDY (G:=G) (qHK a []) (by rw[qZB];simp[qHK,Val.szL]) (qHK b [])
 have hh:=zRA (c:=c) (a:=a) (b:=b)
 have ho:=zMC (c:=c) (a:=a) (b:=b)
 rw[show xH (qHK a []) (qHK b [])=zSN a b from rfl]at hs
 generalize zSN a b=tp at *
 generalize qLU c a=p at *
 generalize qLU c b=q at *
 simp only[Val.enc_def]at h1 h2 hs
 refine rgn [] [[],[],[2,3,4]] ?_
 iterate 3 refine op3 ?_
 refine qA (rgn [.nilp,.bool p] [[],[],[],[2,3,4,7]] ?_)
 iterate 4 refine oq1 tok h1 ?_
 refine qA (rgn [.nilp,.bool q] [[],[],[],[2,3,4,7,8]] ?_)
 iterate 4 refine oq1 tok h2 ?_
 refine qA (AW.seq (rgn [] [[],[],[],[2,3,4,7,8,23]] ?_))
 iterate 2 refine op3 ?_
 refine op4 ?_
 refine op3 ?_
 refine qA (cnd ?_ ?_)
 ·intro h23
  try simp at h23
  rw[hh (by cases p <;> cases q <;> simp at h23 ⊢)]
  refine rgn [] [[],[],[],[27],[6]] ?_
  iterate 2 refine op3 ?_
  refine op4 ?_
  iterate 2 refine op3 ?_
  exact qA (AW.ret qI)
 intro h23
 try simp at h23
 have hp:p=false:=by cases p <;> simp at h23 ⊢
 have hq:q=false:=by subst hp;cases q <;> simp at h23 ⊢
 subst hp;subst hq
 have ho':=ho rfl rfl
 refine AW.skip (rgn [] [[],[],[2,3,4,9]] ?_)
 iterate 3 refine op3 ?_
 refine qA (rgn [] [[],[],[2,3,4,9,10]] ?_)
 iterate 3 refine op3 ?_
 refine qA (rgn [] [[],[2,3,4,9,10]] ?_)
 iterate 2 refine op3 ?_
 refine qA (rgn [] [[],[2,3,4,9,10]] ?_)
 iterate 2 refine op3 ?_
 refine qA (rgn [.nilp,.bool tp] [[],[],[2,3,4,34],[2,3,4,11]] ?_)
 iterate 4 refine op3 ?_ (hv:=by first|exact True.intro|((simp[qHK]at hs ⊢; exact hs);done)|omega|simp)
 refine qA (AW.seq (rgn [] [[],[],[],[],[2,3,4,37,39],[],[],[],[],[2,3,4,37,44],[2,3,4,45]] ?_))
 iterate 3 refine op3 ?_
 iterate 7 refine op4 ?_
 refine op3 ?_
 refine qA (cnd ?_ ?_)
 ·intro h45
  try simp at h45
  have hR:uT c a b=false:=by
   rw[ho']
   cases htp:tp with
   | false=>rfl
   | true =>
    rw[Bool.true_and,<-Bool.not_eq_true]
    intro h
    have:=qXI h
    rw[htp]at h45
    simp[this]at h45
  refine rgn [] [[]] ?_
  refine op3 ?_
  refine qA ?_
  exact AW.ret (qI (k:=by simp[hR]))
 intro h45
 try simp at h45
 have htp:tp=true:=by cases tp <;> simp at h45 ⊢
 have hlen:a.kids.length=b.kids.length:=by subst htp;simp at h45;omega
 have hE:uT c a b=eqL (uT c) a.kids b.kids:=by rw[ho',htp];rfl
 refine AW.skip (AW.seq (rgn [] [[]] ?_))
 refine op3 ?_
 refine qA (AW.block ?_)
 refine AW.loop (α:=Nat) (fun k=>k<=a.kids.length/\uT c a b=eqL (uT c) (a.kids.drop k) (b.kids.drop k)) (fun k=>⟨zA 67 [(2,.p (.int .u64 c)),(3,.ptr 3 0),(4,.ptr 4 0),(12,.p (.int .i64 k))],[],[(3,.vars 31 a.cells),(4,.vars 31 b.cells)],0⟩) (fun k=>a.kids.length-k) (0) ⟨by omega,hE⟩ ⟨qE (by simp),rfl,by simp,by simp⟩ ?_
 rintro k ⟨hk,hall⟩
 refine AW.seq (rgn [] [[],[],[],[],[2,3,4,12,50]] ?_)
 iterate 5 refine op3 ?_
 refine qA (cnd ?_ ?_)
 ·intro h50
  try simp at h50
  obtain⟨x,hx⟩:∃ x,a.kids[k]?=some x:=⟨a.kids[k],by simp[h50]⟩
  obtain⟨y,hy⟩:∃ y,b.kids[k]?=some y:=⟨b.kids[k]'(by omega),by simp[show k<b.kids.length by omega]⟩
  have hst:=qQZ (p:=uT c) hx hy
  have hgv:=ih x (List.mem_of_getElem? hx) y (List.mem_of_getElem? hy)
  simp only[Val.enc_def]at hgv
  refine AW.skip (AW.seq (AW.block ?_))
  refine AW.seqDrawS tok mixed 12 [[3],[53],[12],[54,55],[56],[4],[58],[12],[59,60],[61],[2],[57,62,63]] [x.enc,y.enc,.nilp,.bool (uT c x y)] [] (by kernel_rfl) ?_
  iterate 12 refine d1 ?_ (hv:=by first|exact True.intro|exact hgv|(simp[hx];done)|(simp[hy];done)|(simp[hx];omega)|(simp[hy];omega);done|omega|simp)
  refine DGo.nil (by kernel_rfl) ⟨by kernel_rfl, ?_⟩
  refine qB.run [[2,3,4,12,13]] ?_
  refine op3 ?_
  refine qA (rgn [] [[],[2,3,4,12,66]] ?_)
  iterate 2 refine op3 ?_
  refine qA (cnd ?_ ?_)
  ·intro h66
   try simp at h66
   have hR:uT c a b=false:=by rw[hall,hst];simp[h66]
   refine rgn [] [[]] ?_
   refine op3 ?_
   refine qA ?_
   exact AW.ret (qI (k:=by simp[hR]))
  intro h66
  try simp at h66
  have hnx:uT c a b=eqL (uT c) (a.kids.drop (k+1)) (b.kids.drop (k+1)):=by rw[hall,hst];simp[h66]
  refine AW.skip (rgz [] [[],[],[2,3,4,12]] ?_)
  iterate 3 refine op3 ?_
  refine qA ?_
  exact⟨k+1,⟨by omega,hnx⟩,by omega,qE (by simp),rfl,by simp,by simp⟩
 intro h50
 try simp at h50
 have hR:uT c a b=true:=by rw[hall];exact qXJ (by omega) (by omega)
 refine AW.exit ?_
 simp
 refine rgn [] [[]] ?_
 refine op3 ?_
 refine qA ?_
 exact AW.ret (qI (k:=by simp[hR]))
end Go.Proofs.YtgcbapchinideaaGreatDoor
