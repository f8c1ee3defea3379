import Derived.Test.YtgcbapchinideaaGreatDoorK1
import Derived.Test.YtgcbapchinideaaGreatDoorSSameL
import Derived.Test.YtgcbapchinideaaGreatDoorM3
namespace Go.Proofs.YtgcbapchinideaaGreatDoor
open Sy Go
set_option maxRecDepth 100000
set_option maxHeartbeats 4000000
set_option linter.unusedSimpArgs false
set_option linter.unusedVariables false
variable {G:qK}
theorem qYQ (l m:List (List UInt8)):AFn Tryz.prog G 49 [.sl 1 (l.map PD.str),.sl 1 (m.map PD.str)] (.bool (eqL eqS l m)):=by
 refine AFn.introU tok Tryz.func49 (by kernel_rfl) rfl rfl ?_
 simp only [Tryz.f49,qH,List.map_cons,List.map_nil]
 refine rgn [] [[0,1]] ?_
 refine op1 tok ?_
 refine qA (AW.seq (rgn [] [[],[],[],[],[0,1,10]] ?_))
 iterate 5 refine op1 tok ?_
 refine qA (cnd ?_ ?_)
 ·intro h10
  try simp at h10
  have hR:eqL eqS l m=false:=by
   rw [← Bool.not_eq_true]; intro h; have:=qVA h; omega
  refine rgn [] [[]] ?_
  refine op1 tok ?_
  refine qA ?_
  exact AW.ret (qG (k:=by simp [hR]))
 intro h10
 try simp at h10
 refine AW.skip (AW.seq (rgn [] [[]] ?_))
 refine op1 tok ?_
 refine qA (AW.block ?_)
 refine AW.slFactU (i:=0) rfl (by decide) ?_; intro hlen; simp at hlen
 refine AW.loop (α:=Nat) (fun k=>k≤l.length∧eqL eqS l m=eqL eqS (l.drop k) (m.drop k)) (fun k=>⟨qS 26 [(0,.p (.sl 1 (l.map PD.str))),(1,.p (.sl 1 (m.map PD.str))),(5,.p (.int .i64 k))],[],[],0⟩) (fun k=>l.length-k) (0) ⟨by omega,rfl⟩ ⟨qB (by simp),rfl,by simp,by simp⟩ ?_
 rintro k ⟨hk,hall⟩
 refine AW.seq (rgn [] [[],[],[],[0,1,5,14]] ?_)
 iterate 4 refine op1 tok ?_
 refine qA (cnd ?_ ?_)
 ·intro h14
  try simp at h14
  obtain ⟨x,hx⟩:∃ x,l[k]?=some x:=⟨l[k],by simp [h14]⟩
  obtain ⟨y,hy⟩:∃ y,m[k]?=some y:=⟨m[k]'(by omega),by simp [show k<m.length by omega]⟩
  have hst:=qQL (p:=eqS) hx hy
  refine AW.skip (AW.seq (AW.block ?_))
  refine AW.seqRunDrawK tok mixed [0,1,5,25] 9 [[0],[5],[17,18],[19],[1],[5],[21,22],[23],[20,24]] [.str x,.str y] [] (by kernel_rfl) (by intro C; conv=>lhs; simp) (by simp [hx,hy]) (by simp [Sm.sum,Sm.foot,Sm.tch,Sm.refs]; kernel_rfl) (by intro C; conv=>lhs; simp) (by first | with_reducible exact True.intro | omega | simp | (simp +contextual; omega)) ?_
  refine cnd ?_ ?_
  ·intro h25
   try simp at h25
   have hR:eqL eqS l m=false:=by rw [hall,hst]; simp [eqS,h25]
   refine rgn [] [[]] ?_
   refine op1 tok ?_
   refine qA ?_
   exact AW.ret (qG (k:=by simp [hR]))
  intro h25
  try simp at h25
  have hnx:eqL eqS l m=eqL eqS (l.drop (k+1)) (m.drop (k+1)):=by rw [hall,hst]; simp [eqS,h25]
  refine AW.skip (rgz [] [[],[],[0,1,5]] ?_)
  iterate 3 refine op1 tok ?_
  refine qA ?_
  exact ⟨k+1,⟨by omega,hnx⟩,by omega,qB (by simp),rfl,by simp,by simp⟩
 intro h14
 try simp at h14
 have hR:eqL eqS l m=true:=by rw [hall]; exact qVB (by omega) (by omega)
 refine AW.exit ?_
 simp
 refine rgn [] [[]] ?_
 refine op1 tok ?_
 refine qA ?_
 exact AW.ret (qG (k:=by simp [hR]))
theorem qDZ (a b:Val) (hlm:a.kids.length≤1000000) (ih:∀ x∈a.kids, ∀ y∈b.kids,AFn Tryz.prog G 15 [x.enc,y.enc] (.bool (kC x y))):AFn Tryz.prog G 15 [a.enc,b.enc] (.bool (kC a b)):=by
 refine AFn.introU tok Tryz.func15 (by kernel_rfl) rfl rfl ?_
 simp only [Tryz.f15,qH,List.map_cons,List.map_nil]
 have ht:=qYQ (G:=G) a.keys b.keys
 refine rgn [] [[],[],[2,3]] ?_
 iterate 3 refine op1 tok ?_
 refine qA (rgn [.nilp,.bool (eqL eqS a.keys b.keys)] [[],[],[],[],[2,3,12],[2,3,5]] ?_)
 iterate 6 refine oq1 tok ht ?_
 refine qA (AW.seq (rgn [] [[],[],[],[],[2,3,5,17],[],[],[],[],[],[2,3,5,18,23],[],[],[],[2,3,5,25,27],[],[],[],[2,3,5,31],[],[],[],[],[],[2,3,5,32,37],[],[],[],[2,3,5,39,41],[],[],[],[2,3,5,45],[],[],[],[2,3,49],[],[],[],[],[],[2,3,50,53,55],[],[],[2,3,58]] ?_))
 iterate 46 first | refine op1 tok ?_ | refine op2 tok ?_
 refine qA (cnd ?_ ?_)
 ·intro h58
  try simp at h58
  have hR:kC a b=false:=by
   rw [← Bool.not_eq_true]; intro h
   have hl:a.kids.length=b.kids.length:=by rw [(xW a b).1 h]
   have hk:eqL eqS a.keys b.keys=true:=by rw [(xW a b).1 h]; exact (qHP (p:=eqS) (fun x y=>by simp [eqS])).2 rfl
   have:=(xW a b).1 h
   subst this
   simp [hk] at h58
  refine rgn [] [[]] ?_
  refine op1 tok ?_
  refine qA ?_
  exact AW.ret (qG (k:=by simp [hR]))
 intro h58
 try simp at h58
 have hE:kC a b=eqL kC a.kids b.kids:=by
  rw [qYX]; grind
 have hlen:a.kids.length=b.kids.length:=by grind
 refine AW.skip (AW.seq (rgn [] [[]] ?_))
 refine op1 tok ?_
 refine qA (AW.block ?_)
 refine AW.loop (α:=Nat) (fun k=>k≤a.kids.length∧kC a b=eqL kC (a.kids.drop k) (b.kids.drop k)) (fun k=>⟨qS 79 [(2,.ptr 2 0),(3,.ptr 3 0),(6,.p (.int .i64 k))],[],[(2,.vars 31 a.cells),(3,.vars 31 b.cells)],0⟩) (fun k=>a.kids.length-k) (0) ⟨by omega,hE⟩ ⟨qB (by simp),rfl,by simp,by simp⟩ ?_
 rintro k ⟨hk,hall⟩
 refine AW.seq (rgn [] [[],[],[],[],[2,3,6,63]] ?_)
 iterate 5 refine op1 tok ?_
 refine qA (cnd ?_ ?_)
 ·intro h63
  try simp at h63
  obtain ⟨x,hx⟩:∃ x,a.kids[k]?=some x:=⟨a.kids[k],by simp [h63]⟩
  obtain ⟨y,hy⟩:∃ y,b.kids[k]?=some y:=⟨b.kids[k]'(by omega),by simp [show k<b.kids.length by omega]⟩
  have hst:=qQL (p:=kC) hx hy
  have hgv:=ih x (List.mem_of_getElem? hx) y (List.mem_of_getElem? hy)
  simp only [Val.enc_def] at hgv
  refine AW.skip (AW.seq (AW.block ?_))
  refine AW.seqRunDrawK tok mixed [2,3,6,7] 11 [[2],[66],[6],[67,68],[69],[3],[71],[6],[72,73],[74],[70,75]] [x.enc,y.enc,.nilp,.bool (kC x y)] [] (by kernel_rfl) (by intro C; conv=>lhs; simp) (by (simp [hx,hy]; exact hgv)) (by simp [Sm.sum,Sm.foot,Sm.tch,Sm.refs]; kernel_rfl) (by intro C; conv=>lhs; simp) (by first | with_reducible exact True.intro | omega | simp | (simp +contextual; omega)) ?_
  refine rgn [] [[],[2,3,6,78]] ?_
  iterate 2 refine op1 tok ?_
  refine qA (cnd ?_ ?_)
  ·intro h78
   try simp at h78
   have hR:kC a b=false:=by rw [hall,hst]; simp [h78]
   refine rgn [] [[]] ?_
   refine op1 tok ?_
   refine qA ?_
   exact AW.ret (qG (k:=by simp [hR]))
  intro h78
  try simp at h78
  have hnx:kC a b=eqL kC (a.kids.drop (k+1)) (b.kids.drop (k+1)):=by rw [hall,hst]; simp [h78]
  refine AW.skip (rgz [] [[],[],[2,3,6]] ?_)
  iterate 3 refine op1 tok ?_
  refine qA ?_
  exact ⟨k+1,⟨by omega,hnx⟩,by omega,qB (by simp),rfl,by simp,by simp⟩
 intro h63
 try simp at h63
 have hR:kC a b=true:=by rw [hall]; exact qVB (by omega) (by omega)
 refine AW.exit ?_
 simp
 refine rgn [] [[]] ?_
 refine op1 tok ?_
 refine qA ?_
 exact AW.ret (qG (k:=by simp [hR]))
theorem qRZ (a:Val):zC a=true→∀ b,AFn Tryz.prog G 15 [a.enc,b.enc] (.bool (kC a b)) :=
 Val.induct (p:=fun a=>zC a=true→∀ b,AFn Tryz.prog G 15 [a.enc,b.enc] (.bool (kC a b))) (fun a ih ha b=>qDZ a b (by have:=xZ ha; omega) fun x hx y _=>ih x hx (kO ha hx) y) a
theorem qRY (a:Val):Val.sz a≤1000000→∀ b,AFn Tryz.prog G 15 [a.enc,b.enc] (.bool (kC a b)) :=
 Val.induct (p:=fun a=>Val.sz a≤1000000→∀ b,AFn Tryz.prog G 15 [a.enc,b.enc] (.bool (kC a b))) (fun a ih ha b=>qDZ a b (qSM ha) fun x hx y _=>ih x hx (by have:=Val.sz_kid hx; omega) y) a
end Go.Proofs.YtgcbapchinideaaGreatDoor
