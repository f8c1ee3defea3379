import Derived.Test.YtdojfdaglbphlaaGreatDoorK3
import Derived.Test.YtdojfdaglbphlaaGreatDoorSTwoV
namespace Go.Proofs.YtdojfdaglbphlaaGreatDoor
open Sy Go
set_option maxRecDepth 100000
set_option maxHeartbeats 4000000
set_option linter.unusedSimpArgs false
set_option linter.unusedVariables false
variable {G:qR}
theorem qDR (v:Val):AFn Tryz.prog G 46 [v.enc] (.tup [.bool (wT v).1,.bool (wT v).2]):=by
 refine AFn.introU tok Tryz.func46 (by kernel_rfl) rfl rfl ?_
 simp only [Tryz.f46,qI,List.map_cons,List.map_nil]
 refine rgn [] [[],[],[1]] ?_
 iterate 3 refine op1 tok ?_
 refine qA (AW.seq (rgn [] [[],[],[1,6]] ?_))
 iterate 3 refine op1 tok ?_
 refine qA (cnd ?_ ?_)
 ·intro h6
  try simp at h6
  have e:wT v=(false,false):=by unfold wT; rw [if_pos h6]
  rw [e]
  refine rgn [] [[],[]] ?_
  iterate 2 refine op1 tok ?_
  exact qA (AW.ret qG)
 intro h6
 try simp at h6
 have e:wT v=(!decide (v.kind=1) && !decide (v.kind=2),true):=by
  unfold wT; rw [if_neg h6]
  by_cases h1:v.kind=1
  ·simp [h1]
  by_cases h2:v.kind=2
  ·simp [h2]
  simp [h1,h2]
 rw [e]
 refine AW.skip (rgn [] [[],[],[],[],[10,11],[],[],[14],[],[2,3]] ?_)
 iterate 4 refine op1 tok ?_
 iterate 3 refine op2 tok ?_
 iterate 3 refine op1 tok ?_
 exact qA (AW.ret qG)
theorem qLC (x:Bool) (m:Int):AFn Tryz.prog G 48 [.bool x,.int .u64 m] ((kG x m).enc):=by
 refine AFn.introU tok Tryz.func48 (by kernel_rfl) rfl rfl ?_
 simp only [Tryz.f48,qI,List.map_cons,List.map_nil]
 have e:kG x m = .mk (if x=true then 3 else 2) m dc0 [] [] [] 0:=rfl
 rw [e]
 refine rgn [] [[]] ?_
 refine op1 tok ?_
 refine qA (AW.seq (rgn [] [[1,4,5]] ?_))
 refine op1 tok ?_
 refine qA (cnd ?_ ?_)
 ·intro h5
  try simp at h5
  rw [if_pos h5]
  refine rgn [] [[],[],[4]] ?_
  iterate 3 refine op1 tok ?_
  refine qA ?_
  exact AW.ret (qG (k:=by simp [dc0]))
 intro h5
 try simp at h5
 rw [if_neg (by rw [h5]; simp)]
 refine AW.skip (rgn [] [[],[],[4]] ?_)
 iterate 3 refine op1 tok ?_
 refine qA ?_
 exact AW.ret (qG (k:=by simp [dc0]))
def qXL (s:List UInt8) (m:Int):Val:=if 4096<s.length then wQ 3 m else .mk 5 m dc0 s [] [] 0
theorem zGN (s:List UInt8) (m:Int):AFn Tryz.prog G 60 [.str s,.int .u64 m] ((qXL s m).enc):=by
 refine AFn.introU tok Tryz.func60 (by kernel_rfl) rfl rfl ?_
 simp only [Tryz.f60,qI,List.map_cons,List.map_nil]
 have hf:=vJ (G:=G) 3 m
 simp only [Val.enc_def] at hf
 unfold qXL
 refine rgn [] [[]] ?_
 refine op1 tok ?_
 refine qA (AW.seq (rgn [] [[],[],[0,1,4,7]] ?_))
 iterate 3 refine op1 tok ?_
 refine qA (cnd ?_ ?_)
 ·intro h7
  try simp at h7
  rw [if_pos (by omega)]
  refine rgn [.nilp,(wQ 3 m).enc] [[],[],[4]] ?_
  iterate 3 refine oq1 tok hf ?_
  exact qA (AW.ret qG)
 intro h7
 try simp at h7
 rw [if_neg (by omega)]
 refine AW.skip (rgn [] [[],[],[4,12],[4]] ?_)
 iterate 4 refine op1 tok ?_
 refine qA ?_
 exact AW.ret (qG (k:=by simp [dc0]))
theorem qZC (r:Dc × Int) (m:Int):AFn Tryz.prog G 64 [r.1.enc,.int .i64 r.2,.int .u64 m] ((qFJ r m).enc):=by
 refine AFn.introU tok Tryz.func64 (by kernel_rfl) rfl rfl ?_
 simp only [Tryz.f64,qI,List.map_cons,List.map_nil]
 have hf:=vJ (G:=G) r.2 m
 simp only [Val.enc_def] at hf
 unfold qFJ
 obtain ⟨d,c⟩:=r
 simp only at hf ⊢
 refine rgn [] [[],[1,2,3,6]] ?_
 iterate 2 refine op1 tok ?_
 refine qA (AW.seq (rgn [] [[],[1,2,3,6,8]] ?_))
 iterate 2 refine op1 tok ?_
 refine qA (cnd ?_ ?_)
 ·intro h8
  try simp at h8
  rw [if_neg h8]
  refine rgn [.nilp,(wQ c m).enc] [[],[],[6,11],[6]] ?_
  iterate 4 refine oq1 tok hf ?_
  exact qA (AW.ret qG)
 intro h8
 try simp at h8
 rw [if_pos (by omega)]
 refine AW.skip (rgn [] [[],[],[6,14],[6]] ?_)
 iterate 4 refine op1 tok ?_
 exact qA (AW.ret qG)
def inK (b x:Val) (j:Nat):Bool:=(b.kids.take j).any fun w=>decide (vL x w=0)
theorem zNI {b x y:Val} {j:Nat} (hy:b.kids[j]?=some y):inK b x (j+1)=(inK b x j || decide (vL x y=0)):=by
 unfold inK; rw [List.take_add_one,hy,List.any_append]; simp
def uT (a b:Val) (k:Nat):List Val:=(a.kids.take k).filter fun v => !inK b v b.kids.length
theorem zDC {a b x:Val} {k:Nat} (hx:a.kids[k]?=some x):uT a b (k+1)=if inK b x b.kids.length=true then uT a b k else uT a b k++[x]:=by
 unfold uT; rw [List.take_add_one,hx,List.filter_append]
 cases h:inK b x b.kids.length <;> simp [h]
theorem zIX (a b:Val) (m:Int) (ha:qS a=true) (hb:qS b=true):AFn Tryz.prog G 44 [a.enc,b.enc,.int .u64 m] ((qIY (a.kids.filter fun v => !(b.kids.any fun w=>decide (vL v w=0))) m).enc):=by
 refine AFn.introU tok Tryz.func44 (by kernel_rfl) rfl rfl ?_
 simp only [Tryz.f44,qI,List.map_cons,List.map_nil]
 have hsa:=wZ ha
 have hsb:=wZ hb
 have hcmp:=fun x hx y hy=>qSK (G:=G) x y (yG ha (k:=x) hx) (yG hb (k:=y) hy)
 have hall:uT a b a.kids.length=a.kids.filter fun v => !(b.kids.any fun w=>decide (vL v w=0)):=by unfold uT inK; simp only [List.take_length]
 have hl:=qTC (G:=G) (uT a b a.kids.length) m
 rw [← hall]
 generalize qIY (uT a b a.kids.length) m=R at *
 simp only [Val.enc_def] at hl
 refine rgn [] [[],[],[2,3,4,6]] ?_
 iterate 3 refine op1 tok ?_
 refine qA (rgn [] [[],[2,3,4,6,7]] ?_)
 iterate 2 refine op1 tok ?_
 refine qA (AW.seq (rgn [] [[]] ?_))
 refine op1 tok ?_
 refine qA (AW.block ?_)
 refine AW.loop (α:=Nat) (fun k=>k≤a.kids.length) (fun k=>⟨qV 54 [(2,.p (.int .u64 m)),(3,.ptr 3 0),(4,.ptr 4 0),(6,.ptr 6 0),(7,.ms 11),(8,.p (.int .i64 k))],[],[(3,.vars 31 a.cells),(4,.vars 31 b.cells),(6,.vars 31 [.p (.int .i64 0),.p (.int .u64 0),.p (.bool false),.p (.str []),.p (.int .i64 0),.p (.str []),.nilsl,.nilsl,.p (.int .i64 0)]),(11,.row 31 9 ((uT a b k).map Val.enc))],0⟩) (fun k=>a.kids.length-k) (0) (by omega) ⟨qB (by simp),rfl,by simp [uT],by simp⟩ ?_
 rintro k hk
 have hll:(uT a b k).length≤1000000:=by unfold uT; have:=List.length_filter_le (fun v => !inK b v b.kids.length) (a.kids.take k); rw [List.length_take] at this; omega
 refine AW.seq (rgn [] [[],[],[],[],[2,3,4,6,7,8,16]] ?_)
 iterate 5 refine op1 tok ?_
 refine qA (cnd ?_ ?_)
 ·intro h16
  try simp at h16
  obtain ⟨x,hx⟩:∃ x,a.kids[k]?=some x:=⟨a.kids[k],by simp [h16]⟩
  have hst:=zDC (b:=b) hx
  have hcx:=hcmp x (List.mem_of_getElem? hx)
  refine AW.skip (AW.seq (AW.block (rgn [] [[]] ?_)))
  refine op1 tok ?_
  refine qA (AW.seq (rgn [] [[]] ?_))
  refine op1 tok ?_
  refine qA (AW.block ?_)
  refine AW.loop (α:=Nat) (fun j=>j≤b.kids.length) (fun j=>⟨qV 54 [(2,.p (.int .u64 m)),(3,.ptr 3 0),(4,.ptr 4 0),(6,.ptr 6 0),(7,.ms 11),(8,.p (.int .i64 k)),(9,.p (.bool (inK b x j))),(10,.p (.int .i64 j))],[],[(3,.vars 31 a.cells),(4,.vars 31 b.cells),(6,.vars 31 [.p (.int .i64 0),.p (.int .u64 0),.p (.bool false),.p (.str []),.p (.int .i64 0),.p (.str []),.nilsl,.nilsl,.p (.int .i64 0)]),(11,.row 31 9 ((uT a b k).map Val.enc))],0⟩) (fun j=>b.kids.length-j) (0) (by omega) ⟨qB (by simp [inK]),by simp,by simp,by simp⟩ ?_
  rintro j hj
  refine AW.seq (rgn [] [[],[],[],[],[2,3,4,6,7,8,9,10,23]] ?_)
  iterate 5 refine op1 tok ?_
  refine qA (cnd ?_ ?_)
  ·intro h23
   try simp at h23
   obtain ⟨y,hy⟩:∃ y,b.kids[j]?=some y:=⟨b.kids[j],by simp [h23]⟩
   have hcy:=hcx y (List.mem_of_getElem? hy)
   have hsj:=zNI (x:=x) hy
   generalize inK b x j=th at *
   generalize vL x y=cc at *
   simp only [Val.enc_def] at hcy
   refine AW.skip (AW.seq (AW.block ?_))
   refine AW.drawS tok mixed 15 [[9],[26],[3,27],[28,27],[8,27],[29,30,27],[31,27],[4,27],[33,27],[10,27],[34,35,27],[36,27],[32,37,27],[38,27],[27,39]] [x.enc,y.enc,.nilp,.int .i64 cc] [] (by kernel_rfl) ?_
   iterate 2 refine d1 ?_ (hv:=by first | with_reducible exact True.intro | (first | (simp [hx]; done) | (simp [hy]; done) | (exact fun h=>⟨h,hcy⟩) | (exact fun _=>hcy); done) | omega | simp | (simp +contextual; omega))
   iterate 12 refine d2 27 rfl rfl ?_ (hv:=by first | with_reducible exact True.intro | (first | (simp [hx]; done) | (simp [hy]; done) | (exact fun h=>⟨h,hcy⟩) | (exact fun _=>hcy); done) | omega | simp | (simp +contextual; omega))
   refine d1 ?_ (hv:=by first | with_reducible exact True.intro | (first | (simp [hx]; done) | (simp [hy]; done) | (exact fun h=>⟨h,hcy⟩) | (exact fun _=>hcy); done) | omega | simp | (simp +contextual; omega))
   refine DGo.nil (by kernel_rfl) ⟨by kernel_rfl, ?_⟩
   refine qC.run [[2,3,4,6,7,8,9,10]] ?_
   refine op1 tok ?_
   refine qA (rgz [] [[],[],[2,3,4,6,7,8,9,10]] ?_)
   iterate 3 refine op1 tok ?_
   refine qA ?_
   exact ⟨j+1,by omega,by omega,qB (by simp [hsj]),rfl,by simp [hsj],by simp [hsj]⟩
  intro h23
  try simp at h23
  obtain rfl:j=b.kids.length:=by omega
  refine AW.exit ?_
  simp
  refine rgn [] [[],[2,3,4,6,7,8,42]] ?_
  iterate 2 refine op1 tok ?_
  refine qA (cnd ?_ ?_)
  ·intro h42
   try simp at h42
   have hnx:uT a b (k+1)=uT a b k++[x]:=by rw [hst,if_neg (by rw [h42]; simp)]
   refine rgz [x.enc,x.enc] [[],[],[],[],[2,3,4,6,8,43,47],[],[],[2,3,4,6,8,50],[2,3,4,6,7,8]] ?_
   iterate 9 refine op1 tok ?_ (hv:=by first | with_reducible exact True.intro | (first | (simp [hx]; done) | (simp; omega); done) | omega | simp | (simp +contextual; omega))
   refine qA (rgz [] [[],[],[2,3,4,6,7,8]] ?_)
   iterate 3 refine op1 tok ?_
   refine qA ?_
   exact ⟨k+1,by omega,by omega,qB (by simp [hnx]),rfl,by simp [hnx],by simp [hnx]⟩
  intro h42
  try simp at h42
  have hnx:uT a b (k+1)=uT a b k:=by rw [hst,if_pos (by simpa using h42)]
  refine AW.skip (rgz [] [[],[],[2,3,4,6,7,8]] ?_)
  iterate 3 refine op1 tok ?_
  refine qA ?_
  exact ⟨k+1,by omega,by omega,qB (by simp [hnx]),rfl,by simp [hnx],by simp [hnx]⟩
 intro h16
 try simp at h16
 obtain rfl:k=a.kids.length:=by omega
 refine AW.exit ?_
 simp
 refine AW.freezeE 11 (by conv=>lhs; simp) ?_
 refine rgn [.nilp,R.enc] [[],[],[6,53],[6]] ?_
 iterate 4 refine oq1 tok hl ?_
 exact qA (AW.ret qG)
end Go.Proofs.YtdojfdaglbphlaaGreatDoor
