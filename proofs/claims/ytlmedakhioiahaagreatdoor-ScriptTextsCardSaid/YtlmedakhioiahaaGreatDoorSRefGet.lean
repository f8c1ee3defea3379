import Derived.Test.YtlmedakhioiahaaGreatDoorK3
import Derived.Test.YtlmedakhioiahaaGreatDoorM3
namespace Go.Proofs.YtlmedakhioiahaaGreatDoor
open Sy Go
set_option maxRecDepth 100000
set_option maxHeartbeats 4000000
set_option linter.unusedSimpArgs false
set_option linter.unusedVariables false
variable {G:qO}
theorem qUT (v:Val) (m:Int):AFn Tryz.prog G 93 [v.enc,.int .u64 m] ((qBG v m).enc):=by
 refine AFn.introU tok Tryz.func93 (by kernel_rfl) rfl rfl ?_
 simp only [Tryz.f93,qL,List.map_cons,List.map_nil]
 refine rgn [] [[],[1,2,4]] ?_
 iterate 2 refine op1 tok ?_
 refine qA (rgn [] [[],[],[],[2,4,8],[],[2,4]] ?_)
 iterate 6 refine op1 tok ?_ (h:=by intro C; conv=>lhs; simp [zFQ])
 refine qA (rgn [] [[],[4]] ?_)
 iterate 2 refine op1 tok ?_
 exact qA (AW.ret qK)
theorem qYR (v:Val) (s:List UInt8) (hl:v.keys.length≤v.kids.length) (hlm:v.keys.length≤1000000):AFn Tryz.prog G 92 [v.enc,.str s] (.tup [(if s∈v.keys then qDU v s else zK).enc,.bool (decide (s∈v.keys))]):=by
 refine AFn.introU tok Tryz.func92 (by kernel_rfl) rfl rfl ?_
 simp only [Tryz.f92,qL,List.map_cons,List.map_nil]
 refine rgn [] [[],[],[1,2,4]] ?_
 iterate 3 refine op1 tok ?_
 refine qA (AW.seq (rgn [] [[]] ?_))
 refine op1 tok ?_
 refine qA (AW.block ?_)
 refine AW.loop (α:=Nat) (fun k=>k≤v.keys.length∧s ∉ v.keys.take k) (fun k=>⟨zD 34 [(1,.p (.str s)),(2,.ptr 2 0),(4,.ptr 4 0),(6,.p (.int .i64 k))],[],[(2,.vars 42 v.cells),(4,.vars 42 zKG)],0⟩) (fun k=>v.keys.length-k) (0) ⟨by omega,by simp⟩ ⟨qD (by simp),rfl,by simp,by simp⟩ ?_
 rintro k ⟨hk,hno⟩
 refine AW.seq (rgn [] [[],[],[],[],[1,2,4,6,11],[],[],[],[],[],[1,2,4,6,12,17],[1,2,4,6,18]] ?_)
 iterate 6 refine op1 tok ?_
 iterate 5 refine op2 tok ?_
 refine op1 tok ?_
 refine qA (cnd ?_ ?_)
 ·intro h18
  try simp at h18
  have h18':k<v.keys.length:=by omega
  obtain ⟨x,hx⟩:∃ x,v.keys[k]?=some x:=⟨v.keys[k],by simp [h18']⟩
  refine AW.skip (AW.seq (AW.block (rgn [.str x] [[],[],[],[],[1,2,4,6,25],[],[1,2,4,6,27]] ?_)))
  iterate 7 refine op1 tok ?_ (hv:=by first | with_reducible exact True.intro | (simp [hx]; done) | omega | simp | (simp +contextual; omega))
  refine qA (cnd ?_ ?_)
  ·intro h27
   try simp at h27
   have hin:s∈v.keys:=by rw [← h27]; exact List.mem_of_getElem? hx
   have hix:v.keys.idxOf s=k:=by
    subst h27
    have h1:v.keys=v.keys.take k++x::v.keys.drop (k+1):=by
     conv=>lhs; rw [← List.take_append_drop k v.keys]
     rw [List.drop_eq_getElem_cons h18',(List.getElem?_eq_some_iff.1 hx).2]
    rw [h1,List.idxOf_append,if_neg hno]
    simp; omega
   have hk':=qGZ hl hin
   rw [hix] at hk'
   refine rgn [(qDU v s).enc] [[],[],[],[4,31],[],[],[4,5]] ?_
   iterate 7 refine op1 tok ?_ (hv:=by first | with_reducible exact True.intro | (simp [hk']; done) | omega | simp | (simp +contextual; omega))
   refine qA ?_
   exact AW.ret (qK (k:=by simp [hin]))
  intro h27
  try simp at h27
  refine AW.skip (rgz [] [[],[],[1,2,4,6]] ?_)
  iterate 3 refine op1 tok ?_
  refine qA ?_
  exact ⟨k+1,⟨by omega,by rw [List.take_add_one,hx]; simp; exact ⟨hno,fun e=>h27 e.symm⟩⟩,by omega,qD (by simp),rfl,by simp,by simp⟩
 intro h18
 try simp at h18
 have hno':s ∉ v.keys:=by rw [List.take_of_length_le (by omega)] at hno; exact hno
 refine AW.exit ?_
 simp
 refine rgn [] [[],[],[4,5]] ?_
 iterate 3 refine op1 tok ?_
 refine qA ?_
 exact AW.ret (qK (k:=by simp [hno',dc0]))
theorem qNG (v:Val) (s:List UInt8) (hl:v.keys.length≤v.kids.length) (hlm:v.keys.length≤1000000):AFn Tryz.prog G 57 [v.enc,.str s] (.tup [(jG v s).1.enc,.bool (jG v s).2]):=by
 refine AFn.introU tok Tryz.func57 (by kernel_rfl) rfl rfl ?_
 simp only [Tryz.f57,qL,List.map_cons,List.map_nil]
 have hk:=qYR (G:=G) v s hl hlm
 generalize hq:(if s∈v.keys then qDU v s else zK)=q at hk
 simp only [Val.enc_def] at hk
 refine rgn [] [[],[],[1,2,4]] ?_
 iterate 3 refine op1 tok ?_
 refine qA (rgn [.nilp,.tup [q.enc,.bool (decide (s∈v.keys))]] [[],[],[],[2,4,8],[],[],[],[],[2,4,6,7]] ?_)
 iterate 9 refine oq1 tok hk ?_
 refine qA (AW.seq (rgn [] [[],[],[],[],[2,4,6,16,18],[],[2,4,6,20]] ?_))
 iterate 3 refine op1 tok ?_
 iterate 3 refine op2 tok ?_
 refine op1 tok ?_
 refine qA (cnd ?_ ?_)
 ·intro h20
  try simp at h20
  have hR:jG v s=(zK,false):=by
   unfold jG; rw [if_neg]; rintro ⟨h1,h2⟩; rcases h20 with h | h
   ·exact h h2
   exact h h1
  refine rgn [] [[],[],[4,5]] ?_
  iterate 3 refine op1 tok ?_
  refine qA ?_
  exact AW.ret (qK (k:=by simp [hR,dc0]))
 intro h20
 try simp at h20
 have hR:jG v s=(qBG (qDU v s) v.mask,true):=by unfold jG; rw [if_pos ⟨h20.2,h20.1⟩]
 have hin:s∈v.keys:=h20.1
 rw [if_pos hin] at hq
 subst hq
 have hw:=qUT (G:=G) (qDU v s) v.mask
 simp only [Val.enc_def] at hw
 refine AW.skip (rgn [.nilp,(qBG (qDU v s) v.mask).enc] [[],[],[],[4,25],[],[4,5]] ?_)
 iterate 6 refine oq1 tok hw ?_
 refine qA ?_
 exact AW.ret (qK (k:=by simp [hR]))
end Go.Proofs.YtlmedakhioiahaaGreatDoor
