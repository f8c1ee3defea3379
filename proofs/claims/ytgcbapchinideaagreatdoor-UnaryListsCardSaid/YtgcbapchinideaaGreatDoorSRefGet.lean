import Derived.Test.YtgcbapchinideaaGreatDoorK1
import Derived.Test.YtgcbapchinideaaGreatDoorM3
namespace Go.Proofs.YtgcbapchinideaaGreatDoor
open Sy Go
set_option maxRecDepth 100000
set_option maxHeartbeats 4000000
set_option linter.unusedSimpArgs false
set_option linter.unusedVariables false
variable {G:qK}
theorem qLI (v:Val) (s:List UInt8) (hl:v.keys.length≤v.kids.length) (hlm:v.keys.length≤1000000):AFn Tryz.prog G 56 [v.enc,.str s] (.tup [(if s∈v.keys then xE v s else yU).enc,.bool (decide (s∈v.keys))]):=by
 refine AFn.introU tok Tryz.func56 (by kernel_rfl) rfl rfl ?_
 simp only [Tryz.f56,qH,List.map_cons,List.map_nil]
 refine rgn [] [[],[],[1,2,4]] ?_
 iterate 3 refine op1 tok ?_
 refine qA (AW.seq (rgn [] [[]] ?_))
 refine op1 tok ?_
 refine qA (AW.block ?_)
 refine AW.loop (α:=Nat) (fun k=>k≤v.keys.length∧s ∉ v.keys.take k) (fun k=>⟨qS 34 [(1,.p (.str s)),(2,.ptr 2 0),(4,.ptr 4 0),(6,.p (.int .i64 k))],[],[(2,.vars 31 v.cells),(4,.vars 31 zHD)],0⟩) (fun k=>v.keys.length-k) (0) ⟨by omega,by simp⟩ ⟨qB (by simp),rfl,by simp,by simp⟩ ?_
 rintro k ⟨hk,hno⟩
 refine AW.seq (rgn [] [[],[],[],[],[1,2,4,6,11],[],[],[],[],[],[1,2,4,6,12,17],[1,2,4,6,18]] ?_)
 iterate 6 refine op1 tok ?_
 iterate 5 refine op2 tok ?_
 refine op1 tok ?_
 refine qA (cnd ?_ ?_)
 ·intro h18
  try simp at h18
  have h18':k<v.keys.length:=by omega
  obtain ⟨x,hx⟩:∃ x,v.keys[k]?=some x:=⟨v.keys[k],by simp [h18']⟩
  refine AW.skip (AW.seq (AW.block (rgn [.str x] [[],[],[],[],[1,2,4,6,25],[],[1,2,4,6,27]] ?_)))
  iterate 7 refine op1 tok ?_ (hv:=by first | with_reducible exact True.intro | (simp [hx]; done) | omega | simp | (simp +contextual; omega))
  refine qA (cnd ?_ ?_)
  ·intro h27
   try simp at h27
   have hin:s∈v.keys:=by rw [← h27]; exact List.mem_of_getElem? hx
   have hix:v.keys.idxOf s=k:=by
    subst h27
    have h1:v.keys=v.keys.take k++x::v.keys.drop (k+1):=by
     conv=>lhs; rw [← List.take_append_drop k v.keys]
     rw [List.drop_eq_getElem_cons h18',(List.getElem?_eq_some_iff.1 hx).2]
    rw [h1,List.idxOf_append,if_neg hno]
    simp; omega
   have hk':=qFR hl hin
   rw [hix] at hk'
   refine rgn [(xE v s).enc] [[],[],[],[4,31],[],[],[4,5]] ?_
   iterate 7 refine op1 tok ?_ (hv:=by first | with_reducible exact True.intro | (simp [hk']; done) | omega | simp | (simp +contextual; omega))
   refine qA ?_
   exact AW.ret (qG (k:=by simp [hin]))
  intro h27
  try simp at h27
  refine AW.skip (rgz [] [[],[],[1,2,4,6]] ?_)
  iterate 3 refine op1 tok ?_
  refine qA ?_
  exact ⟨k+1,⟨by omega,by rw [List.take_add_one,hx]; simp; exact ⟨hno,fun e=>h27 e.symm⟩⟩,by omega,qB (by simp),rfl,by simp,by simp⟩
 intro h18
 try simp at h18
 have hno':s ∉ v.keys:=by rw [List.take_of_length_le (by omega)] at hno; exact hno
 refine AW.exit ?_
 simp
 refine rgn [] [[],[],[4,5]] ?_
 iterate 3 refine op1 tok ?_
 refine qA ?_
 exact AW.ret (qG (k:=by simp [hno',dc0]))
end Go.Proofs.YtgcbapchinideaaGreatDoor
