import Derived.Test.YtgcbapchinideaaGreatDoorK1
import Derived.Test.YtgcbapchinideaaGreatDoorM4
namespace Go.Proofs.YtgcbapchinideaaGreatDoor
open Sy Go
set_option maxRecDepth 100000
set_option maxHeartbeats 4000000
set_option linter.unusedSimpArgs false
set_option linter.unusedVariables false
variable {G:qM}
def qHV {α:Type} [DecidableEq α] (l:List α) (x:α):Int:=if x∈l then (l.idxOf x:Int) else -1
theorem qYU {α:Type} [DecidableEq α] {l:List α} {k:Nat} {x:α} (hk:k<l.length) (hx:l[k]?=some x) (hno:x ∉ l.take k):qHV l x=k:=by
 have hm:x∈l:=List.mem_of_getElem? hx
 unfold qHV; rw [if_pos hm]
 have:l.idxOf x=k:=by
  obtain ⟨h1,h2⟩:=List.getElem?_eq_some_iff.1 hx
  have h3:=List.take_append_drop k l
  rw [← h3,List.idxOf_append,if_neg hno,List.drop_eq_getElem_cons h1,h2,List.idxOf_cons_self]
  simp; omega
 rw [this]
theorem qYT {α:Type} [DecidableEq α] (l:List α) (x:α):0≤qHV l x↔x∈l:=by
 unfold qHV; split <;> simp [*]
theorem qVU (l:List Int) (s:Int):AFn Tryz.prog G 206 [.sl 1 (l.map (PD.int .i64)),.int .i64 s] (.int .i64 (qHV l s)):=by
 refine AFn.introU tok Tryz.func206 (by kernel_rfl) rfl rfl ?_
 simp only [Tryz.f206,qO,List.map_cons,List.map_nil]
 refine rgn [] [[0,1]] ?_
 refine op1 tok ?_
 refine qA (AW.seq (rgn [] [[],[],[0,1,7,8]] ?_))
 iterate 3 refine op1 tok ?_
 refine qA (AW.block ?_)
 refine AW.intFactU (i:=7) rfl (by decide) ?_; intro hlen; simp at hlen
 refine AW.loop (α:=Nat) (fun k=>k≤l.length∧s ∉ l.take k) (fun k=>⟨zF 19 [(0,.p (.sl 1 (l.map (PD.int .i64)))),(1,.p (.int .i64 s)),(7,.p (.int .i64 l.length)),(8,.p (.int .i64 k))],[],[],0⟩) (fun k=>l.length-k) (0) ⟨by omega,by simp⟩ ⟨qF (by simp),rfl,by simp,by simp⟩ ?_
 rintro k ⟨hk,hno⟩
 refine rgn [] [[]] ?_
 refine op1 tok ?_
 refine qA (AW.seq (cnd ?_ ?_))
 ·intro h9
  try simp at h9
  obtain ⟨x,hx⟩:∃ x,l[k]?=some x:=⟨l[k],by simp [h9]⟩
  refine AW.skip (AW.seq (AW.block (rgn [] [[],[0,1,5,7,8]] ?_)))
  iterate 2 refine op1 tok ?_
  refine qA (rgn [.int .i64 x] [[],[],[],[],[],[0,1,5,7,8,16]] ?_)
  iterate 6 refine op1 tok ?_ (hv:=by first | with_reducible exact True.intro | (simp [hx]; done) | omega | simp | (simp +contextual; omega))
  refine qA (cnd ?_ ?_)
  ·intro h16
   try simp at h16
   have hR:qHV l s=k:=qYU h9 (h16 ▸ hx) hno
   refine rgn [] [[],[4]] ?_
   iterate 2 refine op1 tok ?_
   refine qA ?_
   exact AW.ret (qK (k:=by simp [hR]))
  intro h16
  try simp at h16
  refine AW.skip (rgz [] [[],[0,1,7,8]] ?_)
  iterate 2 refine op1 tok ?_
  refine qA ?_
  exact ⟨k+1,⟨by omega,by rw [List.take_add_one,hx]; simp; exact ⟨hno,h16⟩⟩,by omega,qF (by simp),rfl,by simp,by simp⟩
 intro h9
 try simp at h9
 have hR:qHV l s = -1:=by rw [List.take_of_length_le h9] at hno; unfold qHV; rw [if_neg hno]
 refine AW.exit ?_
 simp
 refine rgn [] [[]] ?_
 refine op1 tok ?_
 refine qA ?_
 exact AW.ret (qK (k:=by simp [hR]))
theorem qVV (l:List Int) (s:Int):AFn Tryz.prog G 169 [.sl 1 (l.map (PD.int .i64)),.int .i64 s] (.bool (decide (s∈l))):=by
 refine AFn.introU tok Tryz.func169 (by kernel_rfl) rfl rfl ?_
 simp only [Tryz.f169,qO,List.map_cons,List.map_nil]
 have h1:=qVU (G:=G) l s
 have h2:decide (s∈l)=decide (0≤qHV l s):=decide_eq_decide.2 (qYT l s).symm
 rw [h2]
 generalize qHV l s=i at *
 refine rgn [] [[0,1]] ?_
 refine op1 tok ?_
 refine qA (rgn [.nilp,.int .i64 i] [[],[],[7],[],[4]] ?_)
 iterate 5 refine oq1 tok h1 ?_
 exact qA (AW.ret qK)
end Go.Proofs.YtgcbapchinideaaGreatDoor
