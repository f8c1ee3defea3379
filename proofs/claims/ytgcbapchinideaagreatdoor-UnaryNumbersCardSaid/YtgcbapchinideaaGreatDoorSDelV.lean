import Derived.Test.YtgcbapchinideaaGreatDoorK2
import Derived.Test.YtgcbapchinideaaGreatDoorM4
namespace Go.Proofs.YtgcbapchinideaaGreatDoor
open Sy Go
set_option maxRecDepth 100000
set_option maxHeartbeats 4000000
set_option linter.unusedSimpArgs false
set_option linter.unusedVariables false
variable {G:qM}
theorem qPK (l:List Val) (g:FuncId) (cs:List PD) (p:Val→Bool) (hg:∀ v∈l,AFn Tryz.prog G g [v.enc,.ref cs] (.bool (p v))):AFn Tryz.prog G 156 [.sl 9 (l.map Val.enc),.clo g [.ref cs]] (.int .i64 (match l.findIdx? p with | some i=>(i:Int) | none => -1)):=by
 refine AFn.introU tok Tryz.func156 (by kernel_rfl) rfl rfl ?_
 simp only [Tryz.f156,qO,List.map_cons,List.map_nil]
 refine rgn [] [[0,1]] ?_
 refine op1 tok ?_
 refine qA (AW.seq (rgn [] [[],[],[0,1,7,8]] ?_))
 iterate 3 refine op1 tok ?_
 refine qA (AW.block ?_)
 refine AW.intFactU (i:=7) rfl (by decide) ?_; intro hlen; simp at hlen
 refine AW.loop (α:=Nat) (fun k=>k≤l.length∧(l.take k).all (fun v => !p v)=true) (fun k=>⟨zF 19 [(0,.p (.sl 9 (l.map Val.enc))),(1,.p (.clo g [.ref cs])),(7,.p (.int .i64 l.length)),(8,.p (.int .i64 k))],[],[],0⟩) (fun k=>l.length-k) (0) ⟨by omega,rfl⟩ ⟨qF (by simp),rfl,by simp,by simp⟩ ?_
 rintro k ⟨hk,hall⟩
 refine rgn [] [[]] ?_
 refine op1 tok ?_
 refine qA (AW.seq (cnd ?_ ?_))
 ·intro h9
  try simp at h9
  obtain ⟨v,hv⟩:∃ v,l[k]?=some v:=⟨l[k],by simp [h9]⟩
  have hgv:=hg v (List.mem_of_getElem? hv)
  refine AW.skip (AW.seq (AW.block (rgn [] [[],[0,1,5,7,8]] ?_)))
  iterate 2 refine op1 tok ?_
  refine qA (rgn [v.enc,.nilp,.bool (p v)] [[],[],[],[],[],[0,1,5,7,8,16]] ?_)
  iterate 6 refine op1 tok ?_ (hv:=by first | with_reducible exact True.intro | (first | (simp [hv]; done) | (simp at hgv ⊢; exact hgv); done) | omega | simp | (simp +contextual; omega))
  refine qA (cnd ?_ ?_)
  ·intro h16
   try simp at h16
   have hf:l.findIdx? p=some k:=by
    rw [List.findIdx?_eq_some_iff_getElem]
    have h9':=h9
    refine ⟨h9, ?_,fun j hj => ?_⟩
    ·rw [List.getElem?_eq_getElem h9] at hv; cases hv; exact h16
    have:=List.all_eq_true.1 hall (l[j]'(by omega)) (List.mem_iff_getElem.2 ⟨j,by simp; omega,by simp⟩)
    simpa using this
   refine rgn [] [[],[4]] ?_
   iterate 2 refine op1 tok ?_
   refine qA ?_
   exact AW.ret (qK (k:=by simp [hf]))
  intro h16
  try simp at h16
  refine AW.skip (rgz [] [[],[0,1,7,8]] ?_)
  iterate 2 refine op1 tok ?_
  refine qA ?_
  exact ⟨k+1,⟨by omega,by rw [List.take_add_one,hv,List.all_append,hall]; simpa using h16⟩,by omega,qF (by simp),rfl,by simp,by simp⟩
 intro h9
 try simp at h9
 rw [List.take_of_length_le h9] at hall
 have hf:l.findIdx? p=none:=by
  rw [List.findIdx?_eq_none_iff]; intro x hx; simpa using List.all_eq_true.1 hall x hx
 refine AW.exit ?_
 simp
 refine rgn [] [[]] ?_
 refine op1 tok ?_
 refine qA ?_
 exact AW.ret (qK (k:=by simp [hf]))
theorem qHY (l:List Val) (g:FuncId) (cs:List PD) (p:Val→Bool) (hg:∀ v∈l,AFn Tryz.prog G g [v.enc,.ref cs] (.bool (p v))):AFn Tryz.prog G 113 [.sl 9 (l.map Val.enc),.clo g [.ref cs]] (.bool (l.any p)):=by
 refine AFn.introU tok Tryz.func113 (by kernel_rfl) rfl rfl ?_
 simp only [Tryz.f113,qO,List.map_cons,List.map_nil]
 have hi:=qPK l g cs p hg
 have ha:l.any p=decide (0≤(match l.findIdx? p with | some i=>(i:Int) | none => -1)):=by
  cases h:l.findIdx? p with
  | none=>simp; intro x hx; simpa using List.findIdx?_eq_none_iff.1 h x hx
  | some i =>
   obtain ⟨h1,h2,_⟩:=List.findIdx?_eq_some_iff_getElem.1 h
   simp; exact ⟨_,List.getElem_mem h1,h2⟩
 rw [ha]
 generalize (match l.findIdx? p with | some i=>(i:Int) | none => -1)=n at *
 refine rgn [] [[0,1]] ?_
 refine op1 tok ?_
 refine qA (rgn [.nilp,.int .i64 n] [[],[],[7],[],[4]] ?_)
 iterate 5 refine oq1 tok hi ?_
 exact qA (AW.ret qK)
end Go.Proofs.YtgcbapchinideaaGreatDoor
