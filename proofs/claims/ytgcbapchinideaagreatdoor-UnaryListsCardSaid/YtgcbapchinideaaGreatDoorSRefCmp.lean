import Derived.Test.YtgcbapchinideaaGreatDoorSRefWith
import Derived.Test.YtgcbapchinideaaGreatDoorSRefDecCmp
import Derived.Test.YtgcbapchinideaaGreatDoorK2
namespace Go.Proofs.YtgcbapchinideaaGreatDoor
open Sy Go
set_option maxRecDepth 100000
set_option maxHeartbeats 4000000
set_option linter.unusedSimpArgs false
set_option linter.unusedVariables false
variable {G:qK}
def qFF (s:List UInt8):Val := .mk 5 0 dc0 s [] [] 0
theorem qSC {α:Type} {p:α→α→Int} {l m:List α} {k:Nat} {x y:α} (hx:l[k]?=some x) (hy:m[k]?=some y):zA p (l.drop k) (m.drop k)=if p x y≠0 then p x y else zA p (l.drop (k+1)) (m.drop (k+1)):=by
 obtain ⟨h1,rfl⟩:=List.getElem?_eq_some_iff.1 hx
 obtain ⟨h2,rfl⟩:=List.getElem?_eq_some_iff.1 hy
 rw [List.drop_eq_getElem_cons h1,List.drop_eq_getElem_cons h2]; rfl
theorem qXL {α:Type} {p:α→α→Int} {m:List α}:zA p [] m=if 0<m.length then -1 else 0:=by cases m <;> simp [zA]
theorem qXK {α:Type} {p:α→α→Int} {l:List α}:zA p l []=if 0<l.length then 1 else 0:=by cases l <;> simp [zA]
theorem qWI {α:Type} {p:α→α→Int} {l m:List α} {k:Nat} (h:l.length≤k∨m.length≤k) (h1:k≤l.length) (h2:k≤m.length):zA p (l.drop k) (m.drop k)=if l.length<m.length then -1 else if m.length<l.length then 1 else 0:=by
 by_cases h3:l.length=k
 ·rw [List.drop_eq_nil_of_le (by omega),qXL,List.length_drop]; (repeat' split) <;> omega
 rw [show m.drop k=[] from List.drop_eq_nil_of_le (by omega),qXK,List.length_drop]; (repeat' split) <;> omega
theorem qJD (l m:List Val) (p:Val→Val→Int) (hlm:l.length≤1000000) (hg:∀ x∈l, ∀ y∈m,AFn Tryz.prog G 19 [x.enc,y.enc] (.int .i64 (p x y))):AFn Tryz.prog G 53 [.sl 9 (l.map Val.enc),.sl 9 (m.map Val.enc)] (.int .i64 (zA p l m)):=by
 refine AFn.introU tok Tryz.func53 (by kernel_rfl) rfl rfl ?_
 simp only [Tryz.f53,qH,List.map_cons,List.map_nil]
 refine rgn [] [[0,1]] ?_
 refine op1 tok ?_
 refine qA (AW.seq (rgn [] [[]] ?_))
 refine op1 tok ?_
 refine qA (AW.block ?_)
 refine AW.loop (α:=Nat) (fun k=>k≤l.length∧k≤m.length∧zA p l m=zA p (l.drop k) (m.drop k)) (fun k=>⟨qS 41 [(0,.p (.sl 9 (l.map Val.enc))),(1,.p (.sl 9 (m.map Val.enc))),(5,.p (.int .i64 k))],[],[],0⟩) (fun k=>l.length-k) (0) ⟨by omega,by omega,rfl⟩ ⟨qB (by simp),rfl,by simp,by simp⟩ ?_
 rintro k ⟨hk,hk2,hall⟩
 refine AW.seq (rgn [] [[],[],[],[],[0,1,5,11],[],[],[],[],[0,1,5,16]] ?_)
 iterate 5 refine op1 tok ?_
 iterate 4 refine op2 tok ?_
 refine op1 tok ?_
 refine qA (cnd ?_ ?_)
 ·intro h16
  try simp at h16
  obtain ⟨x,hx⟩:∃ x,l[k]?=some x:=⟨l[k]'(by omega),by simp <;> omega⟩
  obtain ⟨y,hy⟩:∃ y,m[k]?=some y:=⟨m[k]'(by omega),by simp <;> omega⟩
  have hst:=qSC (p:=p) hx hy
  have hgv:=hg x (List.mem_of_getElem? hx) y (List.mem_of_getElem? hy)
  simp only [Val.enc_def] at hgv
  refine AW.skip (AW.seq (AW.block ?_))
  refine AW.seqDrawS tok mixed 9 [[0],[5],[19,20],[21],[1],[5],[23,24],[25],[22,26]] [x.enc,y.enc,.nilp,.int .i64 (p x y)] [] (by kernel_rfl) ?_
  iterate 9 refine d1 ?_ (hv:=by first | with_reducible exact True.intro | (first | (simp [hx]; done) | (simp [hy]; done) | exact hgv; done) | omega | simp | (simp +contextual; omega))
  refine DGo.nil (by kernel_rfl) ⟨by kernel_rfl, ?_⟩
  refine qF.run [[0,1,5,6]] ?_
  refine op1 tok ?_
  refine qA (rgn [] [[],[0,1,5,6,29]] ?_)
  iterate 2 refine op1 tok ?_
  refine qA (cnd ?_ ?_)
  ·intro h29
   try simp at h29
   have hR:zA p l m=p x y:=by rw [hall,hst,if_pos h29]
   refine rgn [] [[],[4]] ?_
   iterate 2 refine op1 tok ?_
   refine qA ?_
   exact AW.ret (qG (k:=by simp [hR]))
  intro h29
  try simp at h29
  have hnx:zA p l m=zA p (l.drop (k+1)) (m.drop (k+1)):=by rw [hall,hst,if_neg (by simp [h29])]
  refine AW.skip (rgz [] [[],[],[0,1,5]] ?_)
  iterate 3 refine op1 tok ?_
  refine qA ?_
  exact ⟨k+1,⟨by omega,by omega,hnx⟩,by omega,qB (by simp),rfl,by simp,by simp⟩
 intro h16
 try simp at h16
 have hR:zA p l m=if l.length<m.length then -1 else if m.length<l.length then 1 else 0:=by rw [hall]; exact qWI (by omega) hk hk2
 refine AW.exit ?_
 simp
 refine AW.seq (rgn [] [[],[],[],[],[0,1,35]] ?_)
 iterate 5 refine op1 tok ?_
 refine qA (cnd ?_ ?_)
 ·intro h35
  try simp at h35
  rw [if_pos h35] at hR
  refine rgn [] [[]] ?_
  refine op1 tok ?_
  refine qA ?_
  exact AW.ret (qG (k:=by simp [hR]))
 intro h35
 try simp at h35
 rw [if_neg (by omega)] at hR
 refine AW.skip (AW.seq (rgn [] [[],[],[],[37,39],[40]] ?_))
 iterate 5 refine op1 tok ?_
 refine qA (cnd ?_ ?_)
 ·intro h40
  try simp at h40
  rw [if_pos h40] at hR
  refine rgn [] [[]] ?_
  refine op1 tok ?_
  refine qA ?_
  exact AW.ret (qG (k:=by simp [hR]))
 intro h40
 try simp at h40
 rw [if_neg (by omega)] at hR
 refine AW.skip (rgn [] [[]] ?_)
 refine op1 tok ?_
 refine qA ?_
 exact AW.ret (qG (k:=by simp [hR]))
theorem qOO (l:List (List UInt8)) (hlm:l.length≤1000000):AFn Tryz.prog G 55 [.sl 1 (l.map PD.str)] (.sl 9 ((l.map qFF).map Val.enc)):=by
 refine AFn.introU tok Tryz.func55 (by kernel_rfl) rfl rfl ?_
 simp only [Tryz.f55,qH,List.map_cons,List.map_nil]
 refine rgn [] [[0]] ?_
 refine op1 tok ?_
 refine qA (rgn [] [[],[0,3]] ?_)
 iterate 2 refine op1 tok ?_
 refine qA (AW.seq (rgn [] [[]] ?_))
 refine op1 tok ?_
 refine qA (AW.block ?_)
 refine AW.loop (α:=Nat) (fun k=>k≤l.length) (fun k=>⟨qS 21 [(0,.p (.sl 1 (l.map PD.str))),(3,.ms 5),(4,.p (.int .i64 k))],[],[(5,.row 31 9 (((l.take k).map qFF).map Val.enc))],0⟩) (fun k=>l.length-k) (0) (by omega) ⟨qB (by simp),rfl,by simp,by simp⟩ ?_
 rintro k hk
 refine AW.seq (rgn [] [[],[],[],[0,3,4,9]] ?_)
 iterate 4 refine op1 tok ?_
 refine qA (cnd ?_ ?_)
 ·intro h9
  try simp at h9
  obtain ⟨x,hx⟩:∃ x,l[k]?=some x:=⟨l[k],by simp [h9]⟩
  refine AW.skip (AW.seq (AW.block (rgz [.str x,(qFF x).enc] [[],[],[],[],[0,4,12,16],[],[],[0,4,19],[0,3,4]] ?_)))
  iterate 9 refine op1 tok ?_ (hv:=by first | with_reducible exact True.intro | (first | (simp [hx]; done) | (simp [qFF,dc0]; done) | (simp; omega); done) | omega | simp | (simp +contextual; omega))
  refine qA (rgz [] [[],[],[0,3,4]] ?_)
  iterate 3 refine op1 tok ?_
  refine qA ?_
  exact ⟨k+1,by omega,by omega,qB (by simp [List.take_add_one,hx]),rfl,by simp [List.take_add_one,hx],by simp [List.take_add_one,hx]⟩
 intro h9
 try simp at h9
 refine AW.exit ?_
 simp
 refine rgn [] [[],[2]] ?_
 iterate 2 refine op1 tok ?_
 refine qA ?_
 exact AW.ret (qG (k:=by simp; exact List.take_of_length_le (by simpa using h9)))
end Go.Proofs.YtgcbapchinideaaGreatDoor
