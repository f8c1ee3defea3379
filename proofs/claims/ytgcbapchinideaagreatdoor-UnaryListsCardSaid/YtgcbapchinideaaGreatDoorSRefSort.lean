import Derived.Test.YtgcbapchinideaaGreatDoorSRefCmp
namespace Go.Proofs.YtgcbapchinideaaGreatDoor
open Sy Go
set_option maxRecDepth 100000
set_option maxHeartbeats 4000000
set_option linter.unusedSimpArgs false
set_option linter.unusedVariables false
variable {G:qK}
def leB (a b:List UInt8):Bool:=Op.bytesLess a b || decide (a=b)
theorem qEL (a b:List UInt8):leB a b=true↔zT a b≤0:=by
 unfold leB zT
 by_cases h1:Op.bytesLess a b=true
 ·simp [h1]
 rw [if_neg h1]
 by_cases h2:a=b
 ·rw [if_pos h2]; simp [h2]
 rw [if_neg h2]; simp [h1,h2]
theorem qEW:∀ a b:List UInt8,Op.bytesLess a b=true↔a<b
 | [],[]=>by simp [Op.bytesLess]
 | [],b::bs=>by simp [Op.bytesLess]
 | a::al,[]=>by simp [Op.bytesLess]
 | a::al,b::bs=>by simp [Op.bytesLess,List.cons_lt_cons_iff,qEW al bs]
theorem zFH (a b:List UInt8):leB a b=decide (a≤b):=by
 rw [Bool.eq_iff_iff,qEL,decide_eq_true_eq,← List.not_lt,← qEW]
 have h:=qBV.anti a b trivial trivial
 rw [h]
 unfold zT
 by_cases h1:Op.bytesLess b a=true
 ·simp [h1]
 rw [if_neg h1]
 by_cases h2:b=a
 ·rw [if_pos h2]; simpa using h1
 rw [if_neg h2]; simpa using h1
theorem qUT (a b:List UInt8):leB a b=true∨leB b a=true:=by
 rw [qEL,qEL]; have:=qBV.anti a b trivial trivial; omega
theorem qZQ {a b c:List UInt8} (h1:leB a b=true) (h2:leB b c=true):leB a c=true:=by
 rw [qEL] at *; exact qBV.tr a b c trivial trivial trivial h1 h2
theorem qZR {a b:List UInt8} (h1:leB a b=true) (h2:leB b a=true):a=b:=by
 rw [qEL] at *
 have h:=qBV.anti a b trivial trivial
 have h0:zT a b=0:=by omega
 unfold zT at h0
 split at h0
 ·omega
 split at h0
 ·assumption
 omega
def vE (s:List UInt8) (l:List (List UInt8)):Nat:=(l.takeWhile fun x=>leB x s).length
def qFT (l:List (List UInt8)) (s:List UInt8):List (List UInt8):=l.take (vE s l)++[s]++l.drop (vE s l)
theorem zCR (s:List UInt8) (l:List (List UInt8)):vE s l≤l.length:=(List.takeWhile_sublist _).length_le
theorem qWJ (s:List UInt8) (l:List (List UInt8)):l.take (vE s l)=l.takeWhile fun x=>leB x s:=by
 unfold vE
 induction l with
 | nil=>rfl
 | cons a l ih => rw [List.takeWhile_cons]; split
                  ·simp [ih]
                  rfl
theorem qWK (s:List UInt8) (l:List (List UInt8)):l.drop (vE s l)=l.dropWhile fun x=>leB x s:=by
 unfold vE
 induction l with
 | nil=>rfl
 | cons a l ih => rw [List.takeWhile_cons, List.dropWhile_cons]; split
                  ·simp [ih]
                  rfl
theorem qUG {s x:List UInt8} {l:List (List UInt8)} {k:Nat} (hk:k≤vE s l) (hx:l[k]?=some x):leB x s=true↔k<vE s l:=by
 induction l generalizing k with
 | nil=>simp at hx
 | cons a l ih =>
  unfold vE at hk ⊢
  rw [List.takeWhile_cons] at hk ⊢
  cases k with
  | zero=>simp at hx; subst hx; split <;> simp_all
  | succ k =>
   split at hk
   ·rename_i h
    rw [if_pos h]
    simp at hx hk
    have:=ih (k:=k) hk hx
    unfold vE at this
    simpa using this
   simp at hk
theorem qXC (l:List (List UInt8)) (s:List UInt8):(qFT l s).Perm (s::l):=by
 unfold qFT
 have:(l.take (vE s l)++[s]++l.drop (vE s l)).Perm (s::(l.take (vE s l)++l.drop (vE s l))):=by
  rw [List.append_assoc]; exact List.perm_middle
 rwa [List.take_append_drop] at this
theorem qVU {p:List UInt8→Bool} {l:List (List UInt8)} {x:List UInt8} (h:x∈l.takeWhile p):p x=true:=by
 induction l with
 | nil=>simp at h
 | cons a l ih =>
  rw [List.takeWhile_cons] at h
  split at h
  ·rename_i ha
   rcases List.mem_cons.1 h with rfl | h
   ·exact ha
   exact ih h
  simp at h
theorem qQH {l:List (List UInt8)} {s:List UInt8} (h:l.Pairwise fun a b=>leB a b=true):(qFT l s).Pairwise fun a b=>leB a b=true:=by
 have h0:=h
 rw [← List.take_append_drop (vE s l) l,List.pairwise_append] at h
 obtain ⟨h1,h2,h3⟩:=h
 have hd:∀ x∈l.drop (vE s l),leB s x=true:=by
  rw [qWK] at h2 ⊢
  cases hq:l.dropWhile fun x=>leB x s with
  | nil=>simp
  | cons y m =>
   have hy:leB y s=false:=by
    have:=List.head?_dropWhile_not (fun x=>leB x s) l
    rw [hq] at this; simpa using this
   have hsy:leB s y=true:=(qUT s y).resolve_right (by simp [hy])
   rw [hq] at h2
   rw [List.pairwise_cons] at h2
   intro x hx
   rcases List.mem_cons.1 hx with rfl | hx
   ·exact hsy
   exact qZQ hsy (h2.1 x hx)
 unfold qFT
 rw [List.append_assoc,List.pairwise_append]
 refine ⟨h1, ?_,fun a ha b hb => ?_⟩
 ·show (s::l.drop (vE s l)).Pairwise _
  rw [List.pairwise_cons]; exact ⟨hd,h2⟩
 rcases List.mem_cons.1 hb with rfl | hb
 ·rw [qWJ] at ha; exact qVU (p:=fun x=>leB x b) ha
 exact h3 a ha b hb
def qFS (l:List (List UInt8)):List (List UInt8):=l.foldl qFT []
theorem qXB (l:List (List UInt8)) (s:List UInt8):qFS (l++[s])=qFT (qFS l) s:=by unfold qFS; rw [List.foldl_append]; rfl
theorem qXA {l:List (List UInt8)} {k:Nat} {s:List UInt8} (h:l[k]?=some s):qFS (l.take (k+1))=qFT (qFS (l.take k)) s:=by rw [List.take_add_one,h]; exact qXB _ _
theorem qLZ (l:List (List UInt8)):(qFS l).Perm l∧(qFS l).Pairwise fun a b=>leB a b=true:=by
 have:∀ (l m:List (List UInt8)),m.Pairwise (fun a b=>leB a b=true)→(l.foldl qFT m).Perm (l++m)∧(l.foldl qFT m).Pairwise fun a b=>leB a b=true:=by
  intro l
  induction l with
  | nil=>exact fun m h=>⟨.refl _,h⟩
  | cons s l ih =>
   intro m h
   obtain ⟨h1,h2⟩:=ih (qFT m s) (qQH h)
   refine ⟨h1.trans ?_,h2⟩
   exact ((qXC m s).append_left l).trans List.perm_middle
 have h:=this l [] List.Pairwise.nil
 simpa [qFS] using h
theorem zDC (l:List (List UInt8)):qFS l=qR l:=by
 obtain ⟨h1,h2⟩:=qLZ l
 refine List.Perm.eq_of_pairwise (le:=fun a b=>leB a b=true) (fun a b _ _=>qZR) h2 ?_ (h1.trans (List.mergeSort_perm _ _).symm)
 have e:(fun x y:List UInt8=>decide (x≤y))=leB:=funext fun a=>funext fun b=>(zFH a b).symm
 unfold qR
 rw [e]
 exact List.pairwise_mergeSort (le:=leB) (fun a b c=>qZQ) (fun a b=>by rw [Bool.or_eq_true]; exact qUT _ _) l
theorem qZZ (l:List (List UInt8)):(qFS l).length=l.length:=(qLZ l).1.length_eq
theorem qIJ (l:List (List UInt8)) (hlm:l.length≤1000000):AFn Tryz.prog G 54 [.sl 1 (l.map PD.str)] (.sl 1 ((qR l).map PD.str)):=by
 refine AFn.introU tok Tryz.func54 (by kernel_rfl) rfl rfl ?_
 simp only [Tryz.f54,qH,List.map_cons,List.map_nil]
 rw [← zDC]
 refine rgn [] [[0]] ?_
 refine op1 tok ?_
 refine qA (rgn [] [[],[0,3]] ?_)
 iterate 2 refine op1 tok ?_
 refine qA (AW.seq (rgn [] [[]] ?_))
 refine op1 tok ?_
 refine qA (AW.block ?_)
 refine AW.loop (α:=Nat) (fun k=>k≤l.length) (fun k=>⟨qS 51 [(0,.p (.sl 1 (l.map PD.str))),(3,.ms 7),(4,.p (.int .i64 k))],[],[(7,.row 9 1 ((qFS (l.take k)).map PD.str))],0⟩) (fun k=>l.length-k) (0) (by omega) ⟨qB (by simp),rfl,by simp [qFS],by simp⟩ ?_
 rintro k hk
 have hil:=qZZ (l.take k)
 rw [List.length_take,Nat.min_eq_left hk] at hil
 refine AW.seq (rgn [] [[],[],[],[0,3,4,11]] ?_)
 iterate 4 refine op1 tok ?_
 refine qA (cnd ?_ ?_)
 ·intro h11
  try simp at h11
  obtain ⟨s,hs⟩:∃ s,l[k]?=some s:=⟨l[k],by simp [h11]⟩
  have hnx:=qXA hs
  generalize qFS (l.take k)=o at *
  have hpl:=zCR s o
  refine AW.skip (AW.seq (AW.block (rgn [] [[]] ?_)))
  refine op1 tok ?_
  refine qA (AW.seq (AW.block ?_))
  refine AW.freezeE 7 (by conv=>lhs; simp) ?_
  refine AW.loop (α:=Nat) (fun j=>j≤vE s o) (fun j=>⟨qS 51 [(0,.p (.sl 1 (l.map PD.str))),(3,.p (.sl 1 (o.map PD.str))),(4,.p (.int .i64 k)),(5,.p (.int .i64 j))],[],[],0⟩) (fun j=>vE s o-j) (0) (by omega) ⟨qB (by simp),rfl,by simp,by simp⟩ ?_
  rintro j hj
  refine AW.seq ?_
  refine AW.seqDrawS tok mixed 15 [[5],[3],[15],[14,16],[17],[3,18],[5,18],[19,20,18],[21,18],[0,18],[4,18],[23,24,18],[25,18],[22,26,18],[18,27]] [.str (o.getD j []),.str s] [] (by kernel_rfl) ?_
  iterate 5 refine d1 ?_ (hv:=by first | with_reducible exact True.intro | (first | (simp [hs]; done) | (simp +contextual; done) | (simp; intros; omega) | (simp [List.getD_eq_getElem?_getD]; intros; simp [*]); done) | omega | simp | (simp +contextual; omega))
  iterate 9 refine d2 18 rfl rfl ?_ (hv:=by first | with_reducible exact True.intro | (first | (simp [hs]; done) | (simp +contextual; done) | (simp; intros; omega) | (simp [List.getD_eq_getElem?_getD]; intros; simp [*]); done) | omega | simp | (simp +contextual; omega))
  refine d1 ?_ (hv:=by first | with_reducible exact True.intro | (first | (simp [hs]; done) | (simp +contextual; done) | (simp; intros; omega) | (simp [List.getD_eq_getElem?_getD]; intros; simp [*]); done) | omega | simp | (simp +contextual; omega))
  refine DGo.nil (by kernel_rfl) ⟨by kernel_rfl, ?_⟩
  refine qF.nil ?_
  refine cnd ?_ ?_
  ·intro h28
   try simp at h28
   have hjl:j<o.length:=h28.1
   have hjp:j<vE s o:=by
    refine (qUG hj (x:=o[j]) (by simp [hjl])).1 ?_
    simp [hjl] at h28
    simpa [leB] using h28
   refine AW.skip (AW.block (rgz [] [[],[],[0,3,4,5]] ?_))
   iterate 3 refine op1 tok ?_
   refine qA ?_
   exact ⟨j+1,by omega,by omega,qB (by simp),rfl,by simp,by simp⟩
  intro h28
  try simp at h28
  have hjp:j=vE s o:=by
   by_cases h:j<vE s o
   ·have hjl:j<o.length:=by omega
    have:=(qUG hj (x:=o[j]) (by simp [hjl])).2 h
    simp [hjl] at h28
    simp [leB,h28] at this
   omega
  subst hjp
  refine AW.exit ?_
  simp
  refine rgn [] [[],[],[],[],[0,3,4,5,35],[0,3,4,5,6]] ?_
  iterate 6 refine op1 tok ?_
  refine qA ?_
  refine AW.seqDrawS tok mixed 11 [[],[3],[5],[37,38],[36,39],[0],[4],[41,42],[43],[44],[40,45]] [.str s,.str s] [] (by kernel_rfl) ?_
  iterate 11 refine d1 ?_ (hv:=by first | with_reducible exact True.intro | (first | (simp [hs]; done) | (simp; omega); done) | omega | simp | (simp +contextual; omega))
  refine DGo.nil (by kernel_rfl) ⟨by kernel_rfl, ?_⟩
  refine qF.run [[0,3,4,6]] ?_
  refine op1 tok ?_
  refine qA (rgz [] [[],[],[0,4,49],[0,3,4]] ?_)
  iterate 4 refine op1 tok ?_
  refine qA ?_
  refine AW.renE 46 7 (by simp) (by conv=>lhs; simp) ?_
  refine rgz [] [[],[],[0,3,4]] ?_
  iterate 3 refine op1 tok ?_
  refine qA ?_
  exact ⟨k+1,by omega,by omega,qB (by simp [hnx,qFT,show List.take o.length (List.map PD.str o)=List.map PD.str o from List.take_of_length_le (by simp)]),rfl,by simp [hnx,qFT,show List.take o.length (List.map PD.str o)=List.map PD.str o from List.take_of_length_le (by simp)],by simp [hnx,qFT,show List.take o.length (List.map PD.str o)=List.map PD.str o from List.take_of_length_le (by simp)]⟩
 intro h11
 try simp at h11
 refine AW.exit ?_
 simp
 refine rgn [] [[],[2]] ?_
 iterate 2 refine op1 tok ?_
 refine qA ?_
 exact AW.ret (qG (k:=by simp; rw [List.take_of_length_le h11]))
end Go.Proofs.YtgcbapchinideaaGreatDoor
