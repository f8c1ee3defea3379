import Derived.Test.YtbhhphabggcacaaGreatDoorSSynD
import Derived.Test.YtbhhphabggcacaaGreatDoorSSplit
import Derived.Test.YtbhhphabggcacaaGreatDoorK2
namespace Go.Proofs.YtbhhphabggcacaaGreatDoor
open Sy Go
set_option maxRecDepth 100000
set_option maxHeartbeats 4000000
set_option linter.unusedSimpArgs false
set_option linter.unusedVariables false
variable {G:qM}
theorem qLB {α:Type} {l:List α} (hn:l.Nodup) {k:Nat} {w:α} (h:l[k]?=some w):w ∉ l.take k:=by
 intro hm
 obtain ⟨i,hi⟩:=List.mem_iff_getElem?.1 hm
 rw [List.getElem?_take] at hi
 split at hi
 ·rename_i hik
  obtain ⟨h1,h2⟩:=List.getElem?_eq_some_iff.1 h
  obtain ⟨h3,h4⟩:=List.getElem?_eq_some_iff.1 hi
  exact List.pairwise_iff_getElem.1 hn i k h3 h1 hik (h4.trans h2.symm)
 cases hi
theorem qII {l:List (List UInt8)} (hn:l.Nodup) {k:Nat} {w:List UInt8} (h:l[k]?=some w):qTM (l.take k) w=l.take (k+1):=by
 unfold qTM; rw [if_neg (qLB hn h),List.take_add_one,h]; rfl
theorem qIH {l:List (List UInt8)} (hn:l.Nodup) {k:Nat} {w:List UInt8} (h:l[k]?=some w) (vs:List V) (v:V):qTL (l.take k) vs w v=vs++[v]:=by
 unfold qTL; rw [if_neg (qLB hn h)]
def yE:List (List UInt8):=jF++xN
def uQ (k:Nat):List V:=(List.range k).map fun i:Nat=>V.p (.int .i64 (if i<19 then 1 else 2))
theorem qLZ {α:Type} (id:Nat) (f:α→PD):∀ l:List α,V.noRefL id (l.map fun i=>V.p (f i))=true
 | []=>rfl
 | x::l=>by simp only [List.map_cons,V.noRefL,V.noRef,qLZ id f l,Bool.and_self]
theorem noC (id k:Nat):V.noRefL id (uQ k)=true:=qLZ id _ _
theorem qJF:yE.Nodup:=by decide +kernel
theorem qHX (k:Nat):uQ (k+1)=uQ k++[.p (.int .i64 (if k<19 then 1 else 2))]:=by unfold uQ; rw [List.range_succ,List.map_append]; rfl
theorem qUP  : AX Tryz.prog G 150 [] [] (.ms 66) [] [(66,.mp yE (uQ 25))]:=by
 refine AX.introU tok 60 Tryz.func150 (by kernel_rfl) rfl rfl ?_
 simp only [Tryz.f150,qN,List.map_cons,List.map_nil]
 have h1:=qHB (G:=G) [108,101,110,103,116,104,32,107,101,121,115,32,110,111,116,32,116,121,112,101,32,115,111,114,116,32,117,110,105,113,117,101,32,114,101,118,101,114,115,101,32,97,100,100,32,109,105,110,32,109,97,120,32,102,108,111,111,114,32,99,101,105,108,32,114,111,117,110,100,32,116,111,106,115,111,110,32,116,111,115,116,114,105,110,103,32,116,111,110,117,109,98,101,114,32,97,110,121,32,97,108,108,32,101,110,116,114,105,101,115] 32 (by decide)
 rw [show zJ 32 [108,101,110,103,116,104,32,107,101,121,115,32,110,111,116,32,116,121,112,101,32,115,111,114,116,32,117,110,105,113,117,101,32,114,101,118,101,114,115,101,32,97,100,100,32,109,105,110,32,109,97,120,32,102,108,111,111,114,32,99,101,105,108,32,114,111,117,110,100,32,116,111,106,115,111,110,32,116,111,115,116,114,105,110,103,32,116,111,110,117,109,98,101,114,32,97,110,121,32,97,108,108,32,101,110,116,114,105,101,115]=jF by decide +kernel] at h1
 have h2:=qHB (G:=G) [104,97,115,32,116,101,115,116,32,115,116,97,114,116,115,32,101,110,100,115,32,106,111,105,110,32,115,112,108,105,116] 32 (by decide)
 rw [show zJ 32 [104,97,115,32,116,101,115,116,32,115,116,97,114,116,115,32,101,110,100,115,32,106,111,105,110,32,115,112,108,105,116]=xN by decide +kernel] at h2
 have hl1:jF.length=19:=rfl
 have hl2:xN.length=6:=rfl
 have hg1:∀ k w,jF[k]?=some w→yE[k]?=some w:=fun k w h=>by
  unfold yE; rw [List.getElem?_append_left (List.getElem?_eq_some_iff.1 h).1,h]
 have hg2:∀ k w,xN[k]?=some w→yE[19+k]?=some w:=fun k w h=>by
  unfold yE; rw [List.getElem?_append_right (by omega),hl1,show 19+k-19=k by omega,h]
 have hnd:=qJF
 have hnt:∀ k,(yE.take k).Nodup:=fun k=>(List.take_sublist k yE).nodup hnd
 have hall:yE.take 25=yE:=rfl
 generalize jF=L1 at *
 generalize xN=L2 at *
 generalize yE=L at *
 refine rgn [] [[26]] ?_
 refine op1 tok ?_
 refine qA (rgn [] [[],[1]] ?_)
 iterate 2 refine op1 tok ?_
 refine qA (AW.seq (rgn [.nilf,.sl 1 (L1.map PD.str),.clo 9 []] [[],[],[]] ?_))
 iterate 3 refine op1 tok ?_ (hv:=by first | with_reducible exact True.intro | (first | exact h1 | (simp; exact h1); done) | omega | simp | (simp +contextual; omega))
 refine qA (AW.block ?_)
 refine AW.loop (α:=Nat) (fun k=>k≤19) (fun k=>⟨zO 26 [(1,.ms 66),(7,.ms 67),(8,.p (.int .i64 19)),(9,.p (.int .i64 k))],[],[(66,.mp (L.take k) (uQ k)),(67,.row 9 1 (L1.map PD.str))],60⟩) (fun k=>19-k) (0) (by omega) ⟨qD (by simp [hl1]),rfl,by simp [uQ],by simp⟩ ?_
 rintro k hk
 refine rgn [] [[]] ?_
 refine op1 tok ?_
 refine qA (AW.seq (cnd ?_ ?_))
 ·intro h10
  try simp at h10
  obtain ⟨w,hw⟩:∃ w,L1[k]?=some w:=⟨L1[k]'(by omega),by simp [show k<L1.length by omega]⟩
  have hnd2:=hnt k
  have hK:=qII hnd (hg1 k w hw)
  have hV:=qIH hnd (hg1 k w hw) (uQ k) (.p (.int .i64 1))
  have hS:uQ k++[.p (.int .i64 1)]=uQ (k+1):=by rw [qHX,if_pos (by omega)]
  rw [hS] at hV
  refine AW.skip (AW.seq (AW.block (rgn [.str w] [[],[],[1,3,7,8,9]] ?_)))
  iterate 3 refine op1 tok ?_ (hv:=by first | with_reducible exact True.intro | ((simp [hw]); done) | omega | simp | (simp +contextual; omega))
  refine qA (rgz [] [[],[]] ?_)
  iterate 2 refine op1 tok ?_
  refine qF ?_
  refine qE.stepK [1,7,8,9] (qKR tok rfl rfl rfl (by conv=>lhs; simp) trivial (by conv=>lhs; simp) trivial (by conv=>lhs; simp) trivial (by conv=>lhs; simp) hnd2) (by conv=>lhs; simp) rfl ?_
  refine qE.nil ?_
  refine rgz [] [[],[1,7,8,9]] ?_
  iterate 2 refine op1 tok ?_
  refine qA ?_
  exact ⟨k+1,by omega,by omega,qD (by simp [hK,hV]),rfl,by simp [hK,hV],by simp [hK,hV]⟩
 intro h10
 try simp at h10
 obtain rfl:k=19:=by omega
 refine AW.exit ?_
 simp
 refine AW.seq (rgn [.nilf,.sl 1 (L2.map PD.str),.clo 9 []] [[],[],[]] ?_)
 iterate 3 refine op1 tok ?_ (hv:=by first | with_reducible exact True.intro | (first | exact h2 | (simp; exact ⟨h2,noC _ _⟩); done) | omega | simp | (simp +contextual; omega))
 refine qA (AW.block ?_)
 refine AW.loop (α:=Nat) (fun k=>k≤6) (fun k=>⟨zO 26 [(1,.ms 66),(16,.ms 76),(17,.p (.int .i64 6)),(18,.p (.int .i64 k))],[],[(66,.mp (L.take (19+k)) (uQ (19+k))),(76,.row 9 1 (L2.map PD.str))],60⟩) (fun k=>6-k) (0) (by omega) ⟨qD (by simp [hl2]),rfl,by simp,by simp⟩ ?_
 rintro k hk
 refine rgn [] [[]] ?_
 refine op1 tok ?_
 refine qA (AW.seq (cnd ?_ ?_))
 ·intro h19
  try simp at h19
  obtain ⟨w,hw⟩:∃ w,L2[k]?=some w:=⟨L2[k]'(by omega),by simp [show k<L2.length by omega]⟩
  have hnd2:=hnt (19+k)
  have hK:=qII hnd (hg2 k w hw)
  have hV:=qIH hnd (hg2 k w hw) (uQ (19+k)) (.p (.int .i64 2))
  have hS:uQ (19+k)++[.p (.int .i64 2)]=uQ (19+k+1):=by rw [qHX,if_neg (by omega)]
  rw [hS] at hV
  refine AW.skip (AW.seq (AW.block (rgn [.str w] [[],[],[1,5,16,17,18]] ?_)))
  iterate 3 refine op1 tok ?_ (hv:=by first | with_reducible exact True.intro | ((simp [hw]); done) | omega | simp | (simp +contextual; omega))
  refine qA (rgz [] [[],[]] ?_)
  iterate 2 refine op1 tok ?_
  refine qF ?_
  refine qE.stepK [1,16,17,18] (qKR tok rfl rfl rfl (by conv=>lhs; simp) trivial (by conv=>lhs; simp) trivial (by conv=>lhs; simp) trivial (by conv=>lhs; simp) hnd2) (by conv=>lhs; simp) rfl ?_
  refine qE.nil ?_
  refine rgz [] [[],[1,16,17,18]] ?_
  iterate 2 refine op1 tok ?_
  refine qA ?_
  exact ⟨k+1,by omega,by omega,qD (by simp [hK,hV,Nat.add_assoc]),rfl,by simp [hK,hV,Nat.add_assoc],by simp [hK,hV,Nat.add_assoc]⟩
 intro h19
 try simp at h19
 obtain rfl:k=6:=by omega
 simp only [show 19+6=25 from rfl,hall]
 refine AW.exit ?_
 simp
 refine rgn [] [[],[0]] ?_
 iterate 2 refine op1 tok ?_
 refine qA ?_
 exact AW.ret qP
theorem qRY (w:List UInt8):(∀ i:Nat,yE[i]?=some w→(uQ 25)[i]?=some (V.p (PD.int .i64 (uA w))))∧(w ∉ yE→uA w=0):=by
 have hl1:jF.length=19:=rfl
 have hl:yE.length=25:=rfl
 constructor
 ·intro i hi
  have hlt:=(List.getElem?_eq_some_iff.1 hi).1
  have hm:=List.mem_of_getElem? hi
  have hv:(uQ 25)[i]?=some (V.p (PD.int .i64 (if i<19 then 1 else 2))):=by unfold uQ; rw [List.getElem?_map,List.getElem?_range (by omega)]; rfl
  rw [hv]
  unfold uA
  by_cases h:i<19
  ·have:w∈jF:=by
    unfold yE at hi; rw [List.getElem?_append_left (by omega)] at hi
    exact List.mem_of_getElem? hi
   rw [if_pos h,if_pos this]
  have h2:w∈xN:=by
   unfold yE at hi; rw [List.getElem?_append_right (by omega)] at hi
   exact List.mem_of_getElem? hi
  have h1:w ∉ jF:=by
   intro h1
   have hd:∀ x∈jF,x ∉ xN:=by decide +kernel
   exact hd w h1 h2
  rw [if_neg h,if_neg h1,if_pos h2]
 intro hn
 unfold yE at hn
 rw [List.mem_append,not_or] at hn
 unfold uA; rw [if_neg hn.1,if_neg hn.2]
theorem qVF (w:List UInt8):AFn Tryz.prog G 140 [.str w] (.int .i64 (uA w)):=by
 refine AFn.introU tok Tryz.func140 (by kernel_rfl) rfl rfl ?_
 simp only [Tryz.f140,qN,List.map_cons,List.map_nil]
 obtain ⟨h1,h2⟩:=qRY w
 have hc:=qUP (G:=G)
 generalize uA w=c at *
 generalize uQ 25=vs at *
 generalize yE=L at *
 refine rgn [] [[0]] ?_
 refine op1 tok ?_
 refine qA ?_
 refine AW.seqRegionO [.int .i64 c] ?_
 refine qE.stepK [0,3] (qK rfl hc (by simp)) (by conv=>lhs; simp) rfl ?_
 refine qE.run [[],[],[2]] ?_
 iterate 3 refine op1 tok ?_ (hv:=by first | with_reducible exact True.intro | (first | (exact ⟨h1,fun h=>(h2 h).symm⟩) | (simp; exact ⟨h1,fun h=>(h2 h).symm⟩); done) | omega | simp | (simp +contextual; omega))
 exact qA (AW.ret qR)
end Go.Proofs.YtbhhphabggcacaaGreatDoor
