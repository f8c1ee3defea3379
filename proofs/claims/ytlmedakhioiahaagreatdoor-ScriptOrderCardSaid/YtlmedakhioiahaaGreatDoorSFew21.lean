import Derived.Test.YtlmedakhioiahaaGreatDoorK3
namespace Go.Proofs.YtlmedakhioiahaaGreatDoor
open Sy Go
set_option maxRecDepth 100000
set_option maxHeartbeats 4000000
set_option linter.unusedSimpArgs false
set_option linter.unusedVariables false
variable {G:qR}
def qCW (s:List UInt8):List UInt8:=if 4100<s.length then s.take 4100 else s
def qQX (j:Jb):Jb:=⟨qCW j.p,qCW j.f,qCW j.i,qCW j.n,j.a,j.b,j.c,j.d⟩
def qDZ (j:Jb) (k:Nat):List (List UInt8):=(List.range 4).map fun i=>if i<k then qCW (wY j i) else wY j i
theorem qMC (j:Jb) (k:Nat) {i:Nat} (h:i<4):(qDZ j k)[i]?=some (if i<k then qCW (wY j i) else wY j i):=by simp [qDZ,h]
theorem qGJ (j:Jb) (k:Nat):(qDZ j k).length=4:=by simp [qDZ]
theorem zBD (j:Jb) {k:Nat} (h:k<4):(qDZ j k).set k (qCW (wY j k))=qDZ j (k+1):=by
 apply List.ext_getElem?
 intro i
 by_cases hi:i<4
 ·rw [List.getElem?_set,qMC j (k+1) hi,qMC j k hi,qGJ]
  by_cases e:k=i
  ·subst e; rw [if_pos rfl,if_pos h,if_pos (by omega)]
  rw [if_neg e]
  congr 1
  by_cases h2:i<k
  ·rw [if_pos h2,if_pos (by omega)]
  rw [if_neg h2,if_neg (by omega)]
 rw [List.getElem?_eq_none (by simp [qGJ]; omega),List.getElem?_eq_none (by rw [qGJ]; omega)]
theorem zFC (n:Int):AFn Tryz.prog G 15 [.int .i64 n] (.bool (decide (-1099511627776≤n) && decide (n≤1099511627776))):=by
 refine AFn.introU tok Tryz.func15 (by kernel_rfl) rfl rfl ?_
 simp only [Tryz.f15,qO,List.map_cons,List.map_nil]
 refine rgn [] [[0]] ?_
 refine op1 tok ?_
 refine qA (rgn [] [[],[],[],[],[5,7],[],[2]] ?_)
 iterate 3 refine op1 tok ?_
 iterate 2 refine op2 tok ?_
 iterate 2 refine op1 tok ?_
 exact qA (AW.ret qP)
theorem zKI (j:Jb):AFn Tryz.prog G 8 [j.enc] ((qQX j).enc):=by
 refine AFn.introU tok Tryz.func8 (by kernel_rfl) rfl rfl ?_
 simp only [Tryz.f8,qO,List.map_cons,List.map_nil]
 refine rgn [] [[],[1,2]] ?_
 iterate 2 refine op1 tok ?_
 refine qA (rgn [.str j.p,.str j.f,.str j.i,.str j.n] [[],[],[],[],[],[],[],[1,2,6,8,10,12],[1,2,13],[1,2,3]] ?_)
 iterate 10 refine op1 tok ?_
 refine qA (AW.seq (rgn [] [[]] ?_))
 refine op1 tok ?_
 refine qA (AW.block ?_)
 refine AW.loop (α:=Nat) (fun k=>k≤4) (fun k=>⟨zI 49 [(1,.ptr 1 0),(2,.ptr 2 0),(3,.ms 13),(4,.p (.int .i64 k))],[],[(1,.vars 23 j.cells),(2,.vars 23 [.p (.str []),.p (.str []),.p (.str []),.p (.str []),.p (.int .i64 0),.p (.int .i64 0),.p (.int .i64 0),.p (.int .i64 0)]),(13,.row 9 1 ((qDZ j k).map PD.str))],0⟩) (fun k=>4-k) (0) (by omega) ⟨qE (by simp),rfl,(by simp; rfl),by simp⟩ ?_
 rintro k hk
 refine AW.seq (rgn [] [[],[1,2,3,4,15]] ?_)
 iterate 2 refine op1 tok ?_
 refine qA (cnd ?_ ?_)
 ·intro h15
  try simp at h15
  have hk':k<4:=by omega
  have hg:=qMC j k hk'
  rw [if_neg (by omega)] at hg
  have hgp:((qDZ j k).map PD.str)[k]?=some (.str (wY j k)):=by rw [List.getElem?_map,hg]; rfl
  have hlp:((qDZ j k).map PD.str).length=4:=by simp [qGJ]
  have hst:=zBD j hk'
  have hsp:((qDZ j k).map PD.str).set k (.str (qCW (wY j k)))=(qDZ j (k+1)).map PD.str:=by rw [← hst,List.map_set]
  have hcu:qCW (wY j k)=if 4100<(wY j k).length then (wY j k).take 4100 else wY j k:=rfl
  have hsame:((qDZ j k).map PD.str).set k (.str (wY j k))=(qDZ j k).map PD.str:=by
   apply List.ext_getElem?
   intro i
   rw [List.getElem?_set]
   by_cases e:k=i
   ·subst e; rw [if_pos rfl,if_pos (by omega),hgp]
   rw [if_neg e]
  generalize hrow:(qDZ j k).map PD.str=R at *
  generalize hrow2:(qDZ j (k+1)).map PD.str=R2 at *
  generalize wY j k=w at *
  refine AW.skip (AW.seq (AW.block (rgn [.str w] [[],[],[],[],[1,2,3,4,22],[1,2,3,4,23]] ?_)))
  iterate 6 refine op1 tok ?_ (hv:=by first | with_reducible exact True.intro | (first | (simp [hgp]; done) | (simp [hgp,hlp]; omega); done) | omega | simp | (simp +contextual; omega))
  refine qA (cnd ?_ ?_)
  ·intro h23
   try simp at h23
   rw [if_pos (by omega)] at hcu
   rw [hcu] at hsp
   refine rgz [.str w,.str w,.str (w.take 4100)] [[],[],[],[],[],[],[1,2,3,4,24,25,30],[],[1,2,3,4]] ?_
   iterate 9 refine op1 tok ?_ (h:=by intro C; conv=>lhs; simp [hsp]) (hv:=by first | with_reducible exact True.intro | (first | (simp [hgp]; done) | (simp [hgp,hlp]; omega); done) | omega | simp | (simp +contextual; omega))
   refine qA (rgz [] [[],[],[1,2,3,4]] ?_)
   iterate 3 refine op1 tok ?_
   refine qA ?_
   exact ⟨k+1,by omega,by omega,qE (by simp [hrow2]),rfl,by simp [hrow2],by simp [hrow2]⟩
  intro h23
  try simp at h23
  rw [if_neg (by omega)] at hcu
  rw [hcu,hsame] at hsp
  refine AW.skip (rgz [] [[],[],[1,2,3,4]] ?_)
  iterate 3 refine op1 tok ?_
  refine qA ?_
  exact ⟨k+1,by omega,by omega,qE (by simp [hsp,hrow2]),rfl,by simp [hsp,hrow2],by simp [hsp,hrow2]⟩
 intro h15
 try simp at h15
 obtain rfl:k=4:=by omega
 have h4:(qDZ j 4).map PD.str=[.str (qCW j.p),.str (qCW j.f),.str (qCW j.i),.str (qCW j.n)]:=rfl
 rw [h4]
 refine AW.exit ?_
 simp
 refine rgn [.str (qCW j.p)] [[],[],[],[],[1,2,3]] ?_
 iterate 5 refine op1 tok ?_
 refine qA (rgn [.str (qCW j.f)] [[],[],[],[],[1,2,3]] ?_)
 iterate 5 refine op1 tok ?_
 refine qA (rgn [.str (qCW j.i)] [[],[],[],[],[1,2,3]] ?_)
 iterate 5 refine op1 tok ?_
 refine qA (rgn [.str (qCW j.n)] [[],[],[],[],[1,2]] ?_)
 iterate 5 refine op1 tok ?_
 refine qA (rgn [] [[],[2]] ?_)
 iterate 2 refine op1 tok ?_
 refine qA ?_
 exact AW.ret (qP (k:=by simp [qQX]))
end Go.Proofs.YtlmedakhioiahaaGreatDoor
