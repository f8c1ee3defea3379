import Derived.Test.YtcfcfblbpnpclaaGreatDoorSDeskL
import Derived.Test.YtcfcfblbpnpclaaGreatDoorSCore41
namespace Go.Proofs.YtcfcfblbpnpclaaGreatDoor
open Sy Go
set_option maxRecDepth 100000
set_option maxHeartbeats 4000000
set_option linter.unusedSimpArgs false
set_option linter.unusedVariables false
variable {G:qM}
def qHW (l:List Int):PD := .sl 1 (l.map inD)
def wC (L:List (List Int)):List PD:=L.map qHW
theorem xQ (L:List (List Int)):(wC L).length=L.length:=List.length_map _
theorem qAD {L:List (List Int)} {k:Nat} {l:List Int} (h:L[k]?=some l):(wC L)[k]?=some (qHW l):=by unfold wC; rw [List.getElem?_map,h]; rfl
theorem qEZ {L:List (List Int)} {k:Nat} (l:List Int):(wC L).set k (qHW l)=wC (L.set k l):=by unfold wC; rw [List.map_set]
theorem qLQ:∀ l:List Int,(ofL l).1=l.length:=by
 intro l
 induction l using jR with
 | nil=>rfl
 | append_singleton l n ih=>rw [vI]; simp [ih]
def LOK (l:List Int):Prop:=l.length≤1000000∧∀ k,0≤(ofL (l.take k)).2.1∧(ofL (l.take k)).2.1≤1099511627776
theorem LOK.note {l:List Int} (h:LOK l) (hl:l.length<1000000) (n:Int):LOK (zW l n):=by
 unfold zW
 split
 ·exact h
 rename_i hh
 refine ⟨by simp; omega,fun k => ?_⟩
 by_cases hk:k≤l.length
 ·rw [List.take_append_of_le_length hk]; exact h.2 k
 rw [List.take_of_length_le (by simp; omega),vI]
 have:=h.2 l.length
 rw [List.take_length] at this
 exact ⟨by simp only; omega,by simp only; omega⟩
theorem LOK.nil:LOK []:=⟨by simp,fun k=>by simp [ofL]⟩
theorem qIF  : AX Tryz.prog G 20 [.p (.int .i64 5)] [] (.ptr 708 0) [] [(708,.vars 85 [.ms 706]),(706,.row 38 1 (wC [[],[],[],[],[]]))]:=by
 refine AX.introU tok 700 Tryz.func20 (by kernel_rfl) rfl rfl ?_
 simp only [Tryz.f20,qT,List.map_cons,List.map_nil]
 have e:wC [[],[],[],[],[]]=[.sl 1 [],.sl 1 [],.sl 1 [],.sl 1 [],.sl 1 []]:=rfl
 rw [e]
 refine rgn [] [[0]] ?_
 refine op1 tok ?_
 refine qA (rgn [.sl 1 []] [[],[],[],[6],[],[],[2]] ?_)
 iterate 7 refine op1 tok ?_
 refine qA ?_
 exact AW.ret zG
theorem qGE (L:List (List Int)) (k:Nat) (l:List Int) (hk:L[k]?=some l) (hl:LOK l):AX Tryz.prog G 32 [.ptr 2 0,.p (.int .i64 k)] [(2,.vars 85 [.ms 880]),(880,.row 38 1 (wC L))] (.agg [.p (.int .i64 (ofL l).1),.p (.int .i64 (ofL l).2.1),.p (.int .i64 (ofL l).2.2)]) [2,880] [(2,.vars 85 [.ms 880]),(880,.row 38 1 (wC L))]:=by
 refine AX.introU tok 740 Tryz.func32 (by kernel_rfl) rfl rfl ?_
 simp only [Tryz.f32,qT,List.map_cons,List.map_nil]
 have hkl:=(List.getElem?_eq_some_iff.1 hk).1
 have hrl:=xQ L
 have hg:=qAD hk
 obtain ⟨hl1,hl2⟩:=hl
 have hlm:(l.map inD).length=l.length:=by simp
 unfold qHW at hg
 refine rgn [] [[]] ?_
 refine op1 tok ?_
 refine qA ?_
 refine AW.seqRegionO [] ?_
 refine qB.stepK [0,1,4,8] (qET (zs:=[.p (.int .i64 0),.p (.int .i64 0),.p (.int .i64 0)]) tok rfl rfl rfl rfl rfl) (by conv=>lhs; simp) rfl ?_
 refine qB.run [[],[0,1,4,5]] ?_
 iterate 2 refine op1 tok ?_
 refine qA (AW.seq (rgn [] [[],[],[],[],[],[],[0,1,4,5,11,12,15],[],[],[0,1,4,5,11,18],[0,1,4,5,19]] ?_))
 iterate 3 refine op1 tok ?_
 iterate 7 refine op2 tok ?_
 refine op1 tok ?_
 refine qA (cnd ?_ ?_)
 ·intro h19
  try simp at h19
  (first | omega | (rw [hrl] at h19; omega))
 intro h19
 try simp at h19
 refine AW.skip (AW.seq (rgn [] [[]] ?_))
 refine op1 tok ?_
 refine qA (AW.block ?_)
 refine AW.loop (α:=Nat) (fun j=>j≤l.length) (fun j=>⟨qZ 56 [(0,.ptr 2 0),(1,.p (.int .i64 k)),(4,.ptr 744 0),(5,.ptr 745 0),(6,.p (.int .i64 j))],[2,880],[(2,.vars 85 [.ms 880]),(880,.row 38 1 (wC L)),(744,.vars 35 [.p (.int .i64 0),.p (.int .i64 0),.p (.int .i64 0)]),(745,.vars 35 [.p (.int .i64 (ofL (l.take j)).1),.p (.int .i64 (ofL (l.take j)).2.1),.p (.int .i64 (ofL (l.take j)).2.2)])],740⟩) (fun j=>l.length-j) (0) (by omega) ⟨qJ (by simp [zV,pcells,ofL]),rfl,by simp [zV,pcells,ofL],by simp [zV,pcells,ofL]⟩ ?_
 rintro j hj
 refine AW.seq (rgn [.sl 1 (l.map inD)] [[],[],[],[],[],[],[0,1,4,5,6,21,27],[],[],[0,1,4,5,6,30]] ?_)
 iterate 10 refine op1 tok ?_ (h:=by intro C; conv=>lhs; simp [hg]) (hv:=by first | with_reducible exact True.intro | (first | exact hg | omega | (rw [hrl]; omega) | (simp; omega); done) | omega | simp | (simp +contextual; omega))
 refine qA (cnd ?_ ?_)
 ·intro h30
  try simp at h30
  obtain ⟨n,hn⟩:∃ n,l[j]?=some n:=⟨l[j]'(by first | omega | (simp at h30; omega)),by simp [show j<l.length by first | omega | (simp at h30; omega)]⟩
  have hst:ofL (l.take (j+1))=((ofL (l.take j)).1+1,(ofL (l.take j)).2.1+n,yK (ofL (l.take j)).2.2 n):=by rw [List.take_add_one,hn]; exact vI _ n
  have h1:=hl2 j
  have h2:=hl2 (j+1)
  have hc1:=qLQ (l.take j)
  have hc2:(l.take j).length≤1000000:=by rw [List.length_take]; omega
  rw [hst] at h2
  simp only at h2
  have hmx:(if n > (ofL (l.take j)).2.2 then n else (ofL (l.take j)).2.2)=yK (ofL (l.take j)).2.2 n:=rfl
  generalize ofL (l.take j)=X at *
  obtain ⟨x1,x2,x3⟩:=X
  simp only at h1 h2 hc1 hst hmx
  refine AW.skip (AW.seq (AW.block (rgn [.sl 1 (l.map inD),.int .i64 n] [[],[],[],[],[],[0,1,4,5,6,38],[],[],[],[0,1,4,5,6,42],[0,1,4,5,6,7]] ?_)))
  iterate 11 refine op1 tok ?_ (hv:=by first | with_reducible exact True.intro | (first | exact hg | omega | (rw [hrl]; omega) | (simp [hn,inD]; done) | (simp; omega); done) | omega | simp | (simp +contextual; omega))
  refine qA (rgz [.int .i64 x1,.int .i64 x2,.int .i64 x3] [[],[],[],[],[],[],[0,1,4,5,6,7,45,49],[],[],[],[0,1,4,5,6,45,49,53]] ?_)
  iterate 11 refine op1 tok ?_
  refine qG ?_
  refine qB.stepK [0,1,4,5,6,54] (zI tok rfl rfl rfl rfl rfl rfl rfl (by conv=>lhs; simp) trivial rfl (by conv=>lhs; simp) trivial rfl (by conv=>lhs; simp) trivial rfl) (by conv=>lhs; simp) rfl ?_
  refine qB.run [[0,1,4,5,6]] ?_
  refine op1 tok ?_
  refine qA (rgz [] [[],[],[0,1,4,5,6]] ?_)
  iterate 3 refine op1 tok ?_
  refine qA ?_
  exact ⟨j+1,by omega,by omega,qJ (by simp [hst,hmx]),rfl,by simp [hst,hmx],by simp [hst,hmx]⟩
 intro h30
 try simp at h30
 obtain rfl:j=l.length:=by first | omega | (simp at h30; omega)
 rw [List.take_length]
 refine AW.exit ?_
 simp
 refine rgn [] [[],[4]] ?_
 iterate 2 refine op1 tok ?_
 refine qA ?_
 exact AW.ret zG
theorem kQ (L:List (List Int)) (k:Nat) (l:List Int) (n:Int) (hk:L[k]?=some l) (hl:LOK l) (hl0:l.length≤1000):AX Tryz.prog G 21 [.ptr 2 0,.p (.int .i64 k),.p (.int .i64 n)] [(2,.vars 85 [.ms 880]),(880,.row 38 1 (wC L))] (.dead) [2,880] [(2,.vars 85 [.ms 880]),(880,.row 38 1 (wC (L.set k (zW l n))))]:=by
 refine AX.introU tok 740 Tryz.func21 (by kernel_rfl) rfl rfl ?_
 simp only [Tryz.f21,qT,List.map_cons,List.map_nil]
 have hkl:=(List.getElem?_eq_some_iff.1 hk).1
 have hrl:=xQ L
 have hg:=qAD hk
 have hof:=qGE (G:=G) L k l hk hl
 have hsame:L.set k l=L:=by
  obtain ⟨h1,h2⟩:=List.getElem?_eq_some_iff.1 hk
  rw [← h2]; simp
 have hnl:zW l n=if n<0∨1099511627776-(ofL l).2.1<n then l else l++[n]:=rfl
 have hbd:=hl.2 l.length
 rw [List.take_length] at hbd
 have hset:=qEZ (L:=L) (k:=k) (l++[n])
 rw [hnl]
 unfold qHW at hg hset
 unfold qN at hof
 generalize ofL l=X at *
 obtain ⟨x1,x2,x3⟩:=X
 simp only at hof hbd
 refine rgn [] [[0,1,2]] ?_
 refine op1 tok ?_
 refine qA (AW.seq (rgn [] [[],[],[],[],[],[],[0,1,2,9,10,13],[],[],[0,1,2,9,16],[],[],[],[0,1,2,18,20],[0,1,2,21]] ?_))
 iterate 15 first | refine op1 tok ?_ | refine op2 tok ?_
 refine qA (cnd ?_ ?_)
 ·intro h21
  try simp at h21
  have h21':n<0:=by first | (simpa [hrl,hkl] using h21) | (rw [hrl] at h21; omega) | (simp [hrl] at h21; omega) | grind
  rw [if_pos (.inl h21'),hsame]
  refine rgn [] [[]] ?_
  refine op1 tok ?_
  refine qA ?_
  exact AW.ret zG
 intro h21
 try simp at h21
 have h21':¬ n<0:=by first | (simpa [hrl,hkl] using h21) | (rw [hrl] at h21; omega) | (simp [hrl] at h21; omega) | grind
 refine AW.skip (AW.seq (rgn [] [[],[],[]] ?_))
 iterate 3 refine op1 tok ?_
 refine qG ?_
 refine qB.stepK [0,1,2,22,25] (qW rfl hof (by simp)) (by conv=>lhs; simp) rfl ?_
 refine qB.stepK [0,1,2,22,26] (qHQ (z:=1) tok rfl rfl rfl rfl rfl (by conv=>lhs; simp) trivial (by conv=>lhs; simp) trivial 1 rfl (by decide) rfl) (by conv=>lhs; simp) rfl ?_
 refine qB.run [[],[0,1,2,28]] ?_
 iterate 2 refine op1 tok ?_
 refine qA (cnd ?_ ?_)
 ·intro h28
  try simp at h28
  have h28':1099511627776-x2<n:=by simpa using h28
  rw [if_pos (.inr h28'),hsame]
  refine rgn [] [[]] ?_
  refine op1 tok ?_
  refine qA ?_
  exact AW.ret zG
 intro h28
 try simp at h28
 have h28':¬ 1099511627776-x2<n:=by simpa using h28
 rw [if_neg (by simp only; omega)]
 refine AW.skip ?_
 refine AW.seqDrawR mixed 17 [[0],[29],[30],[31],[1],[],[0],[35],[36],[37],[1],[38,39],[40],[34,41],[2],[43],[42,44]] [.sl 1 (l.map inD),.sl 1 (l.map inD++[.int .i64 n])] (by kernel_rfl) ?_
 iterate 12 refine qI.one tok (orc:=[]) (by intro C; conv=>lhs; simp) (by first | with_reducible exact True.intro | (first | exact hg | omega | (rw [hrl]; omega) | (simp; omega); done) | omega | simp | (simp +contextual; omega)) rfl (by kernel_rfl) ?_
 refine qI.one tok (orc:=[.sl 1 (l.map inD)]) (by intro C; conv=>lhs; simp) (by first | with_reducible exact True.intro | (first | exact hg | omega | (rw [hrl]; omega) | (simp; omega); done) | omega | simp | (simp +contextual; omega)) rfl (by kernel_rfl) ?_
 iterate 2 refine qI.one tok (orc:=[]) (by intro C; conv=>lhs; simp) (by first | with_reducible exact True.intro | (first | exact hg | omega | (rw [hrl]; omega) | (simp; omega); done) | omega | simp | (simp +contextual; omega)) rfl (by kernel_rfl) ?_
 refine qI.one tok (orc:=[.int .i64 n]) (by intro C; conv=>lhs; simp) (by first | with_reducible exact True.intro | (first | exact hg | omega | (rw [hrl]; omega) | (simp; omega); done) | omega | simp | (simp +contextual; omega)) rfl (by kernel_rfl) ?_
 refine qI.one tok (orc:=[]) (by intro C; conv=>lhs; simp) (by first | with_reducible exact True.intro | (first | exact hg | omega | (rw [hrl]; omega) | (simp; omega); done) | omega | simp | (simp +contextual; omega)) rfl (by kernel_rfl) ?_
 refine qI.nil (by kernel_rfl) ⟨by kernel_rfl, ?_⟩
 refine qB.freeze 785 (by conv=>lhs; simp) ?_
 refine qB.run [[],[47]] ?_
 iterate 2 refine op1 tok ?_ (hv:=by first | with_reducible exact True.intro | (first | exact hg | omega | (rw [hrl]; omega) | (simp [inD]; done) | (simp; omega); done) | omega | simp | (simp +contextual; omega))
 refine qA (rgn [] [[]] ?_)
 refine op1 tok ?_
 refine qA ?_
 exact AW.ret (zG (k:=by simp) (b:=by rw [← hset]; simp [inD]))
theorem qJB (L:List (List Int)) (hL:L.length≤1000) (hok:∀ l∈L,LOK l):AX Tryz.prog G 22 [.ptr 2 0] [(2,.vars 85 [.ms 880]),(880,.row 38 1 (wC L))] (.ms 745) [] [(745,.row 35 3 (L.map fun l=>qN (ofL l)))]:=by
 refine AX.introU tok 740 Tryz.func22 (by kernel_rfl) rfl rfl ?_
 simp only [Tryz.f22,qT,List.map_cons,List.map_nil]
 have hrl:=xQ L
 refine rgn [] [[0]] ?_
 refine op1 tok ?_
 refine qA (rgn [] [[],[0,3]] ?_)
 iterate 2 refine op1 tok ?_
 refine qA (AW.seq (rgn [] [[]] ?_))
 refine op1 tok ?_
 refine qA (AW.block ?_)
 refine AW.loop (α:=Nat) (fun k=>k≤L.length) (fun k=>⟨qZ 22 [(0,.ptr 2 0),(3,.ms 745),(4,.p (.int .i64 k))],[2,880],[(2,.vars 85 [.ms 880]),(880,.row 38 1 (wC L)),(745,.row 35 3 ((L.take k).map fun l=>qN (ofL l)))],740⟩) (fun k=>L.length-k) (0) (by omega) ⟨qJ (by simp),rfl,by simp,by simp⟩ ?_
 rintro k hk
 refine AW.seq (rgn [] [[],[],[],[],[],[0,3,4,6,11],[0,3,4,12]] ?_)
 iterate 7 refine op1 tok ?_
 refine qA (cnd ?_ ?_)
 ·intro h12
  try simp at h12
  have hkl:k<L.length:=by first | omega | (rw [hrl] at h12; omega) | (simp [hrl] at h12; omega)
  obtain ⟨l,hx⟩:∃ l,L[k]?=some l:=⟨L[k],by simp [hkl]⟩
  have hof:=qGE (G:=G) L k l hx (hok l (List.mem_of_getElem? hx))
  have htk:List.take (k+1) (L.map fun l=>PD.agg [.int .i64 (ofL l).1,.int .i64 (ofL l).2.1,.int .i64 (ofL l).2.2])=List.take k (L.map fun l=>PD.agg [.int .i64 (ofL l).1,.int .i64 (ofL l).2.1,.int .i64 (ofL l).2.2])++[.agg [.int .i64 (ofL l).1,.int .i64 (ofL l).2.1,.int .i64 (ofL l).2.2]]:=by rw [List.take_add_one,List.getElem?_map,hx]; rfl
  refine AW.skip (AW.seq (AW.block (rgz [qN (ofL l)] [[],[],[]] ?_)))
  iterate 3 refine op1 tok ?_ (h:=by intro C; conv=>lhs; simp [qN])
  refine qG ?_
  refine qB.stepK [0,4,15,18] (qW rfl hof (by simp)) (by conv=>lhs; simp) rfl ?_
  refine qB.run [[],[],[0,3,4]] ?_
  iterate 3 refine op1 tok ?_ (h:=by intro C; conv=>lhs; simp [qN])
  refine qA (rgz [] [[],[],[0,3,4]] ?_)
  iterate 3 refine op1 tok ?_
  refine qA ?_
  exact ⟨k+1,by omega,by omega,qJ (by simp [qN,htk]),rfl,by simp [qN,htk],by simp [qN,htk]⟩
 intro h12
 try simp at h12
 have hkl:k=L.length:=by first | omega | (rw [hrl] at h12; omega) | (simp [hrl] at h12; omega)
 subst hkl
 refine AW.exit ?_
 simp
 refine rgn [] [[],[2]] ?_
 iterate 2 refine op1 tok ?_
 refine qA ?_
 exact AW.ret (zG (k:=by simp) (b:=by simp [qN,List.take_of_length_le]))
theorem qGX (a:List (Int × Int × Int)) (ha:a.length≤1000):AFn Tryz.prog G 9 [.sl 3 (a.map qN),.sl 3 (a.map qN)] (.bool true):=by
 refine AFn.introU tok Tryz.func9 (by kernel_rfl) rfl rfl ?_
 simp only [Tryz.f9,qT,List.map_cons,List.map_nil]
 refine rgn [] [[0,1]] ?_
 refine op1 tok ?_
 refine qA (AW.seq (rgn [] [[],[],[],[],[0,1,10]] ?_))
 iterate 5 refine op1 tok ?_
 refine qA (cnd ?_ ?_)
 ·intro h10
  try simp at h10
 intro h10
 try simp at h10
 refine AW.skip (AW.seq (rgn [] [[]] ?_))
 refine op1 tok ?_
 refine qA (AW.block ?_)
 refine AW.loop (α:=Nat) (fun k=>k≤a.length) (fun k=>⟨qZ 26 [(0,.p (.sl 3 (a.map qN))),(1,.p (.sl 3 (a.map qN))),(5,.p (.int .i64 k))],[],[],0⟩) (fun k=>a.length-k) (0) (by omega) ⟨qJ (by simp),rfl,by simp,by simp⟩ ?_
 rintro k hk
 refine AW.seq (rgn [] [[],[],[],[0,1,5,14]] ?_)
 iterate 4 refine op1 tok ?_
 refine qA (cnd ?_ ?_)
 ·intro h14
  try simp at h14
  obtain ⟨x,hx⟩:∃ x,a[k]?=some x:=⟨a[k]'(by omega),by simp [show k<a.length by omega]⟩
  have hg:(a.map qN)[k]?=some (.agg [.int .i64 x.1,.int .i64 x.2.1,.int .i64 x.2.2]):=by rw [List.getElem?_map,hx]; rfl
  refine AW.skip (AW.seq (AW.block ?_))
  refine AW.seqDrawR mixed 9 [[0],[5],[17,18],[19],[1],[5],[21,22],[23],[20,24]] [] (by kernel_rfl) ?_
  iterate 2 refine qI.one tok (orc:=[]) (by intro C; conv=>lhs; simp) (by first | with_reducible exact True.intro | (first | exact hg | exact ⟨x.1,x.2.1,x.2.2,hx,rfl⟩ | (simp [hx]; omega) | (simp [hx]; done); done) | omega | simp | (simp +contextual; omega)) rfl (by kernel_rfl) ?_
  refine qI.one tok (orc:=[.agg [.int .i64 x.1,.int .i64 x.2.1,.int .i64 x.2.2]]) (by intro C; conv=>lhs; simp) (by first | with_reducible exact True.intro | (first | exact hg | exact ⟨x.1,x.2.1,x.2.2,hx,rfl⟩ | (simp [hx]; omega) | (simp [hx]; done); done) | omega | simp | (simp +contextual; omega)) rfl (by kernel_rfl) ?_
  iterate 3 refine qI.one tok (orc:=[]) (by intro C; conv=>lhs; simp) (by first | with_reducible exact True.intro | (first | exact hg | exact ⟨x.1,x.2.1,x.2.2,hx,rfl⟩ | (simp [hx]; omega) | (simp [hx]; done); done) | omega | simp | (simp +contextual; omega)) rfl (by kernel_rfl) ?_
  refine qI.one tok (orc:=[.agg [.int .i64 x.1,.int .i64 x.2.1,.int .i64 x.2.2]]) (by intro C; conv=>lhs; simp) (by first | with_reducible exact True.intro | (first | exact hg | exact ⟨x.1,x.2.1,x.2.2,hx,rfl⟩ | (simp [hx]; omega) | (simp [hx]; done); done) | omega | simp | (simp +contextual; omega)) rfl (by kernel_rfl) ?_
  refine qI.one tok (orc:=[]) (by intro C; conv=>lhs; simp) (by first | with_reducible exact True.intro | (first | exact hg | exact ⟨x.1,x.2.1,x.2.2,hx,rfl⟩ | (simp [hx]; omega) | (simp [hx]; done); done) | omega | simp | (simp +contextual; omega)) rfl (by kernel_rfl) ?_
  refine qI.q [] (.p (.bool (!decide (x.1=x.1∧x.2.1=x.2.1∧x.2.2=x.2.2)))) rfl (qJO tok rfl rfl rfl (by kernel_rfl) (by kernel_rfl) (by conv=>lhs; simp) trivial (by conv=>lhs; simp) trivial) (by simp [V.ids]) (by kernel_rfl) (by conv=>lhs; simp) ?_
  refine qI.nil (by kernel_rfl) ⟨by kernel_rfl, ?_⟩
  refine qB.nil ?_
  refine cnd ?_ ?_
  ·intro h25
   try simp at h25
  intro h25
  try simp at h25
  refine AW.skip (rgz [] [[],[],[0,1,5]] ?_)
  iterate 3 refine op1 tok ?_
  refine qA ?_
  exact ⟨k+1,by omega,by omega,qJ (by simp),rfl,by simp,by simp⟩
 intro h14
 try simp at h14
 refine AW.exit ?_
 simp
 refine rgn [] [[]] ?_
 refine op1 tok ?_
 exact qA (AW.ret jE)
end Go.Proofs.YtcfcfblbpnpclaaGreatDoor
