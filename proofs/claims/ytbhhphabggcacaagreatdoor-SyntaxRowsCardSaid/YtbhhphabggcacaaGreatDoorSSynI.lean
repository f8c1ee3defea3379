import Derived.Test.YtbhhphabggcacaaGreatDoorSSynH
namespace Go.Proofs.YtbhhphabggcacaaGreatDoor
open Sy Go
set_option maxRecDepth 100000
set_option maxHeartbeats 4000000
set_option linter.unusedSimpArgs false
set_option linter.unusedVariables false
variable {G:qM}
def lvW (i:Nat):Bool:=decide (i=1∨i=2)
@[simp] def lvE (i:Nat):PD := .agg [.int .i64 (kK i),.bool (lvW i),.bool (xY i),.sl 1 ((wD i).map PD.str)]
theorem qRL  : AFn Tryz.prog G 38 [] (.sl 4 ((List.range 6).map lvE)):=by
 refine AFn.introU tok Tryz.func38 (by kernel_rfl) rfl rfl ?_
 simp only [Tryz.f38,qN,List.map_cons,List.map_nil]
 refine rgn [] [[14]] ?_
 refine op1 tok ?_
 refine qA (rgn [.str [44],.str [111,114],.str [97,110,100],.str [61,61],.str [33,61],.str [60],.str [60,61],.str [62],.str [62,61],.str [43],.str [45],.str [42],.str [47],.str [37],lvE 0,lvE 1,lvE 2,lvE 3,lvE 4,lvE 5] [[]] ?_)
 refine op1 tok ?_ (hv:=by first | with_reducible exact True.intro | ((simp [kK,lvW,xY,wD]); done) | omega | simp | (simp +contextual; omega))
 refine qF ?_
 refine qE.freeze 1 (by conv=>lhs; simp) ?_
 refine qE.run [[],[]] ?_
 iterate 2 refine op1 tok ?_ (hv:=by first | with_reducible exact True.intro | ((simp [kK,lvW,xY,wD]); done) | omega | simp | (simp +contextual; omega))
 refine qF ?_
 refine qE.freeze 3 (by conv=>lhs; simp) ?_
 refine qE.run [[],[]] ?_
 iterate 2 refine op1 tok ?_ (hv:=by first | with_reducible exact True.intro | ((simp [kK,lvW,xY,wD]); done) | omega | simp | (simp +contextual; omega))
 refine qF ?_
 refine qE.freeze 5 (by conv=>lhs; simp) ?_
 refine qE.run [[],[]] ?_
 iterate 2 refine op1 tok ?_ (hv:=by first | with_reducible exact True.intro | ((simp [kK,lvW,xY,wD]); done) | omega | simp | (simp +contextual; omega))
 refine qF ?_
 refine qE.freeze 7 (by conv=>lhs; simp) ?_
 refine qE.run [[2,4,6,8],[]] ?_
 iterate 2 refine op1 tok ?_ (hv:=by first | with_reducible exact True.intro | ((simp [kK,lvW,xY,wD]); done) | omega | simp | (simp +contextual; omega))
 refine qF ?_
 refine qE.freeze 9 (by conv=>lhs; simp) ?_
 refine qE.run [[],[]] ?_
 iterate 2 refine op1 tok ?_ (hv:=by first | with_reducible exact True.intro | ((simp [kK,lvW,xY,wD]); done) | omega | simp | (simp +contextual; omega))
 refine qF ?_
 refine qE.freeze 11 (by conv=>lhs; simp) ?_
 refine qE.run [[],[13],[0]] ?_
 iterate 3 refine op1 tok ?_ (hv:=by first | with_reducible exact True.intro | ((simp [kK,lvW,xY,wD]); done) | omega | simp | (simp +contextual; omega))
 refine qA ?_
 exact AW.ret (qR (k:=by simp [List.range_succ]))
theorem qOT (n:Nat) (i:Nat) (s:PS) (ih:∀ m,m≤n→SynAll G m) (h6:i≤6) (hi:InS 0 0 s) (hf:20 * s.left.length+10-i≤n+1):AX Tryz.prog G 16 [.ptr 2 0,.p (.int .i64 i)] [(2,.vars 42 (psC (s))),(3,.row 36 8 ((s).nodes.map Nd.enc))] (.p (.int .i64 (zP (n+1) i s).1)) [2] [(2,.vars 42 (psC ((zP (n+1) i s).2))),(3,.row 36 8 (((zP (n+1) i s).2).nodes.map Nd.enc))]:=by
 refine AX.introU tok 900 Tryz.func16 (by kernel_rfl) rfl rfl ?_
 simp only [Tryz.f16,qN,List.map_cons,List.map_nil]
 simp only [zP]
 have hlv:=qRL (G:=G)
 have hix:i<6→((List.range 6).map lvE)[i]?=some (lvE i):=fun h=>by simp [h]
 have hlen:((List.range 6).map lvE).length=6:=rfl
 generalize (List.range 6).map lvE=LV at *
 refine rgn [] [[0,1]] ?_
 refine op1 tok ?_
 refine qA (rgn [.nilp,.sl 4 LV] [[],[0,1,5]] ?_)
 iterate 2 refine oq1 tok hlv ?_
 refine qA (AW.seq (rgn [] [[],[],[],[0,1,5,16]] ?_))
 iterate 4 refine op1 tok ?_
 refine qA (cnd ?_ ?_)
 ·intro h16
  try simp at h16
  rw [if_pos (by simp [hlen] at h16; omega)]
  have c1:=(ih n (by omega)).post s hi (by simp [hlen] at h16; omega)
  refine rgn [] [[]] ?_
  refine op1 tok ?_
  refine qF ?_
  refine qE.stepK [18] (qK rfl c1 (by simp)) (by conv=>lhs; simp) rfl ?_
  refine qE.run [[4]] ?_
  refine op1 tok ?_
  refine qA ?_
  exact AW.ret qP
 intro h16
 try simp at h16
 have h16':i<6:=by simp [hlen] at h16; omega
 rw [if_neg (by omega)]
 have hix:=hix h16'
 have c1:=(ih n (by omega)).bound (i+1) s (by omega) hi (by omega)
 have l1:=(zC n).bound (i+1) s
 have i1:=hi.le0 l1
 generalize zP n (i+1) s=R at *
 obtain ⟨a1,s1⟩:=R
 simp only at c1 l1 i1 ⊢
 have e1:=l1.len
 obtain ⟨X,hX⟩:∃ X,X=kV n i a1 s1:=⟨_,rfl⟩
 rw [← hX]
 refine AW.skip (rgn [lvE i] [[],[],[],[0,1,22],[],[0,1,6]] ?_)
 iterate 6 refine op1 tok ?_ (hv:=by first | with_reducible exact True.intro | (first | (simp [hix]; done) | (simp [hlen]; omega); done) | omega | simp | (simp +contextual; omega))
 refine qA (rgn [] [[],[],[]] ?_)
 iterate 3 refine op1 tok ?_
 refine qF ?_
 refine qE.stepK [0,1,6,26] (qK rfl c1 (by simp)) (by conv=>lhs; simp) rfl ?_
 refine qE.run [[0,1,6,7]] ?_
 refine op1 tok ?_
 refine qA (AW.seq (AW.block ?_))
 refine AW.loop (α:=Nat × Int × PS) (fun a=>a.1≤n∧InS 0 0 a.2.2∧20 * a.2.2.left.length+1≤a.1∧X=kV a.1 i a.2.1 a.2.2) (fun a=>⟨zO 65 [(0,.ptr 2 0),(1,.p (.int .i64 i)),(6,.ptr 906 0),(7,.p (.int .i64 a.2.1))],[2],[(2,.vars 42 (psC (a.2.2))),(3,.row 36 8 ((a.2.2).nodes.map Nd.enc)),(906,.vars 73 [.p (.int .i64 (kK i)),.p (.bool (lvW i)),.p (.bool (xY i)),.p (.sl 1 ((wD i).map PD.str))])],900⟩) (fun a=>a.1) ((n,a1,s1)) ⟨Nat.le_refl n,i1,by simp only []; omega,hX⟩ ⟨qD (by simp),rfl,by simp,by simp⟩ ?_
 rintro ⟨m,a,s2⟩ ⟨hm,i2,hm2,hX2⟩
 simp only at hm i2 hm2 hX2
 refine AW.seq (rgn [] [[],[],[],[],[0,1,6,7,31]] ?_)
 iterate 5 refine op1 tok ?_
 refine qA (cnd ?_ ?_)
 ·intro h31
  try simp at h31
  obtain ⟨m,rfl⟩:∃ m',m=m'+1:=⟨m-1,by omega⟩
  simp only [kV] at hX2
  rw [if_neg (by simp [h31])] at hX2
  refine AW.skip (AW.block (rgn [] [[],[],[0,1,6,7,8]] ?_))
  iterate 3 refine op1 tok ?_
  refine qA (AW.seq (rgn [] [[],[0,1,6,7,8,35]] ?_))
  iterate 2 refine op1 tok ?_
  refine qA (cnd ?_ ?_)
  ·intro h35
   try simp at h35
   have hK:lvK i=1:=by unfold lvK; rw [if_pos (by simpa [lvW] using h35)]
   rw [hK] at hX2
   have c3:=qJG (G:=G) s2 (wD i)
   have l3:=zM 1 (wD i) s2
   have o3:=kQ (k:=1) (l:=wD i) (s:=s2)
   generalize qW 1 (wD i) s2=R at *
   obtain ⟨⟨w3,b3⟩,s3⟩:=R
   simp only at c3 l3 o3 hX2
   refine rgz [] [[],[],[0,1,6,7,8]] ?_
   iterate 3 refine op1 tok ?_
   refine qA (rgn [] [[],[],[]] ?_)
   iterate 3 refine op1 tok ?_
   refine qF ?_
   refine qE.stepK [0,1,6,7,42] (qK rfl c3 (by simp)) (by conv=>lhs; simp) rfl ?_
   refine qE.run [[],[],[],[],[0,1,6,7,9,10]] ?_
   iterate 5 refine op1 tok ?_
   refine qA (AW.seq (rgn [] [[],[0,1,6,7,9,46]] ?_))
   iterate 2 refine op1 tok ?_
   refine qA (cnd ?_ ?_)
   ·intro h46
    try simp at h46
    rw [if_pos (by simpa using h46)] at hX2
    subst hX2
    refine AW.exit ?_
    simp
    refine rgn [] [[],[4]] ?_
    iterate 2 refine op1 tok ?_
    refine qA ?_
    exact AW.ret qP
   intro h46
   try simp at h46
   rw [if_neg (by simp [h46])] at hX2
   obtain ⟨q1,q2,q3, -⟩:=o3 (by simpa using h46)
   have i3:=i2.eat l3 ⟨q1,q2,q3⟩
   have c4:=(ih m (by omega)).bound (i+1) s3 (by omega) (i3.weak 0 0 (by omega) (by omega)) (by omega)
   have l4:=(zC m).bound (i+1) s3
   have i4:=i3.le0 l4
   have e4:=l4.len
   generalize zP m (i+1) s3=R at *
   obtain ⟨a4,s4⟩:=R
   simp only at c4 l4 i4 e4 hX2
   refine AW.skip (rgn [] [[],[],[]] ?_)
   iterate 3 refine op1 tok ?_
   refine qF ?_
   refine qE.stepK [0,1,6,7,9,50] (qK rfl c4 (by simp)) (by conv=>lhs; simp) rfl ?_
   refine qE.run [[0,1,6,7,9,11]] ?_
   refine op1 tok ?_
   refine qA (AW.seq (rgn [] [[],[],[0,1,6,7,9,11,53]] ?_))
   iterate 3 refine op1 tok ?_
   refine qA (cnd ?_ ?_)
   ·intro h53
    try simp at h53
    rw [if_pos h53] at hX2
    have c5:=jC (G:=G) s4 (kK i) [] [a,a4] i4.n
    have l5:=zY (kK i) [] [a,a4] s4
    have i5:=i4.le 2 3 l5 (by omega) (by omega)
    have e5:=l5.len
    generalize opP (kK i) [] [a,a4] s4=R at *
    obtain ⟨a5,s5⟩:=R
    simp only [List.map_cons,List.map_nil] at c5 l5 i5 e5 hX2
    refine rgz [] [[]] ?_
    refine op1 tok ?_
    refine qA (rgn [.int .i64 a,.int .i64 a4] [[],[],[],[],[],[0,1,6,54,56,57,58,59],[]] ?_)
    iterate 7 refine op1 tok ?_
    refine qF ?_
    refine qE.freeze 960 (by conv=>lhs; simp) ?_
    refine qE.stepK [0,1,6,61] (qK rfl c5 (by simp)) (by conv=>lhs; simp) rfl ?_
    refine qE.run [[0,1,6,7]] ?_
    refine op1 tok ?_
    refine qA (rgn [] [[],[0,1,6,7,63]] ?_)
    iterate 2 refine op1 tok ?_
    refine qA (cnd ?_ ?_)
    ·intro h63
     try simp at h63
     rw [if_pos h63] at hX2
     subst hX2
     refine AW.exit ?_
     simp
     refine rgn [] [[],[4]] ?_
     iterate 2 refine op1 tok ?_
     refine qA ?_
     exact AW.ret qP
    intro h63
    try simp at h63
    rw [if_neg (by simp [h63])] at hX2
    refine AW.skip ?_
    exact ⟨(m,a5,s5),⟨by simp only []; omega,i5.weak 0 0 (by omega) (by omega),by simp only []; omega,hX2⟩,by simp only []; omega,qD (by simp),rfl,by simp,by simp⟩
   intro h53
   try simp at h53
   rw [if_neg h53] at hX2
   have c5:=jC (G:=G) s4 (kK i) w3 [a,a4] i4.n
   have l5:=zY (kK i) w3 [a,a4] s4
   have i5:=i4.le 2 3 l5 (by omega) (by omega)
   have e5:=l5.len
   generalize opP (kK i) w3 [a,a4] s4=R at *
   obtain ⟨a5,s5⟩:=R
   simp only [List.map_cons,List.map_nil] at c5 l5 i5 e5 hX2
   refine AW.skip (rgn [.int .i64 a,.int .i64 a4] [[],[],[],[],[],[0,1,6,54,56,57,58,59],[]] ?_)
   iterate 7 refine op1 tok ?_
   refine qF ?_
   refine qE.freeze 960 (by conv=>lhs; simp) ?_
   refine qE.stepK [0,1,6,61] (qK rfl c5 (by simp)) (by conv=>lhs; simp) rfl ?_
   refine qE.run [[0,1,6,7]] ?_
   refine op1 tok ?_
   refine qA (rgn [] [[],[0,1,6,7,63]] ?_)
   iterate 2 refine op1 tok ?_
   refine qA (cnd ?_ ?_)
   ·intro h63
    try simp at h63
    rw [if_pos h63] at hX2
    subst hX2
    refine AW.exit ?_
    simp
    refine rgn [] [[],[4]] ?_
    iterate 2 refine op1 tok ?_
    refine qA ?_
    exact AW.ret qP
   intro h63
   try simp at h63
   rw [if_neg (by simp [h63])] at hX2
   refine AW.skip ?_
   exact ⟨(m,a5,s5),⟨by simp only []; omega,i5.weak 0 0 (by omega) (by omega),by simp only []; omega,hX2⟩,by simp only []; omega,qD (by simp),rfl,by simp,by simp⟩
  intro h35
  try simp at h35
  have hK:lvK i=6:=by unfold lvK; rw [if_neg (by simpa [lvW] using h35)]
  rw [hK] at hX2
  have c3:=jS (G:=G) s2 (wD i)
  have l3:=zM 6 (wD i) s2
  have o3:=kQ (k:=6) (l:=wD i) (s:=s2)
  generalize qW 6 (wD i) s2=R at *
  obtain ⟨⟨w3,b3⟩,s3⟩:=R
  simp only at c3 l3 o3 hX2
  refine AW.skip (rgn [] [[],[],[]] ?_)
  iterate 3 refine op1 tok ?_
  refine qF ?_
  refine qE.stepK [0,1,6,7,42] (qK rfl c3 (by simp)) (by conv=>lhs; simp) rfl ?_
  refine qE.run [[],[],[],[],[0,1,6,7,9,10]] ?_
  iterate 5 refine op1 tok ?_
  refine qA (AW.seq (rgn [] [[],[0,1,6,7,9,46]] ?_))
  iterate 2 refine op1 tok ?_
  refine qA (cnd ?_ ?_)
  ·intro h46
   try simp at h46
   rw [if_pos (by simpa using h46)] at hX2
   subst hX2
   refine AW.exit ?_
   simp
   refine rgn [] [[],[4]] ?_
   iterate 2 refine op1 tok ?_
   refine qA ?_
   exact AW.ret qP
  intro h46
  try simp at h46
  rw [if_neg (by simp [h46])] at hX2
  obtain ⟨q1,q2,q3, -⟩:=o3 (by simpa using h46)
  have i3:=i2.eat l3 ⟨q1,q2,q3⟩
  have c4:=(ih m (by omega)).bound (i+1) s3 (by omega) (i3.weak 0 0 (by omega) (by omega)) (by omega)
  have l4:=(zC m).bound (i+1) s3
  have i4:=i3.le0 l4
  have e4:=l4.len
  generalize zP m (i+1) s3=R at *
  obtain ⟨a4,s4⟩:=R
  simp only at c4 l4 i4 e4 hX2
  refine AW.skip (rgn [] [[],[],[]] ?_)
  iterate 3 refine op1 tok ?_
  refine qF ?_
  refine qE.stepK [0,1,6,7,9,50] (qK rfl c4 (by simp)) (by conv=>lhs; simp) rfl ?_
  refine qE.run [[0,1,6,7,9,11]] ?_
  refine op1 tok ?_
  refine qA (AW.seq (rgn [] [[],[],[0,1,6,7,9,11,53]] ?_))
  iterate 3 refine op1 tok ?_
  refine qA (cnd ?_ ?_)
  ·intro h53
   try simp at h53
   rw [if_pos h53] at hX2
   have c5:=jC (G:=G) s4 (kK i) [] [a,a4] i4.n
   have l5:=zY (kK i) [] [a,a4] s4
   have i5:=i4.le 2 3 l5 (by omega) (by omega)
   have e5:=l5.len
   generalize opP (kK i) [] [a,a4] s4=R at *
   obtain ⟨a5,s5⟩:=R
   simp only [List.map_cons,List.map_nil] at c5 l5 i5 e5 hX2
   refine rgz [] [[]] ?_
   refine op1 tok ?_
   refine qA (rgn [.int .i64 a,.int .i64 a4] [[],[],[],[],[],[0,1,6,54,56,57,58,59],[]] ?_)
   iterate 7 refine op1 tok ?_
   refine qF ?_
   refine qE.freeze 960 (by conv=>lhs; simp) ?_
   refine qE.stepK [0,1,6,61] (qK rfl c5 (by simp)) (by conv=>lhs; simp) rfl ?_
   refine qE.run [[0,1,6,7]] ?_
   refine op1 tok ?_
   refine qA (rgn [] [[],[0,1,6,7,63]] ?_)
   iterate 2 refine op1 tok ?_
   refine qA (cnd ?_ ?_)
   ·intro h63
    try simp at h63
    rw [if_pos h63] at hX2
    subst hX2
    refine AW.exit ?_
    simp
    refine rgn [] [[],[4]] ?_
    iterate 2 refine op1 tok ?_
    refine qA ?_
    exact AW.ret qP
   intro h63
   try simp at h63
   rw [if_neg (by simp [h63])] at hX2
   refine AW.skip ?_
   exact ⟨(m,a5,s5),⟨by simp only []; omega,i5.weak 0 0 (by omega) (by omega),by simp only []; omega,hX2⟩,by simp only []; omega,qD (by simp),rfl,by simp,by simp⟩
  intro h53
  try simp at h53
  rw [if_neg h53] at hX2
  have c5:=jC (G:=G) s4 (kK i) w3 [a,a4] i4.n
  have l5:=zY (kK i) w3 [a,a4] s4
  have i5:=i4.le 2 3 l5 (by omega) (by omega)
  have e5:=l5.len
  generalize opP (kK i) w3 [a,a4] s4=R at *
  obtain ⟨a5,s5⟩:=R
  simp only [List.map_cons,List.map_nil] at c5 l5 i5 e5 hX2
  refine AW.skip (rgn [.int .i64 a,.int .i64 a4] [[],[],[],[],[],[0,1,6,54,56,57,58,59],[]] ?_)
  iterate 7 refine op1 tok ?_
  refine qF ?_
  refine qE.freeze 960 (by conv=>lhs; simp) ?_
  refine qE.stepK [0,1,6,61] (qK rfl c5 (by simp)) (by conv=>lhs; simp) rfl ?_
  refine qE.run [[0,1,6,7]] ?_
  refine op1 tok ?_
  refine qA (rgn [] [[],[0,1,6,7,63]] ?_)
  iterate 2 refine op1 tok ?_
  refine qA (cnd ?_ ?_)
  ·intro h63
   try simp at h63
   rw [if_pos h63] at hX2
   subst hX2
   refine AW.exit ?_
   simp
   refine rgn [] [[],[4]] ?_
   iterate 2 refine op1 tok ?_
   refine qA ?_
   exact AW.ret qP
  intro h63
  try simp at h63
  rw [if_neg (by simp [h63])] at hX2
  refine AW.skip ?_
  exact ⟨(m,a5,s5),⟨by simp only []; omega,i5.weak 0 0 (by omega) (by omega),by simp only []; omega,hX2⟩,by simp only []; omega,qD (by simp),rfl,by simp,by simp⟩
 intro h31
 try simp at h31
 obtain ⟨m,rfl⟩:∃ m',m=m'+1:=⟨m-1,by omega⟩
 simp only [kV] at hX2
 rw [if_pos (by simpa using h31)] at hX2
 subst hX2
 refine AW.exit ?_
 simp
 refine rgn [] [[],[4]] ?_
 iterate 2 refine op1 tok ?_
 refine qA ?_
 exact AW.ret qP
end Go.Proofs.YtbhhphabggcacaaGreatDoor
