import Derived.Test.YtlmedakhioiahaaGreatDoorSReadQ3
namespace Go.Proofs.YtlmedakhioiahaaGreatDoor
open Sy Go
set_option maxRecDepth 100000
set_option maxHeartbeats 4000000
set_option linter.unusedSimpArgs false
set_option linter.unusedVariables false
variable {G:qR}
theorem qKC {s w:List UInt8} {q:RQ} (h:(xF s w q).1=false):(xF s w q).2=q:=by
 unfold xF at h ⊢
 split
 ·rename_i e; rw [if_pos e] at h; cases h
 rfl
theorem zKB (c:UInt8):qBN c=true↔((c.toNat:Int)=45∨48≤(c.toNat:Int)∧(c.toNat:Int)≤57):=by
 rw [show ((c.toNat:Int)=45)=(c=45) from propext (zS c 45 (by decide))]
 unfold qBN
 rw [Bool.or_eq_true,decide_eq_true_eq,qAW]
 constructor
 ·rintro (h | h)
  ·exact .inl h
  exact .inr (by omega)
 rintro (h | h)
 ·exact .inl h
 exact .inr (by omega)
theorem qKD (n:Nat) (s:List UInt8) (q:RQ) (d:Nat) (hs:s.length≤100000) (hb0:q.bad=false) (hp:q.pos≤s.length) (hN:2 * (s.length-q.pos)+2≤n+1) (hN2:n≤1000000) (hk:q.nodes+(s.length-q.pos)≤10000000000) (hd:d+(s.length-q.pos)≤10000000000) (ih:∀ e,qJZ G s n e) (hU:qPG G s) (hNu:qVH G s):AX Tryz.prog G 31 [.ptr 2 0,.p (.int .i64 d)] [(2,.vars 70 (rqC s q))] (.agg (yK s (n+1) q d).2.cells) [2] [(2,.vars 70 (rqC s (yK s (n+1) q d).1))]:=by
 refine AX.introU tok 900 Tryz.func31 (by kernel_rfl) rfl rfl ?_
 simp only [Tryz.f31,qO,List.map_cons,List.map_nil]
 rw [qDK]
 have hbl:=jC (G:=G) s q (by omega) (by omega)
 have hx:=xN (s:=s) (q:=q) (k:=0) (by omega)
 have hx2:=qDD s q
 have hxn:(blQ s q).nodes=q.nodes:=rfl
 have hxb:(blQ s q).bad=q.bad:=rfl
 have e1:(blQ s q).pos=(zG s q d).pos:=rfl
 have e2:((blQ s q).nodes:Int)+1=((zG s q d).nodes:Int):=by show ((blQ s q).nodes:Int)+1=(((blQ s q).nodes+1:Nat):Int); omega
 have e3:(blQ s q).bad=(zG s q d).bad:=rfl
 have e4:((blQ s q).deep || decide ((12:Int)<(d:Int)))=(zG s q d).deep:=by
  rw [show decide ((12:Int)<(d:Int))=decide (12<d) by rw [decide_eq_decide]; omega]; rfl
 have e5:((blQ s q).big || decide ((400:Int)<((zG s q d).nodes:Int)))=(zG s q d).big:=by
  rw [show decide ((400:Int)<((zG s q d).nodes:Int))=decide (400<(zG s q d).nodes) by rw [decide_eq_decide]; omega]; rfl
 have e6:(zG s q d).nodes=q.nodes+1:=rfl
 have e7:(zG s q d).bad=q.bad:=rfl
 generalize zG s q d=E at *
 generalize blQ s q=Q at *
 have hnx:=qAT (G:=G) s E (by omega) (by omega)
 have hnl:=qGC (s:=s) (q:=E)
 have hw:=fun w hw=>zCB (G:=G) s E w (by omega) (by omega) hw
 have l34:(((nxQ s E).toNat:Int)=34)↔nxQ s E=34:=zS _ 34 (by decide)
 have l91:(((nxQ s E).toNat:Int)=91)↔nxQ s E=91:=zS _ 91 (by decide)
 have l123:(((nxQ s E).toNat:Int)=123)↔nxQ s E=123:=zS _ 123 (by decide)
 have lnum:=zKB (nxQ s E)
 generalize nxQ s E=c at *
 refine rgn [] [[]] ?_
 refine op1 tok ?_
 refine qA (rgn [] [[]] ?_)
 refine op1 tok ?_
 refine qK ?_
 refine qB.stepK [0,1,4] (zA rfl hbl (by simp)) (by conv=>lhs; simp) rfl ?_
 refine qB.nil ?_
 refine rgn [] [[],[],[],[],[],[0,1,4,12,13],[],[0,1,4]] ?_
 iterate 8 refine op1 tok ?_ (h:=by intro C; conv=>lhs; simp [e1,e2,e3])
 refine qA (rgn [] [[],[],[],[],[],[0,1,4,15,20],[],[],[],[0,1,4,23,24],[],[0,1,4]] ?_)
 iterate 6 refine op1 tok ?_ (h:=by intro C; conv=>lhs; simp [e4])
 iterate 2 refine op2 tok ?_ (h:=by intro C; conv=>lhs; simp [e4])
 iterate 4 refine op1 tok ?_ (h:=by intro C; conv=>lhs; simp [e4])
 refine qA (rgn [] [[],[],[],[],[],[0,1,4,26,31],[],[],[],[],[0,1,4,26,31,36],[],[],[0,1,4,37,39],[0,1,4]] ?_)
 iterate 6 refine op1 tok ?_ (h:=by intro C; conv=>lhs; simp [e5])
 iterate 5 refine op2 tok ?_ (h:=by intro C; conv=>lhs; simp [e5])
 iterate 4 refine op1 tok ?_ (h:=by intro C; conv=>lhs; simp [e5])
 refine qA (rgn [] [[]] ?_)
 refine op1 tok ?_
 refine qK ?_
 refine qB.stepK [0,1,4,41] (zA rfl hnx (by simp [e1,e3])) (by conv=>lhs; simp) rfl ?_
 refine qB.run [[0,1,4,5]] ?_
 refine op1 tok ?_
 refine qA (AW.seq (AW.block (rgn [] [[],[],[0,1,4,5,42]] ?_)))
 iterate 3 refine op1 tok ?_
 refine qA (cnd ?_ ?_)
 ·intro h42
  try simp at h42
  rw [if_pos (l34.1 h42)]
  refine rgn [] [[]] ?_
  refine op1 tok ?_
  refine qK ?_
  refine qB.stepK [4,46] (zA rfl (qLE s E (by omega) (by omega) hU) (by simp)) (by conv=>lhs; simp) rfl ?_
  refine qB.run [[],[4]] ?_
  iterate 2 refine op1 tok ?_
  refine qA ?_
  refine AW.fillE 904 [none,none,none,none,none,none,some 1,some 9,none] (by conv=>lhs; simp) ?_
  exact AW.ret (qV (k:=by simp [dc0]))
 intro h42
 try simp at h42
 rw [if_neg (fun e=>h42 (l34.2 e))]
 refine rgn [] [[],[],[0,1,4,5,48]] ?_
 iterate 3 refine op1 tok ?_
 refine qA (cnd ?_ ?_)
 ·intro h48
  try simp at h48
  have hc:=l91.1 h48
  rw [if_pos hc]
  have hl:=hnl (by rw [hc]; decide)
  refine rgn [] [[],[],[]] ?_
  iterate 3 refine op1 tok ?_
  refine qK ?_
  refine qB.stepK [4,54] (zA rfl (zDX n s E d (by omega) hl (by rw [e7]; exact hb0) (by omega) (by omega) (by omega) (by omega) (ih _)) (by simp)) (by conv=>lhs; simp) rfl ?_
  refine qB.run [[4]] ?_
  refine op1 tok ?_
  refine qA ?_
  exact AW.ret (qV (k:=by simp [dc0]))
 intro h48
 try simp at h48
 rw [if_neg (fun e=>h48 (l91.2 e))]
 refine rgn [] [[],[],[0,1,4,5,55]] ?_
 iterate 3 refine op1 tok ?_
 refine qA (cnd ?_ ?_)
 ·intro h55
  try simp at h55
  have hc:=l123.1 h55
  rw [if_pos hc]
  have hl:=hnl (by rw [hc]; decide)
  refine rgn [] [[],[],[]] ?_
  iterate 3 refine op1 tok ?_
  refine qK ?_
  refine qB.stepK [4,61] (zA rfl (zDW n s E d (by omega) hl (by rw [e7]; exact hb0) (by omega) (by omega) (by omega) (by omega) (ih _) hU) (by simp)) (by conv=>lhs; simp) rfl ?_
  refine qB.run [[4]] ?_
  refine op1 tok ?_
  refine qA ?_
  exact AW.ret (qV (k:=by simp [dc0]))
 intro h55
 try simp at h55
 rw [if_neg (fun e=>h55 (l123.2 e))]
 refine rgn [] [[],[],[],[],[],[0,4,5,65,68],[],[],[0,4,65,71],[],[0,4,62]] ?_
 iterate 3 refine op1 tok ?_
 iterate 6 refine op2 tok ?_
 iterate 2 refine op1 tok ?_
 refine qA (cnd ?_ ?_)
 ·intro h62
  try simp at h62
  rw [if_pos (lnum.2 h62)]
  refine rgn [] [[]] ?_
  refine op1 tok ?_
  refine qK ?_
  refine qB.stepK [4,74] (zA rfl (qWK s E (by omega) (by omega) hNu) (by simp)) (by conv=>lhs; simp) rfl ?_
  refine qB.run [[4]] ?_
  refine op1 tok ?_
  refine qA ?_
  exact AW.ret (qV (k:=by simp [dc0]))
 intro h62
 try simp at h62
 rw [if_neg (fun e=>by have:=lnum.1 e; omega)]
 unfold vL
 refine rgn [] [[]] ?_
 refine op1 tok ?_
 refine qK ?_
 refine qB.stepK [0,4,77] (zA rfl (hw yY (by decide)) (by simp [yY])) (by conv=>lhs; simp) rfl ?_
 refine qB.run [[0,4,75]] ?_
 refine op1 tok ?_
 refine qA (cnd ?_ ?_)
 ·intro h75
  try simp at h75
  rw [if_pos h75]
  refine rgn [] [[],[4]] ?_
  iterate 2 refine op1 tok ?_
  refine qA ?_
  refine AW.fillE 904 [none,none,none,none,none,none,some 1,some 9,none] (by conv=>lhs; simp) ?_
  exact AW.ret (qV (k:=by simp [dc0]))
 intro h75
 try simp at h75
 rw [if_neg (by rw [h75]; simp)]
 have hno:=qKC h75
 simp only [hno]
 refine rgn [] [[]] ?_
 refine op1 tok ?_
 refine qK ?_
 refine qB.stepK [0,4,81] (zA rfl (hw kE (by decide)) (by simp [kE])) (by conv=>lhs; simp) rfl ?_
 refine qB.run [[0,4,79]] ?_
 refine op1 tok ?_
 refine qA (cnd ?_ ?_)
 ·intro h79
  try simp at h79
  rw [if_pos h79]
  refine rgn [] [[],[4]] ?_
  iterate 2 refine op1 tok ?_
  refine qA ?_
  refine AW.fillE 904 [none,none,none,none,none,none,some 1,some 9,none] (by conv=>lhs; simp) ?_
  exact AW.ret (qV (k:=by simp [dc0]))
 intro h79
 try simp at h79
 rw [if_neg (by rw [h79]; simp)]
 have hno2:=qKC h79
 simp only [hno2]
 refine rgn [] [[]] ?_
 refine op1 tok ?_
 refine qK ?_
 refine qB.stepK [0,4,85] (zA rfl (hw wZ (by decide)) (by simp [wZ])) (by conv=>lhs; simp) rfl ?_
 refine qB.run [[0,4,83]] ?_
 refine op1 tok ?_
 refine qA (cnd ?_ ?_)
 ·intro h83
  try simp at h83
  rw [if_pos h83]
  refine rgn [] [[],[4]] ?_
  iterate 2 refine op1 tok ?_
  refine qA ?_
  refine AW.fillE 904 [none,none,none,none,none,none,some 1,some 9,none] (by conv=>lhs; simp) ?_
  exact AW.ret (qV (k:=by simp [dc0]))
 intro h83
 try simp at h83
 rw [if_neg (by rw [h83]; simp)]
 have hno3:=qKC h83
 simp only [hno3]
 refine AW.skip (rgn [] [[],[],[],[4]] ?_)
 iterate 4 refine op1 tok ?_
 refine qA (rgn [] [[],[4]] ?_)
 iterate 2 refine op1 tok ?_
 refine qA ?_
 refine AW.fillE 904 [none,none,none,none,none,none,some 1,some 9,none] (by conv=>lhs; simp) ?_
 exact AW.ret (qV (k:=by simp [zK,dc0]))
theorem qEJ {s:List UInt8} (hs:s.length≤100000) (hU:qPG G s) (hNu:qVH G s):∀ N d,N≤1000001→qJZ G s N d
 | 0,d,_=>fun m q h=>absurd h (by omega)
 | N+1,d,hN=>fun m q hm h1 h2 h3 h4 h5=>by
  by_cases h:m<N
  ·exact qEJ hs hU hNu N d (by omega) m q h h1 h2 h3 h4 h5
  obtain rfl:m=N:=by omega
  obtain ⟨n,rfl⟩:∃ n,m=n+1:=⟨m-1,by omega⟩
  exact qKD n s q d hs h1 h2 h3 (by omega) h4 h5 (fun e k t hk=>qEJ hs hU hNu (n+1) e (by omega) k t (by omega)) hU hNu
theorem zDM (s:List UInt8) (hs:s.length≤100000) (hU:qPG G s) (hNu:qVH G s):AFn Tryz.prog G 16 [.str s] (.tup [(zAM s).1.enc,.int .i64 (zAM s).2.1,.int .i64 (zAM s).2.2]):=by
 refine AFn.introU tok Tryz.func16 (by kernel_rfl) rfl rfl ?_
 simp only [Tryz.f16,qO,List.map_cons,List.map_nil]
 have hv:=qEJ (G:=G) hs hU hNu (2 * s.length+3) 1 (by omega) (2 * s.length+2) ⟨0,0,false,false,false⟩ (by omega) rfl (by simp) (by simp) (by simp only; omega) (by simp only; omega)
 have hM:zAM s=if (yK s (2 * s.length+2) ⟨0,0,false,false,false⟩ 1).1.bad=true then (zK,0,10) else if (yK s (2 * s.length+2) ⟨0,0,false,false,false⟩ 1).1.deep=true then (zK,0,11) else if (yK s (2 * s.length+2) ⟨0,0,false,false,false⟩ 1).1.big=true then (zK,0,3) else ((yK s (2 * s.length+2) ⟨0,0,false,false,false⟩ 1).2,((yK s (2 * s.length+2) ⟨0,0,false,false,false⟩ 1).1.pos:Int),0):=rfl
 rw [hM]
 generalize yK s (2 * s.length+2) ⟨0,0,false,false,false⟩ 1=r at *
 obtain ⟨⟨ps,nn,b,dp,bg⟩,v⟩:=r
 simp only at hv ⊢
 refine rgn [] [[],[],[0,2]] ?_
 iterate 3 refine op1 tok ?_
 refine qA (rgn [] [[],[],[],[2,5]] ?_)
 iterate 4 refine op1 tok ?_
 refine qA ?_
 refine AW.renE 2 50 (by simp) (by conv=>lhs; simp) ?_
 refine AW.renE 9 2 (by simp) (by conv=>lhs; simp) ?_
 refine rgn [] [[]] ?_
 refine op1 tok ?_
 refine qK ?_
 refine qB.stepK [2,5,11] (zA rfl hv (by simp)) (by conv=>lhs; simp) rfl ?_
 refine qB.run [[],[2,5,6]] ?_
 iterate 2 refine op1 tok ?_
 refine qA (AW.seq (rgn [] [[],[],[],[2,5,6,15]] ?_))
 iterate 4 refine op1 tok ?_
 refine qA (cnd ?_ ?_)
 ·intro h15
  try simp at h15
  subst h15
  rw [if_pos rfl]
  refine rgn [] [[],[],[],[2,3,4]] ?_
  iterate 4 refine op1 tok ?_
  refine qA ?_
  exact AW.ret (qP (k:=by simp [zK,dc0]))
 intro h15
 try simp at h15
 rw [if_neg (by rw [h15]; simp)]
 refine AW.skip (AW.seq (rgn [] [[],[],[],[2,5,6,20]] ?_))
 iterate 4 refine op1 tok ?_
 refine qA (cnd ?_ ?_)
 ·intro h20
  try simp at h20
  subst h20
  rw [if_pos rfl]
  refine rgn [] [[],[],[],[2,3,4]] ?_
  iterate 4 refine op1 tok ?_
  refine qA ?_
  exact AW.ret (qP (k:=by simp [zK,dc0]))
 intro h20
 try simp at h20
 rw [if_neg (by rw [h20]; simp)]
 refine AW.skip (AW.seq (rgn [] [[],[],[],[2,5,6,25]] ?_))
 iterate 4 refine op1 tok ?_
 refine qA (cnd ?_ ?_)
 ·intro h25
  try simp at h25
  subst h25
  rw [if_pos rfl]
  refine rgn [] [[],[],[],[2,3,4]] ?_
  iterate 4 refine op1 tok ?_
  refine qA ?_
  exact AW.ret (qP (k:=by simp [zK,dc0]))
 intro h25
 try simp at h25
 rw [if_neg (by rw [h25]; simp)]
 refine AW.skip ?_
 refine AW.seqDrawS tok mixed 6 [[6],[5],[28],[29],[30],[2,27]] [] [] (by kernel_rfl) ?_
 iterate 6 refine d1 ?_
 refine DGo.nil (by kernel_rfl) ⟨by kernel_rfl, ?_⟩
 refine qB.run [[],[2,3,4]] ?_
 iterate 2 refine op1 tok ?_
 exact qA (AW.ret qP)
theorem zHF (s:List UInt8) (hs:s.length≤100000):AFn Tryz.prog G 16 [.str s] (.tup [(kF s).1.enc,.int .i64 (kF s).2.1,.int .i64 (kF s).2.2]):=by
 rw [← zDL]; exact zDM s hs (zMI (by omega)) (zNY hs)
end Go.Proofs.YtlmedakhioiahaaGreatDoor
