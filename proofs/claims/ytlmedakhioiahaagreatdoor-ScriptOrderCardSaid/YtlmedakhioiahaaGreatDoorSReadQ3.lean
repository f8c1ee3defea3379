import Derived.Test.YtlmedakhioiahaaGreatDoorSReadQ2
namespace Go.Proofs.YtlmedakhioiahaaGreatDoor
open Sy Go
set_option maxRecDepth 100000
set_option maxHeartbeats 4000000
set_option linter.unusedSimpArgs false
set_option linter.unusedVariables false
variable {G:qR}
attribute [local simp] zV
theorem xN {s:List UInt8} {q:RQ} {k:Nat} (h:q.pos≤s.length+k):(blQ s q).pos≤s.length+k:=by
 rcases Nat.lt_or_ge s.length q.pos with h1 | h1
 ·have:s.drop q.pos=[]:=List.drop_of_length_le (by omega)
  simp only [blQ,this]; show q.pos+0≤_; omega
 have:=(qGU h1).2; omega
theorem qDD (s:List UInt8) (q:RQ):q.pos≤(blQ s q).pos:=by simp only [blQ]; omega
theorem qGC {s:List UInt8} {q:RQ} (h:nxQ s q≠0):q.pos<s.length:=by
 rcases Nat.lt_or_ge q.pos s.length with h1 | h1
 ·exact h1
 exfalso; apply h; unfold nxQ; rw [List.getD_eq_getElem?_getD,List.getElem?_eq_none h1]; rfl
theorem uT {s:List UInt8} {q:RQ} (h:q.pos≤s.length):(zF s q).1.pos≤s.length∧q.pos≤(zF s q).1.pos:=by
 have hp:=vB (s.drop q.pos)
 have hk:=qFR (s.drop q.pos)
 rw [List.length_drop] at hp hk
 unfold zF
 split
 ·simp only; omega
 simp only; omega
theorem qGV {s:List UInt8} {q:RQ} {c:UInt8} {many k:Nat} (hc:c≠0) (h:q.pos≤s.length+k):(xZ s c many q).2.pos≤s.length+k+1∧((xZ s c many q).2.bad=false→(xZ s c many q).2.pos≤s.length)∧q.pos+1≤(xZ s c many q).2.pos:=by
 have h1:=xN (s:=s) (q:={ q with big:=Bool.or q.big (decide (200<many)) }) (k:=k) h
 have h2:=qDD s { q with big:=Bool.or q.big (decide (200<many)) }
 unfold xZ
 simp only at h1 h2 ⊢
 generalize blQ s { q with big:=Bool.or q.big (decide (200<many)) }=a at *
 split
 ·rename_i e
  have:=qGC (s:=s) (q:=a) (by rw [e]; exact hc)
  simp only [zV]; exact ⟨by omega,fun _=>by omega,by omega⟩
 refine ⟨by simp only; omega,fun hb => ?_,by simp only; omega⟩
 simp only [Bool.or_eq_false_iff,decide_eq_false_iff_not,Decidable.not_not] at hb
 have:=qGC (s:=s) (q:=a) (by rw [hb.2]; decide)
 simp only; omega
theorem zEA {s:List UInt8} {q:RQ} (h:q.pos≤s.length):(qEX s q).1.pos≤s.length+1∧((qEX s q).1.bad=false→(qEX s q).1.pos≤s.length)∧q.pos+1≤(qEX s q).1.pos:=by
 obtain ⟨h1,h2⟩:=uT h
 have h3:=xN (s:=s) (q:=(zF s q).1) (k:=0) (by omega)
 have h4:=qDD s (zF s q).1
 unfold qEX
 simp only
 generalize blQ s (zF s q).1=a at *
 refine ⟨by omega,fun hb => ?_,by omega⟩
 simp only [Bool.or_eq_false_iff,decide_eq_false_iff_not,Decidable.not_not] at hb
 have:=qGC (s:=s) (q:=a) (by rw [hb.2]; decide)
 omega
theorem qDT {s:List UInt8} {obj:Bool} {q:RQ} (h:q.pos≤s.length):(wS s obj q).1.pos≤s.length+1∧((wS s obj q).1.bad=false→(wS s obj q).1.pos≤s.length)∧q.pos≤(wS s obj q).1.pos:=by
 have h1:=xN (s:=s) (q:=q) (k:=0) (by omega)
 have h2:=qDD s q
 unfold wS
 split
 ·obtain ⟨h3,h4,h5⟩:=zEA (s:=s) (q:=blQ s q) (by omega)
  exact ⟨h3,h4,by omega⟩
 exact ⟨by simp only; omega,fun _=>by simp only; omega,h2⟩
theorem zAV {s:List UInt8} {n:Nat} {q:RQ} {d:Nat} {obj:Bool} {c:UInt8} {many:Nat} {ks:List (List UInt8)} {vs:List Val} (h:q.bad=true):(wM s n q d obj c many ks vs).1.pos=q.pos:=by
 cases n with
 | zero=>simp [wM]
 | succ n=>rw [kX,if_pos h]
theorem zDJ (s : List UInt8) : ∀ n : Nat, (∀ q d, q.pos ≤ s.length → (yK s n q d).1.pos ≤ s.length + n + 1 ∧ ((yK s n q d).1.bad = false → (yK s n q d).1.pos ≤ s.length)) ∧
  (∀ q d obj c many ks vs,c≠0→q.pos≤s.length→(wM s n q d obj c many ks vs).1.pos≤s.length+n+1∧((wM s n q d obj c many ks vs).1.bad=false→(wM s n q d obj c many ks vs).1.pos≤s.length))
 | 0=>⟨fun q d h=>by simp only [yK]; exact ⟨by omega,fun _=>h⟩,fun q d obj c many ks vs _ h=>by simp only [wM]; exact ⟨by omega,fun _=>h⟩⟩
 | n+1=>by
  obtain ⟨ih1,ih2⟩:=zDJ s n
  refine ⟨fun q d h => ?_,fun q d obj c many ks vs hc h => ?_⟩
  ·have hE:(zG s q d).pos≤s.length:=by have:=xN (s:=s) (q:=q) (k:=0) (by omega); exact this
   rw [qDK]
   generalize zG s q d=E at *
   have hk:∀ obj c,c≠0→E.pos<s.length→(kJ s n E d obj c).1.pos≤s.length+n+1∧((kJ s n E d obj c).1.bad=false→(kJ s n E d obj c).1.pos≤s.length):=fun obj c hc hl=>by
    have h1:=xN (s:=s) (q:=zV E 1) (k:=0) (by simp only [zV]; omega)
    unfold kJ
    split
    ·rename_i e
     have:=qGC (s:=s) (q:=blQ s (zV E 1)) (by rw [e]; exact hc)
     simp only [zV] at this ⊢; exact ⟨by omega,fun _=>by omega⟩
    exact ih2 _ _ _ _ _ _ _ hc h1
   split
   ·have:=(uT hE).1
    exact ⟨by simp only; omega,fun _=>by simp only; omega⟩
   split
   ·rename_i e
    have:=hk false 93 (by decide) (qGC (by rw [e]; decide))
    exact ⟨by simp only; omega,this.2⟩
   split
   ·rename_i e
    have:=hk true 125 (by decide) (qGC (by rw [e]; decide))
    exact ⟨by simp only; omega,this.2⟩
   split
   ·have:=(qTT (s.drop E.pos)).2
    rw [List.length_drop] at this
    have:(jQ s E).1.pos≤s.length:=by simp only [jQ]; omega
    exact ⟨by omega,fun _=>this⟩
   have hw:∀ w:List UInt8,(xF s w E).2.pos≤s.length:=fun w=>by
    unfold xF
    split
    ·rename_i e
     have:=congrArg List.length e
     simp only [zV]; simp at this; omega
    exact hE
   have:(vL s E).1.pos≤s.length:=by
    unfold vL
    split
    ·exact hw _
    split
    ·exact hw _
    split
    ·exact hw _
    exact hE
   exact ⟨by omega,fun _=>this⟩
  obtain ⟨g1,g2,g3⟩:=qDT (s:=s) (obj:=obj) (q:=q) h
  rw [kX]
  split
  ·exact ⟨by simp only; omega,fun _=>h⟩
  split
  ·rename_i hb
   exact ⟨by simp only; omega,fun h'=>by simp only at h'; rw [hb] at h'; cases h'⟩
  rename_i hb
  have g:=g2 (by simpa using hb)
  obtain ⟨v1,v2⟩:=ih1 (wS s obj q).1 (d+1) g
  generalize yK s n (wS s obj q).1 (d+1)=A at *
  obtain ⟨b1,b2,b3⟩:=qGV (s:=s) (q:=A.1) (c:=c) (many:=many+1) (k:=n+1) hc (by omega)
  split
  ·exact ⟨by simp only; omega,b2⟩
  by_cases hx:(xZ s c (many+1) A.1).2.bad=true
  ·rw [zAV hx]
   exact ⟨by omega,fun h'=>by rw [qAV hx] at h'; cases h'⟩
  have:=ih2 (xZ s c (many+1) A.1).2 d obj c (many+1) (qJM obj ks vs (wS s obj q).2 A.2).1 (qJM obj ks vs (wS s obj q).2 A.2).2 hc (b2 (by simpa using hx))
  exact ⟨by omega,this.2⟩
theorem qXH {s:List UInt8} {q:RQ} {c:UInt8} {many:Nat}:(xZ s c many q).2.nodes=q.nodes∧((xZ s c many q).2.bad=false→q.bad=false):=by
 unfold xZ
 dsimp only
 split
 ·exact ⟨rfl,fun h=>h⟩
 exact ⟨rfl,fun h=>by simp only [Bool.or_eq_false_iff] at h; exact h.1⟩
theorem qUH {s:List UInt8} {obj:Bool} {q:RQ}:(wS s obj q).1.nodes=q.nodes:=by
 unfold wS qEX zF
 split
 ·simp only; split <;> rfl
 rfl
theorem zKD (s : List UInt8) : ∀ n : Nat, (∀ q d, q.pos ≤ s.length → (yK s n q d).1.bad = false → q.pos ≤ (yK s n q d).1.pos ∧ (yK s n q d).1.nodes + (s.length - (yK s n q d).1.pos) ≤ q.nodes + 1 + (s.length - q.pos)) ∧
  (∀ q d obj c many ks vs,c≠0→q.pos≤s.length→(wM s n q d obj c many ks vs).1.bad=false→q.pos≤(wM s n q d obj c many ks vs).1.pos∧(wM s n q d obj c many ks vs).1.nodes+(s.length-(wM s n q d obj c many ks vs).1.pos)≤q.nodes+(s.length-q.pos))
 | 0=>⟨fun q d h hb=>by simp [yK] at hb,fun q d obj c many ks vs _ h hb=>by simp [wM] at hb⟩
 | n+1=>by
  obtain ⟨ih1,ih2⟩:=zKD s n
  refine ⟨fun q d h => ?_,fun q d obj c many ks vs hc h => ?_⟩
  ·have hE:(zG s q d).pos≤s.length:=by have:=xN (s:=s) (q:=q) (k:=0) (by omega); exact this
   have hE2:q.pos≤(zG s q d).pos:=qDD s q
   have hE3:(zG s q d).nodes=q.nodes+1:=rfl
   rw [qDK]
   generalize zG s q d=E at *
   have hk:∀ obj c,c≠0→E.pos<s.length→(kJ s n E d obj c).1.bad=false→E.pos≤(kJ s n E d obj c).1.pos∧(kJ s n E d obj c).1.nodes+(s.length-(kJ s n E d obj c).1.pos)≤E.nodes+(s.length-E.pos):=fun obj c hc hl=>by
    have h1:=xN (s:=s) (q:=zV E 1) (k:=0) (by simp only [zV]; omega)
    have h2:=qDD s (zV E 1)
    have h3:(blQ s (zV E 1)).nodes=E.nodes:=rfl
    unfold kJ
    simp only [zV] at h2
    split
    ·intro _; simp only [zV] at h2 h3 ⊢; omega
    intro hb
    have:=ih2 _ _ _ _ _ _ _ hc h1 hb
    simp only [zV] at this h3 ⊢; omega
   split
   ·intro _
    have h1:=(uT hE).2
    have h2:(zF s E).1.nodes=E.nodes:=by unfold zF; split <;> rfl
    simp only; omega
   split
   ·rename_i e
    intro hb
    have:=hk false 93 (by decide) (qGC (by rw [e]; decide)) hb
    simp only; omega
   split
   ·rename_i e
    intro hb
    have:=hk true 125 (by decide) (qGC (by rw [e]; decide)) hb
    simp only; omega
   split
   ·intro _
    simp only [jQ]; omega
   intro _
   have hw:∀ w:List UInt8,E.pos≤(xF s w E).2.pos∧(xF s w E).2.nodes=E.nodes:=fun w=>by
    unfold xF
    split
    ·simp only [zV]; exact ⟨by omega,trivial⟩
    exact ⟨Nat.le_refl _,rfl⟩
   have:E.pos≤(vL s E).1.pos∧(vL s E).1.nodes=E.nodes:=by
    unfold vL
    split
    ·exact hw _
    split
    ·exact hw _
    split
    ·exact hw _
    exact ⟨Nat.le_refl _,rfl⟩
   omega
  obtain ⟨g1,g2,g3⟩:=qDT (s:=s) (obj:=obj) (q:=q) h
  have hn:=qUH (s:=s) (obj:=obj) (q:=q)
  rw [kX]
  split
  ·rename_i hb; intro h'; simp only at h'; rw [hb] at h'; cases h'
  split
  ·rename_i hb; intro h'; simp only at h'; rw [hb] at h'; cases h'
  rename_i hb
  have g:=g2 (by simpa using hb)
  have v1:=ih1 (wS s obj q).1 (d+1) g
  have v2:=((zDJ s n).1 (wS s obj q).1 (d+1) g)
  generalize yK s n (wS s obj q).1 (d+1)=A at *
  obtain ⟨b1,b2,b3⟩:=qGV (s:=s) (q:=A.1) (c:=c) (many:=many+1) (k:=n+1) hc (by omega)
  obtain ⟨b4,b5⟩:=qXH (s:=s) (q:=A.1) (c:=c) (many:=many+1)
  split
  ·intro h'
   simp only at h' ⊢
   have:=v1 (b5 h')
   have:=b2 h'
   omega
  intro h'
  by_cases hx:(xZ s c (many+1) A.1).2.bad=true
  ·rw [qAV hx] at h'; cases h'
  have hx':(xZ s c (many+1) A.1).2.bad=false:=by simpa using hx
  have:=ih2 (xZ s c (many+1) A.1).2 d obj c (many+1) (qJM obj ks vs (wS s obj q).2 A.2).1 (qJM obj ks vs (wS s obj q).2 A.2).2 hc (b2 hx') h'
  have:=v1 (b5 hx')
  have:=b2 hx'
  omega
theorem qKE {s:List UInt8} {q:RQ} (n d:Nat) (h1:q.bad=false) (h2:q.pos≤s.length) (h:(yK s n q d).1.bad=false):q.pos≤(yK s n q d).1.pos∧(yK s n q d).1.pos≤s.length∧(yK s n q d).1.nodes+(s.length-(yK s n q d).1.pos)≤q.nodes+1+(s.length-q.pos) :=
 ⟨((zKD s n).1 q d h2 h).1,((zDJ s n).1 q d h2).2 h,((zKD s n).1 q d h2 h).2⟩
def qJZ (G:qR) (s:List UInt8) (N d:Nat):Prop:=∀ (m:Nat) (q:RQ),m<N→q.bad=false→q.pos≤s.length→2 * (s.length-q.pos)+2≤m→q.nodes+(s.length-q.pos)≤10000000000→d+(s.length-q.pos)≤10000000000 →
 AX Tryz.prog G 31 [.ptr 2 0,.p (.int .i64 d)] [(2,.vars 70 (rqC s q))] (.agg (yK s m q d).2.cells) [2] [(2,.vars 70 (rqC s (yK s m q d).1))]
theorem zDX (N:Nat) (s:List UInt8) (q:RQ) (d:Nat) (hs:s.length≤100000) (hp:q.pos<s.length) (hb0:q.bad=false) (hN:2 * (s.length-q.pos)+1≤N) (hN2:N≤1000000) (hk:q.nodes+(s.length-q.pos)≤10000000001) (hd:d+(s.length-q.pos)≤10000000000) (hv:qJZ G s N (d+1)):AX Tryz.prog G 61 [.ptr 2 0,.agg [.p (.int .i64 6),.p (.int .u64 0),.p (.bool false),.p (.str []),.p (.int .i64 0),.p (.str []),.nilsl,.nilsl,.p (.int .i64 0)],.p (.int .i64 d),.p (.int .u8 93)] [(2,.vars 70 (rqC s q))] (.agg (Val.mk 6 0 dc0 [] (kJ s N q d false 93).2.1 (kJ s N q d false 93).2.2 0).cells) [2] [(2,.vars 70 (rqC s (kJ s N q d false 93).1))]:=by
 refine AX.introU tok 900 Tryz.func61 (by kernel_rfl) rfl rfl ?_
 simp only [Tryz.f61,qO,List.map_cons,List.map_nil]
 have hM:kJ s N q d false 93=if nxQ s (blQ s (zV q 1))=93 then (zV (blQ s (zV q 1)) 1,[],[]) else wM s N (blQ s (zV q 1)) d false 93 0 [] []:=rfl
 rw [hM]
 have hbx:=jC (G:=G) s (zV q 1) (by omega) (by simp only [zV]; omega)
 have h1:=xN (s:=s) (q:=zV q 1) (k:=0) (by simp only [zV]; omega)
 have h2:q.pos+1≤(blQ s (zV q 1)).pos:=qDD s (zV q 1)
 have h3:(blQ s (zV q 1)).bad=false:=hb0
 have h4:(blQ s (zV q 1)).nodes=q.nodes:=rfl
 generalize blQ s (zV q 1)=Q at *
 have hnx:=qAT (G:=G) s Q (by omega) (by omega)
 have lC:(((nxQ s Q).toNat:Int)=93)↔nxQ s Q=93:=zS _ 93 (by decide)
 refine rgn [] [[],[0,2,3,5,8]] ?_
 iterate 2 refine op1 tok ?_
 refine qA ?_
 refine AW.beginBox 905 3 6 9 1 (by simp; exact ⟨rfl,rfl⟩) (by simp) (by simp) (by conv=>lhs; simp) ?_
 refine AW.beginBox 905 8 7 42 9 (by simp; exact ⟨rfl,rfl⟩) (by simp) (by simp) (by conv=>lhs; simp) ?_
 refine rgn [] [[],[],[],[],[],[0,2,3,5,8,17,18],[],[0,2,3,5,8]] ?_
 iterate 8 refine op1 tok ?_
 refine qA (rgn [] [[]] ?_)
 refine op1 tok ?_
 refine qK ?_
 refine qB.stepK [0,2,3,5,8] (zA rfl hbx (by simp)) (by conv=>lhs; simp) rfl ?_
 refine qB.nil ?_
 refine AW.seq (rgn [] [[]] ?_)
 refine op1 tok ?_
 refine qK ?_
 refine qB.stepK [0,2,3,5,8,23] (zA rfl hnx (by simp)) (by conv=>lhs; simp) rfl ?_
 refine qB.run [[],[0,2,3,5,8,25]] ?_
 iterate 2 refine op1 tok ?_
 refine qA (cnd ?_ ?_)
 ·intro h25
  try simp at h25
  rw [if_pos (lC.1 h25)]
  refine rgn [] [[],[],[],[],[5,8,26,30],[],[],[5,8]] ?_
  iterate 8 refine op1 tok ?_
  refine qA ?_
  refine AW.freeze 3 ?_
  refine AW.freeze 8 ?_
  refine rgn [] [[],[8]] ?_
  iterate 2 refine op1 tok ?_
  refine qA ?_
  exact AW.ret (qV (k:=by simp [dc0]))
 intro h25
 try simp at h25
 rw [if_neg (fun e=>h25 (lC.2 e))]
 refine AW.skip (rgn [] [[]] ?_)
 refine op1 tok ?_
 refine qA (AW.seq (AW.block ?_))
 refine AW.loop (α:=Nat × RQ × Nat × List (List UInt8) × List Val) (fun a=>wM s N Q d false 93 0 [] []=wM s a.1 a.2.1 d false 93 a.2.2.1 a.2.2.2.1 a.2.2.2.2∧1≤a.1∧a.1≤N∧(a.2.1.bad=false→2 * (s.length-a.2.1.pos)+3≤a.1∧a.2.1.pos≤s.length∧a.2.1.nodes+(s.length-a.2.1.pos)≤10000000000∧q.pos+1≤a.2.1.pos)∧a.2.2.1+a.1≤N∧a.2.2.2.2.length+a.1≤N) (fun a=>⟨zI 117 [(0,.ptr 2 0),(2,.p (.int .i64 d)),(3,.p (.int .u8 93)),(5,.ptr 905 0),(8,.ptr 908 0),(9,.p (.int .i64 a.2.2.1))],[2],[(2,.vars 70 (rqC s a.2.1)),(905,.vars 42 [.p (.int .i64 6),.p (.int .u64 0),.p (.bool false),.p (.str []),.p (.int .i64 0),.p (.str []),.ms 3,.ms 8,.p (.int .i64 0)]),(908,.vars 42 [.p (.int .i64 0),.p (.int .u64 0),.p (.bool false),.p (.str []),.p (.int .i64 0),.p (.str []),.nilsl,.nilsl,.p (.int .i64 0)]),(3,.row 9 1 (a.2.2.2.1.map PD.str)),(8,.row 42 9 (a.2.2.2.2.map Val.enc))],900⟩) (fun a=>a.1) ((N,Q,0,[],[])) ⟨rfl,by simp only; omega,by simp,fun _=>by simp only; omega,by simp,by simp⟩ ⟨qE (by simp),rfl,by simp,by simp⟩ ?_
 rintro ⟨n,p,many,ks,vs⟩ ⟨hq,hf,hfN,hpl,hml,hvl⟩
 simp only at hq hf hfN hpl hml hvl
 rw [hq]
 clear hq
 obtain ⟨n,rfl⟩:∃ g,n=g+1:=⟨n-1,by omega⟩
 rw [kX]
 refine AW.seq (rgn [] [[],[],[],[],[0,2,3,5,8,9,38]] ?_)
 iterate 5 refine op1 tok ?_
 refine qA (cnd ?_ ?_)
 ·intro h38
  try simp at h38
  have hb:p.bad=false:=by simpa using h38
  rw [if_neg (show ¬ p.bad=true by rw [hb]; simp)]
  obtain ⟨f1,f2,f3,f4⟩:=hpl hb
  have hbl1:=jC (G:=G) s p (by omega) (by omega)
  have hh:=qDT (s:=s) (obj:=false) (q:=p) f2
  have hd1:wS s false p=(blQ s p,[]):=rfl
  rw [hd1] at hh ⊢
  have hbn:(blQ s p).nodes=p.nodes:=rfl
  simp only at hh ⊢
  generalize blQ s p=H at *
  have hmm:=fun (A:RQ × Val)=>(show qJM false ks vs [] A.2=(ks,vs++[A.2]) from rfl)
  simp only [hmm]
  refine AW.skip (AW.block (rgn [] [[]] ?_))
  refine op1 tok ?_
  refine qK ?_
  refine qB.stepK [0,2,3,5,8,9] (zA rfl hbl1 (by simp)) (by conv=>lhs; simp) rfl ?_
  refine qB.nil ?_
  refine rgn [] [[]] ?_
  refine op1 tok ?_
  refine qA (AW.seq (rgn [] [[],[],[0,2,3,5,8,9,10,43]] ?_))
  iterate 3 refine op1 tok ?_
  refine qA (cnd ?_ ?_)
  ·intro h43
   try simp at h43
  intro h43
  try simp at h43
  refine AW.skip (AW.seq (rgn [] [[],[],[],[0,2,3,5,8,9,10,64]] ?_))
  iterate 4 refine op1 tok ?_
  refine qA (cnd ?_ ?_)
  ·intro h64
   try simp at h64
   rw [if_pos h64]
   refine AW.freeze 3 ?_
   refine AW.freeze 8 ?_
   refine rgn [] [[],[8]] ?_
   iterate 2 refine op1 tok ?_
   refine qA ?_
   exact AW.ret (qV (k:=by simp [dc0]))
  intro h64
  try simp at h64
  have hhb:H.bad=false:=by simpa using h64
  rw [if_neg (show ¬ H.bad=true by rw [hhb]; simp)]
  have g2:=hh.2.1 hhb
  have hvn:=hv n H (by omega) hhb g2 (by (try simp only); omega) (by (try simp only); omega) (by (try simp only); omega)
  have hps:=((zDJ s n).1 H (d+1) g2).1
  have hvf:=qKE (s:=s) (q:=H) n (d+1) hhb g2
  rw [show (((d+1:Nat):Int))=(d:Int)+1 from by omega] at hvn
  generalize yK s n H (d+1)=A at *
  obtain ⟨a1,v⟩:=A
  simp only at hvn hps hvf ⊢
  have hdm:decide ((200:Int)<(many:Int)+1)=decide (200<many+1):=by rw [decide_eq_decide]; omega
  have hbp:=qGV (s:=s) (q:=a1) (c:=93) (many:=many+1) (k:=n+1) (by decide) (by omega)
  have hbeh:xZ s 93 (many+1) a1=if nxQ s (blQ s ⟨a1.pos,a1.nodes,a1.bad,a1.deep,Bool.or a1.big (decide (200<many+1))⟩)=93 then (true,zV (blQ s ⟨a1.pos,a1.nodes,a1.bad,a1.deep,Bool.or a1.big (decide (200<many+1))⟩) 1) else (false,{ (blQ s ⟨a1.pos,a1.nodes,a1.bad,a1.deep,Bool.or a1.big (decide (200<many+1))⟩) with pos:=(blQ s ⟨a1.pos,a1.nodes,a1.bad,a1.deep,Bool.or a1.big (decide (200<many+1))⟩).pos+1,bad:=Bool.or (blQ s ⟨a1.pos,a1.nodes,a1.bad,a1.deep,Bool.or a1.big (decide (200<many+1))⟩).bad (decide (nxQ s (blQ s ⟨a1.pos,a1.nodes,a1.bad,a1.deep,Bool.or a1.big (decide (200<many+1))⟩)≠44)) }):=rfl
  rw [hbeh] at hbp
  rw [hbeh]
  have hbl2:=jC (G:=G) s ⟨a1.pos,a1.nodes,a1.bad,a1.deep,Bool.or a1.big (decide (200<many+1))⟩ (by omega) (by simp only; omega)
  have hx1:=xN (s:=s) (q:=⟨a1.pos,a1.nodes,a1.bad,a1.deep,Bool.or a1.big (decide (200<many+1))⟩) (k:=n+1) (by simp only; omega)
  have hx2:(blQ s ⟨a1.pos,a1.nodes,a1.bad,a1.deep,Bool.or a1.big (decide (200<many+1))⟩).bad=a1.bad:=rfl
  have hx3:(blQ s ⟨a1.pos,a1.nodes,a1.bad,a1.deep,Bool.or a1.big (decide (200<many+1))⟩).nodes=a1.nodes:=rfl
  generalize blQ s ⟨a1.pos,a1.nodes,a1.bad,a1.deep,Bool.or a1.big (decide (200<many+1))⟩=B at *
  have hnx2:=qAT (G:=G) s B (by omega) (by omega)
  have l44:(((nxQ s B).toNat:Int)=44)↔nxQ s B=44:=zS _ 44 (by decide)
  have lC2:(((nxQ s B).toNat:Int)=93)↔nxQ s B=93:=zS _ 93 (by decide)
  generalize nxQ s B=c at *
  refine AW.skip (rgn [] [[],[],[]] ?_)
  iterate 3 refine op1 tok ?_
  refine qK ?_
  refine qB.stepK [0,2,3,5,8,9,10,69] (zA rfl hvn (by simp)) (by conv=>lhs; simp) rfl ?_
  refine qB.run [[],[0,2,3,5,8,9,10,11]] ?_
  iterate 2 refine op1 tok ?_
  refine qA (rgn [] [[],[],[0,2,3,5,8,9,10,11]] ?_)
  iterate 3 refine op1 tok ?_
  refine qA (rgn [] [[],[],[],[],[],[0,2,3,5,8,9,10,11,72,77],[],[],[],[0,2,3,5,8,9,10,11,80,81],[],[0,2,3,5,8,9,10,11]] ?_)
  iterate 6 refine op1 tok ?_ (h:=by intro C; conv=>lhs; simp [hdm])
  iterate 2 refine op2 tok ?_ (h:=by intro C; conv=>lhs; simp [hdm])
  iterate 4 refine op1 tok ?_ (h:=by intro C; conv=>lhs; simp [hdm])
  refine qA (AW.seq (rgn [] [[],[],[0,2,3,5,8,9,10,11,85]] ?_))
  iterate 3 refine op1 tok ?_
  refine qA (cnd ?_ ?_)
  ·intro h85
   try simp at h85
  intro h85
  try simp at h85
  refine rgz [v.enc] [[],[],[],[],[0,2,3,5,8,9,94],[],[0,2,3,5,8,9]] ?_
  iterate 7 refine op1 tok ?_
  refine qA (rgn [] [[]] ?_)
  refine op1 tok ?_
  refine qK ?_
  refine qB.stepK [0,2,3,5,8,9] (zA rfl hbl2 (by simp)) (by conv=>lhs; simp) rfl ?_
  refine qB.nil ?_
  refine rgn [] [[]] ?_
  refine op1 tok ?_
  refine qK ?_
  refine qB.stepK [0,2,3,5,8,9,99] (zA rfl hnx2 (by simp)) (by conv=>lhs; simp) rfl ?_
  refine qB.run [[0,2,3,5,8,9,12]] ?_
  refine op1 tok ?_
  refine qA (rgn [] [[],[],[],[],[],[0,2,3,5,8,9,12,104,105],[],[0,2,3,5,8,9,12]] ?_)
  iterate 8 refine op1 tok ?_
  refine qA (AW.seq (rgn [] [[],[],[0,2,3,5,8,9,12,109]] ?_))
  iterate 3 refine op1 tok ?_
  refine qA (cnd ?_ ?_)
  ·intro h109
   try simp at h109
   rw [if_pos (lC2.1 h109)]
   simp only [if_true]
   refine AW.freeze 3 ?_
   refine AW.freeze 8 ?_
   refine rgn [] [[],[8]] ?_
   iterate 2 refine op1 tok ?_
   refine qA ?_
   exact AW.ret (qV (k:=by simp [dc0]))
  intro h109
  try simp at h109
  rw [if_neg (fun e=>h109 (lC2.2 e))]
  rw [if_neg (fun e=>h109 (lC2.2 e))] at hbp
  simp only [Bool.false_eq_true,if_false]
  simp only at hbp
  refine AW.skip (rgn [] [[],[0,2,3,5,8,9,112]] ?_)
  iterate 2 refine op1 tok ?_
  refine qA (cnd ?_ ?_)
  ·intro h112
   try simp at h112
   have hn4:c≠44:=fun e=>h112 (l44.2 e)
   simp only [decide_eq_true (show c≠44 from hn4),Bool.or_true]
   refine rgz [] [[],[],[],[0,2,3,5,8,9]] ?_
   iterate 4 refine op1 tok ?_
   refine qA ?_
   exact ⟨(n,⟨B.pos+1,B.nodes,true,B.deep,B.big⟩,many+1,ks,vs++[v]),⟨rfl,by omega,by omega,fun h=>(by cases h),by simp only; omega,by simp; omega⟩,by simp only; omega,qE (by simp),rfl,by simp,by simp⟩
  intro h112
  try simp at h112
  have hn4:c=44:=l44.1 (by omega)
  have hd0:decide (c≠44)=false:=by simp [hn4]
  rw [hd0] at hbp ⊢
  simp only [Bool.or_false] at hbp ⊢
  have hinv:B.bad=false→2 * (s.length-(B.pos+1))+3≤n∧B.pos+1≤s.length∧B.nodes+(s.length-(B.pos+1))≤10000000000∧q.pos+1≤B.pos+1:=fun h=>by
   rw [hx2] at h
   have hvf:=hvf h
   have hb1:=hbp.2.1 (by rw [hx2]; exact h)
   have hb2:=hbp.2.2
   omega
  refine AW.skip ?_
  exact ⟨(n,⟨B.pos+1,B.nodes,B.bad,B.deep,B.big⟩,many+1,ks,vs++[v]),⟨rfl,by omega,by omega,hinv,by simp only; omega,by simp; omega⟩,by simp only; omega,qE (by simp),rfl,by simp,by simp⟩
 intro h38
 try simp at h38
 rw [if_pos (show p.bad=true by simpa using h38)]
 refine AW.exit ?_
 simp
 refine AW.freeze 3 ?_
 refine AW.freeze 8 ?_
 refine rgn [] [[],[8]] ?_
 iterate 2 refine op1 tok ?_
 refine qA ?_
 exact AW.ret (qV (k:=by simp [dc0]))
theorem zDW (N:Nat) (s:List UInt8) (q:RQ) (d:Nat) (hs:s.length≤100000) (hp:q.pos<s.length) (hb0:q.bad=false) (hN:2 * (s.length-q.pos)+1≤N) (hN2:N≤1000000) (hk:q.nodes+(s.length-q.pos)≤10000000001) (hd:d+(s.length-q.pos)≤10000000000) (hv:qJZ G s N (d+1)) (hU:qPG G s):AX Tryz.prog G 61 [.ptr 2 0,.agg [.p (.int .i64 7),.p (.int .u64 0),.p (.bool false),.p (.str []),.p (.int .i64 0),.p (.str []),.nilsl,.nilsl,.p (.int .i64 0)],.p (.int .i64 d),.p (.int .u8 125)] [(2,.vars 70 (rqC s q))] (.agg (Val.mk 7 0 dc0 [] (kJ s N q d true 125).2.1 (kJ s N q d true 125).2.2 0).cells) [2] [(2,.vars 70 (rqC s (kJ s N q d true 125).1))]:=by
 refine AX.introU tok 900 Tryz.func61 (by kernel_rfl) rfl rfl ?_
 simp only [Tryz.f61,qO,List.map_cons,List.map_nil]
 have hM:kJ s N q d true 125=if nxQ s (blQ s (zV q 1))=125 then (zV (blQ s (zV q 1)) 1,[],[]) else wM s N (blQ s (zV q 1)) d true 125 0 [] []:=rfl
 rw [hM]
 have hbx:=jC (G:=G) s (zV q 1) (by omega) (by simp only [zV]; omega)
 have h1:=xN (s:=s) (q:=zV q 1) (k:=0) (by simp only [zV]; omega)
 have h2:q.pos+1≤(blQ s (zV q 1)).pos:=qDD s (zV q 1)
 have h3:(blQ s (zV q 1)).bad=false:=hb0
 have h4:(blQ s (zV q 1)).nodes=q.nodes:=rfl
 generalize blQ s (zV q 1)=Q at *
 have hnx:=qAT (G:=G) s Q (by omega) (by omega)
 have lC:(((nxQ s Q).toNat:Int)=125)↔nxQ s Q=125:=zS _ 125 (by decide)
 refine rgn [] [[],[0,2,3,5,8]] ?_
 iterate 2 refine op1 tok ?_
 refine qA ?_
 refine AW.beginBox 905 3 6 9 1 (by simp; exact ⟨rfl,rfl⟩) (by simp) (by simp) (by conv=>lhs; simp) ?_
 refine AW.beginBox 905 8 7 42 9 (by simp; exact ⟨rfl,rfl⟩) (by simp) (by simp) (by conv=>lhs; simp) ?_
 refine rgn [] [[],[],[],[],[],[0,2,3,5,8,17,18],[],[0,2,3,5,8]] ?_
 iterate 8 refine op1 tok ?_
 refine qA (rgn [] [[]] ?_)
 refine op1 tok ?_
 refine qK ?_
 refine qB.stepK [0,2,3,5,8] (zA rfl hbx (by simp)) (by conv=>lhs; simp) rfl ?_
 refine qB.nil ?_
 refine AW.seq (rgn [] [[]] ?_)
 refine op1 tok ?_
 refine qK ?_
 refine qB.stepK [0,2,3,5,8,23] (zA rfl hnx (by simp)) (by conv=>lhs; simp) rfl ?_
 refine qB.run [[],[0,2,3,5,8,25]] ?_
 iterate 2 refine op1 tok ?_
 refine qA (cnd ?_ ?_)
 ·intro h25
  try simp at h25
  rw [if_pos (lC.1 h25)]
  refine rgn [] [[],[],[],[],[5,8,26,30],[],[],[5,8]] ?_
  iterate 8 refine op1 tok ?_
  refine qA ?_
  refine AW.freeze 3 ?_
  refine AW.freeze 8 ?_
  refine rgn [] [[],[8]] ?_
  iterate 2 refine op1 tok ?_
  refine qA ?_
  exact AW.ret (qV (k:=by simp [dc0]))
 intro h25
 try simp at h25
 rw [if_neg (fun e=>h25 (lC.2 e))]
 refine AW.skip (rgn [] [[]] ?_)
 refine op1 tok ?_
 refine qA (AW.seq (AW.block ?_))
 refine AW.loop (α:=Nat × RQ × Nat × List (List UInt8) × List Val) (fun a=>wM s N Q d true 125 0 [] []=wM s a.1 a.2.1 d true 125 a.2.2.1 a.2.2.2.1 a.2.2.2.2∧1≤a.1∧a.1≤N∧(a.2.1.bad=false→2 * (s.length-a.2.1.pos)+3≤a.1∧a.2.1.pos≤s.length∧a.2.1.nodes+(s.length-a.2.1.pos)≤10000000000∧q.pos+1≤a.2.1.pos)∧a.2.2.1+a.1≤N∧a.2.2.2.2.length+a.1≤N∧a.2.2.2.1.length=a.2.2.2.2.length) (fun a=>⟨zI 117 [(0,.ptr 2 0),(2,.p (.int .i64 d)),(3,.p (.int .u8 125)),(5,.ptr 905 0),(8,.ptr 908 0),(9,.p (.int .i64 a.2.2.1))],[2],[(2,.vars 70 (rqC s a.2.1)),(905,.vars 42 [.p (.int .i64 7),.p (.int .u64 0),.p (.bool false),.p (.str []),.p (.int .i64 0),.p (.str []),.ms 3,.ms 8,.p (.int .i64 0)]),(908,.vars 42 [.p (.int .i64 0),.p (.int .u64 0),.p (.bool false),.p (.str []),.p (.int .i64 0),.p (.str []),.nilsl,.nilsl,.p (.int .i64 0)]),(3,.row 9 1 (a.2.2.2.1.map PD.str)),(8,.row 42 9 (a.2.2.2.2.map Val.enc))],900⟩) (fun a=>a.1) ((N,Q,0,[],[])) ⟨rfl,by simp only; omega,by simp,fun _=>by simp only; omega,by simp,by simp,rfl⟩ ⟨qE (by simp),rfl,by simp,by simp⟩ ?_
 rintro ⟨n,p,many,ks,vs⟩ ⟨hq,hf,hfN,hpl,hml,hvl,hkl⟩
 simp only at hq hf hfN hpl hml hvl hkl
 rw [hq]
 clear hq
 obtain ⟨n,rfl⟩:∃ g,n=g+1:=⟨n-1,by omega⟩
 rw [kX]
 refine AW.seq (rgn [] [[],[],[],[],[0,2,3,5,8,9,38]] ?_)
 iterate 5 refine op1 tok ?_
 refine qA (cnd ?_ ?_)
 ·intro h38
  try simp at h38
  have hb:p.bad=false:=by simpa using h38
  rw [if_neg (show ¬ p.bad=true by rw [hb]; simp)]
  obtain ⟨f1,f2,f3,f4⟩:=hpl hb
  have hbl1:=jC (G:=G) s p (by omega) (by omega)
  have hh:=qDT (s:=s) (obj:=true) (q:=p) f2
  have hp1:=xN (s:=s) (q:=p) (k:=0) (by omega)
  have hd1:wS s true p=qEX s (blQ s p):=rfl
  have hqa:=qLE (G:=G) s (blQ s p) (by omega) (by omega) hU
  have hqp:=uT (s:=s) (q:=blQ s p) hp1
  have hky:qEX s (blQ s p)=({ (blQ s (zF s (blQ s p)).1) with pos:=(blQ s (zF s (blQ s p)).1).pos+1,bad:=Bool.or (blQ s (zF s (blQ s p)).1).bad (decide (nxQ s (blQ s (zF s (blQ s p)).1)≠58)) },(zF s (blQ s p)).2):=rfl
  have hqn:(zF s (blQ s p)).1.nodes=p.nodes:=by unfold zF; split <;> rfl
  have hbl3:=jC (G:=G) s (zF s (blQ s p)).1 (by omega) (by omega)
  have hb3:=xN (s:=s) (q:=(zF s (blQ s p)).1) (k:=0) (by omega)
  have hbn3:(blQ s (zF s (blQ s p)).1).nodes=(zF s (blQ s p)).1.nodes:=rfl
  have hnx3:=qAT (G:=G) s (blQ s (zF s (blQ s p)).1) (by omega) (by omega)
  rw [hky] at hd1
  rw [hd1] at hh ⊢
  generalize blQ s (zF s (blQ s p)).1=B3 at *
  generalize zF s (blQ s p)=QK at *
  obtain ⟨Q2,key⟩:=QK
  have l58:(((nxQ s B3).toNat:Int)=58)↔nxQ s B3=58:=zS _ 58 (by decide)
  generalize nxQ s B3=c3 at *
  have hpl2:=fun v=>qFW hkl key v
  generalize hbd:Bool.or B3.bad (decide (c3≠58))=bd at *
  simp only at hh hqa hqp hqn hbl3 hb3 hbn3 hnx3 ⊢
  have hmm:=fun (A:RQ × Val)=>(show qJM true ks vs key A.2=kW ks vs key A.2 from rfl)
  simp only [hmm]
  refine AW.skip (AW.block (rgn [] [[]] ?_))
  refine op1 tok ?_
  refine qK ?_
  refine qB.stepK [0,2,3,5,8,9] (zA rfl hbl1 (by simp)) (by conv=>lhs; simp) rfl ?_
  refine qB.nil ?_
  refine rgn [] [[]] ?_
  refine op1 tok ?_
  refine qA (AW.seq (rgn [] [[],[],[0,2,3,5,8,9,10,43]] ?_))
  iterate 3 refine op1 tok ?_
  refine qA (cnd ?_ ?_)
  ·intro h43
   try simp at h43
   refine rgn [] [[]] ?_
   refine op1 tok ?_
   refine qK ?_
   refine qB.stepK [0,2,3,5,8,9,45] (zA rfl hqa (by simp)) (by conv=>lhs; simp) rfl ?_
   refine qB.run [[0,2,3,5,8,9,10]] ?_
   refine op1 tok ?_
   refine qA (rgn [] [[]] ?_)
   refine op1 tok ?_
   refine qK ?_
   refine qB.stepK [0,2,3,5,8,9,10] (zA rfl hbl3 (by simp)) (by conv=>lhs; simp) rfl ?_
   refine qB.nil ?_
   refine AW.join (α:=Unit) (fun _=>True) (fun _=>⟨zI 117 [(0,.ptr 2 0),(2,.p (.int .i64 d)),(3,.p (.int .u8 125)),(5,.ptr 905 0),(8,.ptr 908 0),(9,.p (.int .i64 many)),(10,.p (.str key))],[2],[(2,.vars 70 [.p (.str s),.p (.int .i64 B3.pos),.p (.int .i64 B3.nodes),.p (.bool bd),.p (.bool B3.deep),.p (.bool B3.big)]),(905,.vars 42 [.p (.int .i64 7),.p (.int .u64 0),.p (.bool false),.p (.str []),.p (.int .i64 0),.p (.str []),.ms 3,.ms 8,.p (.int .i64 0)]),(908,.vars 42 [.p (.int .i64 0),.p (.int .u64 0),.p (.bool false),.p (.str []),.p (.int .i64 0),.p (.str []),.nilsl,.nilsl,.p (.int .i64 0)]),(3,.row 9 1 (ks.map PD.str)),(8,.row 42 9 (vs.map Val.enc))],900⟩) ?_ ?_
   ·
    refine rgn [] [[]] ?_
    refine op1 tok ?_
    refine qK ?_
    refine qB.stepK [0,2,3,5,8,9,10,49] (zA rfl hnx3 (by simp)) (by conv=>lhs; simp) rfl ?_
    refine qB.run [[0,2,3,5,8,9,10,50]] ?_
    refine op1 tok ?_
    refine qA (cnd ?_ ?_)
    ·intro h50
     try simp at h50
     have hbt:bd=true:=by rw [← hbd,decide_eq_true (show c3≠58 from fun e=>h50 (l58.2 e))]; simp
     refine rgz [] [[],[],[],[0,2,3,5,8,9,10]] ?_
     iterate 4 refine op1 tok ?_
     refine qA ?_
     exact ⟨(),trivial,qE (by simp [hbt]),rfl,by simp [hbt],by simp [hbt]⟩
    intro h50
    try simp at h50
    have hbt:B3.bad=bd:=by rw [← hbd,decide_eq_false (show ¬ c3≠58 from fun e=>e (l58.1 (by omega)))]; simp
    refine AW.skip ?_
    exact ⟨(),trivial,qE (by simp [hbt]),rfl,by simp [hbt],by simp [hbt]⟩
   ·
    rintro _ _
    refine rgz [] [[],[],[],[],[],[0,2,3,5,8,9,10,58,59],[],[0,2,3,5,8,9,10]] ?_
    iterate 8 refine op1 tok ?_
    refine qA (AW.seq (rgn [] [[],[],[],[0,2,3,5,8,9,10,64]] ?_))
    iterate 4 refine op1 tok ?_
    refine qA (cnd ?_ ?_)
    ·intro h64
     try simp at h64
     rw [if_pos h64]
     refine AW.freeze 3 ?_
     refine AW.freeze 8 ?_
     refine rgn [] [[],[8]] ?_
     iterate 2 refine op1 tok ?_
     refine qA ?_
     exact AW.ret (qV (k:=by simp [dc0]))
    intro h64
    try simp at h64
    have hhb:(⟨B3.pos+1,B3.nodes,bd,B3.deep,B3.big⟩:RQ).bad=false:=by simpa using h64
    rw [if_neg (show ¬ (⟨B3.pos+1,B3.nodes,bd,B3.deep,B3.big⟩:RQ).bad=true by rw [hhb]; simp)]
    have g2:=hh.2.1 hhb
    have hvn:=hv n (⟨B3.pos+1,B3.nodes,bd,B3.deep,B3.big⟩:RQ) (by omega) hhb g2 (by (try simp only); omega) (by (try simp only); omega) (by (try simp only); omega)
    have hps:=((zDJ s n).1 (⟨B3.pos+1,B3.nodes,bd,B3.deep,B3.big⟩:RQ) (d+1) g2).1
    have hvf:=qKE (s:=s) (q:=(⟨B3.pos+1,B3.nodes,bd,B3.deep,B3.big⟩:RQ)) n (d+1) hhb g2
    rw [show (((d+1:Nat):Int))=(d:Int)+1 from by omega] at hvn
    generalize yK s n (⟨B3.pos+1,B3.nodes,bd,B3.deep,B3.big⟩:RQ) (d+1)=A at *
    obtain ⟨a1,v⟩:=A
    simp only at hvn hps hvf ⊢
    have hdm:decide ((200:Int)<(many:Int)+1)=decide (200<many+1):=by rw [decide_eq_decide]; omega
    have hbp:=qGV (s:=s) (q:=a1) (c:=125) (many:=many+1) (k:=n+1) (by decide) (by omega)
    have hbeh:xZ s 125 (many+1) a1=if nxQ s (blQ s ⟨a1.pos,a1.nodes,a1.bad,a1.deep,Bool.or a1.big (decide (200<many+1))⟩)=125 then (true,zV (blQ s ⟨a1.pos,a1.nodes,a1.bad,a1.deep,Bool.or a1.big (decide (200<many+1))⟩) 1) else (false,{ (blQ s ⟨a1.pos,a1.nodes,a1.bad,a1.deep,Bool.or a1.big (decide (200<many+1))⟩) with pos:=(blQ s ⟨a1.pos,a1.nodes,a1.bad,a1.deep,Bool.or a1.big (decide (200<many+1))⟩).pos+1,bad:=Bool.or (blQ s ⟨a1.pos,a1.nodes,a1.bad,a1.deep,Bool.or a1.big (decide (200<many+1))⟩).bad (decide (nxQ s (blQ s ⟨a1.pos,a1.nodes,a1.bad,a1.deep,Bool.or a1.big (decide (200<many+1))⟩)≠44)) }):=rfl
    rw [hbeh] at hbp
    rw [hbeh]
    have hbl2:=jC (G:=G) s ⟨a1.pos,a1.nodes,a1.bad,a1.deep,Bool.or a1.big (decide (200<many+1))⟩ (by omega) (by simp only; omega)
    have hx1:=xN (s:=s) (q:=⟨a1.pos,a1.nodes,a1.bad,a1.deep,Bool.or a1.big (decide (200<many+1))⟩) (k:=n+1) (by simp only; omega)
    have hx2:(blQ s ⟨a1.pos,a1.nodes,a1.bad,a1.deep,Bool.or a1.big (decide (200<many+1))⟩).bad=a1.bad:=rfl
    have hx3:(blQ s ⟨a1.pos,a1.nodes,a1.bad,a1.deep,Bool.or a1.big (decide (200<many+1))⟩).nodes=a1.nodes:=rfl
    generalize blQ s ⟨a1.pos,a1.nodes,a1.bad,a1.deep,Bool.or a1.big (decide (200<many+1))⟩=B at *
    have hnx2:=qAT (G:=G) s B (by omega) (by omega)
    have l44:(((nxQ s B).toNat:Int)=44)↔nxQ s B=44:=zS _ 44 (by decide)
    have lC2:(((nxQ s B).toNat:Int)=125)↔nxQ s B=125:=zS _ 125 (by decide)
    generalize nxQ s B=c at *
    refine AW.skip (rgn [] [[],[],[]] ?_)
    iterate 3 refine op1 tok ?_
    refine qK ?_
    refine qB.stepK [0,2,3,5,8,9,10,69] (zA rfl hvn (by simp)) (by conv=>lhs; simp) rfl ?_
    refine qB.run [[],[0,2,3,5,8,9,10,11]] ?_
    iterate 2 refine op1 tok ?_
    refine qA (rgn [] [[],[],[0,2,3,5,8,9,10,11]] ?_)
    iterate 3 refine op1 tok ?_
    refine qA (rgn [] [[],[],[],[],[],[0,2,3,5,8,9,10,11,72,77],[],[],[],[0,2,3,5,8,9,10,11,80,81],[],[0,2,3,5,8,9,10,11]] ?_)
    iterate 6 refine op1 tok ?_ (h:=by intro C; conv=>lhs; simp [hdm])
    iterate 2 refine op2 tok ?_ (h:=by intro C; conv=>lhs; simp [hdm])
    iterate 4 refine op1 tok ?_ (h:=by intro C; conv=>lhs; simp [hdm])
    refine qA (AW.seq (rgn [] [[],[],[0,2,3,5,8,9,10,11,85]] ?_))
    iterate 3 refine op1 tok ?_
    refine qA (cnd ?_ ?_)
    ·intro h85
     try simp at h85
     refine rgz [] [[],[],[]] ?_
     iterate 3 refine op1 tok ?_
     refine qK ?_
     refine qB.stepK [0,2,3,5,8,9,89] (zA rfl (zHE ks vs key v hkl (by omega)) (by simp)) (by conv=>lhs; simp) rfl ?_
     refine qB.run [[0,2,3,5,8,9]] ?_
     refine op1 tok ?_
     refine qA (rgn [] [[]] ?_)
     refine op1 tok ?_
     refine qK ?_
     refine qB.stepK [0,2,3,5,8,9] (zA rfl hbl2 (by simp)) (by conv=>lhs; simp) rfl ?_
     refine qB.nil ?_
     refine rgn [] [[]] ?_
     refine op1 tok ?_
     refine qK ?_
     refine qB.stepK [0,2,3,5,8,9,99] (zA rfl hnx2 (by simp)) (by conv=>lhs; simp) rfl ?_
     refine qB.run [[0,2,3,5,8,9,12]] ?_
     refine op1 tok ?_
     refine qA (rgn [] [[],[],[],[],[],[0,2,3,5,8,9,12,104,105],[],[0,2,3,5,8,9,12]] ?_)
     iterate 8 refine op1 tok ?_
     refine qA (AW.seq (rgn [] [[],[],[0,2,3,5,8,9,12,109]] ?_))
     iterate 3 refine op1 tok ?_
     refine qA (cnd ?_ ?_)
     ·intro h109
      try simp at h109
      rw [if_pos (lC2.1 h109)]
      simp only [if_true]
      refine AW.freeze 3 ?_
      refine AW.freeze 8 ?_
      refine rgn [] [[],[8]] ?_
      iterate 2 refine op1 tok ?_
      refine qA ?_
      exact AW.ret (qV (k:=by simp [dc0]))
     intro h109
     try simp at h109
     rw [if_neg (fun e=>h109 (lC2.2 e))]
     rw [if_neg (fun e=>h109 (lC2.2 e))] at hbp
     simp only [Bool.false_eq_true,if_false]
     simp only at hbp
     refine AW.skip (rgn [] [[],[0,2,3,5,8,9,112]] ?_)
     iterate 2 refine op1 tok ?_
     refine qA (cnd ?_ ?_)
     ·intro h112
      try simp at h112
      have hn4:c≠44:=fun e=>h112 (l44.2 e)
      have hpl3:=hpl2 v
      simp only [decide_eq_true (show c≠44 from hn4),Bool.or_true]
      refine rgz [] [[],[],[],[0,2,3,5,8,9]] ?_
      iterate 4 refine op1 tok ?_
      refine qA ?_
      exact ⟨(n,⟨B.pos+1,B.nodes,true,B.deep,B.big⟩,many+1,(kW ks vs key v).1,(kW ks vs key v).2),⟨rfl,by omega,by omega,fun h=>(by cases h),by simp only; omega,by (simp only; omega),(qFW hkl key v).1⟩,by simp only; omega,qE (by simp),rfl,by simp,by simp⟩
     intro h112
     try simp at h112
     have hn4:c=44:=l44.1 (by omega)
     have hd0:decide (c≠44)=false:=by simp [hn4]
     rw [hd0] at hbp ⊢
     simp only [Bool.or_false] at hbp ⊢
     have hpl3:=hpl2 v
     have hinv:B.bad=false→2 * (s.length-(B.pos+1))+3≤n∧B.pos+1≤s.length∧B.nodes+(s.length-(B.pos+1))≤10000000000∧q.pos+1≤B.pos+1:=fun h=>by
      rw [hx2] at h
      have hvf:=hvf h
      have hb1:=hbp.2.1 (by rw [hx2]; exact h)
      have hb2:=hbp.2.2
      omega
     refine AW.skip ?_
     exact ⟨(n,⟨B.pos+1,B.nodes,B.bad,B.deep,B.big⟩,many+1,(kW ks vs key v).1,(kW ks vs key v).2),⟨rfl,by omega,by omega,hinv,by simp only; omega,by (simp only; omega),(qFW hkl key v).1⟩,by simp only; omega,qE (by simp),rfl,by simp,by simp⟩
    intro h85
    try simp at h85
  intro h43
  try simp at h43
 intro h38
 try simp at h38
 rw [if_pos (show p.bad=true by simpa using h38)]
 refine AW.exit ?_
 simp
 refine AW.freeze 3 ?_
 refine AW.freeze 8 ?_
 refine rgn [] [[],[8]] ?_
 iterate 2 refine op1 tok ?_
 refine qA ?_
 exact AW.ret (qV (k:=by simp [dc0]))
end Go.Proofs.YtlmedakhioiahaaGreatDoor
