import Derived.Test.YtdojfdaglbphlaaGreatDoorK3
import Derived.Test.YtdojfdaglbphlaaGreatDoorK1
import Derived.Test.YtdojfdaglbphlaaGreatDoorK2
import Derived.Test.YtdojfdaglbphlaaGreatDoorM4
import Derived.Test.YtdojfdaglbphlaaGreatDoorM3
import Derived.Shelf.Strings.OnBuilder
import Derived.Lib.AppendZerosOnto
import Derived.Lib.ItoaLen
namespace Go.Proofs.YtdojfdaglbphlaaGreatDoor
open Sy Go
set_option maxRecDepth 100000
set_option maxHeartbeats 4000000
set_option linter.unusedSimpArgs false
set_option linter.unusedVariables false
variable {G:qR}
attribute [local simp] wV
theorem qAD {s:List UInt8} {q:RQ} {k:Nat} (h:q.pos≤s.length+k):(blQ s q).pos≤s.length+k:=by
 rcases Nat.lt_or_ge s.length q.pos with h1 | h1
 ·have:s.drop q.pos=[]:=List.drop_of_length_le (by omega)
  simp only [blQ,this]; show q.pos+0≤_; omega
 have:=(qJQ h1).2; omega
theorem qLD (s:List UInt8) (q:RQ):q.pos≤(blQ s q).pos:=by simp only [blQ]; omega
theorem qOL {s:List UInt8} {q:RQ} (h:nxQ s q≠0):q.pos<s.length:=by
 rcases Nat.lt_or_ge q.pos s.length with h1 | h1
 ·exact h1
 exfalso; apply h; unfold nxQ; rw [List.getD_eq_getElem?_getD,List.getElem?_eq_none h1]; rfl
theorem qFH {s:List UInt8} {q:RQ} (h:q.pos≤s.length):(zP s q).1.pos≤s.length∧q.pos≤(zP s q).1.pos:=by
 have hp:=qCA (s.drop q.pos)
 have hk:=qNQ (s.drop q.pos)
 rw [List.length_drop] at hp hk
 unfold zP
 split
 ·simp only; omega
 simp only; omega
theorem qQO {s:List UInt8} {q:RQ} {c:UInt8} {many k:Nat} (hc:c≠0) (h:q.pos≤s.length+k):(qCL s c many q).2.pos≤s.length+k+1∧((qCL s c many q).2.bad=false→(qCL s c many q).2.pos≤s.length)∧q.pos+1≤(qCL s c many q).2.pos:=by
 have h1:=qAD (s:=s) (q:={ q with big:=Bool.or q.big (decide (200<many)) }) (k:=k) h
 have h2:=qLD s { q with big:=Bool.or q.big (decide (200<many)) }
 unfold qCL
 simp only at h1 h2 ⊢
 generalize blQ s { q with big:=Bool.or q.big (decide (200<many)) }=a at *
 split
 ·rename_i e
  have:=qOL (s:=s) (q:=a) (by rw [e]; exact hc)
  simp only [wV]; exact ⟨by omega,fun _=>by omega,by omega⟩
 refine ⟨by simp only; omega,fun hb => ?_,by simp only; omega⟩
 simp only [Bool.or_eq_false_iff,decide_eq_false_iff_not,Decidable.not_not] at hb
 have:=qOL (s:=s) (q:=a) (by rw [hb.2]; decide)
 simp only; omega
theorem zNG {s:List UInt8} {q:RQ} (h:q.pos≤s.length):(qJB s q).1.pos≤s.length+1∧((qJB s q).1.bad=false→(qJB s q).1.pos≤s.length)∧q.pos+1≤(qJB s q).1.pos:=by
 obtain ⟨h1,h2⟩:=qFH h
 have h3:=qAD (s:=s) (q:=(zP s q).1) (k:=0) (by omega)
 have h4:=qLD s (zP s q).1
 unfold qJB
 simp only
 generalize blQ s (zP s q).1=a at *
 refine ⟨by omega,fun hb => ?_,by omega⟩
 simp only [Bool.or_eq_false_iff,decide_eq_false_iff_not,Decidable.not_not] at hb
 have:=qOL (s:=s) (q:=a) (by rw [hb.2]; decide)
 omega
theorem qKR {s:List UInt8} {obj:Bool} {q:RQ} (h:q.pos≤s.length):(kL s obj q).1.pos≤s.length+1∧((kL s obj q).1.bad=false→(kL s obj q).1.pos≤s.length)∧q.pos≤(kL s obj q).1.pos:=by
 have h1:=qAD (s:=s) (q:=q) (k:=0) (by omega)
 have h2:=qLD s q
 unfold kL
 split
 ·obtain ⟨h3,h4,h5⟩:=zNG (s:=s) (q:=blQ s q) (by omega)
  exact ⟨h3,h4,by omega⟩
 exact ⟨by simp only; omega,fun _=>by simp only; omega,h2⟩
theorem zIS {s:List UInt8} {n:Nat} {q:RQ} {d:Nat} {obj:Bool} {c:UInt8} {many:Nat} {ks:List (List UInt8)} {vs:List Val} (h:q.bad=true):(kB s n q d obj c many ks vs).1.pos=q.pos:=by
 cases n with
 | zero=>simp [kB]
 | succ n=>rw [xW,if_pos h]
theorem zTT (s : List UInt8) : ∀ n : Nat, (∀ q d, q.pos ≤ s.length → (kZ s n q d).1.pos ≤ s.length + n + 1 ∧ ((kZ s n q d).1.bad = false → (kZ s n q d).1.pos ≤ s.length)) ∧
  (∀ q d obj c many ks vs,c≠0→q.pos≤s.length→(kB s n q d obj c many ks vs).1.pos≤s.length+n+1∧((kB s n q d obj c many ks vs).1.bad=false→(kB s n q d obj c many ks vs).1.pos≤s.length))
 | 0=>⟨fun q d h=>by simp only [kZ]; exact ⟨by omega,fun _=>h⟩,fun q d obj c many ks vs _ h=>by simp only [kB]; exact ⟨by omega,fun _=>h⟩⟩
 | n+1=>by
  obtain ⟨ih1,ih2⟩:=zTT s n
  refine ⟨fun q d h => ?_,fun q d obj c many ks vs hc h => ?_⟩
  ·have hE:(zV s q d).pos≤s.length:=by have:=qAD (s:=s) (q:=q) (k:=0) (by omega); exact this
   rw [qJU]
   generalize zV s q d=E at *
   have hk:∀ obj c,c≠0→E.pos<s.length→(vH s n E d obj c).1.pos≤s.length+n+1∧((vH s n E d obj c).1.bad=false→(vH s n E d obj c).1.pos≤s.length):=fun obj c hc hl=>by
    have h1:=qAD (s:=s) (q:=wV E 1) (k:=0) (by simp only [wV]; omega)
    unfold vH
    split
    ·rename_i e
     have:=qOL (s:=s) (q:=blQ s (wV E 1)) (by rw [e]; exact hc)
     simp only [wV] at this ⊢; exact ⟨by omega,fun _=>by omega⟩
    exact ih2 _ _ _ _ _ _ _ hc h1
   split
   ·have:=(qFH hE).1
    exact ⟨by simp only; omega,fun _=>by simp only; omega⟩
   split
   ·rename_i e
    have:=hk false 93 (by decide) (qOL (by rw [e]; decide))
    exact ⟨by simp only; omega,this.2⟩
   split
   ·rename_i e
    have:=hk true 125 (by decide) (qOL (by rw [e]; decide))
    exact ⟨by simp only; omega,this.2⟩
   split
   ·have:=(qZA (s.drop E.pos)).2
    rw [List.length_drop] at this
    have:(vT s E).1.pos≤s.length:=by simp only [vT]; omega
    exact ⟨by omega,fun _=>this⟩
   have hw:∀ w:List UInt8,(qAE s w E).2.pos≤s.length:=fun w=>by
    unfold qAE
    split
    ·rename_i e
     have:=congrArg List.length e
     simp only [wV]; simp at this; omega
    exact hE
   have:(qDQ s E).1.pos≤s.length:=by
    unfold qDQ
    split
    ·exact hw _
    split
    ·exact hw _
    split
    ·exact hw _
    exact hE
   exact ⟨by omega,fun _=>this⟩
  obtain ⟨g1,g2,g3⟩:=qKR (s:=s) (obj:=obj) (q:=q) h
  rw [xW]
  split
  ·exact ⟨by simp only; omega,fun _=>h⟩
  split
  ·rename_i hb
   exact ⟨by simp only; omega,fun h'=>by simp only at h'; rw [hb] at h'; cases h'⟩
  rename_i hb
  have g:=g2 (by simpa using hb)
  obtain ⟨v1,v2⟩:=ih1 (kL s obj q).1 (d+1) g
  generalize kZ s n (kL s obj q).1 (d+1)=A at *
  obtain ⟨b1,b2,b3⟩:=qQO (s:=s) (q:=A.1) (c:=c) (many:=many+1) (k:=n+1) hc (by omega)
  split
  ·exact ⟨by simp only; omega,b2⟩
  by_cases hx:(qCL s c (many+1) A.1).2.bad=true
  ·rw [zIS hx]
   exact ⟨by omega,fun h'=>by rw [qFP hx] at h'; cases h'⟩
  have:=ih2 (qCL s c (many+1) A.1).2 d obj c (many+1) (qRD obj ks vs (kL s obj q).2 A.2).1 (qRD obj ks vs (kL s obj q).2 A.2).2 hc (b2 (by simpa using hx))
  exact ⟨by omega,this.2⟩
theorem qNG {s:List UInt8} {q:RQ} (n d:Nat) (h1:q.bad=false) (h2:q.pos≤s.length) (h:(kZ s n q d).1.bad=false):q.pos<(kZ s n q d).1.pos∧(kZ s n q d).1.pos≤s.length∧(kZ s n q d).1.nodes+(s.length-(kZ s n q d).1.pos)≤q.nodes+(s.length-q.pos):=by
 have h0:SameR s q ⟨s.drop q.pos,q.nodes,false,q.deep,q.big⟩:=⟨rfl,h2,rfl,h1,rfl,rfl,rfl⟩
 obtain ⟨e1,e2⟩:=(qSL s n).1 q _ d h0.bl
 rw [h] at e1
 obtain ⟨e3,_⟩:=e2 e1.symm
 have l1:=((zYO n).1 ⟨s.drop q.pos,q.nodes,false,q.deep,q.big⟩ d).2 e1.symm
 have l2:=((zSE n).1 ⟨s.drop q.pos,q.nodes,false,q.deep,q.big⟩ d e1.symm).2
 have e4:=congrArg List.length e3.left
 have e5:=e3.le
 have e6:=e3.nodes
 simp only [List.length_drop] at l1 l2 e4
 omega
def qMZ (G:qR) (s:List UInt8) (N d:Nat):Prop:=∀ (m:Nat) (q:RQ),m<N→q.bad=false→q.pos≤s.length→2 * (s.length-q.pos)+2≤m→q.nodes+(s.length-q.pos)≤10000000000→d+(s.length-q.pos)≤10000000000 →
 AX Tryz.prog G 131 [.ptr 2 0,.p (.int .i64 d)] [(2,.vars 137 (rqC s q))] (.agg (kZ s m q d).2.cells) [2] [(2,.vars 137 (rqC s (kZ s m q d).1))]
theorem zNE (N:Nat) (s:List UInt8) (q:RQ) (d:Nat) (hs:s.length≤100000) (hp:q.pos<s.length) (hb0:q.bad=false) (hN:2 * (s.length-q.pos)+1≤N) (hN2:N≤1000000) (hk:q.nodes+(s.length-q.pos)≤10000000001) (hd:d+(s.length-q.pos)≤10000000000) (hv:qMZ G s N (d+1)):AX Tryz.prog G 183 [.ptr 2 0,.agg [.p (.int .i64 6),.p (.int .u64 0),.p (.bool false),.p (.str []),.p (.int .i64 0),.p (.str []),.nilsl,.nilsl,.p (.int .i64 0)],.p (.int .i64 d),.p (.int .u8 93)] [(2,.vars 137 (rqC s q))] (.agg (Val.mk 6 0 dc0 [] (vH s N q d false 93).2.1 (vH s N q d false 93).2.2 0).cells) [2] [(2,.vars 137 (rqC s (vH s N q d false 93).1))]:=by
 refine AX.introU tok 900 Tryz.func183 (by kernel_rfl) rfl rfl ?_
 simp only [Tryz.f183,qI,List.map_cons,List.map_nil]
 have hM:vH s N q d false 93=if nxQ s (blQ s (wV q 1))=93 then (wV (blQ s (wV q 1)) 1,[],[]) else kB s N (blQ s (wV q 1)) d false 93 0 [] []:=rfl
 rw [hM]
 have hbx:=jS (G:=G) s (wV q 1) (by omega) (by simp only [wV]; omega)
 have h1:=qAD (s:=s) (q:=wV q 1) (k:=0) (by simp only [wV]; omega)
 have h2:q.pos+1≤(blQ s (wV q 1)).pos:=qLD s (wV q 1)
 have h3:(blQ s (wV q 1)).bad=false:=hb0
 have h4:(blQ s (wV q 1)).nodes=q.nodes:=rfl
 generalize blQ s (wV q 1)=Q at *
 have hnx:=qCY (G:=G) s Q (by omega) (by omega)
 have lC:(((nxQ s Q).toNat:Int)=93)↔nxQ s Q=93:=kE _ 93 (by decide)
 refine rgn [] [[],[0,2,3,5,8]] ?_
 iterate 2 refine op1 tok ?_
 refine qA ?_
 refine AW.beginBox 905 3 6 9 1 (by simp; exact ⟨rfl,rfl⟩) (by simp) (by simp) (by conv=>lhs; simp) ?_
 refine AW.beginBox 905 8 7 31 9 (by simp; exact ⟨rfl,rfl⟩) (by simp) (by simp) (by conv=>lhs; simp) ?_
 refine rgn [] [[],[],[],[],[],[0,2,3,5,8,17,18],[],[0,2,3,5,8]] ?_
 iterate 8 refine op1 tok ?_
 refine qA (rgn [] [[]] ?_)
 refine op1 tok ?_
 refine qZ ?_
 refine qC.stepK [0,2,3,5,8] (yS rfl hbx (by simp)) (by conv=>lhs; simp) rfl ?_
 refine qC.nil ?_
 refine AW.seq (rgn [] [[]] ?_)
 refine op1 tok ?_
 refine qZ ?_
 refine qC.stepK [0,2,3,5,8,23] (yS rfl hnx (by simp)) (by conv=>lhs; simp) rfl ?_
 refine qC.run [[],[0,2,3,5,8,25]] ?_
 iterate 2 refine op1 tok ?_
 refine qA (cnd ?_ ?_)
 ·intro h25
  try simp at h25
  rw [if_pos (lC.1 h25)]
  refine rgn [] [[],[],[],[],[5,8,26,30],[],[],[5,8]] ?_
  iterate 8 refine op1 tok ?_
  refine qA ?_
  refine AW.freeze 3 ?_
  refine AW.freeze 8 ?_
  refine rgn [] [[],[8]] ?_
  iterate 2 refine op1 tok ?_
  refine qA ?_
  exact AW.ret (wD (k:=by simp [dc0]))
 intro h25
 try simp at h25
 rw [if_neg (fun e=>h25 (lC.2 e))]
 refine AW.skip (rgn [] [[]] ?_)
 refine op1 tok ?_
 refine qA (AW.seq (AW.block ?_))
 refine AW.loop (α:=Nat × RQ × Nat × List (List UInt8) × List Val) (fun a=>kB s N Q d false 93 0 [] []=kB s a.1 a.2.1 d false 93 a.2.2.1 a.2.2.2.1 a.2.2.2.2∧1≤a.1∧a.1≤N∧(a.2.1.bad=false→2 * (s.length-a.2.1.pos)+3≤a.1∧a.2.1.pos≤s.length∧a.2.1.nodes+(s.length-a.2.1.pos)≤10000000000∧q.pos+1≤a.2.1.pos)∧a.2.2.1+a.1≤N∧a.2.2.2.2.length+a.1≤N) (fun a=>⟨qV 117 [(0,.ptr 2 0),(2,.p (.int .i64 d)),(3,.p (.int .u8 93)),(5,.ptr 905 0),(8,.ptr 908 0),(9,.p (.int .i64 a.2.2.1))],[2],[(2,.vars 137 (rqC s a.2.1)),(905,.vars 31 [.p (.int .i64 6),.p (.int .u64 0),.p (.bool false),.p (.str []),.p (.int .i64 0),.p (.str []),.ms 3,.ms 8,.p (.int .i64 0)]),(908,.vars 31 [.p (.int .i64 0),.p (.int .u64 0),.p (.bool false),.p (.str []),.p (.int .i64 0),.p (.str []),.nilsl,.nilsl,.p (.int .i64 0)]),(3,.row 9 1 (a.2.2.2.1.map PD.str)),(8,.row 31 9 (a.2.2.2.2.map Val.enc))],900⟩) (fun a=>a.1) ((N,Q,0,[],[])) ⟨rfl,by simp only; omega,by simp,fun _=>by simp only; omega,by simp,by simp⟩ ⟨qB (by simp),rfl,by simp,by simp⟩ ?_
 rintro ⟨n,p,many,ks,vs⟩ ⟨hq,hf,hfN,hpl,hml,hvl⟩
 simp only at hq hf hfN hpl hml hvl
 rw [hq]
 clear hq
 obtain ⟨n,rfl⟩:∃ g,n=g+1:=⟨n-1,by omega⟩
 rw [xW]
 refine AW.seq (rgn [] [[],[],[],[],[0,2,3,5,8,9,38]] ?_)
 iterate 5 refine op1 tok ?_
 refine qA (cnd ?_ ?_)
 ·intro h38
  try simp at h38
  have hb:p.bad=false:=by simpa using h38
  rw [if_neg (show ¬ p.bad=true by rw [hb]; simp)]
  obtain ⟨f1,f2,f3,f4⟩:=hpl hb
  have hbl1:=jS (G:=G) s p (by omega) (by omega)
  have hh:=qKR (s:=s) (obj:=false) (q:=p) f2
  have hd1:kL s false p=(blQ s p,[]):=rfl
  rw [hd1] at hh ⊢
  have hbn:(blQ s p).nodes=p.nodes:=rfl
  simp only at hh ⊢
  generalize blQ s p=H at *
  have hmm:=fun (A:RQ × Val)=>(show qRD false ks vs [] A.2=(ks,vs++[A.2]) from rfl)
  simp only [hmm]
  refine AW.skip (AW.block (rgn [] [[]] ?_))
  refine op1 tok ?_
  refine qZ ?_
  refine qC.stepK [0,2,3,5,8,9] (yS rfl hbl1 (by simp)) (by conv=>lhs; simp) rfl ?_
  refine qC.nil ?_
  refine rgn [] [[]] ?_
  refine op1 tok ?_
  refine qA (AW.seq (rgn [] [[],[],[0,2,3,5,8,9,10,43]] ?_))
  iterate 3 refine op1 tok ?_
  refine qA (cnd ?_ ?_)
  ·intro h43
   try simp at h43
  intro h43
  try simp at h43
  refine AW.skip (AW.seq (rgn [] [[],[],[],[0,2,3,5,8,9,10,64]] ?_))
  iterate 4 refine op1 tok ?_
  refine qA (cnd ?_ ?_)
  ·intro h64
   try simp at h64
   rw [if_pos h64]
   refine AW.freeze 3 ?_
   refine AW.freeze 8 ?_
   refine rgn [] [[],[8]] ?_
   iterate 2 refine op1 tok ?_
   refine qA ?_
   exact AW.ret (wD (k:=by simp [dc0]))
  intro h64
  try simp at h64
  have hhb:H.bad=false:=by simpa using h64
  rw [if_neg (show ¬ H.bad=true by rw [hhb]; simp)]
  have g2:=hh.2.1 hhb
  have hvn:=hv n H (by omega) hhb g2 (by (try simp only); omega) (by (try simp only); omega) (by (try simp only); omega)
  have hps:=((zTT s n).1 H (d+1) g2).1
  have hvf:=qNG (s:=s) (q:=H) n (d+1) hhb g2
  rw [show (((d+1:Nat):Int))=(d:Int)+1 from by omega] at hvn
  generalize kZ s n H (d+1)=A at *
  obtain ⟨a1,v⟩:=A
  simp only at hvn hps hvf ⊢
  have hdm:decide ((200:Int)<(many:Int)+1)=decide (200<many+1):=by rw [decide_eq_decide]; omega
  have hbp:=qQO (s:=s) (q:=a1) (c:=93) (many:=many+1) (k:=n+1) (by decide) (by omega)
  have hbeh:qCL s 93 (many+1) a1=if nxQ s (blQ s ⟨a1.pos,a1.nodes,a1.bad,a1.deep,Bool.or a1.big (decide (200<many+1))⟩)=93 then (true,wV (blQ s ⟨a1.pos,a1.nodes,a1.bad,a1.deep,Bool.or a1.big (decide (200<many+1))⟩) 1) else (false,{ (blQ s ⟨a1.pos,a1.nodes,a1.bad,a1.deep,Bool.or a1.big (decide (200<many+1))⟩) with pos:=(blQ s ⟨a1.pos,a1.nodes,a1.bad,a1.deep,Bool.or a1.big (decide (200<many+1))⟩).pos+1,bad:=Bool.or (blQ s ⟨a1.pos,a1.nodes,a1.bad,a1.deep,Bool.or a1.big (decide (200<many+1))⟩).bad (decide (nxQ s (blQ s ⟨a1.pos,a1.nodes,a1.bad,a1.deep,Bool.or a1.big (decide (200<many+1))⟩)≠44)) }):=rfl
  rw [hbeh] at hbp
  rw [hbeh]
  have hbl2:=jS (G:=G) s ⟨a1.pos,a1.nodes,a1.bad,a1.deep,Bool.or a1.big (decide (200<many+1))⟩ (by omega) (by simp only; omega)
  have hx1:=qAD (s:=s) (q:=⟨a1.pos,a1.nodes,a1.bad,a1.deep,Bool.or a1.big (decide (200<many+1))⟩) (k:=n+1) (by simp only; omega)
  have hx2:(blQ s ⟨a1.pos,a1.nodes,a1.bad,a1.deep,Bool.or a1.big (decide (200<many+1))⟩).bad=a1.bad:=rfl
  have hx3:(blQ s ⟨a1.pos,a1.nodes,a1.bad,a1.deep,Bool.or a1.big (decide (200<many+1))⟩).nodes=a1.nodes:=rfl
  generalize blQ s ⟨a1.pos,a1.nodes,a1.bad,a1.deep,Bool.or a1.big (decide (200<many+1))⟩=B at *
  have hnx2:=qCY (G:=G) s B (by omega) (by omega)
  have l44:(((nxQ s B).toNat:Int)=44)↔nxQ s B=44:=kE _ 44 (by decide)
  have lC2:(((nxQ s B).toNat:Int)=93)↔nxQ s B=93:=kE _ 93 (by decide)
  generalize nxQ s B=c at *
  refine AW.skip (rgn [] [[],[],[]] ?_)
  iterate 3 refine op1 tok ?_
  refine qZ ?_
  refine qC.stepK [0,2,3,5,8,9,10,69] (yS rfl hvn (by simp)) (by conv=>lhs; simp) rfl ?_
  refine qC.run [[],[0,2,3,5,8,9,10,11]] ?_
  iterate 2 refine op1 tok ?_
  refine qA (rgn [] [[],[],[0,2,3,5,8,9,10,11]] ?_)
  iterate 3 refine op1 tok ?_
  refine qA (rgn [] [[],[],[],[],[],[0,2,3,5,8,9,10,11,72,77],[],[],[],[0,2,3,5,8,9,10,11,80,81],[],[0,2,3,5,8,9,10,11]] ?_)
  iterate 6 refine op1 tok ?_ (h:=by intro C; conv=>lhs; simp [hdm])
  iterate 2 refine op2 tok ?_ (h:=by intro C; conv=>lhs; simp [hdm])
  iterate 4 refine op1 tok ?_ (h:=by intro C; conv=>lhs; simp [hdm])
  refine qA (AW.seq (rgn [] [[],[],[0,2,3,5,8,9,10,11,85]] ?_))
  iterate 3 refine op1 tok ?_
  refine qA (cnd ?_ ?_)
  ·intro h85
   try simp at h85
  intro h85
  try simp at h85
  refine rgz [v.enc] [[],[],[],[],[0,2,3,5,8,9,94],[],[0,2,3,5,8,9]] ?_
  iterate 7 refine op1 tok ?_
  refine qA (rgn [] [[]] ?_)
  refine op1 tok ?_
  refine qZ ?_
  refine qC.stepK [0,2,3,5,8,9] (yS rfl hbl2 (by simp)) (by conv=>lhs; simp) rfl ?_
  refine qC.nil ?_
  refine rgn [] [[]] ?_
  refine op1 tok ?_
  refine qZ ?_
  refine qC.stepK [0,2,3,5,8,9,99] (yS rfl hnx2 (by simp)) (by conv=>lhs; simp) rfl ?_
  refine qC.run [[0,2,3,5,8,9,12]] ?_
  refine op1 tok ?_
  refine qA (rgn [] [[],[],[],[],[],[0,2,3,5,8,9,12,104,105],[],[0,2,3,5,8,9,12]] ?_)
  iterate 8 refine op1 tok ?_
  refine qA (AW.seq (rgn [] [[],[],[0,2,3,5,8,9,12,109]] ?_))
  iterate 3 refine op1 tok ?_
  refine qA (cnd ?_ ?_)
  ·intro h109
   try simp at h109
   rw [if_pos (lC2.1 h109)]
   simp only [if_true]
   refine AW.freeze 3 ?_
   refine AW.freeze 8 ?_
   refine rgn [] [[],[8]] ?_
   iterate 2 refine op1 tok ?_
   refine qA ?_
   exact AW.ret (wD (k:=by simp [dc0]))
  intro h109
  try simp at h109
  rw [if_neg (fun e=>h109 (lC2.2 e))]
  rw [if_neg (fun e=>h109 (lC2.2 e))] at hbp
  simp only [Bool.false_eq_true,if_false]
  simp only at hbp
  refine AW.skip (rgn [] [[],[0,2,3,5,8,9,112]] ?_)
  iterate 2 refine op1 tok ?_
  refine qA (cnd ?_ ?_)
  ·intro h112
   try simp at h112
   have hn4:c≠44:=fun e=>h112 (l44.2 e)
   simp only [decide_eq_true (show c≠44 from hn4),Bool.or_true]
   refine rgz [] [[],[],[],[0,2,3,5,8,9]] ?_
   iterate 4 refine op1 tok ?_
   refine qA ?_
   exact ⟨(n,⟨B.pos+1,B.nodes,true,B.deep,B.big⟩,many+1,ks,vs++[v]),⟨rfl,by omega,by omega,fun h=>(by cases h),by simp only; omega,by simp; omega⟩,by simp only; omega,qB (by simp),rfl,by simp,by simp⟩
  intro h112
  try simp at h112
  have hn4:c=44:=l44.1 (by omega)
  have hd0:decide (c≠44)=false:=by simp [hn4]
  rw [hd0] at hbp ⊢
  simp only [Bool.or_false] at hbp ⊢
  have hinv:B.bad=false→2 * (s.length-(B.pos+1))+3≤n∧B.pos+1≤s.length∧B.nodes+(s.length-(B.pos+1))≤10000000000∧q.pos+1≤B.pos+1:=fun h=>by
   rw [hx2] at h
   have hvf:=hvf h
   have hb1:=hbp.2.1 (by rw [hx2]; exact h)
   have hb2:=hbp.2.2
   omega
  refine AW.skip ?_
  exact ⟨(n,⟨B.pos+1,B.nodes,B.bad,B.deep,B.big⟩,many+1,ks,vs++[v]),⟨rfl,by omega,by omega,hinv,by simp only; omega,by simp; omega⟩,by simp only; omega,qB (by simp),rfl,by simp,by simp⟩
 intro h38
 try simp at h38
 rw [if_pos (show p.bad=true by simpa using h38)]
 refine AW.exit ?_
 simp
 refine AW.freeze 3 ?_
 refine AW.freeze 8 ?_
 refine rgn [] [[],[8]] ?_
 iterate 2 refine op1 tok ?_
 refine qA ?_
 exact AW.ret (wD (k:=by simp [dc0]))
theorem zND (N:Nat) (s:List UInt8) (q:RQ) (d:Nat) (hs:s.length≤100000) (hp:q.pos<s.length) (hb0:q.bad=false) (hN:2 * (s.length-q.pos)+1≤N) (hN2:N≤1000000) (hk:q.nodes+(s.length-q.pos)≤10000000001) (hd:d+(s.length-q.pos)≤10000000000) (hv:qMZ G s N (d+1)) (hU:qQS G s):AX Tryz.prog G 183 [.ptr 2 0,.agg [.p (.int .i64 7),.p (.int .u64 0),.p (.bool false),.p (.str []),.p (.int .i64 0),.p (.str []),.nilsl,.nilsl,.p (.int .i64 0)],.p (.int .i64 d),.p (.int .u8 125)] [(2,.vars 137 (rqC s q))] (.agg (Val.mk 7 0 dc0 [] (vH s N q d true 125).2.1 (vH s N q d true 125).2.2 0).cells) [2] [(2,.vars 137 (rqC s (vH s N q d true 125).1))]:=by
 refine AX.introU tok 900 Tryz.func183 (by kernel_rfl) rfl rfl ?_
 simp only [Tryz.f183,qI,List.map_cons,List.map_nil]
 have hM:vH s N q d true 125=if nxQ s (blQ s (wV q 1))=125 then (wV (blQ s (wV q 1)) 1,[],[]) else kB s N (blQ s (wV q 1)) d true 125 0 [] []:=rfl
 rw [hM]
 have hbx:=jS (G:=G) s (wV q 1) (by omega) (by simp only [wV]; omega)
 have h1:=qAD (s:=s) (q:=wV q 1) (k:=0) (by simp only [wV]; omega)
 have h2:q.pos+1≤(blQ s (wV q 1)).pos:=qLD s (wV q 1)
 have h3:(blQ s (wV q 1)).bad=false:=hb0
 have h4:(blQ s (wV q 1)).nodes=q.nodes:=rfl
 generalize blQ s (wV q 1)=Q at *
 have hnx:=qCY (G:=G) s Q (by omega) (by omega)
 have lC:(((nxQ s Q).toNat:Int)=125)↔nxQ s Q=125:=kE _ 125 (by decide)
 refine rgn [] [[],[0,2,3,5,8]] ?_
 iterate 2 refine op1 tok ?_
 refine qA ?_
 refine AW.beginBox 905 3 6 9 1 (by simp; exact ⟨rfl,rfl⟩) (by simp) (by simp) (by conv=>lhs; simp) ?_
 refine AW.beginBox 905 8 7 31 9 (by simp; exact ⟨rfl,rfl⟩) (by simp) (by simp) (by conv=>lhs; simp) ?_
 refine rgn [] [[],[],[],[],[],[0,2,3,5,8,17,18],[],[0,2,3,5,8]] ?_
 iterate 8 refine op1 tok ?_
 refine qA (rgn [] [[]] ?_)
 refine op1 tok ?_
 refine qZ ?_
 refine qC.stepK [0,2,3,5,8] (yS rfl hbx (by simp)) (by conv=>lhs; simp) rfl ?_
 refine qC.nil ?_
 refine AW.seq (rgn [] [[]] ?_)
 refine op1 tok ?_
 refine qZ ?_
 refine qC.stepK [0,2,3,5,8,23] (yS rfl hnx (by simp)) (by conv=>lhs; simp) rfl ?_
 refine qC.run [[],[0,2,3,5,8,25]] ?_
 iterate 2 refine op1 tok ?_
 refine qA (cnd ?_ ?_)
 ·intro h25
  try simp at h25
  rw [if_pos (lC.1 h25)]
  refine rgn [] [[],[],[],[],[5,8,26,30],[],[],[5,8]] ?_
  iterate 8 refine op1 tok ?_
  refine qA ?_
  refine AW.freeze 3 ?_
  refine AW.freeze 8 ?_
  refine rgn [] [[],[8]] ?_
  iterate 2 refine op1 tok ?_
  refine qA ?_
  exact AW.ret (wD (k:=by simp [dc0]))
 intro h25
 try simp at h25
 rw [if_neg (fun e=>h25 (lC.2 e))]
 refine AW.skip (rgn [] [[]] ?_)
 refine op1 tok ?_
 refine qA (AW.seq (AW.block ?_))
 refine AW.loop (α:=Nat × RQ × Nat × List (List UInt8) × List Val) (fun a=>kB s N Q d true 125 0 [] []=kB s a.1 a.2.1 d true 125 a.2.2.1 a.2.2.2.1 a.2.2.2.2∧1≤a.1∧a.1≤N∧(a.2.1.bad=false→2 * (s.length-a.2.1.pos)+3≤a.1∧a.2.1.pos≤s.length∧a.2.1.nodes+(s.length-a.2.1.pos)≤10000000000∧q.pos+1≤a.2.1.pos)∧a.2.2.1+a.1≤N∧a.2.2.2.2.length+a.1≤N∧a.2.2.2.1.length=a.2.2.2.2.length) (fun a=>⟨qV 117 [(0,.ptr 2 0),(2,.p (.int .i64 d)),(3,.p (.int .u8 125)),(5,.ptr 905 0),(8,.ptr 908 0),(9,.p (.int .i64 a.2.2.1))],[2],[(2,.vars 137 (rqC s a.2.1)),(905,.vars 31 [.p (.int .i64 7),.p (.int .u64 0),.p (.bool false),.p (.str []),.p (.int .i64 0),.p (.str []),.ms 3,.ms 8,.p (.int .i64 0)]),(908,.vars 31 [.p (.int .i64 0),.p (.int .u64 0),.p (.bool false),.p (.str []),.p (.int .i64 0),.p (.str []),.nilsl,.nilsl,.p (.int .i64 0)]),(3,.row 9 1 (a.2.2.2.1.map PD.str)),(8,.row 31 9 (a.2.2.2.2.map Val.enc))],900⟩) (fun a=>a.1) ((N,Q,0,[],[])) ⟨rfl,by simp only; omega,by simp,fun _=>by simp only; omega,by simp,by simp,rfl⟩ ⟨qB (by simp),rfl,by simp,by simp⟩ ?_
 rintro ⟨n,p,many,ks,vs⟩ ⟨hq,hf,hfN,hpl,hml,hvl,hkl⟩
 simp only at hq hf hfN hpl hml hvl hkl
 rw [hq]
 clear hq
 obtain ⟨n,rfl⟩:∃ g,n=g+1:=⟨n-1,by omega⟩
 rw [xW]
 refine AW.seq (rgn [] [[],[],[],[],[0,2,3,5,8,9,38]] ?_)
 iterate 5 refine op1 tok ?_
 refine qA (cnd ?_ ?_)
 ·intro h38
  try simp at h38
  have hb:p.bad=false:=by simpa using h38
  rw [if_neg (show ¬ p.bad=true by rw [hb]; simp)]
  obtain ⟨f1,f2,f3,f4⟩:=hpl hb
  have hbl1:=jS (G:=G) s p (by omega) (by omega)
  have hh:=qKR (s:=s) (obj:=true) (q:=p) f2
  have hp1:=qAD (s:=s) (q:=p) (k:=0) (by omega)
  have hd1:kL s true p=qJB s (blQ s p):=rfl
  have hqa:=qOD (G:=G) s (blQ s p) (by omega) (by omega) hU
  have hqp:=qFH (s:=s) (q:=blQ s p) hp1
  have hky:qJB s (blQ s p)=({ (blQ s (zP s (blQ s p)).1) with pos:=(blQ s (zP s (blQ s p)).1).pos+1,bad:=Bool.or (blQ s (zP s (blQ s p)).1).bad (decide (nxQ s (blQ s (zP s (blQ s p)).1)≠58)) },(zP s (blQ s p)).2):=rfl
  have hqn:(zP s (blQ s p)).1.nodes=p.nodes:=by unfold zP; split <;> rfl
  have hbl3:=jS (G:=G) s (zP s (blQ s p)).1 (by omega) (by omega)
  have hb3:=qAD (s:=s) (q:=(zP s (blQ s p)).1) (k:=0) (by omega)
  have hbn3:(blQ s (zP s (blQ s p)).1).nodes=(zP s (blQ s p)).1.nodes:=rfl
  have hnx3:=qCY (G:=G) s (blQ s (zP s (blQ s p)).1) (by omega) (by omega)
  rw [hky] at hd1
  rw [hd1] at hh ⊢
  generalize blQ s (zP s (blQ s p)).1=B3 at *
  generalize zP s (blQ s p)=QK at *
  obtain ⟨Q2,key⟩:=QK
  have l58:(((nxQ s B3).toNat:Int)=58)↔nxQ s B3=58:=kE _ 58 (by decide)
  generalize nxQ s B3=c3 at *
  have hpl2:=fun v=>qVJ hkl key v
  generalize hbd:Bool.or B3.bad (decide (c3≠58))=bd at *
  simp only at hh hqa hqp hqn hbl3 hb3 hbn3 hnx3 ⊢
  have hmm:=fun (A:RQ × Val)=>(show qRD true ks vs key A.2=xE ks vs key A.2 from rfl)
  simp only [hmm]
  refine AW.skip (AW.block (rgn [] [[]] ?_))
  refine op1 tok ?_
  refine qZ ?_
  refine qC.stepK [0,2,3,5,8,9] (yS rfl hbl1 (by simp)) (by conv=>lhs; simp) rfl ?_
  refine qC.nil ?_
  refine rgn [] [[]] ?_
  refine op1 tok ?_
  refine qA (AW.seq (rgn [] [[],[],[0,2,3,5,8,9,10,43]] ?_))
  iterate 3 refine op1 tok ?_
  refine qA (cnd ?_ ?_)
  ·intro h43
   try simp at h43
   refine rgn [] [[]] ?_
   refine op1 tok ?_
   refine qZ ?_
   refine qC.stepK [0,2,3,5,8,9,45] (yS rfl hqa (by simp)) (by conv=>lhs; simp) rfl ?_
   refine qC.run [[0,2,3,5,8,9,10]] ?_
   refine op1 tok ?_
   refine qA (rgn [] [[]] ?_)
   refine op1 tok ?_
   refine qZ ?_
   refine qC.stepK [0,2,3,5,8,9,10] (yS rfl hbl3 (by simp)) (by conv=>lhs; simp) rfl ?_
   refine qC.nil ?_
   refine AW.join (α:=Unit) (fun _=>True) (fun _=>⟨qV 117 [(0,.ptr 2 0),(2,.p (.int .i64 d)),(3,.p (.int .u8 125)),(5,.ptr 905 0),(8,.ptr 908 0),(9,.p (.int .i64 many)),(10,.p (.str key))],[2],[(2,.vars 137 [.p (.str s),.p (.int .i64 B3.pos),.p (.int .i64 B3.nodes),.p (.bool bd),.p (.bool B3.deep),.p (.bool B3.big)]),(905,.vars 31 [.p (.int .i64 7),.p (.int .u64 0),.p (.bool false),.p (.str []),.p (.int .i64 0),.p (.str []),.ms 3,.ms 8,.p (.int .i64 0)]),(908,.vars 31 [.p (.int .i64 0),.p (.int .u64 0),.p (.bool false),.p (.str []),.p (.int .i64 0),.p (.str []),.nilsl,.nilsl,.p (.int .i64 0)]),(3,.row 9 1 (ks.map PD.str)),(8,.row 31 9 (vs.map Val.enc))],900⟩) ?_ ?_
   ·
    refine rgn [] [[]] ?_
    refine op1 tok ?_
    refine qZ ?_
    refine qC.stepK [0,2,3,5,8,9,10,49] (yS rfl hnx3 (by simp)) (by conv=>lhs; simp) rfl ?_
    refine qC.run [[0,2,3,5,8,9,10,50]] ?_
    refine op1 tok ?_
    refine qA (cnd ?_ ?_)
    ·intro h50
     try simp at h50
     have hbt:bd=true:=by rw [← hbd,decide_eq_true (show c3≠58 from fun e=>h50 (l58.2 e))]; simp
     refine rgz [] [[],[],[],[0,2,3,5,8,9,10]] ?_
     iterate 4 refine op1 tok ?_
     refine qA ?_
     exact ⟨(),trivial,qB (by simp [hbt]),rfl,by simp [hbt],by simp [hbt]⟩
    intro h50
    try simp at h50
    have hbt:B3.bad=bd:=by rw [← hbd,decide_eq_false (show ¬ c3≠58 from fun e=>e (l58.1 (by omega)))]; simp
    refine AW.skip ?_
    exact ⟨(),trivial,qB (by simp [hbt]),rfl,by simp [hbt],by simp [hbt]⟩
   ·
    rintro _ _
    refine rgz [] [[],[],[],[],[],[0,2,3,5,8,9,10,58,59],[],[0,2,3,5,8,9,10]] ?_
    iterate 8 refine op1 tok ?_
    refine qA (AW.seq (rgn [] [[],[],[],[0,2,3,5,8,9,10,64]] ?_))
    iterate 4 refine op1 tok ?_
    refine qA (cnd ?_ ?_)
    ·intro h64
     try simp at h64
     rw [if_pos h64]
     refine AW.freeze 3 ?_
     refine AW.freeze 8 ?_
     refine rgn [] [[],[8]] ?_
     iterate 2 refine op1 tok ?_
     refine qA ?_
     exact AW.ret (wD (k:=by simp [dc0]))
    intro h64
    try simp at h64
    have hhb:(⟨B3.pos+1,B3.nodes,bd,B3.deep,B3.big⟩:RQ).bad=false:=by simpa using h64
    rw [if_neg (show ¬ (⟨B3.pos+1,B3.nodes,bd,B3.deep,B3.big⟩:RQ).bad=true by rw [hhb]; simp)]
    have g2:=hh.2.1 hhb
    have hvn:=hv n (⟨B3.pos+1,B3.nodes,bd,B3.deep,B3.big⟩:RQ) (by omega) hhb g2 (by (try simp only); omega) (by (try simp only); omega) (by (try simp only); omega)
    have hps:=((zTT s n).1 (⟨B3.pos+1,B3.nodes,bd,B3.deep,B3.big⟩:RQ) (d+1) g2).1
    have hvf:=qNG (s:=s) (q:=(⟨B3.pos+1,B3.nodes,bd,B3.deep,B3.big⟩:RQ)) n (d+1) hhb g2
    rw [show (((d+1:Nat):Int))=(d:Int)+1 from by omega] at hvn
    generalize kZ s n (⟨B3.pos+1,B3.nodes,bd,B3.deep,B3.big⟩:RQ) (d+1)=A at *
    obtain ⟨a1,v⟩:=A
    simp only at hvn hps hvf ⊢
    have hdm:decide ((200:Int)<(many:Int)+1)=decide (200<many+1):=by rw [decide_eq_decide]; omega
    have hbp:=qQO (s:=s) (q:=a1) (c:=125) (many:=many+1) (k:=n+1) (by decide) (by omega)
    have hbeh:qCL s 125 (many+1) a1=if nxQ s (blQ s ⟨a1.pos,a1.nodes,a1.bad,a1.deep,Bool.or a1.big (decide (200<many+1))⟩)=125 then (true,wV (blQ s ⟨a1.pos,a1.nodes,a1.bad,a1.deep,Bool.or a1.big (decide (200<many+1))⟩) 1) else (false,{ (blQ s ⟨a1.pos,a1.nodes,a1.bad,a1.deep,Bool.or a1.big (decide (200<many+1))⟩) with pos:=(blQ s ⟨a1.pos,a1.nodes,a1.bad,a1.deep,Bool.or a1.big (decide (200<many+1))⟩).pos+1,bad:=Bool.or (blQ s ⟨a1.pos,a1.nodes,a1.bad,a1.deep,Bool.or a1.big (decide (200<many+1))⟩).bad (decide (nxQ s (blQ s ⟨a1.pos,a1.nodes,a1.bad,a1.deep,Bool.or a1.big (decide (200<many+1))⟩)≠44)) }):=rfl
    rw [hbeh] at hbp
    rw [hbeh]
    have hbl2:=jS (G:=G) s ⟨a1.pos,a1.nodes,a1.bad,a1.deep,Bool.or a1.big (decide (200<many+1))⟩ (by omega) (by simp only; omega)
    have hx1:=qAD (s:=s) (q:=⟨a1.pos,a1.nodes,a1.bad,a1.deep,Bool.or a1.big (decide (200<many+1))⟩) (k:=n+1) (by simp only; omega)
    have hx2:(blQ s ⟨a1.pos,a1.nodes,a1.bad,a1.deep,Bool.or a1.big (decide (200<many+1))⟩).bad=a1.bad:=rfl
    have hx3:(blQ s ⟨a1.pos,a1.nodes,a1.bad,a1.deep,Bool.or a1.big (decide (200<many+1))⟩).nodes=a1.nodes:=rfl
    generalize blQ s ⟨a1.pos,a1.nodes,a1.bad,a1.deep,Bool.or a1.big (decide (200<many+1))⟩=B at *
    have hnx2:=qCY (G:=G) s B (by omega) (by omega)
    have l44:(((nxQ s B).toNat:Int)=44)↔nxQ s B=44:=kE _ 44 (by decide)
    have lC2:(((nxQ s B).toNat:Int)=125)↔nxQ s B=125:=kE _ 125 (by decide)
    generalize nxQ s B=c at *
    refine AW.skip (rgn [] [[],[],[]] ?_)
    iterate 3 refine op1 tok ?_
    refine qZ ?_
    refine qC.stepK [0,2,3,5,8,9,10,69] (yS rfl hvn (by simp)) (by conv=>lhs; simp) rfl ?_
    refine qC.run [[],[0,2,3,5,8,9,10,11]] ?_
    iterate 2 refine op1 tok ?_
    refine qA (rgn [] [[],[],[0,2,3,5,8,9,10,11]] ?_)
    iterate 3 refine op1 tok ?_
    refine qA (rgn [] [[],[],[],[],[],[0,2,3,5,8,9,10,11,72,77],[],[],[],[0,2,3,5,8,9,10,11,80,81],[],[0,2,3,5,8,9,10,11]] ?_)
    iterate 6 refine op1 tok ?_ (h:=by intro C; conv=>lhs; simp [hdm])
    iterate 2 refine op2 tok ?_ (h:=by intro C; conv=>lhs; simp [hdm])
    iterate 4 refine op1 tok ?_ (h:=by intro C; conv=>lhs; simp [hdm])
    refine qA (AW.seq (rgn [] [[],[],[0,2,3,5,8,9,10,11,85]] ?_))
    iterate 3 refine op1 tok ?_
    refine qA (cnd ?_ ?_)
    ·intro h85
     try simp at h85
     refine rgz [] [[],[],[]] ?_
     iterate 3 refine op1 tok ?_
     refine qZ ?_
     refine qC.stepK [0,2,3,5,8,9,89] (yS rfl (zQI ks vs key v hkl (by omega)) (by simp)) (by conv=>lhs; simp) rfl ?_
     refine qC.run [[0,2,3,5,8,9]] ?_
     refine op1 tok ?_
     refine qA (rgn [] [[]] ?_)
     refine op1 tok ?_
     refine qZ ?_
     refine qC.stepK [0,2,3,5,8,9] (yS rfl hbl2 (by simp)) (by conv=>lhs; simp) rfl ?_
     refine qC.nil ?_
     refine rgn [] [[]] ?_
     refine op1 tok ?_
     refine qZ ?_
     refine qC.stepK [0,2,3,5,8,9,99] (yS rfl hnx2 (by simp)) (by conv=>lhs; simp) rfl ?_
     refine qC.run [[0,2,3,5,8,9,12]] ?_
     refine op1 tok ?_
     refine qA (rgn [] [[],[],[],[],[],[0,2,3,5,8,9,12,104,105],[],[0,2,3,5,8,9,12]] ?_)
     iterate 8 refine op1 tok ?_
     refine qA (AW.seq (rgn [] [[],[],[0,2,3,5,8,9,12,109]] ?_))
     iterate 3 refine op1 tok ?_
     refine qA (cnd ?_ ?_)
     ·intro h109
      try simp at h109
      rw [if_pos (lC2.1 h109)]
      simp only [if_true]
      refine AW.freeze 3 ?_
      refine AW.freeze 8 ?_
      refine rgn [] [[],[8]] ?_
      iterate 2 refine op1 tok ?_
      refine qA ?_
      exact AW.ret (wD (k:=by simp [dc0]))
     intro h109
     try simp at h109
     rw [if_neg (fun e=>h109 (lC2.2 e))]
     rw [if_neg (fun e=>h109 (lC2.2 e))] at hbp
     simp only [Bool.false_eq_true,if_false]
     simp only at hbp
     refine AW.skip (rgn [] [[],[0,2,3,5,8,9,112]] ?_)
     iterate 2 refine op1 tok ?_
     refine qA (cnd ?_ ?_)
     ·intro h112
      try simp at h112
      have hn4:c≠44:=fun e=>h112 (l44.2 e)
      have hpl3:=hpl2 v
      simp only [decide_eq_true (show c≠44 from hn4),Bool.or_true]
      refine rgz [] [[],[],[],[0,2,3,5,8,9]] ?_
      iterate 4 refine op1 tok ?_
      refine qA ?_
      exact ⟨(n,⟨B.pos+1,B.nodes,true,B.deep,B.big⟩,many+1,(xE ks vs key v).1,(xE ks vs key v).2),⟨rfl,by omega,by omega,fun h=>(by cases h),by simp only; omega,by (simp only; omega),(qVJ hkl key v).1⟩,by simp only; omega,qB (by simp),rfl,by simp,by simp⟩
     intro h112
     try simp at h112
     have hn4:c=44:=l44.1 (by omega)
     have hd0:decide (c≠44)=false:=by simp [hn4]
     rw [hd0] at hbp ⊢
     simp only [Bool.or_false] at hbp ⊢
     have hpl3:=hpl2 v
     have hinv:B.bad=false→2 * (s.length-(B.pos+1))+3≤n∧B.pos+1≤s.length∧B.nodes+(s.length-(B.pos+1))≤10000000000∧q.pos+1≤B.pos+1:=fun h=>by
      rw [hx2] at h
      have hvf:=hvf h
      have hb1:=hbp.2.1 (by rw [hx2]; exact h)
      have hb2:=hbp.2.2
      omega
     refine AW.skip ?_
     exact ⟨(n,⟨B.pos+1,B.nodes,B.bad,B.deep,B.big⟩,many+1,(xE ks vs key v).1,(xE ks vs key v).2),⟨rfl,by omega,by omega,hinv,by simp only; omega,by (simp only; omega),(qVJ hkl key v).1⟩,by simp only; omega,qB (by simp),rfl,by simp,by simp⟩
    intro h85
    try simp at h85
  intro h43
  try simp at h43
 intro h38
 try simp at h38
 rw [if_pos (show p.bad=true by simpa using h38)]
 refine AW.exit ?_
 simp
 refine AW.freeze 3 ?_
 refine AW.freeze 8 ?_
 refine rgn [] [[],[8]] ?_
 iterate 2 refine op1 tok ?_
 refine qA ?_
 exact AW.ret (wD (k:=by simp [dc0]))
end Go.Proofs.YtdojfdaglbphlaaGreatDoor
namespace Go.Proofs.YtdojfdaglbphlaaGreatDoor
open Sy Go
set_option maxRecDepth 100000
set_option maxHeartbeats 4000000
set_option linter.unusedSimpArgs false
set_option linter.unusedVariables false
variable {G:qR}
theorem qNC {s w:List UInt8} {q:RQ} (h:(qAE s w q).1=false):(qAE s w q).2=q:=by
 unfold qAE at h ⊢
 split
 ·rename_i e; rw [if_pos e] at h; cases h
 rfl
theorem zTZ (c:UInt8):qEE c=true↔((c.toNat:Int)=45∨48≤(c.toNat:Int)∧(c.toNat:Int)≤57):=by
 rw [show ((c.toNat:Int)=45)=(c=45) from propext (kE c 45 (by decide))]
 unfold qEE
 rw [Bool.or_eq_true,decide_eq_true_eq,zK]
 constructor
 ·rintro (h | h)
  ·exact .inl h
  exact .inr (by omega)
 rintro (h | h)
 ·exact .inl h
 exact .inr (by omega)
theorem qNE (n:Nat) (s:List UInt8) (q:RQ) (d:Nat) (hs:s.length≤100000) (hb0:q.bad=false) (hp:q.pos≤s.length) (hN:2 * (s.length-q.pos)+2≤n+1) (hN2:n≤1000000) (hk:q.nodes+(s.length-q.pos)≤10000000000) (hd:d+(s.length-q.pos)≤10000000000) (ih:∀ e,qMZ G s n e) (hU:qQS G s) (hNu:qUK G s):AX Tryz.prog G 131 [.ptr 2 0,.p (.int .i64 d)] [(2,.vars 137 (rqC s q))] (.agg (kZ s (n+1) q d).2.cells) [2] [(2,.vars 137 (rqC s (kZ s (n+1) q d).1))]:=by
 refine AX.introU tok 900 Tryz.func131 (by kernel_rfl) rfl rfl ?_
 simp only [Tryz.f131,qI,List.map_cons,List.map_nil]
 rw [qJU]
 have hbl:=jS (G:=G) s q (by omega) (by omega)
 have hx:=qAD (s:=s) (q:=q) (k:=0) (by omega)
 have hx2:=qLD s q
 have hxn:(blQ s q).nodes=q.nodes:=rfl
 have hxb:(blQ s q).bad=q.bad:=rfl
 have e1:(blQ s q).pos=(zV s q d).pos:=rfl
 have e2:((blQ s q).nodes:Int)+1=((zV s q d).nodes:Int):=by show ((blQ s q).nodes:Int)+1=(((blQ s q).nodes+1:Nat):Int); omega
 have e3:(blQ s q).bad=(zV s q d).bad:=rfl
 have e4:((blQ s q).deep || decide ((12:Int)<(d:Int)))=(zV s q d).deep:=by
  rw [show decide ((12:Int)<(d:Int))=decide (12<d) by rw [decide_eq_decide]; omega]; rfl
 have e5:((blQ s q).big || decide ((400:Int)<((zV s q d).nodes:Int)))=(zV s q d).big:=by
  rw [show decide ((400:Int)<((zV s q d).nodes:Int))=decide (400<(zV s q d).nodes) by rw [decide_eq_decide]; omega]; rfl
 have e6:(zV s q d).nodes=q.nodes+1:=rfl
 have e7:(zV s q d).bad=q.bad:=rfl
 generalize zV s q d=E at *
 generalize blQ s q=Q at *
 have hnx:=qCY (G:=G) s E (by omega) (by omega)
 have hnl:=qOL (s:=s) (q:=E)
 have hw:=fun w hw=>zKM (G:=G) s E w (by omega) (by omega) hw
 have l34:(((nxQ s E).toNat:Int)=34)↔nxQ s E=34:=kE _ 34 (by decide)
 have l91:(((nxQ s E).toNat:Int)=91)↔nxQ s E=91:=kE _ 91 (by decide)
 have l123:(((nxQ s E).toNat:Int)=123)↔nxQ s E=123:=kE _ 123 (by decide)
 have lnum:=zTZ (nxQ s E)
 generalize nxQ s E=c at *
 refine rgn [] [[]] ?_
 refine op1 tok ?_
 refine qA (rgn [] [[]] ?_)
 refine op1 tok ?_
 refine qZ ?_
 refine qC.stepK [0,1,4] (yS rfl hbl (by simp)) (by conv=>lhs; simp) rfl ?_
 refine qC.nil ?_
 refine rgn [] [[],[],[],[],[],[0,1,4,12,13],[],[0,1,4]] ?_
 iterate 8 refine op1 tok ?_ (h:=by intro C; conv=>lhs; simp [e1,e2,e3])
 refine qA (rgn [] [[],[],[],[],[],[0,1,4,15,20],[],[],[],[0,1,4,23,24],[],[0,1,4]] ?_)
 iterate 6 refine op1 tok ?_ (h:=by intro C; conv=>lhs; simp [e4])
 iterate 2 refine op2 tok ?_ (h:=by intro C; conv=>lhs; simp [e4])
 iterate 4 refine op1 tok ?_ (h:=by intro C; conv=>lhs; simp [e4])
 refine qA (rgn [] [[],[],[],[],[],[0,1,4,26,31],[],[],[],[],[0,1,4,26,31,36],[],[],[0,1,4,37,39],[0,1,4]] ?_)
 iterate 6 refine op1 tok ?_ (h:=by intro C; conv=>lhs; simp [e5])
 iterate 5 refine op2 tok ?_ (h:=by intro C; conv=>lhs; simp [e5])
 iterate 4 refine op1 tok ?_ (h:=by intro C; conv=>lhs; simp [e5])
 refine qA (rgn [] [[]] ?_)
 refine op1 tok ?_
 refine qZ ?_
 refine qC.stepK [0,1,4,41] (yS rfl hnx (by simp [e1,e3])) (by conv=>lhs; simp) rfl ?_
 refine qC.run [[0,1,4,5]] ?_
 refine op1 tok ?_
 refine qA (AW.seq (AW.block (rgn [] [[],[],[0,1,4,5,42]] ?_)))
 iterate 3 refine op1 tok ?_
 refine qA (cnd ?_ ?_)
 ·intro h42
  try simp at h42
  rw [if_pos (l34.1 h42)]
  refine rgn [] [[]] ?_
  refine op1 tok ?_
  refine qZ ?_
  refine qC.stepK [4,46] (yS rfl (qOD s E (by omega) (by omega) hU) (by simp)) (by conv=>lhs; simp) rfl ?_
  refine qC.run [[],[4]] ?_
  iterate 2 refine op1 tok ?_
  refine qA ?_
  refine AW.fillE 904 [none,none,none,none,none,none,some 1,some 9,none] (by conv=>lhs; simp) ?_
  exact AW.ret (wD (k:=by simp [dc0]))
 intro h42
 try simp at h42
 rw [if_neg (fun e=>h42 (l34.2 e))]
 refine rgn [] [[],[],[0,1,4,5,48]] ?_
 iterate 3 refine op1 tok ?_
 refine qA (cnd ?_ ?_)
 ·intro h48
  try simp at h48
  have hc:=l91.1 h48
  rw [if_pos hc]
  have hl:=hnl (by rw [hc]; decide)
  refine rgn [] [[],[],[]] ?_
  iterate 3 refine op1 tok ?_
  refine qZ ?_
  refine qC.stepK [4,54] (yS rfl (zNE n s E d (by omega) hl (by rw [e7]; exact hb0) (by omega) (by omega) (by omega) (by omega) (ih _)) (by simp)) (by conv=>lhs; simp) rfl ?_
  refine qC.run [[4]] ?_
  refine op1 tok ?_
  refine qA ?_
  exact AW.ret (wD (k:=by simp [dc0]))
 intro h48
 try simp at h48
 rw [if_neg (fun e=>h48 (l91.2 e))]
 refine rgn [] [[],[],[0,1,4,5,55]] ?_
 iterate 3 refine op1 tok ?_
 refine qA (cnd ?_ ?_)
 ·intro h55
  try simp at h55
  have hc:=l123.1 h55
  rw [if_pos hc]
  have hl:=hnl (by rw [hc]; decide)
  refine rgn [] [[],[],[]] ?_
  iterate 3 refine op1 tok ?_
  refine qZ ?_
  refine qC.stepK [4,61] (yS rfl (zND n s E d (by omega) hl (by rw [e7]; exact hb0) (by omega) (by omega) (by omega) (by omega) (ih _) hU) (by simp)) (by conv=>lhs; simp) rfl ?_
  refine qC.run [[4]] ?_
  refine op1 tok ?_
  refine qA ?_
  exact AW.ret (wD (k:=by simp [dc0]))
 intro h55
 try simp at h55
 rw [if_neg (fun e=>h55 (l123.2 e))]
 refine rgn [] [[],[],[],[],[],[0,4,5,65,68],[],[],[0,4,65,71],[],[0,4,62]] ?_
 iterate 3 refine op1 tok ?_
 iterate 6 refine op2 tok ?_
 iterate 2 refine op1 tok ?_
 refine qA (cnd ?_ ?_)
 ·intro h62
  try simp at h62
  rw [if_pos (lnum.2 h62)]
  refine rgn [] [[]] ?_
  refine op1 tok ?_
  refine qZ ?_
  refine qC.stepK [4,74] (yS rfl (zCU s E (by omega) (by omega) hNu) (by simp)) (by conv=>lhs; simp) rfl ?_
  refine qC.run [[4]] ?_
  refine op1 tok ?_
  refine qA ?_
  exact AW.ret (wD (k:=by simp [dc0]))
 intro h62
 try simp at h62
 rw [if_neg (fun e=>by have:=lnum.1 e; omega)]
 unfold qDQ
 refine rgn [] [[]] ?_
 refine op1 tok ?_
 refine qZ ?_
 refine qC.stepK [0,4,77] (yS rfl (hw qAS (by decide)) (by simp [qAS])) (by conv=>lhs; simp) rfl ?_
 refine qC.run [[0,4,75]] ?_
 refine op1 tok ?_
 refine qA (cnd ?_ ?_)
 ·intro h75
  try simp at h75
  rw [if_pos h75]
  refine rgn [] [[],[4]] ?_
  iterate 2 refine op1 tok ?_
  refine qA ?_
  refine AW.fillE 904 [none,none,none,none,none,none,some 1,some 9,none] (by conv=>lhs; simp) ?_
  exact AW.ret (wD (k:=by simp [dc0]))
 intro h75
 try simp at h75
 rw [if_neg (by rw [h75]; simp)]
 have hno:=qNC h75
 simp only [hno]
 refine rgn [] [[]] ?_
 refine op1 tok ?_
 refine qZ ?_
 refine qC.stepK [0,4,81] (yS rfl (hw qAR (by decide)) (by simp [qAR])) (by conv=>lhs; simp) rfl ?_
 refine qC.run [[0,4,79]] ?_
 refine op1 tok ?_
 refine qA (cnd ?_ ?_)
 ·intro h79
  try simp at h79
  rw [if_pos h79]
  refine rgn [] [[],[4]] ?_
  iterate 2 refine op1 tok ?_
  refine qA ?_
  refine AW.fillE 904 [none,none,none,none,none,none,some 1,some 9,none] (by conv=>lhs; simp) ?_
  exact AW.ret (wD (k:=by simp [dc0]))
 intro h79
 try simp at h79
 rw [if_neg (by rw [h79]; simp)]
 have hno2:=qNC h79
 simp only [hno2]
 refine rgn [] [[]] ?_
 refine op1 tok ?_
 refine qZ ?_
 refine qC.stepK [0,4,85] (yS rfl (hw xR (by decide)) (by simp [xR])) (by conv=>lhs; simp) rfl ?_
 refine qC.run [[0,4,83]] ?_
 refine op1 tok ?_
 refine qA (cnd ?_ ?_)
 ·intro h83
  try simp at h83
  rw [if_pos h83]
  refine rgn [] [[],[4]] ?_
  iterate 2 refine op1 tok ?_
  refine qA ?_
  refine AW.fillE 904 [none,none,none,none,none,none,some 1,some 9,none] (by conv=>lhs; simp) ?_
  exact AW.ret (wD (k:=by simp [dc0]))
 intro h83
 try simp at h83
 rw [if_neg (by rw [h83]; simp)]
 have hno3:=qNC h83
 simp only [hno3]
 refine AW.skip (rgn [] [[],[],[],[4]] ?_)
 iterate 4 refine op1 tok ?_
 refine qA (rgn [] [[],[4]] ?_)
 iterate 2 refine op1 tok ?_
 refine qA ?_
 refine AW.fillE 904 [none,none,none,none,none,none,some 1,some 9,none] (by conv=>lhs; simp) ?_
 exact AW.ret (wD (k:=by simp [yR,dc0]))
theorem qHF {s:List UInt8} (hs:s.length≤100000) (hU:qQS G s) (hNu:qUK G s):∀ N d,N≤1000001→qMZ G s N d
 | 0,d,_=>fun m q h=>absurd h (by omega)
 | N+1,d,hN=>fun m q hm h1 h2 h3 h4 h5=>by
  by_cases h:m<N
  ·exact qHF hs hU hNu N d (by omega) m q h h1 h2 h3 h4 h5
  obtain rfl:m=N:=by omega
  obtain ⟨n,rfl⟩:∃ n,m=n+1:=⟨m-1,by omega⟩
  exact qNE n s q d hs h1 h2 h3 (by omega) h4 h5 (fun e k t hk=>qHF hs hU hNu (n+1) e (by omega) k t (by omega)) hU hNu
theorem zMK (s:List UInt8) (hs:s.length≤100000) (hU:qQS G s) (hNu:qUK G s):AFn Tryz.prog G 68 [.str s] (.tup [(qRB s).1.enc,.int .i64 (qRB s).2.1,.int .i64 (qRB s).2.2]):=by
 refine AFn.introU tok Tryz.func68 (by kernel_rfl) rfl rfl ?_
 simp only [Tryz.f68,qI,List.map_cons,List.map_nil]
 have hv:=qHF (G:=G) hs hU hNu (2 * s.length+3) 1 (by omega) (2 * s.length+2) ⟨0,0,false,false,false⟩ (by omega) rfl (by simp) (by simp) (by simp only; omega) (by simp only; omega)
 have hM:qRB s=if (kZ s (2 * s.length+2) ⟨0,0,false,false,false⟩ 1).1.bad=true then (yR,0,10) else if (kZ s (2 * s.length+2) ⟨0,0,false,false,false⟩ 1).1.deep=true then (yR,0,11) else if (kZ s (2 * s.length+2) ⟨0,0,false,false,false⟩ 1).1.big=true then (yR,0,3) else ((kZ s (2 * s.length+2) ⟨0,0,false,false,false⟩ 1).2,((kZ s (2 * s.length+2) ⟨0,0,false,false,false⟩ 1).1.pos:Int),0):=rfl
 rw [hM]
 generalize kZ s (2 * s.length+2) ⟨0,0,false,false,false⟩ 1=r at *
 obtain ⟨⟨ps,nn,b,dp,bg⟩,v⟩:=r
 simp only at hv ⊢
 refine rgn [] [[],[],[0,2]] ?_
 iterate 3 refine op1 tok ?_
 refine qA (rgn [] [[],[],[],[2,5]] ?_)
 iterate 4 refine op1 tok ?_
 refine qA ?_
 refine AW.renE 2 50 (by simp) (by conv=>lhs; simp) ?_
 refine AW.renE 9 2 (by simp) (by conv=>lhs; simp) ?_
 refine rgn [] [[]] ?_
 refine op1 tok ?_
 refine qZ ?_
 refine qC.stepK [2,5,11] (yS rfl hv (by simp)) (by conv=>lhs; simp) rfl ?_
 refine qC.run [[],[2,5,6]] ?_
 iterate 2 refine op1 tok ?_
 refine qA (AW.seq (rgn [] [[],[],[],[2,5,6,15]] ?_))
 iterate 4 refine op1 tok ?_
 refine qA (cnd ?_ ?_)
 ·intro h15
  try simp at h15
  subst h15
  rw [if_pos rfl]
  refine rgn [] [[],[],[],[2,3,4]] ?_
  iterate 4 refine op1 tok ?_
  refine qA ?_
  exact AW.ret (qG (k:=by simp [yR,dc0]))
 intro h15
 try simp at h15
 rw [if_neg (by rw [h15]; simp)]
 refine AW.skip (AW.seq (rgn [] [[],[],[],[2,5,6,20]] ?_))
 iterate 4 refine op1 tok ?_
 refine qA (cnd ?_ ?_)
 ·intro h20
  try simp at h20
  subst h20
  rw [if_pos rfl]
  refine rgn [] [[],[],[],[2,3,4]] ?_
  iterate 4 refine op1 tok ?_
  refine qA ?_
  exact AW.ret (qG (k:=by simp [yR,dc0]))
 intro h20
 try simp at h20
 rw [if_neg (by rw [h20]; simp)]
 refine AW.skip (AW.seq (rgn [] [[],[],[],[2,5,6,25]] ?_))
 iterate 4 refine op1 tok ?_
 refine qA (cnd ?_ ?_)
 ·intro h25
  try simp at h25
  subst h25
  rw [if_pos rfl]
  refine rgn [] [[],[],[],[2,3,4]] ?_
  iterate 4 refine op1 tok ?_
  refine qA ?_
  exact AW.ret (qG (k:=by simp [yR,dc0]))
 intro h25
 try simp at h25
 rw [if_neg (by rw [h25]; simp)]
 refine AW.skip ?_
 refine AW.seqDrawS tok mixed 6 [[6],[5],[28],[29],[30],[2,27]] [] [] (by kernel_rfl) ?_
 iterate 6 refine d1 ?_
 refine DGo.nil (by kernel_rfl) ⟨by kernel_rfl, ?_⟩
 refine qC.run [[],[2,3,4]] ?_
 iterate 2 refine op1 tok ?_
 exact qA (AW.ret qG)
def qHB (c:Int):List UInt8:=if c<10 then [UInt8.ofNat (48+c.toNat)] else [UInt8.ofNat (48+c.toNat / 10),UInt8.ofNat (48+c.toNat % 10)]
def qHY:List (List UInt8)→List (List UInt8)→List (List UInt8):=List.zipWith fun k p=>jD k++[58]++p
mutual
def zU:Val→List UInt8
 | .mk k _ n t ks vs c=>if k=1 then qAS else if k=2 then xR else if k=3 then qAR else if k=4 then qEP n else if k=5 then jD t else if k=8 then 33::qHB c else if k=7 then [123]++Lib.join (qHY ks (qGO vs)) [44]++[125] else [91]++Lib.join (qGO vs) [44]++[93]
def qGO:List Val→List (List UInt8)
 | []=>[]
 | v::vs=>zU v::qGO vs
end
theorem qLS:∀ l,qGO l=l.map zU
 | []=>by simp only [qGO,List.map_nil]
 | v::vs=>by simp only [qGO,List.map_cons,qLS vs]
theorem jV (v:Val):zU v=if v.kind=1 then qAS else if v.kind=2 then xR else if v.kind=3 then qAR else if v.kind=4 then qEP v.num else if v.kind=5 then jD v.text else if v.kind=8 then 33::qHB v.code else if v.kind=7 then [123]++Lib.join (qHY v.keys (v.kids.map zU)) [44]++[125] else [91]++Lib.join (v.kids.map zU) [44]++[93]:=by
 cases v; rw [zU,qLS]; rfl
theorem qED (x y:List UInt8) (r:List (List UInt8)) (sep:List UInt8):Lib.join (x::y::r) sep=x++sep++Lib.join (y::r) sep:=by
 simp [Lib.join,List.intercalate,List.intersperse]
theorem zNX {ks ps:List (List UInt8)} {i:Nat} {k p:List UInt8} (h1:ks[i]?=some k) (h2:ps[i]?=some p):(qHY ks ps)[i]?=some (jD k++[58]++p):=by
 simp [qHY,List.getElem?_zipWith,h1,h2]
def qQT (G:qR) (c:Int):Prop:=AFn Tryz.prog G 71 [.int .i64 c] (.str (qHB c))∧0≤c∧c≤99
inductive Prn (G:qR):Val→Prop
 | mk {v : Val} (h8 : v.kind = 8 → qQT G v.code) (h4 : v.kind = 4 → zO v.num = true) (h5 : v.kind = 5 → Lib.validD v.text = true ∧ v.text.length ≤ 1000000000) (h7 : v.kind = 7 → v.keys.length = v.kids.length ∧ ∀ key ∈ v.keys, Lib.validD key = true ∧ key.length ≤ 1000000000)
   (hn:v.kids.length≤1000000) (hb:(zU v).length≤1000000000) (ih:∀ k∈v.kids,Prn G k):Prn G v
theorem zYK (b:UInt8):(qb b).length≤6:=by
 unfold qb; (repeat' split) <;> simp
theorem qYN (s:List UInt8):(jD s).length≤6 * s.length+2:=by
 have:∀ s:List UInt8,(uS s).length≤6 * s.length:=by
  intro s
  induction s with
  | nil=>simp [uS]
  | cons b s ih =>
   have h:=zYK b
   show (qb b++uS s).length≤_
   rw [List.length_append,List.length_cons]; omega
 have:=this s
 unfold jD
 simp; omega
theorem qVY:∀ l:List (List UInt8),(Lib.join l [44]).length≤(l.map List.length).sum+l.length
 | []=>by simp [Lib.join,List.intercalate]
 | [x]=>by rw [Lib.join_one]; simp
 | x::y::r=>by
  rw [qED]
  have:=qVY (y::r)
  simp only [List.length_append,List.map_cons,List.sum_cons,List.length_cons,List.length_nil] at this ⊢
  omega
theorem zHZ {d:Dc} (h:zO d=true):(qEP d).length≤130:=by
 have hb:=qTU h
 unfold qEP qCW qL
 split <;> split <;> simp <;> omega
mutual
def zCQ:Val→Bool
 | .mk k _ _ _ _ vs _=>decide (k=8) || zMB vs
def zMB:List Val→Bool
 | []=>false
 | v::vs=>zCQ v || zMB vs
end
theorem qYS:∀ l,zMB l=l.any zCQ
 | []=>by simp [zMB]
 | v::vs=>by simp [zMB,qYS vs]
theorem zEU (v:Val):zCQ v=(decide (v.kind=8) || v.kids.any zCQ):=by
 cases v; simp only [zCQ,qYS,Val.kids,Val.kind]; rfl
theorem qDC {v : Val} (h : qS v = true) (hc : v.kind ≠ 8) : v.code = 0 ∧ v.kids.length ≤ 200 ∧
  ((v.kind=1∧v.num=dc0∧v.text=[]∧v.keys=[]∧v.kids=[])∨(v.kind=2∧v.num=dc0∧v.text=[]∧v.keys=[]∧v.kids=[])∨(v.kind=3∧v.num=dc0∧v.text=[]∧v.keys=[]∧v.kids=[]) ∨
   (v.kind=4∧zO v.num=true∧v.text=[]∧v.keys=[]∧v.kids=[])∨(v.kind=5∧v.num=dc0∧xA v.text=true∧v.keys=[]∧v.kids=[]) ∨
   (v.kind=6∧v.num=dc0∧v.text=[]∧v.keys=[])∨(v.kind=7∧v.num=dc0∧v.text=[]∧v.keys.length=v.kids.length∧qBX v.keys=true)):=by
 rw [jX] at h
 simp only [Bool.and_eq_true,qAM,qAA,decide_eq_true_eq] at h
 obtain ⟨⟨⟨b1,b2,b3⟩,⟨⟨⟨⟨c1,c2⟩,c3⟩,c4⟩,c5⟩⟩,_⟩:=h
 have hcode:v.code=0:=by
  unfold qTW at c1
  simp [hc] at c1
  exact c1
 refine ⟨hcode,b3, ?_⟩
 unfold zCV at c2
 unfold qLO at c3
 unfold qFM at c4
 unfold qTG at c5
 have hnum:v.kind≠4→v.num=dc0:=fun h4=>by
  rw [if_neg h4] at c2
  simp only [decide_eq_true_eq] at c2
  exact Dc.ext' c2.1 c2.2.1 c2.2.2
 have htxt:v.kind≠5→v.text=[]:=fun h4=>by rw [if_neg h4] at c3; simpa using c3
 have hkey:v.kind≠7→v.keys=[]:=fun h4=>by rw [if_neg h4] at c4; simpa using c4
 have hkid:v.kind≠6→v.kind≠7→v.kids=[]:=fun h6 h7=>by simpa [h6,h7] using c5
 have hk:v.kind=1∨v.kind=2∨v.kind=3∨v.kind=4∨v.kind=5∨v.kind=6∨v.kind=7:=by omega
 rcases hk with k | k | k | k | k | k | k
 ·exact .inl ⟨k,hnum (by omega),htxt (by omega),hkey (by omega),hkid (by omega) (by omega)⟩
 ·exact .inr (.inl ⟨k,hnum (by omega),htxt (by omega),hkey (by omega),hkid (by omega) (by omega)⟩)
 ·exact .inr (.inr (.inl ⟨k,hnum (by omega),htxt (by omega),hkey (by omega),hkid (by omega) (by omega)⟩))
 ·rw [if_pos k] at c2
  exact .inr (.inr (.inr (.inl ⟨k,c2,htxt (by omega),hkey (by omega),hkid (by omega) (by omega)⟩)))
 ·rw [if_pos k] at c3
  exact .inr (.inr (.inr (.inr (.inl ⟨k,hnum (by omega),c3,hkey (by omega),hkid (by omega) (by omega)⟩))))
 ·exact .inr (.inr (.inr (.inr (.inr (.inl ⟨k,hnum (by omega),htxt (by omega),hkey (by omega)⟩)))))
 rw [if_pos k] at c4
 simp only [Bool.and_eq_true,decide_eq_true_eq] at c4
 exact .inr (.inr (.inr (.inr (.inr (.inr ⟨k,hnum (by omega),htxt (by omega),by omega,c4.2⟩)))))
def RB (v : Val) : Prop := ∀ (n : Nat) (ws : List UInt8) (st : RS) (d : Nat) (rest : List UInt8), st.left = ws ++ (zU v ++ rest) → ws.all qPL = true → st.bad = false → (∀ b, rest.head? = some b → kH b = false) → 2 * (zU v).length ≤ n →
  kM n st d=(⟨rest,st.nodes+Val.sz v,false,st.deep || decide (12<d+zYW v-1),st.big || decide (400<st.nodes+Val.sz v)⟩,qGB v)
theorem zNW (key:List UInt8) (keys:List (List UInt8)) (p:List UInt8) (ps:List (List UInt8)):qHY (key::keys) (p::ps)=(jD key++[58]++p)::qHY keys ps:=rfl
theorem zTS {v:Val} (k:v.kind=1):zU v=qAS:=by rw [jV,if_pos k]
theorem zTR {v:Val} (k:v.kind=2):zU v=xR:=by rw [jV,if_neg (by omega),if_pos k]
theorem zTQ {v:Val} (k:v.kind=3):zU v=qAR:=by rw [jV,if_neg (by omega),if_neg (by omega),if_pos k]
theorem zTP {v:Val} (k:v.kind=4):zU v=qEP v.num:=by rw [jV,if_neg (by omega),if_neg (by omega),if_neg (by omega),if_pos k]
theorem zTO {v:Val} (k:v.kind=5):zU v=jD v.text:=by rw [jV,if_neg (by omega),if_neg (by omega),if_neg (by omega),if_neg (by omega),if_pos k]
theorem zTL {v:Val} (k:v.kind=8):zU v=33::qHB v.code:=by rw [jV,if_neg (by omega),if_neg (by omega),if_neg (by omega),if_neg (by omega),if_neg (by omega),if_pos k]
theorem zTM {v:Val} (k:v.kind=7):zU v=[123]++Lib.join (qHY v.keys (v.kids.map zU)) [44]++[125]:=by rw [jV,if_neg (by omega),if_neg (by omega),if_neg (by omega),if_neg (by omega),if_neg (by omega),if_neg (by omega),if_pos k]
theorem zTN {v:Val} (k:v.kind=6):zU v=[91]++Lib.join (v.kids.map zU) [44]++[93]:=by rw [jV,if_neg (by omega),if_neg (by omega),if_neg (by omega),if_neg (by omega),if_neg (by omega),if_neg (by omega),if_neg (by omega)]
theorem qCO {s:List UInt8} (h:xA s=true):Lib.validD s=true∧s.length≤4096:=by
 unfold xA at h; simp only [Bool.and_eq_true,decide_eq_true_eq] at h; exact ⟨h.2,by omega⟩
theorem qUV (l:List Val) (h:∀ k∈l,(zU k).length+25000≤50000 * Val.sz k):((l.map zU).map List.length).sum+25000 * l.length≤50000 * Val.szL l:=by
 induction l with
 | nil=>simp
 | cons v l ih =>
  have h1:=h v (by simp)
  have h2:=ih fun k hk=>h k (by simp [hk])
  simp only [List.map_cons,List.sum_cons,List.length_cons,Val.szL]; omega
theorem zFS:∀ (l:List Val) (keys:List (List UInt8)),(∀ k∈keys,xA k=true)→(∀ k∈l,(zU k).length+25000≤50000 * Val.sz k)→((qHY keys (l.map zU)).map List.length).sum+(qHY keys (l.map zU)).length≤50000 * Val.szL l
 | [],keys,_,_=>by cases keys <;> simp [qHY]
 | v::l,[],_,_=>by simp [qHY]
 | v::l,key::keys,hk,h=>by
  have h1:=h v (by simp)
  have h2:=zFS l keys (fun k hk'=>hk k (by simp [hk'])) fun k hk=>h k (by simp [hk])
  have h3:=qYN key
  have h4:=(qCO (hk key (by simp))).2
  rw [List.map_cons,zNW]
  simp only [List.map_cons,List.sum_cons,List.length_cons,Val.szL,List.length_append,List.length_nil]; omega
theorem zHY (v:Val):qS v=true→(zU v).length+25000≤50000 * Val.sz v:=by
 induction v using Val.induct with
 | h v ih =>
  intro hm
  rw [zLE]
  have ihk:∀ k∈v.kids,(zU k).length+25000≤50000 * Val.sz k:=fun k hk=>ih k hk (yG hm hk)
  by_cases h8:v.kind=8
  ·rw [zTL h8]
   have:(qHB v.code).length≤2:=by unfold qHB; split <;> simp
   simp; omega
  obtain ⟨_,_,hc⟩:=qDC hm h8
  rcases hc with ⟨k,_⟩ | ⟨k,_⟩ | ⟨k,_⟩ | ⟨k,h1,_⟩ | ⟨k,_,h2,_⟩ | ⟨k,h1,h2,h3⟩ | ⟨k,h1,h2,h3,h4⟩
  ·rw [zTS k]; simp [qAS]; omega
  ·rw [zTR k]; simp [xR]; omega
  ·rw [zTQ k]; simp [qAR]; omega
  ·rw [zTP k]; have:=zHZ h1; omega
  ·rw [zTO k]; have:=qYN v.text; have:=(qCO h2).2; omega
  ·rw [zTN k]
   have:=qUV v.kids ihk
   have:=qVY (v.kids.map zU)
   simp only [List.length_append,List.length_cons,List.length_nil,List.length_map] at this ⊢
   omega
  rw [zTM k]
  unfold qBX at h4
  simp only [Bool.and_eq_true,List.all_eq_true] at h4
  have:=zFS v.kids v.keys h4.1 ihk
  have:=qVY (qHY v.keys (v.kids.map zU))
  simp only [List.length_append,List.length_cons,List.length_nil] at this ⊢
  omega
mutual
def qAL (c:Int):Val→Prop
 | .mk k _ _ _ _ vs e=>(k=8→e=c)∧qBH c vs
def qBH (c:Int):List Val→Prop
 | []=>True
 | v::vs=>qAL c v∧qBH c vs
end
theorem qJM (c:Int):∀ l,qBH c l↔∀ v∈l,qAL c v
 | []=>by simp [qBH]
 | v::vs=>by simp [qBH,qJM c vs]
theorem zAT (c:Int) (v:Val):qAL c v↔(v.kind=8→v.code=c)∧∀ k∈v.kids,qAL c k:=by cases v; simp only [qAL,qJM,Val.kind,Val.kids,Val.code]
theorem zMA {c:Int} (v:Val):qS v=true→Val.sz v≤10000→qAL c v→(zCQ v=true→qQT G c)→Prn G v:=by
 induction v using Val.induct with
 | h v ih =>
  intro hm hs hc hI
  have hl:=zHY v hm
  have hc':=(zAT c v).1 hc
  have hk1:∀ k∈v.kids,Prn G k:=fun k hk=>ih k hk (yG hm hk) (by have:=Val.sz_kid hk; omega) (hc'.2 k hk) fun hp=>hI (by
   rw [zEU]; simp only [Bool.or_eq_true,List.any_eq_true]; exact .inr ⟨k,hk,hp⟩)
  by_cases h8:v.kind=8
  ·have hcode:=hc'.1 h8
   refine .mk (fun _=>by rw [hcode]; exact hI (by rw [zEU]; simp [h8])) (fun h=>by omega) (fun h=>by omega) (fun h=>by omega) ?_ (by omega) hk1
   exact zDE (by omega)
  obtain ⟨_,hkl,hcs⟩:=qDC hm h8
  refine .mk (fun h=>absurd h h8) (fun h=>yW hm h) (fun h => ?_) (fun h => ?_) (by omega) (by omega) hk1
  ·rcases hcs with ⟨k,_⟩ | ⟨k,_⟩ | ⟨k,_⟩ | ⟨k,h1,_⟩ | ⟨k,_,h2,_⟩ | ⟨k,h1,h2,h3⟩ | ⟨k,h1,h2,h3,h4⟩
   ·omega
   ·omega
   ·omega
   ·omega
   ·exact ⟨(qCO h2).1,by have:=(qCO h2).2; omega⟩
   ·omega
   omega
  rcases hcs with ⟨k,_⟩ | ⟨k,_⟩ | ⟨k,_⟩ | ⟨k,h1,_⟩ | ⟨k,_,h2,_⟩ | ⟨k,h1,h2,h3⟩ | ⟨k,h1,h2,h3,h4⟩
  ·omega
  ·omega
  ·omega
  ·omega
  ·omega
  ·omega
  unfold qBX at h4
  simp only [Bool.and_eq_true,List.all_eq_true] at h4
  exact ⟨h3,fun key hk=>⟨(qCO (h4.1 key hk)).1,by have:=(qCO (h4.1 key hk)).2; omega⟩⟩
theorem qGH (b:UInt8) (n:Nat) (hn:n<256):((b.toNat:Int)=(n:Int))↔b=UInt8.ofNat n:=by
 constructor
 ·intro e; exact UInt8.toNat_inj.1 (by rw [UInt8.toNat_ofNat']; omega)
 rintro rfl; rw [UInt8.toNat_ofNat']; omega
def zSH:List UInt8:=[48,49,50,51,52,53,54,55,56,57,97,98,99,100,101,102]
theorem qTP {k:Nat} (h:k<16):zSH[k]?=some (qRF k):=by
 have h':∀ k:Fin 16,zSH[k.val]?=some (qRF k.val):=by decide
 exact h' ⟨k,h⟩
theorem qYP {s:List UInt8} {k:Nat} {b:UInt8} (h:s[k]?=some b):uS (s.take (k+1))=uS (s.take k)++qb b:=by
 rw [List.take_add_one,h,qVI]; simp [uS]
theorem qOG (s:List UInt8):(uS s).length≤6 * s.length:=by
 induction s with
 | nil=>simp [uS]
 | cons b s ih =>
  have h:(qb b).length≤6:=by unfold qb; (repeat' split) <;> simp
  show (qb b++uS s).length≤_
  rw [List.length_append,List.length_cons]; omega
theorem qUJ (s:List UInt8) (hs:s.length≤1000000000):AFn Tryz.prog G 70 [.str s] (.str (jD s)):=by
 refine AFn.introU tok Tryz.func70 (by kernel_rfl) rfl rfl ?_
 simp only [Tryz.f70,qI,List.map_cons,List.map_nil]
 refine rgn [] [[0]] ?_
 refine op1 tok ?_
 refine qA (rgn [.int .u8 34] [[],[0,3]] ?_)
 iterate 2 refine op1 tok ?_
 refine qA (AW.seq (rgn [] [[]] ?_))
 refine op1 tok ?_
 refine qA (AW.block ?_)
 refine AW.loop (α:=Nat) (fun k=>k≤s.length) (fun k=>⟨qV 69 [(0,.p (.str s)),(3,.ms 6),(4,.p (.int .i64 k))],[],[(6,.row 5 1 (qM (34::uS (s.take k))))],0⟩) (fun k=>s.length-k) (0) (by omega) ⟨qB (by simp),rfl,by simp [qM,uS],by simp⟩ ?_
 rintro k hk
 have hq6:=qOG (s.take k)
 have htk:(s.take k).length≤k:=by simp; omega
 refine AW.seq (rgn [] [[],[],[],[0,3,4,10]] ?_)
 iterate 4 refine op1 tok ?_
 refine qA (cnd ?_ ?_)
 ·intro h10
  try simp at h10
  obtain ⟨b,hb⟩:∃ b,s[k]?=some b:=⟨s[k],by simp [h10]⟩
  have hsn:=qYP hb
  have l34:((b.toNat:Int)=34)↔b=34:=qGH b 34 (by decide)
  have l92:((b.toNat:Int)=92)↔b=92:=qGH b 92 (by decide)
  have l10:((b.toNat:Int)=10)↔b=10:=qGH b 10 (by decide)
  have l13:((b.toNat:Int)=13)↔b=13:=qGH b 13 (by decide)
  have l9:((b.toNat:Int)=9)↔b=9:=qGH b 9 (by decide)
  have l127:((b.toNat:Int)=127)↔b=127:=qGH b 127 (by decide)
  have l32:(b.toNat:Int)<32↔b<32:=by rw [UInt8.lt_iff_toNat_lt]; show (b.toNat:Int)<32↔b.toNat<32; omega
  generalize uS (s.take k)=q at *
  refine AW.skip ?_
  refine AW.join (α:=Unit) (fun _=>True) (fun a=>⟨qV 69 [(0,.p (.str s)),(3,.ms 6),(4,.p (.int .i64 k))],[],[(6,.row 5 1 (qM (34::q++qb b)))],0⟩) ?_ ?_
  ·
   refine AW.block (rgn [.int .u8 b.toNat] [[],[],[],[0,3,4,5]] ?_)
   iterate 4 refine op1 tok ?_ (hv:=by first | with_reducible exact True.intro | ((simp [hb]); done) | omega | simp | (simp +contextual; omega))
   refine qA (AW.block (rgn [] [[],[],[],[],[],[0,3,4,5,26],[0,3,4,5,20]] ?_))
   iterate 3 refine op1 tok ?_
   iterate 2 refine op2 tok ?_
   iterate 2 refine op1 tok ?_
   refine qA (cnd ?_ ?_)
   ·intro h20
    try simp at h20
    have hq:qb b=[92,b]:=by unfold qb; rw [if_pos (by rcases h20 with h | h; exact .inl (l34.1 h); exact .inr (l92.1 h))]
    refine rgz [.int .u8 92,.int .u8 b.toNat] [[],[],[],[0,4,30],[0,3,4]] ?_
    iterate 5 refine op1 tok ?_
    refine qA ?_
    exact ⟨(),trivial,qB (by simp [hq,qM]),rfl,by simp [hq,qM],by simp [hq,qM]⟩
   intro h20
   try simp at h20
   have n1:¬ (b=34∨b=92):=fun h=>h.elim (fun h=>absurd (l34.2 h) (by omega)) (fun h=>absurd (l92.2 h) (by omega))
   refine rgn [] [[],[],[0,3,4,5,31]] ?_
   iterate 3 refine op1 tok ?_
   refine qA (cnd ?_ ?_)
   ·intro h31
    try simp at h31
    have hq:qb b=[92,110]:=by unfold qb; rw [if_neg n1,if_pos (l10.1 h31)]
    refine rgz [.int .u8 92,.int .u8 110] [[],[],[],[0,3,4]] ?_
    iterate 4 refine op1 tok ?_
    refine qA ?_
    exact ⟨(),trivial,qB (by simp [hq,qM]),rfl,by simp [hq,qM],by simp [hq,qM]⟩
   intro h31
   try simp at h31
   have n2:¬ b=10:=fun h=>absurd (l10.2 h) (by omega)
   refine rgn [] [[],[],[0,3,4,5,37]] ?_
   iterate 3 refine op1 tok ?_
   refine qA (cnd ?_ ?_)
   ·intro h37
    try simp at h37
    have hq:qb b=[92,114]:=by unfold qb; rw [if_neg n1,if_neg n2,if_pos (l13.1 h37)]
    refine rgz [.int .u8 92,.int .u8 114] [[],[],[],[0,3,4]] ?_
    iterate 4 refine op1 tok ?_
    refine qA ?_
    exact ⟨(),trivial,qB (by simp [hq,qM]),rfl,by simp [hq,qM],by simp [hq,qM]⟩
   intro h37
   try simp at h37
   have n3:¬ b=13:=fun h=>absurd (l13.2 h) (by omega)
   refine rgn [] [[],[],[0,3,4,5,43]] ?_
   iterate 3 refine op1 tok ?_
   refine qA (cnd ?_ ?_)
   ·intro h43
    try simp at h43
    have hq:qb b=[92,116]:=by unfold qb; rw [if_neg n1,if_neg n2,if_neg n3,if_pos (l9.1 h43)]
    refine rgz [.int .u8 92,.int .u8 116] [[],[],[],[0,3,4]] ?_
    iterate 4 refine op1 tok ?_
    refine qA ?_
    exact ⟨(),trivial,qB (by simp [hq,qM]),rfl,by simp [hq,qM],by simp [hq,qM]⟩
   intro h43
   try simp at h43
   have n4:¬ b=9:=fun h=>absurd (l9.2 h) (by omega)
   refine rgn [] [[],[],[],[],[],[0,3,4,5,55],[0,3,4,5,49]] ?_
   iterate 3 refine op1 tok ?_
   iterate 2 refine op2 tok ?_
   iterate 2 refine op1 tok ?_
   refine qA (cnd ?_ ?_)
   ·intro h49
    try simp at h49
    have hq:qb b=[92,117,48,48,qRF (b.toNat / 16),qRF (b.toNat % 16)]:=by unfold qb; rw [if_neg n1,if_neg n2,if_neg n3,if_neg n4,if_pos (by rcases h49 with h | h; exact .inl (l32.1 h); exact .inr (l127.1 h))]
    have hb7:b.toNat<128:=by rcases h49 with h | h <;> omega
    have w1:IntKind.u8.wrap ((b.toNat:Int) / 16)=((b.toNat / 16:Nat):Int):=by simp [IntKind.wrap,IntKind.bits,IntKind.signed]; omega
    have w2:(b.toNat:Int) % 16=((b.toNat % 16:Nat):Int):=by omega
    have w3:(b.toNat:Int).tmod 16=((b.toNat % 16:Nat):Int):=by rw [Int.tmod_eq_emod_of_nonneg (by omega)]; omega
    have x1:=qTP (k:=b.toNat / 16) (by omega)
    have x2:=qTP (k:=b.toNat % 16) (by omega)
    refine AW.drawS tok mixed 9 [[3],[5],[57],[58],[5],[60],[61],[59,62],[56,63]] [.int .u8 (qRF (b.toNat / 16)).toNat,.int .u8 (qRF (b.toNat % 16)).toNat,.int .u8 92,.int .u8 117,.int .u8 48,.int .u8 48,.int .u8 (qRF (b.toNat / 16)).toNat,.int .u8 (qRF (b.toNat % 16)).toNat] [] (by kernel_rfl) ?_
    iterate 9 refine d1 ?_ (hv:=by first | with_reducible exact True.intro | (first | (rw [w1]; exact ⟨by omega,_,x1,rfl⟩) | (rw [w3]; exact ⟨by omega,_,x2,rfl⟩) | omega; done) | omega | simp | (simp +contextual; omega))
    refine DGo.nil (by kernel_rfl) ⟨by kernel_rfl, ?_⟩
    refine qC.run [[0,3,4]] ?_
    refine op1 tok ?_
    refine qZ ?_
    refine qC.take 64 6 (by conv=>lhs; simp) ?_
    refine qC.nil ?_
    exact ⟨(),trivial,qB (by simp [hq,qM]),rfl,by simp [hq,qM],by simp [hq,qM]⟩
   intro h49
   try simp at h49
   have hq:qb b=[b]:=by unfold qb; rw [if_neg n1,if_neg n2,if_neg n3,if_neg n4,if_neg (by rintro (h | h); exact absurd (l32.2 h) (by omega); exact absurd (l127.2 h) (by omega))]
   refine rgz [.int .u8 b.toNat] [[],[],[],[0,4,19],[0,3,4]] ?_
   iterate 5 refine op1 tok ?_
   refine qA ?_
   exact ⟨(),trivial,qB (by simp [hq,qM]),rfl,by simp [hq,qM],by simp [hq,qM]⟩
  ·
   rintro a hI
   refine rgz [] [[],[],[0,3,4]] ?_
   iterate 3 refine op1 tok ?_
   refine qA ?_
   exact ⟨k+1,by omega,by omega,qB (by simp [hsn]),rfl,by simp [hsn],by simp [hsn]⟩
 intro h10
 try simp at h10
 obtain rfl:k=s.length:=by omega
 rw [List.take_of_length_le (Nat.le_refl _)]
 have hq7:=qOG s
 refine AW.exit ?_
 simp
 refine rgn [.int .u8 34,.str (jD s)] [[],[],[],[68],[2]] ?_
 iterate 5 refine op1 tok ?_ (hv:=by first | with_reducible exact True.intro | ((simp [jD,qM]); done) | omega | simp | (simp +contextual; omega))
 exact qA (AW.ret qG)
theorem qTJ:∀ (l:List (List UInt8)) (p:List UInt8),l≠[]→Lib.join (l++[p]) [44]=Lib.join l [44]++([44]++p)
 | [],_,h=>absurd rfl h
 | [x],p,_=>by rw [List.singleton_append,qED,Lib.join_one,Lib.join_one]; simp
 | x::y::r,p,_=>by
  have:=qTJ (y::r) p (by simp)
  rw [List.cons_append,List.cons_append,qED,qED,← List.cons_append,this]; simp
theorem qTI {ps:List (List UInt8)} {k:Nat} {p:List UInt8} (h:ps[k]?=some p):Lib.join (ps.take (k+1)) [44]=Lib.join (ps.take k) [44]++((if 0<k then [44] else [])++p):=by
 have hk:=(List.getElem?_eq_some_iff.1 h).1
 rw [List.take_add_one,h,Option.toList_some]
 by_cases h0:0<k
 ·rw [if_pos h0,qTJ _ _ (by intro e; have:=congrArg List.length e; rw [List.length_take,List.length_nil] at this; omega)]
 obtain rfl:k=0:=by omega
 simp only [List.take_zero,List.nil_append,Nat.lt_irrefl,if_false,Lib.join_one]
 rfl
theorem qVX (ps:List (List UInt8)):∀ k,(Lib.join (ps.take k) [44]).length≤(Lib.join ps [44]).length:=by
 have up:∀ k,(Lib.join (ps.take k) [44]).length≤(Lib.join (ps.take (k+1)) [44]).length:=fun k=>by
  cases h:ps[k]? with
  | none=>rw [List.take_add_one,h]; simp
  | some p=>rw [qTI h]; simp
 intro k
 have:∀ j,(Lib.join (ps.take k) [44]).length≤(Lib.join (ps.take (k+j)) [44]).length:=fun j=>by
  induction j with
  | zero=>exact Nat.le_refl _
  | succ j ih=>exact Nat.le_trans ih (up (k+j))
 have h:=this ps.length
 rw [List.take_of_length_le (show ps.length≤k+ps.length by omega)] at h
 exact h
def uG (v:Val):List (List UInt8):=if v.kind=7 then qHY v.keys (v.kids.map zU) else v.kids.map zU
def qAF (v:Val):List UInt8:=if v.kind=7 then [123] else [91]
theorem qYR (v:Val) (hq8:v.kind=8→AFn Tryz.prog G 71 [.int .i64 v.code] (.str (qHB v.code)) ∧ -9223372036854775808≤v.code∧v.code≤9223372036854775807) (hq4:v.kind=4→AFn Tryz.prog G 69 [v.num.enc] (.str (qEP v.num))) (hq5:v.kind=5→AFn Tryz.prog G 70 [.str v.text] (.str (jD v.text))) (hq7:v.kind=7→v.keys.length=v.kids.length∧∀ key∈v.keys,AFn Tryz.prog G 70 [.str key] (.str (jD key))) (hn:v.kids.length≤1000000) (hb:(zU v).length≤1000000000) (ih:∀ k∈v.kids,AFn Tryz.prog G 25 [k.enc] (.str (zU k))):AFn Tryz.prog G 25 [v.enc] (.str (zU v)):=by
 refine AFn.introU tok Tryz.func25 (by kernel_rfl) rfl rfl ?_
 simp only [Tryz.f25,qI,List.map_cons,List.map_nil]
 rw [jV v] at hb ⊢
 simp only [Dc.enc] at hq4
 refine rgn [] [[],[1]] ?_
 iterate 2 refine op1 tok ?_
 refine qA (AW.seq (rgn [] [[],[1,6]] ?_))
 iterate 2 refine op1 tok ?_
 refine qA (AW.block (rgn [] [[],[1,6,7]] ?_))
 iterate 2 refine op1 tok ?_
 refine qA (cnd ?_ ?_)
 ·intro h7
  try simp at h7
  rw [if_pos h7]
  refine rgn [] [[]] ?_
  refine op1 tok ?_
  refine qA ?_
  exact AW.ret (qG (k:=by simp [qAS]))
 intro h7
 try simp at h7
 rw [if_neg h7] at hb ⊢
 refine rgn [] [[],[1,6,9]] ?_
 iterate 2 refine op1 tok ?_
 refine qA (cnd ?_ ?_)
 ·intro h9
  try simp at h9
  rw [if_pos h9]
  refine rgn [] [[]] ?_
  refine op1 tok ?_
  refine qA ?_
  exact AW.ret (qG (k:=by simp [xR]))
 intro h9
 try simp at h9
 rw [if_neg h9] at hb ⊢
 refine rgn [] [[],[1,6,11]] ?_
 iterate 2 refine op1 tok ?_
 refine qA (cnd ?_ ?_)
 ·intro h11
  try simp at h11
  rw [if_pos h11]
  refine rgn [] [[]] ?_
  refine op1 tok ?_
  refine qA ?_
  exact AW.ret (qG (k:=by simp [qAR]))
 intro h11
 try simp at h11
 rw [if_neg h11] at hb ⊢
 refine rgn [] [[],[1,6,13]] ?_
 iterate 2 refine op1 tok ?_
 refine qA (cnd ?_ ?_)
 ·intro h13
  try simp at h13
  rw [if_pos h13]
  have h4:=hq4 h13
  refine rgn [.nilp,.str (qEP v.num)] [[],[],[],[2]] ?_
  iterate 4 refine oq1 tok h4 ?_
  exact qA (AW.ret qG)
 intro h13
 try simp at h13
 rw [if_neg h13] at hb ⊢
 refine rgn [] [[],[1,6,18]] ?_
 iterate 2 refine op1 tok ?_
 refine qA (cnd ?_ ?_)
 ·intro h18
  try simp at h18
  rw [if_pos h18]
  have h5q:=hq5 h18
  refine rgn [.nilp,.str (jD v.text)] [[],[],[],[2]] ?_
  iterate 4 refine oq1 tok h5q ?_
  exact qA (AW.ret qG)
 intro h18
 try simp at h18
 rw [if_neg h18] at hb ⊢
 refine rgn [] [[],[1,23]] ?_
 iterate 2 refine op1 tok ?_
 refine qA (cnd ?_ ?_)
 ·intro h23
  try simp at h23
  rw [if_pos h23] at hb ⊢
  obtain ⟨h8,h8a,h8b⟩:=hq8 h23
  have hil:(qHB v.code).length≤2:=by unfold qHB; split <;> simp
  refine rgn [.nilp,.str (qHB v.code)] [[],[],[],[28],[2]] ?_
  iterate 5 refine oq1 tok h8 ?_
  exact qA (AW.ret qG)
 intro h23
 try simp at h23
 rw [if_neg h23] at hb ⊢
 have hP:(if v.kind=7 then [123]++Lib.join (qHY v.keys (v.kids.map zU)) [44]++[125] else [91]++Lib.join (v.kids.map zU) [44]++[93])=qAF v++Lib.join (uG v) [44]++(if v.kind=7 then [125] else [93]):=by
  unfold qAF uG; split <;> rfl
 rw [hP] at hb ⊢
 have hpl:(uG v).length=v.kids.length:=by
  unfold uG; split
  ·rename_i h; simp [qHY,(hq7 h).1]
  simp
 have hol:(qAF v).length=1:=by unfold qAF; split <;> rfl
 have hjl:(Lib.join (uG v) [44]).length≤1000000000:=by simp only [List.length_append] at hb; omega
 have hjt:=qVX (uG v)
 have hpk:∀ k x,v.kids[k]?=some x→(uG v)[k]?=some ((if v.kind=7 then jD (v.keys.getD k [])++[58] else [])++zU x):=fun k x hx=>by
  have hkl:=(List.getElem?_eq_some_iff.1 hx).1
  unfold uG; split
  ·rename_i h
   have hk:v.keys[k]?=some (v.keys.getD k []):=by rw [List.getD_eq_getElem?_getD,List.getElem?_eq_getElem (by have:=(hq7 h).1; omega)]; rfl
   exact zNX hk (by rw [List.getElem?_map,hx]; rfl)
  rw [List.getElem?_map,hx]; rfl
 refine AW.skip (rgn [] [[]] ?_)
 refine op1 tok ?_
 refine qA ?_
 refine AW.join (α:=Unit) (fun _=>True) (fun a=>⟨qV 70 [(1,.ptr 1 0),(3,.p (.str (qAF v)))],[],[(1,.vars 31 v.cells)],0⟩) ?_ ?_
 ·
  refine rgn [] [[],[],[1,3,31]] ?_
  iterate 3 refine op1 tok ?_
  refine qA (cnd ?_ ?_)
  ·intro h31
   try simp at h31
   refine rgz [] [[]] ?_
   refine op1 tok ?_
   refine qA ?_
   exact ⟨(),trivial,qB (by simp [qAF,h31]),rfl,by simp [qAF,h31],by simp [qAF,h31]⟩
  intro h31
  try simp at h31
  refine AW.skip ?_
  exact ⟨(),trivial,qB (by simp [qAF,h31]),rfl,by simp [qAF,h31],by simp [qAF,h31]⟩
 ·
  rintro a hI
  refine AW.seq (rgn [] [[]] ?_)
  refine op1 tok ?_
  refine qA (AW.block ?_)
  refine AW.loop (α:=Nat) (fun k=>k≤v.kids.length) (fun k=>⟨qV 70 [(1,.ptr 1 0),(3,.p (.str (qAF v++Lib.join ((uG v).take k) [44]))),(4,.p (.int .i64 k))],[],[(1,.vars 31 v.cells)],0⟩) (fun k=>v.kids.length-k) (0) (by omega) ⟨qB (by simp [show Lib.join [] [44]=[] from rfl]),rfl,by simp,by simp⟩ ?_
  rintro k hk
  have hjk:=hjt k
  refine AW.seq (rgn [] [[],[],[],[],[1,3,4,36]] ?_)
  iterate 5 refine op1 tok ?_
  refine qA (cnd ?_ ?_)
  ·intro h36
   try simp at h36
   obtain ⟨x,hx⟩:∃ x,v.kids[k]?=some x:=⟨v.kids[k],by simp [h36]⟩
   have hp:=hpk k x hx
   have hj2:=qTI hp
   have hjk1:=hjt (k+1)
   have hix:=ih x (List.mem_of_getElem? hx)
   simp only [Val.enc_def] at hix
   have hx2:(zU x).length≤1000000000:=by rw [hj2] at hjk1; simp only [List.length_append] at hjk1; omega
   refine AW.skip (AW.seq (AW.block ?_))
   refine AW.join (α:=List UInt8) (fun t=>t=qAF v++Lib.join ((uG v).take k) [44]++(if 0<k then [44] else [])∧t.length≤1000000010) (fun t=>⟨qV 70 [(1,.ptr 1 0),(3,.p (.str t)),(4,.p (.int .i64 k))],[],[(1,.vars 31 v.cells)],0⟩) ?_ ?_
   ·
    refine rgn [] [[],[1,3,4,40]] ?_
    iterate 2 refine op1 tok ?_
    refine qA (cnd ?_ ?_)
    ·intro h40
     try simp at h40
     refine rgz [] [[],[],[1,3,4]] ?_
     iterate 3 refine op1 tok ?_
     refine qA ?_
     exact ⟨qAF v++Lib.join ((uG v).take k) [44]++[44],⟨by rw [if_pos (by omega)],by simp; omega⟩,qB (by simp),rfl,by simp,by simp⟩
    intro h40
    try simp at h40
    refine AW.skip ?_
    exact ⟨qAF v++Lib.join ((uG v).take k) [44],⟨by rw [if_neg (by omega)]; simp,by simp; omega⟩,qB (by simp),rfl,by simp,by simp⟩
   ·
    rintro t ⟨ht,htl⟩
    refine AW.join (α:=List UInt8) (fun t=>t++zU x=qAF v++Lib.join ((uG v).take (k+1)) [44]∧t.length≤3000000010) (fun t=>⟨qV 70 [(1,.ptr 1 0),(3,.p (.str t)),(4,.p (.int .i64 k))],[],[(1,.vars 31 v.cells)],0⟩) ?_ ?_
    ·
     refine rgn [] [[],[],[1,3,4,45]] ?_
     iterate 3 refine op1 tok ?_
     refine qA (cnd ?_ ?_)
     ·intro h45
      try simp at h45
      obtain ⟨hkl,hqk⟩:=hq7 h45
      have hk:v.keys[k]?=some (v.keys.getD k []):=by rw [List.getD_eq_getElem?_getD,List.getElem?_eq_getElem (by omega)]; rfl
      have hqq:=hqk _ (List.mem_of_getElem? hk)
      have hql:(jD (v.keys.getD k [])).length≤1000000000:=by rw [hj2,if_pos h45] at hjk1; simp only [List.length_append] at hjk1; omega
      rw [if_pos h45] at hp hj2
      generalize v.keys.getD k []=key at *
      refine rgz [.str key,.nilp,.str (jD key)] [[],[],[],[],[1,4,46,50],[],[],[1,4,53],[],[1,3,4]] ?_
      iterate 10 refine op1 tok ?_ (hv:=by first | with_reducible exact True.intro | (first | exact hqq | (simp [hk]; done) | (simp; omega) | omega; done) | omega | simp | (simp +contextual; omega))
      refine qA ?_
      exact ⟨t++jD key++[58],⟨by rw [hj2,ht]; simp,by simp; omega⟩,qB (by simp),rfl,by simp,by simp⟩
     intro h45
     try simp at h45
     rw [if_neg h45] at hp hj2
     refine AW.skip ?_
     exact ⟨t,⟨by rw [hj2,ht]; simp,by omega⟩,qB (by simp),rfl,by simp,by simp⟩
    ·
     rintro t2 ⟨ht2,htl2⟩
     refine rgz [x.enc,.nilp,.str (zU x)] [[],[],[],[],[1,4,55,59],[],[],[1,4,62],[1,3,4]] ?_
     iterate 9 refine op1 tok ?_ (hv:=by first | with_reducible exact True.intro | (first | exact hix | (simp [hx]; done) | (simp; omega) | omega; done) | omega | simp | (simp +contextual; omega))
     refine qA (rgz [] [[],[],[1,3,4]] ?_)
     iterate 3 refine op1 tok ?_
     refine qA ?_
     exact ⟨k+1,by omega,by omega,qB (by simp [ht2]),rfl,by simp [ht2],by simp [ht2]⟩
  intro h36
  try simp at h36
  rw [List.take_of_length_le (by omega)]
  refine AW.exit ?_
  simp
  refine AW.seq (rgn [] [[],[],[3,65]] ?_)
  iterate 3 refine op1 tok ?_
  refine qA (cnd ?_ ?_)
  ·intro h65
   try simp at h65
   rw [if_pos h65]
   refine rgn [] [[],[],[2]] ?_
   iterate 3 refine op1 tok ?_
   exact qA (AW.ret qG)
  intro h65
  try simp at h65
  rw [if_neg h65]
  refine AW.skip (rgn [] [[],[],[2]] ?_)
  iterate 3 refine op1 tok ?_
  exact qA (AW.ret qG)
theorem qOH (v:Val) (hm:qS v=true):Val.sz v≤10000→qAL 40 v→(zCQ v=true→qQT G 40)→AFn Tryz.prog G 25 [v.enc] (.str (zU v)):=by
 intro hs hc hI
 have hp:=zMA (G:=G) v hm hs hc hI
 clear hs hc hI hm
 induction hp with
 | mk h8 h4 h5 h7 hn hb _ ih=>exact qYR _ (fun h=>⟨(h8 h).1,by have:=h8 h; unfold qQT at this; omega,by have:=h8 h; unfold qQT at this; omega⟩) (fun h=>zBK _ (h4 h)) (fun h=>qUJ _ (h5 h).2) (fun h=>⟨(h7 h).1,fun key hk=>qUJ key ((h7 h).2 key hk).2⟩) hn hb ih
end Go.Proofs.YtdojfdaglbphlaaGreatDoor
namespace Go.Proofs.YtdojfdaglbphlaaGreatDoor.Sy
open Go
set_option linter.unusedSimpArgs false
set_option linter.unusedVariables false
section
variable {P:Program} {T:Tab} {G:qR} {st:St}
end
end Go.Proofs.YtdojfdaglbphlaaGreatDoor.Sy
namespace Go.Proofs.YtdojfdaglbphlaaGreatDoor
open Sy Go
set_option maxRecDepth 100000
set_option maxHeartbeats 4000000
set_option linter.unusedSimpArgs false
set_option linter.unusedVariables false
variable {G:qR}
def qYU (a b:Val) (m:Int):Val:=if 200<(kV a b m).kids.length∨4096<(kV a b m).text.length then wQ 3 m else kV a b m
theorem zME (a b:Val) (top deep:Int) (ha:qS a=true) (hb:qS b=true) (hka:a.kind=7) (hkb:b.kind=7) (hla:a.keys.length=a.kids.length) (hlb:b.keys.length=b.kids.length):AFn Tryz.prog G 32 [.agg (prC a b top deep)] ((qYU a b top).enc):=by
 refine AFn.introU tok Tryz.func32 (by kernel_rfl) rfl rfl ?_
 simp only [Tryz.f32,qI,List.map_cons,List.map_nil]
 have k5:=kS (G:=G) a b top deep 5
 have k6:=kS (G:=G) a b top deep 6
 have k7:=kS (G:=G) a b top deep 7
 have hm:=qSR (G:=G) a b top deep ha hb hla hlb
 have hf:=qFI (G:=G) a b top deep 3
 have e:qYU a b top=if 200<(kV a b top).kids.length∨4096<(kV a b top).text.length then wQ 3 top else kV a b top:=rfl
 rw [e]
 generalize kV a b top=M at *
 simp only [Val.enc_def] at hm hf
 simp only [hka,hkb] at k5 k6 k7 hm hf
 refine rgn [] [[],[1,2]] ?_
 iterate 2 refine op1 tok ?_
 refine qA (rgn [] [[]] ?_)
 refine op1 tok ?_
 refine qA (AW.seq (AW.block (rgn [] [[],[],[],[],[1,2,3,6]] ?_)))
 iterate 5 refine op1 tok ?_
 refine qA (cnd ?_ ?_)
 ·intro h6
  try simp at h6
  omega
 intro h6
 try simp at h6
 refine rgn [] [[],[],[],[],[1,2,3,16]] ?_
 iterate 5 refine op1 tok ?_
 refine qA (cnd ?_ ?_)
 ·intro h16
  try simp at h16
  omega
 intro h16
 try simp at h16
 refine rgn [.nilp,.bool false] [[],[],[1,2,3,26]] ?_
 iterate 3 refine op1 tok ?_ (hv:=by first | with_reducible exact True.intro | ((simpa [hka,hkb] using k5); done) | omega | simp | (simp +contextual; omega))
 refine qA (cnd ?_ ?_)
 ·intro h26
  try simp at h26
 intro h26
 try simp at h26
 refine rgn [.nilp,.bool false] [[],[],[1,2,3,39]] ?_
 iterate 3 refine op1 tok ?_ (hv:=by first | with_reducible exact True.intro | ((simpa [hka,hkb] using k6); done) | omega | simp | (simp +contextual; omega))
 refine qA (cnd ?_ ?_)
 ·intro h39
  try simp at h39
 intro h39
 try simp at h39
 refine rgn [.nilp,.bool true] [[],[],[1,2,3,54]] ?_
 iterate 3 refine op1 tok ?_ (hv:=by first | with_reducible exact True.intro | ((simpa [hka,hkb] using k7); done) | omega | simp | (simp +contextual; omega))
 refine qA (cnd ?_ ?_)
 ·intro h54
  try simp at h54
  refine rgz [.nilp,M.enc] [[],[],[1,2,3]] ?_
  iterate 3 refine op1 tok ?_ (hv:=by first | with_reducible exact True.intro | ((simpa [hka,hkb] using hm); done) | omega | simp | (simp +contextual; omega))
  refine qA (AW.seq (rgn [] [[],[],[],[],[1,2,3,63],[],[],[],[],[1,2,3,68]] ?_))
  iterate 5 refine op1 tok ?_
  iterate 4 refine op2 tok ?_
  refine op1 tok ?_
  refine qA (cnd ?_ ?_)
  ·intro h68
   try simp at h68
   rw [if_pos (by omega)]
   refine rgn [.nilp,(wQ 3 top).enc] [[],[],[2]] ?_
   iterate 3 refine op1 tok ?_ (hv:=by first | with_reducible exact True.intro | ((simpa [hka,hkb] using hf); done) | omega | simp | (simp +contextual; omega))
   exact qA (AW.ret qG)
  intro h68
  try simp at h68
  rw [if_neg (by omega)]
  refine AW.skip (rgn [] [[],[2]] ?_)
  iterate 2 refine op1 tok ?_
  exact qA (AW.ret qG)
 intro h54
 try simp at h54
theorem qXS (a b:Val) (ha:qS a=true) (hb:qS b=true) (hka:a.kind=7) (hkb:b.kind=7) (hla:a.keys.length=a.kids.length) (hlb:b.keys.length=b.kids.length):AFn Tryz.prog G 12 [.str [43],a.enc,b.enc] ((qYU a b (orM a.mask b.mask)).enc):=by
 refine AFn.introU tok Tryz.func12 (by kernel_rfl) rfl rfl ?_
 simp only [Tryz.f12,qI,List.map_cons,List.map_nil]
 have h1:=yN (G:=G) a
 have h2:=yN (G:=G) b
 have hp:=zME (G:=G) a b (orM a.mask b.mask) (orM (qU a) (qU b)) ha hb hka hkb hla hlb
 generalize qYU a b (orM a.mask b.mask)=M at *
 simp only [Val.enc_def] at h1 h2 hp
 refine rgn [] [[],[],[0,4,5,6]] ?_
 iterate 3 refine op1 tok ?_
 refine qA ?_
 refine AW.seqDrawS tok mixed 14 [[4],[5],[4],[12],[5],[14],[13,15],[4],[17],[5],[19],[18,20],[10,11,16,21],[]] [.nilp,.int .u64 (qU a),.nilp,.int .u64 (qU b)] [] (by kernel_rfl) ?_
 iterate 14 refine dq1 (ai h1 h2) ?_ (h:=by intro C; conv=>lhs; simp [zB])
 refine DGo.nil (by kernel_rfl) ⟨by kernel_rfl, ?_⟩
 refine qC.run [[0,4,5,6,7]] ?_
 refine op1 tok ?_ (h:=by intro C; conv=>lhs; simp [zB])
 refine qA (AW.seq (rgn [] [[]] ?_))
 refine op1 tok ?_
 refine qA (AW.block (rgn [] [[],[0,4,5,6,7,23,24]] ?_))
 iterate 2 refine op1 tok ?_
 refine qA (cnd ?_ ?_)
 ·intro h24
  try simp at h24
  refine rgn [.nilp,M.enc] [[],[],[6]] ?_
  iterate 3 refine op1 tok ?_ (hv:=by first | with_reducible exact True.intro | ((simp at hp ⊢; exact hp); done) | omega | simp | (simp +contextual; omega))
  exact qA (AW.ret qG)
 intro h24
 try simp at h24
theorem qIG (a b:Val) (ha:qS a=true) (hb:qS b=true) (hka:a.kind=6) (hkb:b.kind=6):AFn Tryz.prog G 12 [.str [45],a.enc,b.enc] ((qES a b (orM (qU a) (qU b))).enc):=by
 refine AFn.introU tok Tryz.func12 (by kernel_rfl) rfl rfl ?_
 simp only [Tryz.f12,qI,List.map_cons,List.map_nil]
 have h1:=yN (G:=G) a
 have h2:=yN (G:=G) b
 have hp:=zIN (G:=G) a b (orM a.mask b.mask) (orM (qU a) (qU b)) ha hb hka hkb
 generalize qES a b (orM (qU a) (qU b))=M at *
 simp only [Val.enc_def] at h1 h2 hp
 refine rgn [] [[],[],[0,4,5,6]] ?_
 iterate 3 refine op1 tok ?_
 refine qA ?_
 refine AW.seqDrawS tok mixed 14 [[4],[5],[4],[12],[5],[14],[13,15],[4],[17],[5],[19],[18,20],[10,11,16,21],[]] [.nilp,.int .u64 (qU a),.nilp,.int .u64 (qU b)] [] (by kernel_rfl) ?_
 iterate 14 refine dq1 (ai h1 h2) ?_ (h:=by intro C; conv=>lhs; simp [zB])
 refine DGo.nil (by kernel_rfl) ⟨by kernel_rfl, ?_⟩
 refine qC.run [[0,4,5,6,7]] ?_
 refine op1 tok ?_ (h:=by intro C; conv=>lhs; simp [zB])
 refine qA (AW.seq (rgn [] [[]] ?_))
 refine op1 tok ?_
 refine qA (AW.block (rgn [] [[],[0,4,5,6,7,23,24]] ?_))
 iterate 2 refine op1 tok ?_
 refine qA (cnd ?_ ?_)
 ·intro h24
  try simp at h24
 intro h24
 try simp at h24
 refine rgn [] [[],[0,4,5,6,7,23,28]] ?_
 iterate 2 refine op1 tok ?_
 refine qA (cnd ?_ ?_)
 ·intro h28
  try simp at h28
  refine rgn [.nilp,M.enc] [[],[],[6]] ?_
  iterate 3 refine op1 tok ?_ (hv:=by first | with_reducible exact True.intro | ((simp at hp ⊢; exact hp); done) | omega | simp | (simp +contextual; omega))
  exact qA (AW.ret qG)
 intro h28
 try simp at h28
theorem zGV (op:List UInt8) (a b:Val) (hop:zYP op) (ha:qS a=true) (hb:qS b=true):AFn Tryz.prog G 12 [.str op,a.enc,b.enc] ((kG (uP op (vL a b)) (orM (qU a) (qU b))).enc):=by
 refine AFn.introU tok Tryz.func12 (by kernel_rfl) rfl rfl ?_
 simp only [Tryz.f12,qI,List.map_cons,List.map_nil]
 obtain ⟨o1,o2,o3,o4,o5,o6,o7⟩:=hop
 have h1:=yN (G:=G) a
 have h2:=yN (G:=G) b
 have hc:=zFX (G:=G) a b ha hb
 have e:uP op (vL a b)=((decide (vL a b=0) && (decide (op=[61,61]) || decide (op=[60,61]) || decide (op=[62,61]))) || ((!decide (vL a b=0)) && decide (op=[33,61])) || (decide (vL a b<0) && (decide (op=[60]) || decide (op=[60,61]))) || (decide (0<vL a b) && (decide (op=[62]) || decide (op=[62,61])))):=rfl
 have ht:=qXT (G:=G) (uP op (vL a b)) (orM (qU a) (qU b))
 rw [e] at ht ⊢
 generalize vL a b=c at *
 generalize kG _ _=Tv at *
 simp only [Val.enc_def] at h1 h2 hc ht
 refine rgn [] [[],[],[0,4,5,6]] ?_
 iterate 3 refine op1 tok ?_
 refine qA ?_
 refine AW.seqDrawS tok mixed 14 [[4],[5],[4],[12],[5],[14],[13,15],[4],[17],[5],[19],[18,20],[10,11,16,21],[]] [.nilp,.int .u64 (qU a),.nilp,.int .u64 (qU b)] [] (by kernel_rfl) ?_
 iterate 14 refine dq1 (ai h1 h2) ?_ (h:=by intro C; conv=>lhs; simp [zB])
 refine DGo.nil (by kernel_rfl) ⟨by kernel_rfl, ?_⟩
 refine qC.run [[0,4,5,6,7]] ?_
 refine op1 tok ?_ (h:=by intro C; conv=>lhs; simp [zB])
 refine qA (AW.seq (rgn [] [[]] ?_))
 refine op1 tok ?_
 refine qA (AW.block (rgn [] [[],[0,4,5,6,7,23,24]] ?_))
 iterate 2 refine op1 tok ?_
 refine qA (cnd ?_ ?_)
 ·intro h24
  try simp at h24
  exact absurd h24 o1
 intro h24
 try simp at h24
 refine rgn [] [[],[0,4,5,6,7,23,28]] ?_
 iterate 2 refine op1 tok ?_
 refine qA (cnd ?_ ?_)
 ·intro h28
  try simp at h28
  exact absurd h28 o2
 intro h28
 try simp at h28
 refine rgn [] [[],[0,4,5,6,7,23,32]] ?_
 iterate 2 refine op1 tok ?_
 refine qA (cnd ?_ ?_)
 ·intro h32
  try simp at h32
  exact absurd h32 o3
 intro h32
 try simp at h32
 refine rgn [] [[],[0,4,5,6,7,23,36]] ?_
 iterate 2 refine op1 tok ?_
 refine qA (cnd ?_ ?_)
 ·intro h36
  try simp at h36
  exact absurd h36 o4
 intro h36
 try simp at h36
 refine rgn [] [[],[0,4,5,6,7,23,40]] ?_
 iterate 2 refine op1 tok ?_
 refine qA (cnd ?_ ?_)
 ·intro h40
  try simp at h40
  exact absurd h40 o5
 intro h40
 try simp at h40
 refine rgn [] [[],[0,4,5,6,7,23,44]] ?_
 iterate 2 refine op1 tok ?_
 refine qA (cnd ?_ ?_)
 ·intro h44
  try simp at h44
  exact absurd h44 o6
 intro h44
 try simp at h44
 refine rgn [] [[],[0,4,5,6,7,48]] ?_
 iterate 2 refine op1 tok ?_
 refine qA (cnd ?_ ?_)
 ·intro h48
  try simp at h48
  exact absurd h48 o7
 intro h48
 try simp at h48
 refine AW.skip (rgn [.nilp,.int .i64 c] [[],[],[0,6,7,54],[0,6,7,8]] ?_)
 iterate 4 refine oq1 tok hc ?_
 refine qA (rgn [] [[],[],[],[],[],[0,6,7,8,57,60],[],[],[],[0,6,7,8,57,64],[],[],[],[0,6,7,8,68],[],[],[],[],[],[0,6,7,8,69,72,74],[],[0,6,7,8,76],[],[],[],[],[],[0,6,7,8,77,80,82],[],[],[],[0,6,7,8,77,80,86],[],[0,6,7,8,88],[],[],[],[0,6,7,89,92],[],[],[],[],[6,7,89,92,95,97],[],[6,7,89,99],[],[6,7,9]] ?_)
 iterate 47 first | refine op1 tok ?_ (hv:=by first | with_reducible exact True.intro | ((intros; grind); done) | omega | simp | (simp +contextual; omega)) | refine op2 tok ?_ (hv:=by first | with_reducible exact True.intro | ((intros; grind); done) | omega | simp | (simp +contextual; omega))
 refine qA (rgn [.nilp,Tv.enc] [[],[],[],[6,104],[6]] ?_)
 iterate 5 refine oq1 tok ht ?_
 exact qA (AW.ret qG)
theorem qWG (s:List UInt8) (hs:s.length≤100000) (hU:qQS G s) (hNu:qUK G s):AFn Tryz.prog G 24 [.str s] ((qRB s).1.enc):=by
 refine AFn.introU tok Tryz.func24 (by kernel_rfl) rfl rfl ?_
 simp only [Tryz.f24,qI,List.map_cons,List.map_nil]
 have h:=zMK (G:=G) s hs hU hNu
 generalize qRB s=r at *
 obtain ⟨v,n,e⟩:=r
 simp only [Val.enc_def] at h
 refine rgn [] [[]] ?_
 refine op1 tok ?_
 refine qA (rgn [.nilp,.tup [v.enc,.int .i64 n,.int .i64 e]] [[],[],[],[],[],[2,9,10,11],[],[],[],[2,3]] ?_)
 iterate 10 refine oq1 tok h ?_
 refine qA (rgn [] [[],[2]] ?_)
 iterate 2 refine op1 tok ?_
 exact qA (AW.ret qG)
end Go.Proofs.YtdojfdaglbphlaaGreatDoor
namespace Go.Proofs.YtdojfdaglbphlaaGreatDoor.Sy
open Go
set_option linter.unusedSimpArgs false
set_option linter.unusedVariables false
section
variable {P:Program} {T:Tab} {G:qR} {st:St}
theorem zGL (hT : TOK P T) {o : Oper} {args : Array Operand} {tys : Array TypeId} (ho : o.op = .call { callee := .builtin .append, args := args, argTypes := tys }) {s x : Operand} {t tn el : TypeId}
  (hargs:args.toList=[s,x]) (htys:tys.toList=[t,tn]) {p q:Prop} (hs:st.arg G s=(p,.nilsl)) (hp:p) {kq kn:IntKind} {n:Nat} (hx:st.arg G x=(q,.p (.int kq n))) (hq:q)
  (ht:wJ T t=some (.sl el)) (htn:wJ T tn=some (.int kn)) {ti:TI} (hti:T el=some ti) {zs:List V} (hzs:ti.zero.cells=some zs) (hzl:zs.length=ti.size) (hby:0<ti.bytes) (hsz:0<ti.size) {e0:PD} (hfit:V.fitsL [] zs e0.cells)
  (h0:0<n) (hbound:n * ti.bytes≤140737488355328) (id:Nat) (hf:st.fresh id=true) :
  zH P G o st (.ms id) { st with H:=(id,.row el ti.size (List.replicate n e0))::st.H }:=by
 intro c M μ tmps w hg r
 have ea:=qCM hargs
 have et:=qCM htys
 subst ea; subst et
 have hvv:=qF hg r hs hp
 have hyy:=(qF hg r hx hq).p_inv
 generalize hu1:Act.eval ⟨tmps,[]⟩ s=u1 at hvv
 generalize hu2:Act.eval ⟨tmps,[]⟩ x=u2 at hyy
 cases hvv
 cases hyy
 obtain ⟨z,hzr,hzc,i,hi,hz,hisz,hiby⟩:=qCT hT hti hzs M μ w
 have hd:=hT.sl ht
 have hdn:P.underlying tn=some (.int kn):=hT.int htn
 have hlen:n≤140737488355328:=Nat.le_trans (Nat.le_mul_of_pos_right _ hby) hbound
 have hrun:=Lib.run_append_grow_zeros (P:=P) w t tn o.type el i z kq kn hd hdn hi hz none 0 0 [] (by simp [Builtin.firstCells]) n h0 (by omega) (by omega) (by omega) (by rw [hiby]; omega) (growslice_fits (by omega) (by rw [hiby,Nat.zero_add]; exact hbound))
 have e1:(execOp (Act.eval ⟨tmps,[]⟩) o).run P w = .ok (.value (.slice (some ⟨w.heap.size,0,none⟩) (0+n) (grownCap w (0+n) 0 el))) (w.drew.alloc (.cells (([]:List Value).toArray++Builtin.zeroCells z.cells n++Builtin.zeroCells z.cells (grownCap w (0+n) 0 el-(0+n))) el)):=by
  simp [execOp,ho,resolve,invoke,builtin,hu1,hu2,hrun]
 rw [e1]
 have hge:=grownCap_ge w (0+n) 0 el
 have hge2:n≤grownCap w n 0 el:=by have h:=grownCap_ge w n 0 el; exact h
 have hcm:=grownCap_le_maxLen w (0+n) 0 el (by simp [maxLen]; omega)
 have hzz:z.cells.size=ti.size:=by have:=hzc.size; omega
 have hall:RowOf M ti.size (List.replicate n e0) (Builtin.zeroCells z.cells n).toList:=by
  rw [qRP,hzz]; exact qPA hzc hzl hfit n
 refine ⟨M,upd μ id ⟨some w.heap.size,.slice (some ⟨w.heap.size,0,none⟩) (0+n) (grownCap w (0+n) 0 el)⟩, ?_,.ms (by rw [qT]) rfl⟩
 refine r.newBox hf ((Grows.drew w).trans (Grows.alloc _ _)) (fun b hb=>by cases hb; exact ⟨Nat.le_refl _,by simp⟩) ?_ rfl
 have hl0:(Builtin.zeroCells z.cells n).size=n * ti.size:=by rw [size_zeroCells,hzz]
 refine hall.box (b:=w.heap.size) (cap:=grownCap w (0+n) 0 el) (by rw [qT]) (by rw [qT]; simp) (heap_alloc_new w.drew _) ?_ (by simp only [Nat.zero_add,List.length_replicate]; exact hge2) hcm (fun j u hu => ?_) ?_
 ·rw [Array.size_append,Array.size_append,size_zeroCells,size_zeroCells,hzz]
  simp only [List.size_toArray,List.length_nil,Nat.zero_add]
  rw [← Nat.add_mul]; congr 1; omega
 ·rw [Array.getElem?_append] at hu
  split at hu
  ·rw [Array.getElem?_append] at hu
   split at hu
   ·simp at hu
   exact qBZ hzc.one _ _ u hu
  exact qBZ hzc.one _ _ u hu
 simp only [Array.toList_append,List.nil_append,List.length_replicate]
 rw [List.take_append_of_le_length (by simp [hl0]),List.take_of_length_le (by simp [hl0])]
theorem qXG (hT : TOK P T) {o : Oper} {x : Operand} {t el : TypeId} {p : Prop} (ho : o.op = .call { callee := .builtin .cap, args := #[x], argTypes := #[t] }) (ht : wJ T t = some (.sl el)) (h1 : st.arg G x = (p, .nilsl)) (hp : p) :
  zH P G o st (.p (.int .i64 0)) st:=by
 intro c M μ tmps w hg r
 have hd:=hT.sl ht
 have e1:=qF hg r h1 hp
 generalize hu1:Act.eval ⟨tmps,[]⟩ x=u1 at e1
 cases e1
 have e:(execOp (Act.eval ⟨tmps,[]⟩) o).run P w = .ok (.value (.int .i64 0)) w:=by
  simp [execOp,ho,resolve,invoke,builtin,hu1,Builtin.cap_,run_underlying hd,goInt]
 rw [e]
 exact ⟨M,μ,r,.p (Rd.intOf (by simp [jF]) (by simp [jG]))⟩
theorem zBS (hT : TOK P T) {o : Oper} {x y : Operand} {t el : TypeId} {p q : Prop} {kd : IntKind} (ho : o.op = .slice t x none (some y) none) (ht : wJ T t = some (.sl el)) (h1 : st.arg G x = (p, .nilsl)) (hp : p) (h2 : st.arg G y = (q, .p (.int kd 0))) (hq : q) {ti : TI} (hti : T el = some ti) :
  zH P G o st .nilsl st:=by
 intro c M μ tmps w hg r
 have hd:=hT.sl ht
 obtain ⟨i,de,hi',_,_,hsz,_⟩:=hT.get hti
 have hso:(sizeOf el).run P w = .ok ti.size w:=by simp [sizeOf,typeInfo,hi',hsz]
 have e1:=qF hg r h1 hp
 have e2:=(qF hg r h2 hq).p_inv
 generalize hu1:Act.eval ⟨tmps,[]⟩ x=u1 at e1
 generalize hu2:Act.eval ⟨tmps,[]⟩ y=u2 at e2
 cases e1
 cases e2
 have hbd:=yB (P:=P) (isSlice:=true) (len:=0) (cap:=0) (lo:=none) (hi:=some (.int kd 0)) (l:=0) (h:=0) (.inl ⟨rfl,rfl⟩) (.inr ⟨kd,rfl⟩) (by omega) (by omega) (by omega) w
 have er:(execOp (Act.eval ⟨tmps,[]⟩) o).run P w = .ok (.value (.slice none 0 0)) w:=by
  simp at hbd
  simp [execOp,ho,hu1,hu2,Instr.sliceAt,Instr.slice,run_underlying hd,hbd,hso]
 rw [er]
 exact ⟨M,μ,r,.nilsl⟩
end
end Go.Proofs.YtdojfdaglbphlaaGreatDoor.Sy
namespace Go.Proofs.YtdojfdaglbphlaaGreatDoor
open Sy Go
set_option maxRecDepth 100000
set_option maxHeartbeats 4000000
set_option linter.unusedSimpArgs false
set_option linter.unusedVariables false
variable {G:qR}
theorem zNN (n:Nat) (hn:n≤1000000):AX Tryz.prog G 136 [.nilsl,.p (.int .i64 n)] [] (.ms 940) [] [(940,.row 31 9 [])]:=by
 refine AX.introU tok 700 Tryz.func136 (by kernel_rfl) rfl rfl ?_
 simp only [Tryz.f136,qI,List.map_cons,List.map_nil]
 refine rgn [] [[0,1]] ?_
 refine op1 tok ?_
 refine qA (AW.seq (rgn [] [[],[0,1,6]] ?_))
 iterate 2 refine op1 tok ?_
 refine qA (cnd ?_ ?_)
 ·intro h6
  try simp at h6
  omega
 intro h6
 try simp at h6
 refine AW.skip (AW.seq (rgn [] [[],[]] ?_))
 iterate 2 refine op1 tok ?_
 refine qZ ?_
 refine qC.stepK [0,8,10] (qXG tok rfl rfl (by conv=>lhs; simp) trivial) (by conv=>lhs; simp) rfl ?_
 refine qC.run [[],[],[],[0,14],[0,1]] ?_
 iterate 5 refine op1 tok ?_
 refine qA (rgn [] [[],[0,1,16]] ?_)
 iterate 2 refine op1 tok ?_
 refine qA (cnd ?_ ?_)
 ·intro h16
  try simp at h16
  skip
  refine rgz [] [[],[]] ?_
  iterate 2 refine op1 tok ?_
  refine qZ ?_
  refine qC.stepK [0,1,17,19] (qXG tok rfl rfl (by conv=>lhs; simp) trivial) (by conv=>lhs; simp) rfl ?_
  refine qC.stepK [0,1,20] (zBS tok rfl rfl (by conv=>lhs; simp) trivial (by conv=>lhs; simp) trivial rfl) (by conv=>lhs; simp) rfl ?_
  refine qC.run [[]] ?_
  refine op1 tok ?_
  refine qZ ?_
  refine qC.stepK [0,22] (zGL tok rfl rfl rfl (n:=n) (by conv=>lhs; simp) trivial (by conv=>lhs; simp) trivial rfl rfl rfl rfl rfl (by decide) (by decide) (e0:=yR.enc) (by simp [yR,dc0,V.fitsL]) (by omega) (Nat.le_trans (Nat.mul_le_mul_right _ hn) (by decide)) 940 (by simp)) (by conv=>lhs; simp) rfl ?_
  refine qC.run [[],[]] ?_
  iterate 2 refine op1 tok ?_
  refine qZ ?_
  refine qC.stepK [25] (qXF tok rfl rfl 0 (by conv=>lhs; simp) trivial (by conv=>lhs; simp) trivial rfl (by conv=>lhs; simp) (by simp) (by omega)) (by conv=>lhs; simp) rfl ?_
  refine qC.run [[0]] ?_
  refine op1 tok ?_
  refine qA (rgn [] [[],[4]] ?_)
  iterate 2 refine op1 tok ?_
  refine qA ?_
  exact AW.ret wD
 intro h16
 try simp at h16
 refine AW.skip (rgn [] [[],[4]] ?_)
 iterate 2 refine op1 tok ?_
 refine qA ?_
 refine AW.beginE 4 940 31 9 (by simp) (by simp) (by conv=>lhs; simp) ?_
 exact AW.ret wD
def qIL (L:List (List Val)):List PD:=L.map fun l => .sl 9 (l.map Val.enc)
theorem qSG {L:List (List Val)} {k:Nat} {l:List Val} (h:L[k]?=some l):(qIL L)[k]?=some (.sl 9 (l.map Val.enc)):=by simp [qIL,h]
@[simp] theorem zVS (L:List (List Val)):(qIL L).length=L.length:=by simp [qIL]
def qJH (L:List (List Val)) (k:Nat):List Val:=(L.take k).flatten
def qQU (L:List (List Val)) (k:Nat):Nat:=(qJH L k).length
theorem qPP {L:List (List Val)} {k:Nat} {l:List Val} (h:L[k]?=some l):qJH L (k+1)=qJH L k++l:=by
 unfold qJH
 rw [List.take_add_one,h,List.flatten_append]; simp
theorem qSA {L:List (List Val)} {k:Nat} {l:List Val} (h:L[k]?=some l):((qQU L (k+1):Nat):Int)=(qQU L k:Int)+(l.length:Int):=by
 unfold qQU
 rw [qPP h,List.length_append]; omega
theorem zJH (L:List (List Val)):qJH L L.length=L.flatten:=by unfold qJH; rw [List.take_length]
theorem zPV (L:List (List Val)) (k:Nat):qQU L k≤L.flatten.length:=by
 have:L.flatten=(L.take k).flatten++(L.drop k).flatten:=by rw [← List.flatten_append,List.take_append_drop]
 unfold qQU qJH
 rw [this,List.length_append]; omega
theorem zJO (L:List (List Val)) (hL:L.length≤1000000) (hF:L.flatten.length≤1000000):AFn Tryz.prog G 79 [.sl 1 (qIL L)] (.sl 9 (L.flatten.map Val.enc)):=by
 refine AFn.introU tok Tryz.func79 (by kernel_rfl) rfl rfl ?_
 simp only [Tryz.f79,qI,List.map_cons,List.map_nil]
 have hfl:=zPV L
 have hz:qQU L 0=0:=rfl
 have hz2:qJH L 0=[]:=rfl
 have hall:=zJH L
 have hsum:qQU L L.length=L.flatten.length:=by unfold qQU; rw [hall]
 generalize L.flatten=Z at *
 refine rgn [] [[0]] ?_
 refine op1 tok ?_
 refine qA (rgn [] [[]] ?_)
 refine op1 tok ?_
 refine qA (AW.seq (rgn [] [[],[],[]] ?_))
 iterate 3 refine op1 tok ?_
 refine qA (AW.block ?_)
 refine AW.loop (α:=Nat) (fun k=>k≤L.length) (fun k=>⟨qV 36 [(0,.p (.sl 1 (qIL L))),(3,.p (.int .i64 (qQU L k))),(9,.p (.sl 1 (qIL L))),(10,.p (.int .i64 L.length)),(11,.p (.int .i64 k))],[],[],0⟩) (fun k=>L.length-k) (0) (by omega) ⟨qB (by simp [hz]),rfl,by simp [hz],by simp [hz]⟩ ?_
 rintro k hk
 refine rgn [] [[]] ?_
 refine op1 tok ?_
 refine qA (AW.seq (cnd ?_ ?_))
 ·intro h12
  try simp at h12
  obtain ⟨l,hl⟩:∃ l,L[k]?=some l:=⟨L[k]'(by omega),List.getElem?_eq_getElem _⟩
  have hg:=qSG hl
  have hlen:=qSA hl
  have h1:=hfl (k+1)
  refine AW.skip (AW.seq (AW.block (rgn [.sl 9 (l.map Val.enc)] [[],[],[0,3,5,9,10,11]] ?_)))
  iterate 3 refine op1 tok ?_ (hv:=by first | with_reducible exact True.intro | (first | (simp [hg]; done) | (simp [hg]; omega); done) | omega | simp | (simp +contextual; omega))
  refine qA (rgn [] [[],[],[],[0,9,10,11,18],[0,3,9,10,11]] ?_)
  iterate 5 refine op1 tok ?_
  refine qA (rgn [] [[],[0,3,9,10,11,20]] ?_)
  iterate 2 refine op1 tok ?_
  refine qA (cnd ?_ ?_)
  ·intro h20
   try simp at h20
   omega
  intro h20
  try simp at h20
  refine AW.skip (rgz [] [[],[0,3,9,10,11]] ?_)
  iterate 2 refine op1 tok ?_
  refine qA ?_
  exact ⟨k+1,by omega,by omega,qB (by simp [hlen]),rfl,by simp [hlen],by simp [hlen]⟩
 intro h12
 try simp at h12
 obtain rfl:k=L.length:=by omega
 rw [hsum]
 have hgr:=zNN (G:=G) Z.length hF
 refine AW.exit ?_
 simp
 refine rgn [] [[]] ?_
 refine op1 tok ?_
 refine qZ ?_
 refine qC.stepK [0,24] (yS rfl hgr (by simp)) (by conv=>lhs; simp) rfl ?_
 refine qC.run [[0,6]] ?_
 refine op1 tok ?_
 refine qA (AW.seq (rgn [] [[],[],[6,25,26,27]] ?_))
 iterate 3 refine op1 tok ?_
 refine qA (AW.block ?_)
 refine AW.loop (α:=Nat) (fun k=>k≤L.length) (fun k=>⟨qV 36 [(6,.ms 940),(25,.p (.sl 1 (qIL L))),(26,.p (.int .i64 L.length)),(27,.p (.int .i64 k))],[],[(940,.row 31 9 ((qJH L k).map Val.enc))],0⟩) (fun k=>L.length-k) (0) (by omega) ⟨qB (by simp [hz2]),rfl,by simp [hz2],by simp [hz2]⟩ ?_
 rintro k hk
 refine rgn [] [[]] ?_
 refine op1 tok ?_
 refine qA (AW.seq (cnd ?_ ?_))
 ·intro h28
  try simp at h28
  obtain ⟨l,hl⟩:∃ l,L[k]?=some l:=⟨L[k]'(by omega),List.getElem?_eq_getElem _⟩
  have hg:=qSG hl
  have hs:=qPP hl
  have h1:=hfl (k+1)
  have h2:=hfl k
  have hlen:=qSA hl
  unfold qQU at h1 h2 hlen
  refine AW.skip (AW.seq (AW.block (rgn [.sl 9 (l.map Val.enc)] [[],[],[6,8,25,26,27]] ?_)))
  iterate 3 refine op1 tok ?_ (hv:=by first | with_reducible exact True.intro | (first | (simp [hg]; done) | (simp [hg]; omega); done) | omega | simp | (simp +contextual; omega))
  refine qA (rgz [] [[],[],[25,26,27,33],[6,25,26,27]] ?_)
  iterate 4 refine op1 tok ?_
  refine qA (rgz [] [[],[6,25,26,27]] ?_)
  iterate 2 refine op1 tok ?_
  refine qA ?_
  exact ⟨k+1,by omega,by omega,qB (by simp [hs]),rfl,by simp [hs],by simp [hs]⟩
 intro h28
 try simp at h28
 obtain rfl:k=L.length:=by omega
 rw [hall]
 refine AW.exit ?_
 simp
 refine AW.freezeE 940 (by conv=>lhs; simp) ?_
 refine rgn [] [[],[2]] ?_
 iterate 2 refine op1 tok ?_
 exact qA (AW.ret qG)
def qEY (v:Val) (m:Int):Val:=if 200<v.kids.length∨4096<v.text.length then wQ 3 m else v
def qYT (a b:Val) (m:Int):Val :=
 if a.kind=1 then vD b m else if b.kind=1 then vD a m else if a.kind=5∧b.kind=5 then qEY (.mk 5 m dc0 (a.text++b.text) [] [] 0) m
 else if a.kind=6∧b.kind=6 then qEY (.mk 6 m dc0 [] [] (a.kids++b.kids) 0) m else if a.kind=7∧b.kind=7 then qEY (kV a b m) m else wQ 40 m
theorem qBV {v:Val} (h:qS v=true):v.text.length≤4096:=by
 rw [jX] at h
 simp only [Bool.and_eq_true,qAA] at h
 have h2:=h.1.2.1.1.2
 unfold qLO at h2
 split at h2
 ·unfold xA at h2
  simp only [Bool.and_eq_true,decide_eq_true_eq] at h2
  omega
 simp at h2; simp [h2]
theorem qON (a b:Val) (top deep:Int) (g:FuncId) (hn:¬ (a.kind=4∧b.kind=4)):AFn Tryz.prog G 34 [.agg (prC a b top deep),.fn g] ((wQ 40 top).enc):=by
 refine AFn.introU tok Tryz.func34 (by kernel_rfl) rfl rfl ?_
 simp only [Tryz.f34,qI,List.map_cons,List.map_nil]
 have hk:=kS (G:=G) a b top deep 4
 have hf:=qFI (G:=G) a b top deep 40
 rw [show (decide (a.kind=4) && decide (b.kind=4))=false by rw [← Bool.decide_and,decide_eq_false hn]] at hk
 simp only [Val.enc_def] at hf
 refine rgn [] [[],[1,2,4]] ?_
 iterate 2 refine op1 tok ?_
 refine qA (AW.seq (rgn [.nilp,.bool false] [[],[],[1,2,4,9]] ?_))
 iterate 3 refine oq1 tok hk ?_
 refine qA (cnd ?_ ?_)
 ·intro h9
  try simp at h9
  refine rgn [.nilp,(wQ 40 top).enc] [[],[],[4]] ?_
  iterate 3 refine oq1 tok hf ?_
  exact qA (AW.ret qG)
 intro h9
 try simp at h9
theorem zMF (a b:Val) (top deep:Int) (ha:qS a=true) (hb:qS b=true) (hn:¬ (a.kind=4∧b.kind=4)) (hla:a.kind=7→a.keys.length=a.kids.length) (hlb:b.kind=7→b.keys.length=b.kids.length):AFn Tryz.prog G 32 [.agg (prC a b top deep)] ((qYT a b top).enc):=by
 refine AFn.introU tok Tryz.func32 (by kernel_rfl) rfl rfl ?_
 simp only [Tryz.f32,qI,List.map_cons,List.map_nil]
 have k5:=kS (G:=G) a b top deep 5
 have k6:=kS (G:=G) a b top deep 6
 have k7:=kS (G:=G) a b top deep 7
 have w1:=zEH (G:=G) a top ha
 have w2:=zEH (G:=G) b top hb
 have hsa:=wZ ha
 have hsb:=wZ hb
 have hcc:=zJO (G:=G) [a.kids,b.kids] (by simp) (by simp; omega)
 rw [show [a.kids,b.kids].flatten=a.kids++b.kids by simp] at hcc
 have hcl:=qUD (G:=G) (.mk 6 top dc0 [] [] (a.kids++b.kids) 0) (.mk (by simp) (by simp only [Val.kids_mk,List.length_append]; omega) (by
  intro k hk
  rcases List.mem_append.1 hk with h | h
  ·exact qMU k (yG ha h)
  exact qMU k (yG hb h)))
 have hm:=fun h7:a.kind=7∧b.kind=7=>qSR (G:=G) a b top deep ha hb (hla h7.1) (hlb h7.2)
 have hf:=qFI (G:=G) a b top deep 3
 have hnum:=qON (G:=G) a b top deep 81 hn
 have e:qYT a b top=if a.kind=1 then vD b top else if b.kind=1 then vD a top else if a.kind=5∧b.kind=5 then qEY (.mk 5 top dc0 (a.text++b.text) [] [] 0) top
  else if a.kind=6∧b.kind=6 then qEY (.mk 6 top dc0 [] [] (a.kids++b.kids) 0) top else if a.kind=7∧b.kind=7 then qEY (kV a b top) top else wQ 40 top:=rfl
 rw [e]
 simp only [Val.enc_def] at w1 w2 hm hf hnum hcl
 have ta:=qBV ha
 have tb:=qBV hb
 have hbg:∀ v:Val,qEY v top=if 200<v.kids.length∨4096<v.text.length then wQ 3 top else v:=fun _=>rfl
 refine rgn [] [[],[1,2]] ?_
 iterate 2 refine op1 tok ?_
 refine qA (rgn [] [[]] ?_)
 refine op1 tok ?_
 refine qA (AW.seq (AW.block (rgn [] [[],[],[],[],[1,2,3,6]] ?_)))
 iterate 5 refine op1 tok ?_
 refine qA (cnd ?_ ?_)
 ·intro h6
  try simp at h6
  rw [if_pos h6]
  refine rgn [.nilp,(vD b top).enc] [[],[],[],[],[2,15],[2]] ?_
  iterate 6 refine oq1 tok w2 ?_
  refine qA ?_
  exact AW.ret (qG (k:=by simp [dc0]))
 intro h6
 try simp at h6
 rw [if_neg h6]
 refine rgn [] [[],[],[],[],[1,2,3,16]] ?_
 iterate 5 refine op1 tok ?_
 refine qA (cnd ?_ ?_)
 ·intro h16
  try simp at h16
  rw [if_pos h16]
  refine rgn [.nilp,(vD a top).enc] [[],[],[],[],[2,25],[2]] ?_
  iterate 6 refine oq1 tok w1 ?_
  refine qA ?_
  exact AW.ret (qG (k:=by simp [dc0]))
 intro h16
 try simp at h16
 rw [if_neg h16]
 refine rgn [.nilp,.bool (decide (a.kind=5) && decide (b.kind=5))] [[],[],[1,2,3,26]] ?_
 iterate 3 refine oq1 tok k5 ?_
 refine qA (cnd ?_ ?_)
 ·intro h26
  try simp at h26
  rw [if_pos (by simpa using h26),hbg]
  refine rgz [] [[],[],[],[],[],[1,2,3,31,34],[],[],[],[1,2,3,38],[1,2,3]] ?_
  iterate 11 refine op1 tok ?_ (hv:=by first | with_reducible exact True.intro | (first | omega | (simp; omega); done) | omega | simp | (simp +contextual; omega))
  refine qA (AW.seq (rgn [] [[],[],[],[],[1,2,3,63],[],[],[],[],[1,2,3,68]] ?_))
  iterate 5 refine op1 tok ?_
  iterate 4 refine op2 tok ?_
  refine op1 tok ?_
  refine qA (cnd ?_ ?_)
  ·intro h68
   try simp at h68
   rw [if_pos (by first | omega | (simp at h68 ⊢; omega))]
   refine rgn [.nilp,(wQ 3 top).enc] [[],[],[2]] ?_
   iterate 3 refine oq1 tok hf ?_
   refine qA ?_
   exact AW.ret (qG (k:=by simp [dc0]))
  intro h68
  try simp at h68
  rw [if_neg (by first | omega | (simp at h68 ⊢; omega))]
  refine AW.skip (rgn [] [[],[2]] ?_)
  iterate 2 refine op1 tok ?_
  refine qA ?_
  exact AW.ret (qG (k:=by simp [dc0]))
 intro h26
 try simp at h26
 rw [if_neg (show ¬ (a.kind=5∧b.kind=5) from fun h=>by simp [h.1,h.2] at h26)]
 refine rgn [.nilp,.bool (decide (a.kind=6) && decide (b.kind=6))] [[],[],[1,2,3,39]] ?_
 iterate 3 refine oq1 tok k6 ?_
 refine qA (cnd ?_ ?_)
 ·intro h39
  try simp at h39
  rw [if_pos (by simpa using h39),hbg]
  refine AW.drawS tok mixed 12 [[1],[42],[43],[1],[45],[46],[44,47],[48],[1],[50],[49,51],[52]] [.sl 9 (a.kids.map Val.enc),.sl 9 (b.kids.map Val.enc),.nilp,.sl 9 ((a.kids++b.kids).map Val.enc),.nilp,(Val.mk 6 top dc0 [] [] (a.kids++b.kids) 0).enc] [] (by kernel_rfl) ?_
  iterate 12 refine d1 ?_ (hv:=by first | with_reducible exact True.intro | (first | (simpa [qIL] using hcc) | (simpa [dc0] using hcl); done) | omega | simp | (simp +contextual; omega))
  refine DGo.nil (by kernel_rfl) ⟨by kernel_rfl, ?_⟩
  refine qC.run [[1,2,3]] ?_
  refine op1 tok ?_
  refine qA (AW.seq (rgn [] [[],[],[],[],[1,2,3,63],[],[],[],[],[1,2,3,68]] ?_))
  iterate 5 refine op1 tok ?_
  iterate 4 refine op2 tok ?_
  refine op1 tok ?_
  refine qA (cnd ?_ ?_)
  ·intro h68
   try simp at h68
   rw [if_pos (by first | omega | (simp at h68 ⊢; omega))]
   refine rgn [.nilp,(wQ 3 top).enc] [[],[],[2]] ?_
   iterate 3 refine oq1 tok hf ?_
   refine qA ?_
   exact AW.ret (qG (k:=by simp [dc0]))
  intro h68
  try simp at h68
  rw [if_neg (by first | omega | (simp at h68 ⊢; omega))]
  refine AW.skip (rgn [] [[],[2]] ?_)
  iterate 2 refine op1 tok ?_
  refine qA ?_
  exact AW.ret (qG (k:=by simp [dc0]))
 intro h39
 try simp at h39
 rw [if_neg (show ¬ (a.kind=6∧b.kind=6) from fun h=>by simp [h.1,h.2] at h39)]
 refine rgn [.nilp,.bool (decide (a.kind=7) && decide (b.kind=7))] [[],[],[1,2,3,54]] ?_
 iterate 3 refine oq1 tok k7 ?_
 refine qA (cnd ?_ ?_)
 ·intro h54
  try simp at h54
  rw [if_pos (by simpa using h54),hbg]
  have hm:=hm (by simpa using h54)
  generalize kV a b top=M at *
  refine rgz [.nilp,M.enc] [[],[],[1,2,3]] ?_
  iterate 3 refine oq1 tok hm ?_
  refine qA (AW.seq (rgn [] [[],[],[],[],[1,2,3,63],[],[],[],[],[1,2,3,68]] ?_))
  iterate 5 refine op1 tok ?_
  iterate 4 refine op2 tok ?_
  refine op1 tok ?_
  refine qA (cnd ?_ ?_)
  ·intro h68
   try simp at h68
   rw [if_pos (by first | omega | (simp at h68 ⊢; omega))]
   refine rgn [.nilp,(wQ 3 top).enc] [[],[],[2]] ?_
   iterate 3 refine oq1 tok hf ?_
   refine qA ?_
   exact AW.ret (qG (k:=by simp [dc0]))
  intro h68
  try simp at h68
  rw [if_neg (by first | omega | (simp at h68 ⊢; omega))]
  refine AW.skip (rgn [] [[],[2]] ?_)
  iterate 2 refine op1 tok ?_
  refine qA ?_
  exact AW.ret (qG (k:=by simp [dc0]))
 intro h54
 try simp at h54
 rw [if_neg (show ¬ (a.kind=7∧b.kind=7) from fun h=>by simp [h.1,h.2] at h54)]
 refine rgn [.nilp,(wQ 40 top).enc] [[],[],[2]] ?_
 iterate 3 refine oq1 tok hnum ?_
 refine qA ?_
 exact AW.ret (qG (k:=by simp [dc0]))
def zA:Nat→Nat→List UInt8
 | 0,_=>[]
 | w+1,v=>UInt8.ofNat (48+v / 10 ^ w % 10)::zA w v
theorem zD:∀ w v,(zA w v).length=w
 | 0,_=>rfl
 | w+1,v=>by simp [zA,zD w v]
theorem kF {n:Nat} (h:n<10):(UInt8.ofNat (48+n)).toNat=48+n:=by rw [UInt8.toNat_ofNat']; omega
theorem zT:∀ w v,(zA w v).all qH=true
 | 0,_=>rfl
 | w+1,v=>by
  have h:v / 10 ^ w % 10<10:=Nat.mod_lt _ (by decide)
  simp only [zA,List.all_cons,zT w v,Bool.and_true]
  rw [zK,kF h]; omega
theorem zZ:∀ w v,qE (zA w v)=v % 10 ^ w
 | 0,v=>by simp [zA,qE,Nat.mod_one]
 | w+1,v=>by
  have h:v / 10 ^ w % 10<10:=Nat.mod_lt _ (by decide)
  simp only [zA]
  rw [wY,zZ w v,zD,kF h,Nat.mod_pow_succ,Nat.mul_comm (10 ^ w)]
  rw [show 48+v / 10 ^ w % 10-48=v / 10 ^ w % 10 by omega]; omega
theorem qWH {s:List UInt8} (h:s.all qH=true):s=zA s.length (qE s) :=
 qKX _ _ (zD _ _).symm h (zT _ _) (by rw [zZ,Nat.mod_eq_of_lt (wB h)])
def zW (neg:Bool) (v scale:Nat):Dc × Int:=yX neg (Lib.decDigits v) scale
theorem qQD (u:Nat):qE (Lib.decDigits u)=u:=by
 induction u using Nat.strongRecOn with
 | _ u ih =>
  rw [Lib.decDigits]
  split
  ·rename_i h
   simp only [qE,List.foldl_cons,List.foldl_nil,kF h]; omega
  rename_i h
  rw [kN,ih (u / 10) (by omega),kF (Nat.mod_lt _ (by decide))]; omega
theorem qJK (u:Nat):(Lib.decDigits u).all qH=true:=by
 induction u using Nat.strongRecOn with
 | _ u ih =>
  rw [Lib.decDigits]
  split
  ·rename_i h
   simp only [List.all_cons,List.all_nil,Bool.and_true]
   rw [zK,kF h]; omega
  rename_i h
  rw [List.all_append,ih (u / 10) (by omega)]
  simp only [List.all_cons,List.all_nil,Bool.and_true,Bool.true_and]
  rw [zK,kF (Nat.mod_lt _ (by decide))]; omega
theorem vE:∀ s:List UInt8,qE (qQ s)=qE s
 | []=>rfl
 | b::s=>by
  unfold qQ
  rw [List.dropWhile_cons]
  by_cases h:b=48
  ·subst h
   simp only [beq_self_eq_true,if_true]
   have:=vE s
   unfold qQ at this
   rw [this,wY]; simp
  rw [if_neg (by simpa using h)]
theorem uE (s:List UInt8) (h:0<(qQ s).length):qW (qQ s) 0≠48:=by
 unfold qQ at h ⊢
 have:=List.head?_dropWhile_not (fun b:UInt8=>b == 48) s
 cases hs:s.dropWhile (fun b=>b == 48) with
 | nil=>rw [hs] at h; simp at h
 | cons b r =>
  rw [hs] at this
  simp only [List.head?_cons] at this
  have hb:¬ b=48:=by simpa using this
  unfold qW
  simp only [List.getD_cons_zero]
  intro e
  exact hb (UInt8.toNat_inj.1 (by show b.toNat=48; omega))
theorem jT {s:List UInt8} (h:s.all qH=true):(qQ s).all qH=true:=by
 rw [List.all_eq_true] at h ⊢
 exact fun b hb=>h b ((List.dropWhile_sublist _).subset hb)
theorem qYA {x y:List UInt8} (hx:x.all qH=true) (hy:y.all qH=true) (h:qE x=qE y):qQ x=qQ y:=by
 rw [← vE x,← vE y] at h
 have z:∀ s:List UInt8,s.all qH=true→0<(qQ s).length→qE (qQ s)≠0:=fun s hs hl e=>by
  have:=uN (jT hs) hl (uE s hl)
  have:=Nat.pow_pos (n:=(qQ s).length-1) (show 0<10 by omega)
  omega
 by_cases h1:0<(qQ x).length
 ·by_cases h2:0<(qQ y).length
  ·exact qKX _ _ (qZU (jT hx) (jT hy) h1 h2 (uE x h1) (uE y h2) h) (jT hx) (jT hy) h
  have e:qQ y=[]:=List.length_eq_zero_iff.1 (by omega)
  rw [e] at h
  exact absurd h (z x hx h1)
 have e:qQ x=[]:=List.length_eq_zero_iff.1 (by omega)
 by_cases h2:0<(qQ y).length
 ·rw [e] at h
  exact absurd h.symm (z y hy h2)
 rw [e,List.length_eq_zero_iff.1 (show (qQ y).length=0 by omega)]
theorem qOP (neg:Bool) {s:List UInt8} (h:s.all qH=true) (sc:Nat):yX neg s sc=zW neg (qE s) sc:=by
 unfold zW yX
 rw [qYA h (qJK (qE s)) (qQD _).symm]
def xP (l m:List Nat):Nat→List Nat × Nat
 | 0=>([],0)
 | i+1=>((xP l m i).1++[(l.getD i 0+m.getD i 0+(xP l m i).2) % qK],(l.getD i 0+m.getD i 0+(xP l m i).2) / qK)
def qWV (l m:List Nat):List Nat:=yO ((xP l m (max l.length m.length)).1++[(xP l m (max l.length m.length)).2])
theorem xQ {l:List Nat} (h:okL l) (i:Nat):l.getD i 0<qK:=by
 rw [List.getD_eq_getElem?_getD]
 cases hi:l[i]? with
 | none=>simp [qK]
 | some x=>exact h x (List.mem_of_getElem? hi)
theorem qCR {l:List Nat} (i:Nat):qP (l.take (i+1))=qP (l.take i)+qK ^ i * l.getD i 0:=by
 by_cases h:i<l.length
 ·rw [qHJ h,jQ,List.length_take,Nat.min_eq_left (by omega)]
 rw [List.take_of_length_le (by omega),List.take_of_length_le (by omega)]
 simp [List.getD_eq_getElem?_getD,List.getElem?_eq_none (show l.length≤i by omega)]
theorem qGE (l m:List Nat):∀ i,(xP l m i).1.length=i
 | 0=>rfl
 | i+1=>by simp [xP,qGE l m i]
theorem qLF {l m:List Nat} (hl:okL l) (hm:okL m):∀ i,okL (xP l m i).1∧(xP l m i).2≤1∧qP (xP l m i).1+qK ^ i * (xP l m i).2=qP (l.take i)+qP (m.take i)
 | 0=>⟨(by intro x hx; cases hx),by simp [xP],by simp [xP,qP]⟩
 | i+1=>by
  obtain ⟨h1,h2,h3⟩:=qLF hl hm i
  have hlen:=qGE l m i
  have a1:=xQ hl i
  have a2:=xQ hm i
  rw [qCR,qCR]
  simp only [xP]
  generalize xP l m i=A at *
  generalize l.getD i 0=x at *
  generalize m.getD i 0=y at *
  have hd:=Nat.div_add_mod (x+y+A.2) qK
  have hb:0<qK:=by decide
  refine ⟨?_, ?_, ?_⟩
  ·intro z hz
   rcases List.mem_append.1 hz with h | h
   ·exact h1 z h
   rw [List.mem_singleton.1 h]; exact Nat.mod_lt _ hb
  ·have:(x+y+A.2) / qK<2:=(Nat.div_lt_iff_lt_mul hb).2 (by omega)
   omega
  rw [jQ,hlen,Nat.pow_succ]
  have e:qK ^ i * ((x+y+A.2) % qK)+qK ^ i * qK * ((x+y+A.2) / qK)=qK ^ i * (x+y+A.2):=by
   rw [Nat.mul_assoc,← Nat.mul_add,Nat.add_comm,hd]
  have e2:qK ^ i * (x+y+A.2)=qK ^ i * x+qK ^ i * y+qK ^ i * A.2:=by rw [Nat.mul_add,Nat.mul_add]
  omega
theorem zKD {l m:List Nat} (hl:okL l) (hm:okL m):okL (qWV l m)∧qP (qWV l m)=qP l+qP m:=by
 obtain ⟨h1,h2,h3⟩:=qLF hl hm (max l.length m.length)
 have hlen:=qGE l m (max l.length m.length)
 unfold qWV
 refine ⟨qGI ?_, ?_⟩
 ·intro z hz
  rcases List.mem_append.1 hz with h | h
  ·exact h1 z h
  rw [List.mem_singleton.1 h]; unfold qK; omega
 rw [qDS,jQ,hlen,h3,List.take_of_length_le (by omega),List.take_of_length_le (by omega)]
theorem qHH (l:List Nat):(yO l).length≤l.length:=by
 unfold yO; rw [List.length_reverse]; have:=(List.dropWhile_sublist (fun x:Nat=>x == 0) (l:=l.reverse)).length_le; simpa using this
theorem zOZ (l m:List Nat):(qWV l m).length≤max l.length m.length+1:=by
 unfold qWV
 have:=qHH ((xP l m (max l.length m.length)).1++[(xP l m (max l.length m.length)).2])
 rw [List.length_append,qGE] at this
 simpa using this
def vO (l m:List Nat):Nat→List Nat × Nat
 | 0=>([],0)
 | i+1=>((vO l m i).1++[(l.getD i 0+qK-m.getD i 0-(vO l m i).2) % qK],1-(l.getD i 0+qK-m.getD i 0-(vO l m i).2) / qK)
def qUW (l m:List Nat):List Nat:=yO (vO l m l.length).1
theorem qFB (l m:List Nat):∀ i,(vO l m i).1.length=i
 | 0=>rfl
 | i+1=>by simp [vO,qFB l m i]
theorem qKB {l m:List Nat} (hl:okL l) (hm:okL m):∀ i,okL (vO l m i).1∧(vO l m i).2≤1∧qP (vO l m i).1+qP (m.take i)=qP (l.take i)+qK ^ i * (vO l m i).2
 | 0=>⟨(by intro x hx; cases hx),by simp [vO],by simp [vO,qP]⟩
 | i+1=>by
  obtain ⟨h1,h2,h3⟩:=qKB hl hm i
  have hlen:=qFB l m i
  have a1:=xQ hl i
  have a2:=xQ hm i
  rw [qCR,qCR]
  simp only [vO]
  generalize vO l m i=A at *
  generalize l.getD i 0=x at *
  generalize m.getD i 0=y at *
  generalize hz:x+qK-y-A.2=z
  have hd:=Nat.div_add_mod z qK
  have hb:0<qK:=by decide
  have hq:z / qK<2:=(Nat.div_lt_iff_lt_mul hb).2 (by omega)
  refine ⟨?_,Nat.sub_le _ _, ?_⟩
  ·intro w hw
   rcases List.mem_append.1 hw with h | h
   ·exact h1 w h
   rw [List.mem_singleton.1 h]; exact Nat.mod_lt _ hb
  rw [jQ,hlen,Nat.pow_succ]
  have e:qK ^ i * (z % qK)+qK ^ i * qK * (z / qK)=qK ^ i * z:=by
   rw [Nat.mul_assoc,← Nat.mul_add,Nat.add_comm,hd]
  have e2:qK ^ i * z+qK ^ i * y+qK ^ i * A.2=qK ^ i * x+qK ^ i * qK:=by
   rw [← Nat.mul_add,← Nat.mul_add,← Nat.mul_add]; congr 1; omega
  have e3:qK ^ i * qK * (1-z / qK)+qK ^ i * qK * (z / qK)=qK ^ i * qK:=by
   rw [← Nat.mul_add]
   generalize z / qK=q at *
   rw [show 1-q+q=1 by omega,Nat.mul_one]
  omega
theorem qSB {l m:List Nat} (hl:okL l) (hm:okL m) (hlen:m.length≤l.length) (h:qP m≤qP l):okL (qUW l m)∧qP (qUW l m)=qP l-qP m:=by
 obtain ⟨h1,h2,h3⟩:=qKB hl hm l.length
 have hlt:=qFR h1
 rw [qFB] at hlt
 rw [List.take_of_length_le (Nat.le_refl _),List.take_of_length_le hlen] at h3
 have h0:(vO l m l.length).2=0:=by
  rcases Nat.eq_zero_or_pos (vO l m l.length).2 with h0 | h0
  ·exact h0
  have:(vO l m l.length).2=1:=by omega
  rw [this,Nat.mul_one] at h3; omega
 rw [h0,Nat.mul_zero] at h3
 unfold qUW
 exact ⟨qGI h1,by rw [qDS]; omega⟩
theorem qXZ (l m:List Nat):(qUW l m).length≤l.length:=by
 unfold qUW
 have:=qHH (vO l m l.length).1
 rwa [qFB] at this
theorem zIU {l:List Nat}:∀ {j:Nat} {v:Nat},j<l.length→qP (l.set j v)+qK ^ j * l.getD j 0=qP l+qK ^ j * v:=by
 induction l with
 | nil=>intro j v h; simp at h
 | cons a l ih =>
  intro j v h
  cases j with
  | zero=>simp [qP]; omega
  | succ j =>
   have:=ih (j:=j) (v:=v) (by simpa using h)
   simp only [List.set_cons_succ,qP,List.getD_cons_succ,Nat.pow_succ]
   have e:∀ t:Nat,qK ^ j * qK * t=qK * (qK ^ j * t):=fun t=>by rw [Nat.mul_comm (qK ^ j),Nat.mul_assoc]
   rw [e,e]
   have:=congrArg (qK * ·) this
   simp only [Nat.mul_add] at this
   omega
def uQ (m:List Nat) (x i:Nat) (out:List Nat):Nat→List Nat × Nat
 | 0=>(out,0)
 | k+1=>let A:=uQ m x i out k; (A.1.set (i+k) ((A.1.getD (i+k) 0+x * m.getD k 0+A.2) % qK),(A.1.getD (i+k) 0+x * m.getD k 0+A.2) / qK)
def qCG (l m:List Nat):Nat→List Nat
 | 0=>List.replicate (l.length+m.length+1) 0
 | i+1=>(uQ m (l.getD i 0) i (qCG l m i) (m.length+1)).1
def qZG (l m:List Nat):List Nat:=yO (qCG l m l.length)
theorem qIM (m:List Nat) (x i:Nat) (out:List Nat):∀ k,(uQ m x i out k).1.length=out.length
 | 0=>rfl
 | k+1=>by simp [uQ,qIM m x i out k]
theorem qNW (m:List Nat) (x i:Nat) (out:List Nat):∀ k j,i+k≤j→(uQ m x i out k).1.getD j 0=out.getD j 0
 | 0,j,_=>rfl
 | k+1,j,h=>by
  have ih:=qNW m x i out k j (by omega)
  simp only [uQ]
  rw [← ih]
  simp only [List.getD_eq_getElem?_getD]
  rw [List.getElem?_set_ne (by omega)]
theorem qGN {m:List Nat} {x i:Nat} {out:List Nat} (hm:okL m) (hx:x<qK) (ho:okL out):∀ k,i+k≤out.length→okL (uQ m x i out k).1∧(uQ m x i out k).2<qK∧qP (uQ m x i out k).1+qK ^ (i+k) * (uQ m x i out k).2=qP out+qK ^ i * x * qP (m.take k)
 | 0,_=>⟨ho,(by show 0<qK; decide),by simp [uQ,qP]⟩
 | k+1,h=>by
  obtain ⟨h1,h2,h3⟩:=qGN (i:=i) hm hx ho k (by omega)
  have hlen:=qIM m x i out k
  have a2:=xQ hm k
  have a1:=xQ h1 (i+k)
  rw [qCR]
  simp only [uQ]
  generalize uQ m x i out k=A at *
  have hset:=zIU (l:=A.1) (j:=i+k) (v:=(A.1.getD (i+k) 0+x * m.getD k 0+A.2) % qK) (by omega)
  generalize A.1.getD (i+k) 0=o at *
  generalize m.getD k 0=y at *
  have hxy:x * y≤(qK-1) * (qK-1):=Nat.mul_le_mul (by omega) (by omega)
  have hdx:(qK-1) * (qK-1)+(qK-1)+(qK-1)<qK * qK:=by decide
  generalize hz:o+x * y+A.2=z at *
  have hd:=Nat.div_add_mod z qK
  have hb:0<qK:=by decide
  refine ⟨?_,(Nat.div_lt_iff_lt_mul hb).2 (by omega), ?_⟩
  ·intro w hw
   rcases List.mem_or_eq_of_mem_set hw with h | h
   ·exact h1 w h
   rw [h]; exact Nat.mod_lt _ hb
  rw [show qK ^ (i+(k+1))=qK ^ (i+k) * qK from Nat.pow_succ _ _]
  have e:qK ^ (i+k) * (z % qK)+qK ^ (i+k) * qK * (z / qK)=qK ^ (i+k) * z:=by
   rw [Nat.mul_assoc,← Nat.mul_add,Nat.add_comm (z % qK),hd]
  have e2:qK ^ (i+k) * z=qK ^ (i+k) * o+qK ^ i * x * (qK ^ k * y)+qK ^ (i+k) * A.2:=by
   rw [← hz,Nat.mul_add,Nat.mul_add]
   congr 2
   rw [Nat.pow_add]
   simp only [Nat.mul_assoc,Nat.mul_left_comm,Nat.mul_comm]
  rw [Nat.mul_add]
  omega
theorem qIV (l m:List Nat):∀ i,(qCG l m i).length=l.length+m.length+1
 | 0=>by simp [qCG]
 | i+1=>by simp only [qCG]; rw [qIM,qIV l m i]
theorem qZT (n:Nat):qP (List.replicate n 0)=0:=by
 induction n with
 | zero=>rfl
 | succ n ih=>simp [List.replicate_succ,qP,ih]
theorem qKK {l m:List Nat} (hl:okL l) (hm:okL m):∀ i,i≤l.length→okL (qCG l m i)∧qP (qCG l m i)=qP (l.take i) * qP m∧∀ j,i+m.length≤j→(qCG l m i).getD j 0=0
 | 0, _ => ⟨by intro x hx; rw [(List.mem_replicate.1 hx).2]; decide, by simp [qCG, qZT, qP], fun j _ => by
   simp only [qCG,List.getD_eq_getElem?_getD,List.getElem?_replicate]; split <;> rfl⟩
 | i+1,h=>by
  obtain ⟨h1,h2,h3⟩:=qKK hl hm i (by omega)
  have hx:=xQ hl i
  have hlen:=qIV l m i
  obtain ⟨g1,g2,g3⟩:=qGN (i:=i) hm hx h1 (m.length+1) (by omega)
  obtain ⟨f1,f2,f3⟩:=qGN (i:=i) hm hx h1 m.length (by omega)
  have hg:=qNW m (l.getD i 0) i (qCG l m i) m.length (i+m.length) (by omega)
  rw [h3 _ (by omega)] at hg
  have hn:m.getD m.length 0=0:=by simp [List.getD_eq_getElem?_getD]
  have hc:(uQ m (l.getD i 0) i (qCG l m i) (m.length+1)).2=0:=by
   simp only [uQ]
   rw [hg,hn,Nat.mul_zero,Nat.zero_add]
   exact Nat.div_eq_of_lt f2
  rw [hc,Nat.mul_zero,Nat.add_zero,List.take_of_length_le (by omega)] at g3
  simp only [qCG]
  refine ⟨g1, ?_,fun j hj => ?_⟩
  ·rw [g3,h2,qCR,Nat.add_mul,Nat.mul_assoc]
  rw [qNW _ _ _ _ _ _ (by omega)]; exact h3 j (by omega)
theorem zIM {l m:List Nat} (hl:okL l) (hm:okL m):okL (qZG l m)∧qP (qZG l m)=qP l * qP m:=by
 obtain ⟨h1,h2,_⟩:=qKK hl hm l.length (Nat.le_refl _)
 unfold qZG
 rw [List.take_length] at h2
 exact ⟨qGI h1,by rw [qDS,h2]⟩
theorem zMR (l m:List Nat):(qZG l m).length≤l.length+m.length+1:=by
 unfold qZG
 have:=qHH (qCG l m l.length)
 rwa [qIV] at this
theorem qMS (l:List Nat) (i:Nat):AFn Tryz.prog G 145 [.sl 1 (l.map zQ),.int .i64 i] (.int .u64 (l.getD i 0:Nat)):=by
 refine AFn.introU tok Tryz.func145 (by kernel_rfl) rfl rfl ?_
 simp only [Tryz.f145,qI,List.map_cons,List.map_nil]
 refine rgn [] [[0,1]] ?_
 refine op1 tok ?_
 refine qA (AW.seq (rgn [] [[],[],[],[0,1,8]] ?_))
 iterate 4 refine op1 tok ?_
 refine qA (cnd ?_ ?_)
 ·intro h8
  try simp at h8
  obtain ⟨x,hx⟩:∃ x,l[i]?=some x:=⟨l[i]'(by omega),List.getElem?_eq_getElem _⟩
  rw [show l.getD i 0=x by rw [List.getD_eq_getElem?_getD,hx]; rfl]
  refine rgn [.int .u64 (x:Nat)] [[],[],[11],[],[4]] ?_
  iterate 5 refine op1 tok ?_ (hv:=by first | with_reducible exact True.intro | ((simp [hx]; try omega); done) | omega | simp | (simp +contextual; omega))
  exact qA (AW.ret qG)
 intro h8
 try simp at h8
 rw [show l.getD i 0=0 by rw [List.getD_eq_getElem?_getD,List.getElem?_eq_none (by omega)]; rfl]
 refine AW.skip (rgn [] [[]] ?_)
 refine op1 tok ?_
 exact qA (AW.ret qG)
theorem zQK (l m:List Nat) (hl:okL l) (hm:okL m) (h1:l.length≤1000000) (h2:m.length≤1000000):AFn Tryz.prog G 139 [.sl 1 (l.map zQ),.sl 1 (m.map zQ)] (.sl 1 ((qWV l m).map zQ)):=by
 refine AFn.introU tok Tryz.func139 (by kernel_rfl) rfl rfl ?_
 simp only [Tryz.f139,qI,List.map_cons,List.map_nil]
 refine rgn [] [[0,1]] ?_
 refine op1 tok ?_
 refine qA (rgn [] [[]] ?_)
 refine op1 tok ?_
 refine qA (rgn [] [[]] ?_)
 refine op1 tok ?_
 refine qA (AW.seq (rgn [] [[],[],[],[],[0,1,5,6,13],[]] ?_))
 iterate 6 refine op1 tok ?_
 refine qA (AW.block ?_)
 refine AW.beginE 5 90 24 1 (by simp) (by simp) (by conv=>lhs; simp) ?_
 refine AW.loop (α:=Nat) (fun k=>k≤max l.length m.length) (fun k=>⟨qV 39 [(0,.p (.sl 1 (l.map zQ))),(1,.p (.sl 1 (m.map zQ))),(5,.ms 90),(6,.p (.int .u64 ((xP l m k).2:Nat))),(13,.p (.int .i64 (max l.length m.length:Nat))),(14,.p (.int .i64 k))],[],[(90,.row 24 1 ((xP l m k).1.map zQ))],0⟩) (fun k=>max l.length m.length-k) (0) (by omega) ⟨qB (by simp [xP]; split <;> omega),rfl,by simp [xP],by simp [xP]⟩ ?_
 rintro k hk
 obtain ⟨s1,s2,s3⟩:=qLF hl hm k
 have sl:=qGE l m k
 have g1:=xQ hl k
 have g2:=xQ hm k
 unfold qK at g1 g2
 refine rgn [] [[]] ?_
 refine op1 tok ?_
 refine qA (AW.seq (cnd ?_ ?_))
 ·intro h15
  try simp at h15
  have hk':k<max l.length m.length:=by omega
  have lv1:=qMS (G:=G) l k
  have lv2:=qMS (G:=G) m k
  have hst:xP l m (k+1)=((xP l m k).1++[(l.getD k 0+m.getD k 0+(xP l m k).2) % qK],(l.getD k 0+m.getD k 0+(xP l m k).2) / qK):=rfl
  generalize xP l m k=A at *
  generalize l.getD k 0=x at *
  generalize m.getD k 0=y at *
  have w1:IntKind.u64.wrap ((x:Int)+y)=(x:Int)+y:=yT (by omega) (by omega)
  obtain ⟨z,hz⟩:∃ z,z=x+y+A.2:=⟨_,rfl⟩
  rw [← hz] at hst
  have w2:IntKind.u64.wrap ((x:Int)+y+A.2)=(z:Int):=by rw [yT (by omega) (by omega)]; omega
  have dm:(z:Int).tmod 1000000000=((z % qK:Nat):Int):=(Int.ofNat_tmod z 1000000000).symm
  have dq:IntKind.u64.wrap ((z:Int) / 1000000000)=((z / qK:Nat):Int):=by
   unfold qK
   rw [yT (by omega) (by omega)]; omega
  generalize z % qK=r at *
  generalize z / qK=q at *
  refine AW.skip (AW.seq (AW.block (rgn [] [[],[0,1,5,6,7,13,14]] ?_)))
  iterate 2 refine op1 tok ?_
  refine qA (rgn [.nilp,.int .u64 (x:Nat),.nilp,.int .u64 (y:Nat)] [[],[],[],[],[],[0,1,5,6,13,14,19,22],[],[],[0,1,5,13,14,25],[0,1,5,8,13,14]] ?_)
  iterate 10 refine oq1 tok (ai lv1 lv2) ?_ (h:=by intro C; conv=>lhs; simp [w1,w2])
  refine qA (rgz [.int .u64 (r:Nat)] [[],[],[],[],[0,1,8,13,14,30],[],[],[],[0,1,5,6,13,14]] ?_)
  iterate 9 refine op1 tok ?_ (h:=by intro C; conv=>lhs; simp [dm,dq]) (hv:=by first | with_reducible exact True.intro | ((simp [dm]); done) | omega | simp | (simp +contextual; omega))
  refine qA (rgz [] [[],[0,1,5,6,13,14]] ?_)
  iterate 2 refine op1 tok ?_
  refine qA ?_
  exact ⟨k+1,by omega,by omega,qB (by simp [hst]),rfl,by simp [hst],by simp [hst]⟩
 intro h15
 try simp at h15
 obtain rfl:k=max l.length m.length:=by omega
 have htr:=qML (G:=G) ((xP l m (max l.length m.length)).1++[(xP l m (max l.length m.length)).2])
 rw [show yO ((xP l m (max l.length m.length)).1++[(xP l m (max l.length m.length)).2])=qWV l m from rfl] at htr
 simp only [List.map_append,List.map_cons,List.map_nil,zQ] at htr
 refine AW.exit ?_
 simp
 refine rgn [.int .u64 ((xP l m (max l.length m.length)).2:Nat),.nilp,.sl 1 ((qWV l m).map zQ)] [[],[],[],[37],[],[4]] ?_
 iterate 6 refine oq1 tok htr ?_ (h:=by intro C; conv=>lhs; simp [List.map_append])
 exact qA (AW.ret qG)
theorem qSQ (l m:List Nat) (hl:okL l) (hm:okL m) (h1:l.length≤1000000) (h2:m.length≤1000000):AFn Tryz.prog G 141 [.sl 1 (l.map zQ),.sl 1 (m.map zQ)] (.sl 1 ((qUW l m).map zQ)):=by
 refine AFn.introU tok Tryz.func141 (by kernel_rfl) rfl rfl ?_
 simp only [Tryz.f141,qI,List.map_cons,List.map_nil]
 refine rgn [] [[0,1]] ?_
 refine op1 tok ?_
 refine qA (rgn [] [[]] ?_)
 refine op1 tok ?_
 refine qA (rgn [] [[]] ?_)
 refine op1 tok ?_
 refine qA (AW.seq (rgn [] [[],[],[0,1,5,6,10,11]] ?_))
 iterate 3 refine op1 tok ?_
 refine qA (AW.block ?_)
 refine AW.beginE 5 90 24 1 (by simp) (by simp) (by conv=>lhs; simp) ?_
 refine AW.loop (α:=Nat) (fun k=>k≤l.length) (fun k=>⟨qV 36 [(0,.p (.sl 1 (l.map zQ))),(1,.p (.sl 1 (m.map zQ))),(5,.ms 90),(6,.p (.int .u64 ((vO l m k).2:Nat))),(10,.p (.int .i64 l.length)),(11,.p (.int .i64 k))],[],[(90,.row 24 1 ((vO l m k).1.map zQ))],0⟩) (fun k=>l.length-k) (0) (by omega) ⟨qB (by simp [vO]),rfl,by simp [vO],by simp [vO]⟩ ?_
 rintro k hk
 obtain ⟨s1,s2,s3⟩:=qKB hl hm k
 have sl:=qFB l m k
 have g1:=xQ hl k
 have g2:=xQ hm k
 unfold qK at g1 g2
 refine rgn [] [[]] ?_
 refine op1 tok ?_
 refine qA (AW.seq (cnd ?_ ?_))
 ·intro h12
  try simp at h12
  have lv2:=qMS (G:=G) m k
  obtain ⟨x0,hgl⟩:∃ x,l[k]?=some x:=⟨l[k]'(by omega),List.getElem?_eq_getElem _⟩
  have hx0:l.getD k 0=x0:=by rw [List.getD_eq_getElem?_getD,hgl]; rfl
  have hst:vO l m (k+1)=((vO l m k).1++[(l.getD k 0+qK-m.getD k 0-(vO l m k).2) % qK],1-(l.getD k 0+qK-m.getD k 0-(vO l m k).2) / qK):=rfl
  generalize vO l m k=A at *
  rw [hx0] at hst g1
  generalize m.getD k 0=y at *
  generalize x0=x at *
  obtain ⟨z,hz⟩:∃ z,z=x+qK-y-A.2:=⟨_,rfl⟩
  rw [← hz] at hst
  have hzd:z / qK≤1:=by
   have:z / qK<2:=(Nat.div_lt_iff_lt_mul (by decide)).2 (by rw [hz]; unfold qK; omega)
   omega
  unfold qK at hz
  have w1:IntKind.u64.wrap ((x:Int)+1000000000)=(x:Int)+1000000000:=yT (by omega) (by omega)
  have w2:IntKind.u64.wrap ((x:Int)+1000000000-y)=(x:Int)+1000000000-y:=yT (by omega) (by omega)
  have w3:IntKind.u64.wrap ((x:Int)+1000000000-y-A.2)=(z:Int):=by rw [yT (by omega) (by omega)]; omega
  have dm:(z:Int).tmod 1000000000=((z % qK:Nat):Int):=(Int.ofNat_tmod z 1000000000).symm
  have dq:IntKind.u64.wrap ((z:Int) / 1000000000)=((z / qK:Nat):Int):=by
   unfold qK
   rw [yT (by omega) (by omega)]; omega
  generalize z % qK=r at *
  generalize z / qK=q at *
  have w4:IntKind.u64.wrap (1-(q:Int))=((1-q:Nat):Int):=by
   rw [yT (by omega) (by omega)]; omega
  generalize 1-q=b at *
  refine AW.skip (AW.seq (AW.block (rgn [] [[],[0,1,5,6,7,10,11]] ?_)))
  iterate 2 refine op1 tok ?_
  refine qA ?_
  refine AW.seqDrawS tok mixed 11 [[0],[7],[14,15],[16],[17],[1],[7],[19,20],[18,21],[6],[22,23]] [.int .u64 (x:Nat),.nilp,.int .u64 (y:Nat)] [] (by kernel_rfl) ?_
  iterate 11 refine d1 ?_ (h:=by intro C; conv=>lhs; simp [w1,w2,w3]) (hv:=by first | with_reducible exact True.intro | (first | exact lv2 | (simp [hgl]; done) | (simp [hgl]; omega); done) | omega | simp | (simp +contextual; omega))
  refine DGo.nil (by kernel_rfl) ⟨by kernel_rfl, ?_⟩
  refine qC.run [[0,1,5,8,10,11]] ?_
  refine op1 tok ?_ (h:=by intro C; conv=>lhs; simp [w1,w2,w3])
  refine qA (rgz [.int .u64 (r:Nat)] [[],[],[],[],[0,1,8,10,11,29],[],[],[],[0,1,5,10,11,32],[0,1,5,6,10,11]] ?_)
  iterate 10 refine op1 tok ?_ (h:=by intro C; conv=>lhs; simp [dm,dq,w4]) (hv:=by first | with_reducible exact True.intro | ((simp [dm]); done) | omega | simp | (simp +contextual; omega))
  refine qA (rgz [] [[],[0,1,5,6,10,11]] ?_)
  iterate 2 refine op1 tok ?_
  refine qA ?_
  exact ⟨k+1,by omega,by omega,qB (by simp [hst]),rfl,by simp [hst],by simp [hst]⟩
 intro h12
 try simp at h12
 obtain rfl:k=l.length:=by omega
 have htr:=qML (G:=G) (vO l m l.length).1
 refine AW.exit ?_
 simp
 refine rgn [.nilp,.sl 1 ((qUW l m).map zQ)] [[],[],[4]] ?_
 iterate 3 refine oq1 tok htr ?_
 exact qA (AW.ret qG)
def xY (n w V:Nat):List PD:=qM (List.replicate (n-w) 0++zA w V)
theorem qME (n V:Nat):xY n 0 V=List.replicate n (.int .u8 0):=by simp [xY,zA,qM]
theorem qPX {n w V:Nat} (h:w≤n):(xY n w V).length=n:=by simp [xY,zD]; omega
theorem qPY {n w V:Nat} (h:w<n):(xY n w V)[n-1-w]?=some (.int .u8 0):=by
 unfold xY
 refine qEK (b:=0) ?_
 rw [List.getElem?_append_left (by simp; omega),List.getElem?_replicate,if_pos (by omega)]
theorem qPW {n w V:Nat} (h:w<n):(xY n w V).set (n-1-w) (.int .u8 (48+V / 10 ^ w % 10:Nat))=xY n (w+1) V:=by
 unfold xY qM
 have hd:V / 10 ^ w % 10<10:=Nat.mod_lt _ (by decide)
 rw [show PD.int .u8 (48+V / 10 ^ w % 10:Nat)=(fun b:UInt8=>PD.int .u8 b.toNat) (UInt8.ofNat (48+V / 10 ^ w % 10)) by simp only [kF hd],← List.map_set]
 congr 1
 rw [show n-w=(n-(w+1))+1 by omega,List.replicate_succ',List.append_assoc,List.set_append_right _ _ (by simp; omega)]
 simp only [List.length_replicate]
 rw [show n-1-w-(n-(w+1))=0 by omega]
 rfl
theorem qPZ (n V:Nat):xY n n V=qM (zA n V):=by simp [xY]
theorem zMV {l:List Nat} (h:okL l) (i:Nat):qP l / qK ^ i % qK=l.getD i 0:=by
 induction l generalizing i with
 | nil=>simp [qP]
 | cons a l ih =>
  have ha:a<qK:=h a (by simp)
  have ih:=ih (fun x hx=>h x (by simp [hx]))
  have hb:0<qK:=by decide
  cases i with
  | zero=>simp [qP,Nat.add_mul_mod_self_left,Nat.mod_eq_of_lt ha]
  | succ i =>
   simp only [qP,List.getD_cons_succ]
   rw [Nat.pow_succ,Nat.mul_comm (qK ^ i),← Nat.div_div_eq_div_mul,Nat.add_mul_div_left _ _ hb,Nat.div_eq_of_lt ha,Nat.zero_add]
   exact ih i
theorem zOB {l:List Nat} (h:okL l) (i:Nat) {j:Nat} (hj:j<9):qP l / 10 ^ (9 * i+j) % 10=l.getD i 0 / 10 ^ j % 10:=by
 rw [← zMV h i,Nat.pow_add,Nat.pow_mul,← Nat.div_div_eq_div_mul,show (10:Nat) ^ 9=qK from rfl]
 generalize qP l / qK ^ i=M
 obtain ⟨d,hd⟩:∃ d,d+j=8:=⟨8-j,by omega⟩
 rw [show qK=10 ^ j * (10 * 10 ^ d) by rw [← Nat.pow_succ',← Nat.pow_add,show j+(d+1)=9 by omega]; rfl,Nat.mod_mul_right_div_self,Nat.mod_mul_right_mod]
def qQV (x j:Nat):Nat:=x / 10 ^ j
theorem zHK (x:Nat):qQV x 0=x:=by simp [qQV]
theorem zHL (x j:Nat):qQV x j / 10=qQV x (j+1):=by unfold qQV; rw [Nat.div_div_eq_div_mul,← Nat.pow_succ]
theorem qGT (l:List Nat) (hl:okL l) (h1:l.length≤1000000):AFn Tryz.prog G 91 [.sl 1 (l.map zQ)] (.str (zA (9 * l.length) (qP l))):=by
 refine AFn.introU tok Tryz.func91 (by kernel_rfl) rfl rfl ?_
 simp only [Tryz.f91,qI,List.map_cons,List.map_nil]
 have hz:xY (9 * l.length) 0 (qP l)=List.replicate (9 * l.length) (.int .u8 0):=qME _ _
 have hall:=qPZ (9 * l.length) (qP l)
 have hdl:=fun k j (h:j<9)=>zOB hl k (j:=j) h
 have hset:=fun w=>qPW (n:=9 * l.length) (w:=w) (V:=qP l)
 have hget:=fun w=>qPY (n:=9 * l.length) (w:=w) (V:=qP l)
 have hlen:=fun w=>qPX (n:=9 * l.length) (w:=w) (V:=qP l)
 have hmul:((l.length:Int) * 9).toNat=9 * l.length:=by omega
 generalize qP l=V at *
 obtain ⟨N,hN⟩:∃ N,N=9 * l.length:=⟨_,rfl⟩
 rw [← hN] at hz hall hset hget hlen hmul ⊢
 refine rgn [] [[0]] ?_
 refine op1 tok ?_
 refine qA (rgn [.int .u8 0] [[],[],[],[],[0,3]] ?_)
 iterate 5 refine op1 tok ?_
 refine qA (AW.seq (rgn [] [[],[],[3,11,12,13]] ?_))
 iterate 3 refine op1 tok ?_
 refine qA (AW.block ?_)
 refine AW.loop (α:=Nat) (fun k=>k≤l.length) (fun k=>⟨qV 41 [(3,.ms 10),(11,.p (.sl 1 (l.map zQ))),(12,.p (.int .i64 l.length)),(13,.p (.int .i64 k))],[],[(10,.row 5 1 (xY N (9 * k) V))],0⟩) (fun k=>l.length-k) (0) (by omega) ⟨qB (by simp),rfl,by (simp [hz,hmul]),by simp [hz,hmul]⟩ ?_
 rintro k hk
 refine rgn [] [[]] ?_
 refine op1 tok ?_
 refine qA (AW.seq (cnd ?_ ?_))
 ·intro h14
  try simp at h14
  obtain ⟨x,hx⟩:∃ x,l[k]?=some x:=⟨l[k]'(by omega),List.getElem?_eq_getElem _⟩
  have hxd:l.getD k 0=x:=by rw [List.getD_eq_getElem?_getD,hx]; rfl
  have hxb:x<1000000000:=hl x (List.mem_of_getElem? hx)
  have hx0:=zHK x
  refine AW.skip (AW.seq (AW.block (rgn [.int .u64 (x:Nat)] [[],[],[],[],[3,4,5,11,12,13]] ?_)))
  iterate 5 refine op1 tok ?_ (hv:=by first | with_reducible exact True.intro | (simp [hx]; done) | omega | simp | (simp +contextual; omega))
  refine qA (rgn [] [[]] ?_)
  refine op1 tok ?_
  refine qA (AW.block ?_)
  refine AW.loop (α:=Nat) (fun j=>j≤9) (fun j=>⟨qV 41 [(3,.ms 10),(4,.p (.int .i64 k)),(5,.p (.int .u64 (qQV x j:Nat))),(11,.p (.sl 1 (l.map zQ))),(12,.p (.int .i64 l.length)),(13,.p (.int .i64 k)),(18,.p (.int .i64 j))],[],[(10,.row 5 1 (xY N (9 * k+j) V))],0⟩) (fun j=>9-j) (0) (by omega) ⟨qB (by simp [hx0]),rfl,by simp,by simp⟩ ?_
  rintro j hj
  refine rgn [] [[]] ?_
  refine op1 tok ?_
  refine qA (AW.seq (cnd ?_ ?_))
  ·intro h19
   try simp at h19
   have hdj:=hdl k j (by omega)
   rw [hxd,show x / 10 ^ j=qQV x j from rfl] at hdj
   have hset:=hset (9 * k+j) (by omega)
   have hget:=hget (9 * k+j) (by omega)
   have hlen:=hlen (9 * k+j) (by omega)
   rw [hdj] at hset
   have hxj:qQV x j<1000000000:=Nat.lt_of_le_of_lt (Nat.div_le_self _ _) hxb
   have hnx:=zHL x j
   generalize qQV x j=z at *
   have hix:((N:Int)-1-k * 9).toNat-j=N-1-(9 * k+j):=by omega
   have dm:(z:Int).tmod 10=((z % 10:Nat):Int):=(Int.ofNat_tmod z 10).symm
   have dc:IntKind.u8.wrap (IntKind.u64.wrap (48+((z % 10:Nat):Int)))=((48+z % 10:Nat):Int):=by
    rw [yT (by omega) (by omega),qBO (by omega) (by omega)]; omega
   have dq:IntKind.u64.wrap ((z:Int) / 10)=((qQV x (j+1):Nat):Int):=by rw [← hnx,yT (by omega) (by omega)]; omega
   generalize hr:z % 10=r at *
   have e9:9 * k+j+1=9 * k+(j+1):=rfl
   rw [e9,show ((48+r:Nat):Int)=48+(r:Int) by omega] at hset
   refine AW.skip (AW.seq (AW.block (rgn [] [[],[3,4,5,6,11,12,13,18]] ?_)))
   iterate 2 refine op1 tok ?_
   refine qA (rgn [.int .u8 0,.int .u8 (48+r:Nat)] [[],[],[],[],[],[],[3,4,5,6,11,12,13,18,21,27],[],[],[],[3,4,5,11,12,13,18,21,29,31],[],[],[3,4,5,11,12,13,18,33,34],[3,4,5,11,12,13,18]] ?_)
   iterate 15 refine op1 tok ?_ (h:=by intro C; conv=>lhs; simp [hlen,hget,hix,dm,dc]) (hv:=by first | with_reducible exact True.intro | (first | (simp [hlen,hget,hix,dm,dc]; done) | (simp [hlen,hget,hix,dm,dc]; omega); done) | omega | simp | (simp +contextual; omega))
   refine qA (rgz [] [[],[],[3,4,5,11,12,13,18]] ?_)
   iterate 3 refine op1 tok ?_
   refine qA (rgz [] [[],[3,4,5,11,12,13,18]] ?_)
   iterate 2 refine op1 tok ?_
   refine qA ?_
   exact ⟨j+1,by omega,by omega,qB (by simp [dq,hset,hlen,hix]),rfl,by simp [dq,hset,hlen,hix],by simp [dq,hset,hlen,hix]⟩
  intro h19
  try simp at h19
  obtain rfl:j=9:=by omega
  refine AW.exit ?_
  simp
  refine rgz [] [[],[3,11,12,13]] ?_
  iterate 2 refine op1 tok ?_
  refine qA ?_
  exact ⟨k+1,by omega,by omega,qB (by simp [show 9 * (k+1)=9 * k+9 from rfl]),rfl,by simp [show 9 * (k+1)=9 * k+9 from rfl],by simp [show 9 * (k+1)=9 * k+9 from rfl]⟩
 intro h14
 try simp at h14
 obtain rfl:k=l.length:=by omega
 rw [← hN,hall]
 refine AW.exit ?_
 simp
 refine rgn [.str (zA N V)] [[],[],[2]] ?_
 iterate 3 refine op1 tok ?_
 exact qA (AW.ret qG)
theorem zIT (l:List Nat) (j r:Nat):(l.map zQ).set j (.int .u64 (r:Nat))=(l.set j r).map zQ:=by rw [List.map_set]; rfl
theorem zLB (l m:List Nat) (hl:okL l) (hm:okL m) (h1:l.length≤1000000) (h2:m.length≤1000000):AFn Tryz.prog G 89 [.sl 1 (l.map zQ),.sl 1 (m.map zQ)] (.sl 1 ((qZG l m).map zQ)):=by
 refine AFn.introU tok Tryz.func89 (by kernel_rfl) rfl rfl ?_
 simp only [Tryz.f89,qI,List.map_cons,List.map_nil]
 have hz:(qCG l m 0).map zQ=List.replicate (l.length+m.length+1) (.int .u64 0):=by simp [qCG]
 have hzl:((l.length:Int)+m.length+1).toNat=l.length+m.length+1:=by omega
 refine rgn [] [[0,1]] ?_
 refine op1 tok ?_
 refine qA (rgn [.int .u64 0] [[],[],[],[],[0,1,15],[],[],[0,1,5]] ?_)
 iterate 8 refine op1 tok ?_
 refine qA (AW.seq (rgn [] [[],[],[1,5,18,19,20]] ?_))
 iterate 3 refine op1 tok ?_
 refine qA (AW.block ?_)
 refine AW.loop (α:=Nat) (fun k=>k≤l.length) (fun k=>⟨qV 58 [(1,.p (.sl 1 (m.map zQ))),(5,.ms 17),(18,.p (.sl 1 (l.map zQ))),(19,.p (.int .i64 l.length)),(20,.p (.int .i64 k))],[],[(17,.row 24 1 ((qCG l m k).map zQ))],0⟩) (fun k=>l.length-k) (0) (by omega) ⟨qB (by simp),rfl,by (simp only [hz]; simp [hzl]),by simp⟩ ?_
 rintro k hk
 refine rgn [] [[]] ?_
 refine op1 tok ?_
 refine qA (AW.seq (cnd ?_ ?_))
 ·intro h21
  try simp at h21
  obtain ⟨x,hx⟩:∃ x,l[k]?=some x:=⟨l[k]'(by omega),List.getElem?_eq_getElem _⟩
  have hxd:l.getD k 0=x:=by rw [List.getD_eq_getElem?_getD,hx]; rfl
  have hxb:x<qK:=hl x (List.mem_of_getElem? hx)
  obtain ⟨hok,_,_⟩:=qKK hl hm k hk
  have hml:=qIV l m k
  have hst:qCG l m (k+1)=(uQ m x k (qCG l m k) (m.length+1)).1:=by rw [← hxd]; rfl
  generalize qCG l m k=O at *
  have hrow0:uQ m x k O 0=(O,0):=rfl
  refine AW.skip (AW.seq (AW.block (rgn [.int .u64 (x:Nat)] [[],[],[],[],[1,5,6,7,18,19,20]] ?_)))
  iterate 5 refine op1 tok ?_ (hv:=by first | with_reducible exact True.intro | (simp [hx]; done) | omega | simp | (simp +contextual; omega))
  refine qA (rgn [] [[]] ?_)
  refine op1 tok ?_
  refine qA (rgn [] [[],[],[],[1,5,6,7,8,18,19,20,27,28]] ?_)
  iterate 4 refine op1 tok ?_
  refine qA (AW.block ?_)
  refine AW.loop (α:=Nat) (fun j=>j≤m.length+1) (fun j=>⟨qV 58 [(1,.p (.sl 1 (m.map zQ))),(5,.ms 17),(6,.p (.int .i64 k)),(7,.p (.int .u64 x)),(8,.p (.int .u64 ((uQ m x k O j).2:Nat))),(18,.p (.sl 1 (l.map zQ))),(19,.p (.int .i64 l.length)),(20,.p (.int .i64 k)),(27,.p (.int .i64 ((m.length:Int)+1))),(28,.p (.int .i64 j))],[],[(17,.row 24 1 ((uQ m x k O j).1.map zQ))],0⟩) (fun j=>m.length+1-j) (0) (by omega) ⟨qB (by simp [hrow0]),rfl,by simp [hrow0],by simp [hrow0]⟩ ?_
  rintro j hj
  refine rgn [] [[]] ?_
  refine op1 tok ?_
  refine qA (AW.seq (cnd ?_ ?_))
  ·intro h29
   try simp at h29
   obtain ⟨ha,hc,_⟩:=qGN (i:=k) hm hxb hok j (by omega)
   have hal:=qIM m x k O j
   have hs1:uQ m x k O (j+1)=((uQ m x k O j).1.set (k+j) (((uQ m x k O j).1.getD (k+j) 0+x * m.getD j 0+(uQ m x k O j).2) % qK),((uQ m x k O j).1.getD (k+j) 0+x * m.getD j 0+(uQ m x k O j).2) / qK):=rfl
   have lv:=qMS (G:=G) m j
   have hy:=xQ hm j
   generalize uQ m x k O j=A at *
   generalize m.getD j 0=y at *
   obtain ⟨o,ho⟩:∃ o,A.1[k+j]?=some o:=⟨A.1[k+j]'(by omega),List.getElem?_eq_getElem _⟩
   have hod:A.1.getD (k+j) 0=o:=by rw [List.getD_eq_getElem?_getD,ho]; rfl
   have hob:o<qK:=ha o (List.mem_of_getElem? ho)
   rw [hod] at hs1
   have hxy:x * y≤999999999 * 999999999:=Nat.mul_le_mul (by unfold qK at hxb; omega) (by unfold qK at hy; omega)
   have hcast:(x:Int) * y=((x * y:Nat):Int):=by simp
   unfold qK at hob hc
   obtain ⟨z,hzz⟩:∃ z,z=o+x * y+A.2:=⟨_,rfl⟩
   rw [← hzz] at hs1
   have w1:IntKind.u64.wrap ((x:Int) * y)=((x * y:Nat):Int):=by rw [hcast,yT (by omega) (by omega)]
   generalize x * y=p at *
   have w2:IntKind.u64.wrap ((o:Int)+p)=(o:Int)+p:=yT (by omega) (by omega)
   have w3:IntKind.u64.wrap ((o:Int)+p+A.2)=(z:Int):=by rw [yT (by omega) (by omega)]; omega
   have dm:(z:Int).tmod 1000000000=((z % qK:Nat):Int):=(Int.ofNat_tmod z 1000000000).symm
   have dq:IntKind.u64.wrap ((z:Int) / 1000000000)=((z / qK:Nat):Int):=by
    unfold qK
    rw [yT (by omega) (by omega)]; omega
   generalize z % qK=r at *
   generalize z / qK=q at *
   have hset:=zIT A.1 (k+j) r
   have hkj:((k:Int)+j).toNat=k+j:=by omega
   refine AW.skip (AW.seq (AW.block (rgn [] [[],[1,5,6,7,8,9,18,19,20,27,28]] ?_)))
   iterate 2 refine op1 tok ?_
   refine qA ?_
   refine AW.seqDrawS tok mixed 14 [[5],[6],[9],[32,33],[31,34],[35],[7],[1],[9],[38,39],[37,40],[36,41],[8],[42,43]] [.int .u64 (o:Nat),.nilp,.int .u64 (y:Nat)] [] (by kernel_rfl) ?_
   iterate 14 refine d1 ?_ (h:=by intro C; conv=>lhs; simp [w1,w2,w3]) (hv:=by first | with_reducible exact True.intro | (first | exact lv | (simp [ho,hkj]; done) | (simp [ho,hkj]; omega); done) | omega | simp | (simp +contextual; omega))
   refine DGo.nil (by kernel_rfl) ⟨by kernel_rfl, ?_⟩
   refine qC.run [[1,5,6,7,9,10,18,19,20,27,28]] ?_
   refine op1 tok ?_ (h:=by intro C; conv=>lhs; simp [w1,w2,w3])
   refine qA (rgz [.int .u64 (o:Nat),.int .u64 (r:Nat)] [[],[],[],[],[],[1,5,6,7,10,18,19,20,27,28,45,48,50],[],[],[1,5,6,7,18,19,20,27,28,50,52,53],[],[1,5,6,7,8,18,19,20,27,28]] ?_)
   iterate 11 refine op1 tok ?_ (h:=by intro C; conv=>lhs; simp [dm,dq,hkj]) (hv:=by first | with_reducible exact True.intro | (first | (simp [ho,hkj,dm]; done) | (simp [ho,hkj,dm]; omega); done) | omega | simp | (simp +contextual; omega))
   refine qA (rgz [] [[],[1,5,6,7,8,18,19,20,27,28]] ?_)
   iterate 2 refine op1 tok ?_
   refine qA ?_
   exact ⟨j+1,by omega,by omega,qB (by simp [hs1,hkj]),rfl,by simp [hs1,hkj],by simp [hs1,hkj]⟩
  intro h29
  try simp at h29
  obtain rfl:j=m.length+1:=by omega
  refine AW.exit ?_
  simp
  refine rgz [] [[],[1,5,18,19,20]] ?_
  iterate 2 refine op1 tok ?_
  refine qA ?_
  exact ⟨k+1,by omega,by omega,qB (by simp [hst]),rfl,by simp [hst],by simp [hst]⟩
 intro h21
 try simp at h21
 obtain rfl:k=l.length:=by omega
 have htr:=qML (G:=G) (qCG l m l.length)
 refine AW.exit ?_
 simp
 refine rgn [.nilp,.sl 1 ((qZG l m).map zQ)] [[],[],[4]] ?_
 iterate 3 refine oq1 tok htr ?_
 exact qA (AW.ret qG)
end Go.Proofs.YtdojfdaglbphlaaGreatDoor
