import Derived.Test.YtbhhphabggcacaaGreatDoorSTreeX
namespace Go.Proofs.YtbhhphabggcacaaGreatDoor
open Sy Go
set_option maxRecDepth 100000
set_option maxHeartbeats 1000000
set_option linter.unusedSimpArgs false
set_option linter.unusedVariables false
theorem Le.nb2 {c d:Nat} {s s':PS} (g:Le c d s s') (h:s'.bad=false):s.bad=false:=by
 cases hb:s.bad with
 | false=>rfl
 | true=>rw [g.b0 hb] at h; cases h
structure Has (N:List Nd) (t:Tr) (s:PS) (a:Int):Prop where
 nodes:s.nodes=N++t.flat N.length
 root:a=((N.length+t.size:Nat):Int)-1
 ok:t.ok=true
structure HasL (N:List Nd) (ts:List Tr) (s:PS) (cs:List Int):Prop where
 nodes:s.nodes=N++Tr.flatL N.length ts
 roots:cs=Tr.ends N.length ts
 ok:Tr.okL ts=true
theorem Has.same {N:List Nd} {t:Tr} {s s':PS} {a:Int} (h:Has N t s a) (e:s'.nodes=s.nodes):Has N t s' a:=⟨e.trans h.nodes,h.root,h.ok⟩
theorem HasL.same {N:List Nd} {ts:List Tr} {s s':PS} {cs:List Int} (h:HasL N ts s cs) (e:s'.nodes=s.nodes):HasL N ts s' cs:=⟨e.trans h.nodes,h.roots,h.ok⟩
theorem HasL.nil (s:PS):HasL s.nodes [] s []:=⟨by simp [Tr.flatL],rfl,rfl⟩
theorem HasL.snoc {N:List Nd} {ts:List Tr} {s s':PS} {cs:List Int} {t:Tr} {a:Int} (h:HasL N ts s cs) (g:Has s.nodes t s' a):HasL N (ts++[t]) s' (cs++[a]):=by
 have hl:s.nodes.length=N.length+Tr.sizeL ts:=by rw [h.nodes,List.length_append,Tr.flatL_len]
 refine ⟨?_, ?_, ?_⟩
 ·rw [g.nodes,hl,Tr.flatL_app,h.nodes]
  simp only [Tr.flatL,List.append_nil,List.append_assoc]
 ·rw [Tr.ends_app,h.roots,g.root,hl]; simp only [Tr.ends]
 rw [Tr.okL_app,h.ok]; simp only [Tr.okL,g.ok,Bool.and_self]
theorem HasL.one {N:List Nd} {t:Tr} {s:PS} {a:Int} (h:Has N t s a):HasL N [t] s [a]:=⟨by rw [h.nodes]; simp [Tr.flatL],by rw [h.root]; simp [Tr.ends],by simp [Tr.okL,h.ok]⟩
theorem Has.put {N:List Nd} {ts:List Tr} {s:PS} {x:Nd} (h:HasL N ts s x.kids) (ho:zC x ts.length=true):Has N (.mk x ts) (wF x s).2 (wF x s).1:=by
 have hl:s.nodes.length=N.length+Tr.sizeL ts:=by rw [h.nodes,List.length_append,Tr.flatL_len]
 have hx:({ x with kids:=Tr.ends N.length ts }:Nd)=x:=by rw [← h.roots]
 refine ⟨?_, ?_, ?_⟩
 ·show s.nodes++[x]=_
  rw [h.nodes]
  simp only [Tr.flat,List.append_assoc]
  rw [hx]
 ·show ((s.nodes.length:Nat):Int)=_
  rw [hl]; simp only [Tr.size]; omega
 simp only [Tr.ok,ho,h.ok,Bool.and_self]
theorem qRJ (f:Tok→Bool) (s:PS):(qP f s).2.nodes=s.nodes:=by unfold qP; split <;> rfl
theorem qAW (k:Int) (l:List (List UInt8)) (s:PS):(qT k l s).2.nodes=s.nodes:=qRJ _ _
theorem xW (k:Int) (w:List UInt8) (s:PS):(zA k w s).nodes=s.nodes:=qAW k [w] s
theorem qIF (l:List Int) (s:PS):(zD l s).2.nodes=s.nodes:=qRJ _ _
theorem qYV (s:PS):(wY s).2.nodes=s.nodes:=qIF [4] s
structure TreeAll (n:Nat):Prop where
 pipe:∀ s,(zF n s).2.bad=false→∃ t,Has s.nodes t (zF n s).2 (zF n s).1
 deeper:∀ b s,0≤b→(qW n b s).2.bad=false→∃ t,Has s.nodes t (qW n b s).2 (qW n b s).1
 closed:∀ w s,(qQ n w s).2.bad=false→∃ t,Has s.nodes t (qQ n w s).2 (qQ n w s).1
 inside:∀ s,(zB n s).2.bad=false→∃ t,Has s.nodes t (zB n s).2 (zB n s).1
 bound:∀ i s,(qL n i s).2.bad=false→∃ t,Has s.nodes t (qL n i s).2 (qL n i s).1
 post:∀ s,(wQ n s).2.bad=false→∃ t,Has s.nodes t (wQ n s).2 (wQ n s).1
 term:∀ s,(zM n s).2.bad=false→∃ t,Has s.nodes t (zM n s).2 (zM n s).1
 named:∀ w s,(zS n w s).2.bad=false→∃ t,Has s.nodes t (zS n w s).2 (zS n w s).1
 choice:∀ s,(wB n s).2.bad=false→∃ t,Has s.nodes t (wB n s).2 (wB n s).1
 reduce:∀ s,(zY n s).2.bad=false→∃ t,Has s.nodes t (zY n s).2 (zY n s).1
 limit:∀ s,(wV n s).2.bad=false→∃ t,Has s.nodes t (wV n s).2 (wV n s).1
 maps:∀ s,(kC n s).2.bad=false→∃ t,Has s.nodes t (kC n s).2 (kC n s).1
 selects:∀ s,(zO n s).2.bad=false→∃ t,Has s.nodes t (zO n s).2 (zO n s).1
 signed:∀ w s,(zJ n w s).2.bad=false→∃ t,Has s.nodes t (zJ n w s).2 (zJ n w s).1
 object:∀ s,(zZ n s).2.bad=false→∃ t,Has s.nodes t (zZ n s).2 (zZ n s).1
 bloop:∀ i a s N t,Has N t s a→(wO n i a s).2.bad=false→∃ t,Has N t (wO n i a s).2 (wO n i a s).1
 ploop:∀ a s N t,Has N t s a→(zW n a s).2.bad=false→∃ t,Has N t (zW n a s).2 (zW n a s).1
 oloop:∀ ks vs s N ts,HasL N ts s vs→ks.length=ts.length→(wG n ks vs s).2.bad=false→∃ ts,HasL N ts (wG n ks vs s).2 (wG n ks vs s).1.2∧(wG n ks vs s).1.1.length=ts.length
theorem kR {p:Prop} [Decidable p] {N:List Nd} {a b:Int × PS} (ha:a.2.bad=false→∃ t,Has N t a.2 a.1) (hb:b.2.bad=false→∃ t,Has N t b.2 b.1):(if p then a else b).2.bad=false→∃ t,Has N t (if p then a else b).2 (if p then a else b).1:=by split <;> assumption
theorem yP {s:PS} (h:(qK false s).bad=false):False:=by simp [qK] at h
theorem zBU (w:List UInt8) (s:PS):(jG w s).2.bad=false→∃ t,Has s.nodes t (jG w s).2 (jG w s).1:=by
 unfold jG
 split
 ·intro hb; exact (yP (s:=s) hb).elim
 split
 ·intro hb
  have n1:(zA 6 [41] (zD [5] (zA 6 [40] s)).2).nodes=s.nodes:=(xW _ _ _).trans ((qIF _ _).trans (xW _ _ _))
  generalize zA 6 [41] (zD [5] (zA 6 [40] s)).2=s1 at *
  rw [← n1]
  exact ⟨_,Has.put (HasL.nil s1) (by simp [zC])⟩
 intro hb; exact ⟨_,Has.put (HasL.nil s) (by simp [zC])⟩
theorem qZY:TreeAll 0:=by
 constructor
 ·intro s h; simp only [zF] at h; exact (yP h).elim
 ·intro b s hb0 h; simp only [qW] at h; exact (yP h).elim
 ·intro w s h; simp only [qQ] at h; exact (yP h).elim
 ·intro s h; simp only [zB] at h; exact (yP h).elim
 ·intro i s h; simp only [qL] at h; exact (yP h).elim
 ·intro s h; simp only [wQ] at h; exact (yP h).elim
 ·intro s h; simp only [zM] at h; exact (yP h).elim
 ·intro w s h; simp only [zS] at h; exact (yP h).elim
 ·intro s h; simp only [wB] at h; exact (yP h).elim
 ·intro s h; simp only [zY] at h; exact (yP h).elim
 ·intro s h; simp only [wV] at h; exact (yP h).elim
 ·intro s h; simp only [kC] at h; exact (yP h).elim
 ·intro s h; simp only [zO] at h; exact (yP h).elim
 ·intro w s h; simp only [zJ] at h; exact (yP h).elim
 ·intro s h; simp only [zZ] at h; exact (yP h).elim
 ·intro i a s N t hh h; simp only [wO] at h; exact (yP h).elim
 ·intro a s N t hh h; simp only [zW] at h; exact (yP h).elim
 intro ks vs s N ts hh hk h; simp only [wG] at h; exact (yP h).elim
theorem qST:∀ n,TreeAll n
 | 0=>qZY
 | n+1=>by
  have ih:=qST n
  have m:=zK n
  constructor
  ·intro s
   simp only [zF]
   have l1:=m.bound 0 s
   have h1:=ih.bound 0 s
   generalize qL n 0 s=R at *
   obtain ⟨a1,s1⟩:=R
   simp only at l1 h1 ⊢
   have l2:=zP 6 [[124]] s1
   have n2:=qAW 6 [[124]] s1
   generalize qT 6 [[124]] s1=R at *
   obtain ⟨⟨w2,b2⟩,s2⟩:=R
   simp only at l2 n2 ⊢
   split
   ·have l3:=m.pipe s2
    have h3:=ih.pipe s2
    generalize zF n s2=R at *
    obtain ⟨a3,s3⟩:=R
    simp only at l3 h3 ⊢
    intro hb
    have b3:s3.bad=false:=hb
    obtain ⟨t1,H1⟩:=h1 (l2.nb2 (l3.nb2 b3))
    obtain ⟨t3,H3⟩:=h3 b3
    exact ⟨_,Has.put ((HasL.one (H1.same n2)).snoc H3) (by simp [zC])⟩
   have l4:=zP 1 [[97,115]] s2
   have n4:=qAW 1 [[97,115]] s2
   generalize qT 1 [[97,115]] s2=R at *
   obtain ⟨⟨w4,b4⟩,s4⟩:=R
   simp only at l4 n4 ⊢
   split
   ·have l5:=kK [2] s4
    have n5:=qIF [2] s4
    generalize zD [2] s4=R at *
    obtain ⟨t5,s5⟩:=R
    simp only at l5 n5 ⊢
    have l6:=qU 6 [124] s5
    have n6:=xW 6 [124] s5
    generalize zA 6 [124] s5=s6 at *
    have l7:=m.deeper 0 s6 (by omega)
    have h7:=ih.deeper 0 s6 (by omega)
    generalize qW n 0 s6=R at *
    obtain ⟨a7,s7⟩:=R
    simp only at l7 h7 ⊢
    intro hb
    have b7:s7.bad=false:=hb
    have b6:=l7.nb2 b7
    obtain ⟨t1,H1⟩:=h1 (l2.nb2 (l4.nb2 (l5.nb2 (l6.nb2 b6))))
    obtain ⟨t7,H7⟩:=h7 b7
    exact ⟨_,Has.put ((HasL.one (H1.same (n6.trans (n5.trans (n4.trans n2))))).snoc H7) (by simp [zC])⟩
   intro hb
   obtain ⟨t1,H1⟩:=h1 (l2.nb2 (l4.nb2 hb))
   exact ⟨t1,H1.same (n4.trans n2)⟩
  ·intro b s hb0
   simp only [qW]
   split
   ·rename_i c; intro hb; rw [c] at hb; cases hb
   have h1:=ih.pipe (upP b s)
   have n1:(upP b s).nodes=s.nodes:=rfl
   generalize zF n (upP b s)=R at *
   obtain ⟨a1,s1⟩:=R
   simp only at h1 ⊢
   intro hb
   obtain ⟨t1,H1⟩:=h1 hb
   rw [n1] at H1
   exact ⟨t1,H1.same rfl⟩
  ·intro w s
   simp only [qQ]
   have l1:=m.deeper 1 s (by omega)
   have h1:=ih.deeper 1 s (by omega)
   generalize qW n 1 s=R at *
   obtain ⟨a1,s1⟩:=R
   simp only at l1 h1 ⊢
   have l2:=qU 6 w s1
   have n2:=xW 6 w s1
   generalize zA 6 w s1=s2 at *
   intro hb
   obtain ⟨t1,H1⟩:=h1 (l2.nb2 hb)
   exact ⟨t1,H1.same n2⟩
  ·intro s
   simp only [zB]
   have l1:=qU 6 [40] s
   have n1:=xW 6 [40] s
   generalize zA 6 [40] s=s1 at *
   intro hb
   obtain ⟨t1,H1⟩:=ih.closed _ s1 hb
   rw [n1] at H1
   exact ⟨t1,H1⟩
  ·intro i s
   simp only [qL]
   split
   ·exact ih.post s
   have l1:=m.bound (i+1) s
   have h1:=ih.bound (i+1) s
   generalize qL n (i+1) s=R at *
   obtain ⟨a1,s1⟩:=R
   simp only at l1 h1 ⊢
   intro hb
   obtain ⟨t1,H1⟩:=h1 ((m.bloop i a1 s1).nb2 hb)
   exact ih.bloop i a1 s1 _ t1 H1 hb
  ·intro s
   simp only [wQ]
   have l1:=m.term s
   have h1:=ih.term s
   generalize zM n s=R at *
   obtain ⟨a1,s1⟩:=R
   simp only at l1 h1 ⊢
   intro hb
   obtain ⟨t1,H1⟩:=h1 ((m.ploop a1 s1).nb2 hb)
   exact ih.ploop a1 s1 _ t1 H1 hb
  ·intro s
   simp only [zM]
   have n1:=qRJ (fun _=>true) s
   generalize qP (fun _=>true) s=R at *
   obtain ⟨⟨t,b⟩,s1⟩:=R
   simp only at n1 ⊢
   have n2:(qK b s1).nodes=s.nodes:=n1
   generalize qK b s1=s2 at *
   rw [← n2]
   split
   ·exact ih.named _ s2
   split
   ·intro hb; exact ⟨_,Has.put (HasL.nil s2) (by simp [zC])⟩
   split
   ·intro hb; exact ⟨_,Has.put (HasL.one (Has.put (HasL.nil s2) (by simp [zC]))) (by simp [zC])⟩
   split
   ·intro hb; exact ⟨_,Has.put (HasL.nil s2) (by simp [zC])⟩
   split
   ·intro hb; exact ⟨_,Has.put (HasL.nil s2) (by simp [zC])⟩
   exact ih.signed _ s2
  ·intro w s
   simp only [zS]
   refine kR (fun _=>⟨_,Has.put (HasL.nil s) (by simp [zC])⟩) (kR (fun _=>⟨_,Has.put (HasL.nil s) (by simp [zC])⟩) (kR (fun _=>⟨_,Has.put (HasL.nil s) (by simp [zC])⟩) (kR (fun _=>⟨_,Has.put (HasL.nil s) (by simp [zC])⟩) (kR (ih.choice s) (kR ?_ (kR ?_ (kR ?_ (kR (ih.reduce s) (kR (ih.limit s) (kR ?_ (kR (ih.maps s) (kR (ih.selects s) (zBU w s)))))))))))))
   ·have h1:=ih.post s
    generalize wQ n s=R at *
    obtain ⟨a1,s1⟩:=R
    simp only at h1 ⊢
    intro hb
    obtain ⟨t1,H1⟩:=h1 hb
    exact ⟨_,Has.put (HasL.one H1) (by simp [zC])⟩
   ·have h1:=ih.inside s
    generalize zB n s=R at *
    obtain ⟨a1,s1⟩:=R
    simp only at h1 ⊢
    intro hb
    obtain ⟨t1,H1⟩:=h1 hb
    exact ⟨_,Has.put (HasL.one H1) (by simp [zC])⟩
   ·have h1:=ih.inside s
    generalize zB n s=R at *
    obtain ⟨a1,s1⟩:=R
    simp only at h1 ⊢
    intro hb
    obtain ⟨t1,H1⟩:=h1 hb
    exact ⟨_,Has.put (HasL.one H1) (by simp [zC])⟩
   have h1:=ih.inside s
   generalize zB n s=R at *
   obtain ⟨a1,s1⟩:=R
   simp only at h1 ⊢
   intro hb
   obtain ⟨t1,H1⟩:=h1 hb
   exact ⟨_,Has.put (HasL.one H1) (by simp [zC])⟩
  ·intro s
   simp only [wB]
   have n0:({ s with deep:=s.deep+1 }:PS).nodes=s.nodes:=rfl
   generalize { s with deep:=s.deep+1 }=s0 at *
   have l1:=m.deeper 0 s0 (by omega)
   have h1:=ih.deeper 0 s0 (by omega)
   generalize qW n 0 s0=R at *
   obtain ⟨a1,s1⟩:=R
   simp only at l1 h1 ⊢
   have l2:=qU 1 [116,104,101,110] s1
   have n2:=xW 1 [116,104,101,110] s1
   generalize zA 1 [116,104,101,110] s1=s2 at *
   have l3:=m.deeper 0 s2 (by omega)
   have h3:=ih.deeper 0 s2 (by omega)
   generalize qW n 0 s2=R at *
   obtain ⟨a3,s3⟩:=R
   simp only at l3 h3 ⊢
   have l4:=qU 1 [101,108,115,101] s3
   have n4:=xW 1 [101,108,115,101] s3
   generalize zA 1 [101,108,115,101] s3=s4 at *
   have l5:=m.deeper 0 s4 (by omega)
   have h5:=ih.deeper 0 s4 (by omega)
   generalize qW n 0 s4=R at *
   obtain ⟨a5,s5⟩:=R
   simp only at l5 h5 ⊢
   have l6:=qU 1 [101,110,100] s5
   have n6:=xW 1 [101,110,100] s5
   generalize zA 1 [101,110,100] s5=s6 at *
   intro hb
   have b6:s6.bad=false:=hb
   have b5:=l6.nb2 b6
   have b4:=l5.nb2 b5
   have b3:=l4.nb2 b4
   have b2:=l3.nb2 b3
   have b1:=l2.nb2 b2
   obtain ⟨t1,H1⟩:=h1 b1
   obtain ⟨t3,H3⟩:=h3 b3
   obtain ⟨t5,H5⟩:=h5 b5
   rw [← n0]
   exact ⟨_,Has.put (((((HasL.one (H1.same n2)).snoc H3).same n4).snoc H5).same (s':=yN 1 s6) n6) (by simp [zC])⟩
  ·intro s
   simp only [zY]
   have l1:=m.post s
   have h1:=ih.post s
   generalize wQ n s=R at *
   obtain ⟨a1,s1⟩:=R
   simp only at l1 h1 ⊢
   have l2:=qU 1 [97,115] s1
   have n2:=xW 1 [97,115] s1
   generalize zA 1 [97,115] s1=s2 at *
   have l3:=kK [2] s2
   have n3:=qIF [2] s2
   generalize zD [2] s2=R at *
   obtain ⟨t3,s3⟩:=R
   simp only at l3 n3 ⊢
   have l4:=qU 6 [40] s3
   have n4:=xW 6 [40] s3
   generalize zA 6 [40] s3=s4 at *
   have l5:=m.closed [59] s4
   have h5:=ih.closed [59] s4
   generalize qQ n [59] s4=R at *
   obtain ⟨a5,s5⟩:=R
   simp only at l5 h5 ⊢
   have l6:=m.closed [41] s5
   have h6:=ih.closed [41] s5
   generalize qQ n [41] s5=R at *
   obtain ⟨a6,s6⟩:=R
   simp only at l6 h6 ⊢
   intro hb
   have b6:s6.bad=false:=hb
   have b5:=l6.nb2 b6
   have b4:=l5.nb2 b5
   have b1:=l2.nb2 (l3.nb2 (l4.nb2 b4))
   obtain ⟨t1,H1⟩:=h1 b1
   obtain ⟨t5,H5⟩:=h5 b5
   obtain ⟨t6,H6⟩:=h6 b6
   exact ⟨_,Has.put (((HasL.one (H1.same (n4.trans (n3.trans n2)))).snoc H5).snoc H6) (by simp [zC])⟩
  ·intro s
   simp only [wV]
   have l1:=qU 6 [40] s
   have n1:=xW 6 [40] s
   generalize zA 6 [40] s=s1 at *
   have l2:=uS s1
   have n2:=qYV s1
   generalize wY s1=R at *
   obtain ⟨a2,s2⟩:=R
   simp only at l2 n2 ⊢
   have l3:=qU 6 [59] s2
   have n3:=xW 6 [59] s2
   generalize zA 6 [59] s2=s3 at *
   have h4:=ih.closed [41] s3
   generalize qQ n [41] s3=R at *
   obtain ⟨a4,s4⟩:=R
   simp only at h4 ⊢
   intro hb
   obtain ⟨t4,H4⟩:=h4 hb
   rw [n3,n2,n1] at H4
   exact ⟨_,Has.put (HasL.one H4) (by simp [zC])⟩
  ·intro s
   simp only [kC]
   have H2:Has s.nodes _ (opP 6 [] [(opP 1 [] [] s).1] (opP 1 [] [] s).2).2 (opP 6 [] [(opP 1 [] [] s).1] (opP 1 [] [] s).2).1:=Has.put (HasL.one (Has.put (HasL.nil s) (by simp [zC]))) (by simp [zC])
   generalize opP 6 [] [(opP 1 [] [] s).1] (opP 1 [] [] s).2=R at *
   obtain ⟨a2,s2⟩:=R
   simp only at H2 ⊢
   have h3:=ih.inside s2
   generalize zB n s2=R at *
   obtain ⟨a3,s3⟩:=R
   simp only at h3 ⊢
   intro hb
   obtain ⟨t3,H3⟩:=h3 hb
   exact ⟨_,Has.put (HasL.one (Has.put ((HasL.one H2).snoc H3) (by simp [zC]))) (by simp [zC])⟩
  ·intro s
   simp only [zO]
   have h1:=ih.inside s
   generalize zB n s=R at *
   obtain ⟨a1,s1⟩:=R
   simp only at h1 ⊢
   intro hb
   obtain ⟨t1,H1⟩:=h1 hb
   have H2:Has s1.nodes _ (opP 1 [] [] s1).2 (opP 1 [] [] s1).1:=Has.put (HasL.nil s1) (by simp [zC])
   have H3:Has (opP 1 [] [] s1).2.nodes _ (opP 19 [] [] (opP 1 [] [] s1).2).2 (opP 19 [] [] (opP 1 [] [] s1).2).1:=Has.put (HasL.nil _) (by simp [zC])
   exact ⟨_,Has.put (((HasL.one H1).snoc H2).snoc H3) (by simp [zC])⟩
  ·intro w s
   simp only [zJ]
   split
   ·intro hb; exact ⟨_,Has.put (HasL.nil s) (by simp [zC])⟩
   split
   ·have n1:=qIF [4] s
    generalize zD [4] s=R at *
    obtain ⟨t1,s1⟩:=R
    simp only at n1 ⊢
    rw [← n1]
    intro hb; exact ⟨_,Has.put (HasL.nil s1) (by simp [zC])⟩
   split
   ·exact ih.closed _ s
   split
   ·have n1:=qAW 6 [[93]] s
    generalize qT 6 [[93]] s=R at *
    obtain ⟨⟨w1,b1⟩,s1⟩:=R
    simp only at n1 ⊢
    rw [← n1]
    split
    ·intro hb; exact ⟨_,Has.put (HasL.nil s1) (by simp [zC])⟩
    have h2:=ih.closed [93] s1
    generalize qQ n [93] s1=R at *
    obtain ⟨a2,s2⟩:=R
    simp only at h2 ⊢
    intro hb
    obtain ⟨t2,H2⟩:=h2 hb
    exact ⟨_,Has.put (HasL.one H2) (by simp [zC])⟩
   split
   ·exact ih.object s
   intro hb; exact (yP hb).elim
  ·intro s
   simp only [zZ]
   have n1:=qAW 6 [[125]] s
   generalize qT 6 [[125]] s=R at *
   obtain ⟨⟨w1,b1⟩,s1⟩:=R
   simp only at n1 ⊢
   rw [← n1]
   split
   ·intro hb; exact ⟨_,Has.put (HasL.nil s1) (by simp [zC])⟩
   have h2:=ih.oloop [] [] (upP 1 s1) s1.nodes [] ((HasL.nil s1).same rfl) rfl
   generalize wG n [] [] (upP 1 s1)=R at *
   obtain ⟨⟨ks,vs⟩,s2⟩:=R
   simp only at h2 ⊢
   intro hb
   obtain ⟨ts,H2,hk⟩:=h2 hb
   exact ⟨_,Has.put (x:=⟨10,0,[],⟨false,[],0⟩,ks,vs⟩) (H2.same rfl) (by simp [zC,hk])⟩
  ·intro i a s N t H
   simp only [wO]
   split
   ·intro hb; exact ⟨t,H⟩
   have n2:=qAW (lvK i) (zI i) s
   generalize qT (lvK i) (zI i) s=R at *
   obtain ⟨⟨w2,b2⟩,s2⟩:=R
   simp only at n2 ⊢
   split
   ·intro hb; exact ⟨t,H.same n2⟩
   have l3:=m.bound (i+1) s2
   have h3:=ih.bound (i+1) s2
   generalize qL n (i+1) s2=R at *
   obtain ⟨a3,s3⟩:=R
   simp only at l3 h3 ⊢
   generalize (if yU i=8 then [] else w2)=w at *
   have hop:zC ⟨yU i,0,w,⟨false,[],0⟩,[],[a,a3]⟩ 2=true:=by unfold yU zC; split <;> simp
   split
   ·intro hb
    obtain ⟨t3,H3⟩:=h3 hb
    exact ⟨_,Has.put (x:=⟨yU i,0,w,⟨false,[],0⟩,[],[a,a3]⟩) ((HasL.one (H.same n2)).snoc H3) hop⟩
   intro hb
   have b4:(opP (yU i) w [a,a3] s3).2.bad=false:=(m.bloop _ _ _).nb2 hb
   obtain ⟨t3,H3⟩:=h3 b4
   exact ih.bloop _ _ _ N _ (Has.put (x:=⟨yU i,0,w,⟨false,[],0⟩,[],[a,a3]⟩) ((HasL.one (H.same n2)).snoc H3) hop) hb
  ·intro a s N t H
   simp only [zW]
   split
   ·intro hb; exact ⟨t,H⟩
   have n2:=qRJ (fun t=>decide (t.kind=3)) s
   generalize qP (fun t=>decide (t.kind=3)) s=R at *
   obtain ⟨⟨t2,b2⟩,s2⟩:=R
   simp only at n2 ⊢
   have H2:=H.same n2
   split
   ·intro hb; exact ih.ploop _ _ N _ (Has.put (x:=⟨4,0,t2.text,⟨false,[],0⟩,[],[a]⟩) (HasL.one H2) (by simp [zC])) hb
   have n3:=qAW 6 [[91]] s2
   generalize qT 6 [[91]] s2=R at *
   obtain ⟨⟨w3,b3⟩,s3⟩:=R
   simp only at n3 ⊢
   have H3:=H2.same n3
   split
   ·intro hb; exact ⟨t,H3⟩
   have n4:=qAW 6 [[93]] s3
   generalize qT 6 [[93]] s3=R at *
   obtain ⟨⟨w4,b4⟩,s4⟩:=R
   simp only at n4 ⊢
   have H4:=H3.same n4
   split
   ·intro hb; exact ih.ploop _ _ N _ (Has.put (x:=⟨6,0,[],⟨false,[],0⟩,[],[a]⟩) (HasL.one H4) (by simp [zC])) hb
   have l5:=zP 6 [[45]] s4
   have n5:=qAW 6 [[45]] s4
   generalize qT 6 [[45]] s4=R at *
   obtain ⟨⟨w5,b5⟩,s5⟩:=R
   simp only at l5 n5 ⊢
   have l6:=uS s5
   have n6:=qYV s5
   generalize wY s5=R at *
   obtain ⟨a6,s6⟩:=R
   simp only at l6 n6 ⊢
   have l7:=qU 6 [93] s6
   have n7:=xW 6 [93] s6
   generalize zA 6 [93] s6=s7 at *
   intro hb
   exact ih.ploop _ _ N _ (Has.put (x:=⟨5,(if b5=true then-a6 else a6),[],⟨false,[],0⟩,[],[a]⟩) (HasL.one (H4.same (n7.trans (n6.trans n5)))) (by simp [zC])) hb
  intro ks vs s N ts H hk
  simp only [wG]
  split
  ·intro hb; exact ⟨ts,H,hk⟩
  have n2:=qIF [1,5] s
  generalize zD [1,5] s=R at *
  obtain ⟨t2,s2⟩:=R
  simp only at n2 ⊢
  have n3:(qK (decide (t2.text ∉ ks)) (zA 6 [58] s2)).nodes=s.nodes:=(xW 6 [58] s2).trans n2
  generalize qK (decide (t2.text ∉ ks)) (zA 6 [58] s2)=s3 at *
  split
  ·intro hb; exact ⟨ts,H.same n3,hk⟩
  have l4:=m.bound 1 s3
  have h4:=ih.bound 1 s3
  generalize qL n 1 s3=R at *
  obtain ⟨a4,s4⟩:=R
  simp only at l4 h4 ⊢
  have l5:=(zP 6 [[125],[44]] s4).trans (kB (qT 6 [[125],[44]] s4).1.2 _)
  have n5:(qK (qT 6 [[125],[44]] s4).1.2 (qT 6 [[125],[44]] s4).2).nodes=s4.nodes:=qAW 6 [[125],[44]] s4
  generalize qT 6 [[125],[44]] s4=R at *
  obtain ⟨⟨w5,b5⟩,s5⟩:=R
  simp only at l5 n5 ⊢
  generalize qK b5 s5=s6 at *
  split
  ·intro hb
   obtain ⟨t4,H4⟩:=h4 (l5.nb2 hb)
   exact ⟨_,((H.same n3).snoc H4).same n5,by simp [hk]⟩
  intro hb
  obtain ⟨t4,H4⟩:=h4 (l5.nb2 ((m.oloop _ _ _).nb2 hb))
  exact ih.oloop _ _ _ N _ (((H.same n3).snoc H4).same n5) (by simp [hk]) hb
theorem qSZ {l:List Tok} (h:(vN l).2=0):∃ t:Tr,(vN l).1=t.flat 0∧t.ok=true∧t.size≤400:=by
 have hT:=(qST (20 * l.length+20)).pipe ⟨l,[],0,false⟩
 unfold vN at h ⊢
 generalize zF (20 * l.length+20) ⟨l,[],0,false⟩=R at *
 obtain ⟨a,s⟩:=R
 simp only at h hT ⊢
 by_cases c1:s.bad=true∨s.left≠[]
 ·rw [if_pos c1] at h; cases h
 rw [if_neg c1] at h ⊢
 by_cases c2:400<s.nodes.length
 ·rw [if_pos c2] at h; cases h
 rw [if_neg c2]
 obtain ⟨t,H⟩:=hT (by
  cases hb:s.bad with
  | false=>rfl
  | true=>exact absurd (.inl hb) c1)
 have hn:=H.nodes
 simp only [List.nil_append,List.length_nil] at hn
 refine ⟨t,hn,H.ok, ?_⟩
 have:=congrArg List.length hn
 rw [Tr.flat_len] at this
 omega
end Go.Proofs.YtbhhphabggcacaaGreatDoor
