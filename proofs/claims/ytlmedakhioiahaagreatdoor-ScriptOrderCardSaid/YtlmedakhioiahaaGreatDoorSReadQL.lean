import Derived.Test.YtlmedakhioiahaaGreatDoorK3
namespace Go.Proofs.YtlmedakhioiahaaGreatDoor
open Sy Go
set_option maxRecDepth 100000
set_option maxHeartbeats 1000000
set_option linter.unusedSimpArgs false
set_option linter.unusedVariables false
structure RQ where
 pos:Nat
 nodes:Nat
 bad:Bool
 deep:Bool
 big:Bool
 deriving DecidableEq
def blL (l:List UInt8):Nat:=(l.takeWhile wR).length
def blQ (s:List UInt8) (q:RQ):RQ:={ q with pos:=q.pos+blL (s.drop q.pos) }
def nxQ (s:List UInt8) (q:RQ):UInt8:=s.getD q.pos 0
def zV (q:RQ) (k:Nat):RQ:={ q with pos:=q.pos+k }
def zF (s:List UInt8) (q:RQ):RQ × List UInt8 :=
 if (qU (s.drop q.pos)).2.2=3 then ({ q with pos:=q.pos+uS (s.drop q.pos),big:=true },[])
 else ({ q with pos:=q.pos+(qU (s.drop q.pos)).2.1,bad:=Bool.or q.bad (decide ((qU (s.drop q.pos)).2.2≠0)) },(qU (s.drop q.pos)).1)
def zHJ (l:List UInt8):Nat:=(l.takeWhile zY).length
def jQ (s:List UInt8) (q:RQ):RQ × Val :=
 ({ q with pos:=q.pos+zHJ (s.drop q.pos),big:=Bool.or q.big (decide ((zJ ((s.drop q.pos).takeWhile zY)).2=3)),bad:=Bool.or q.bad (decide ((zJ ((s.drop q.pos).takeWhile zY)).2≠3∧(zJ ((s.drop q.pos).takeWhile zY)).2≠0)) },
  .mk 4 0 (if (zJ ((s.drop q.pos).takeWhile zY)).2=3 then ⟨false,[48],0⟩ else (zJ ((s.drop q.pos).takeWhile zY)).1) [] [] [] 0)
def xF (s w:List UInt8) (q:RQ):Bool × RQ:=if (s.drop q.pos).take w.length=w then (true,zV q w.length) else (false,q)
def zG (s:List UInt8) (q:RQ) (d:Nat):RQ:=⟨(blQ s q).pos,q.nodes+1,q.bad,Bool.or q.deep (decide (12<d)),Bool.or q.big (decide (400<q.nodes+1))⟩
def qBN (c:UInt8):Bool:=decide (c=45) || qJ c
def vL (s:List UInt8) (q:RQ):RQ × Val :=
 if (xF s yY q).1=true then ((xF s yY q).2,.mk 1 0 dc0 [] [] [] 0)
 else if (xF s kE q).1=true then ((xF s kE q).2,.mk 3 0 dc0 [] [] [] 0)
 else if (xF s wZ q).1=true then ((xF s wZ q).2,.mk 2 0 dc0 [] [] [] 0)
 else ({ q with bad:=true },zK)
def qEX (s:List UInt8) (q:RQ):RQ × List UInt8 :=
 let a:=zF s q
 let b:=blQ s a.1
 ({ b with pos:=b.pos+1,bad:=Bool.or b.bad (decide (nxQ s b≠58)) },a.2)
def xZ (s:List UInt8) (closes:UInt8) (many:Nat) (q:RQ):Bool × RQ :=
 let a:=blQ s { q with big:=Bool.or q.big (decide (200<many)) }
 if nxQ s a=closes then (true,zV a 1) else (false,{ a with pos:=a.pos+1,bad:=Bool.or a.bad (decide (nxQ s a≠44)) })
def qJM (obj:Bool) (ks:List (List UInt8)) (vs:List Val) (key:List UInt8) (v:Val):List (List UInt8) × List Val:=if obj=true then kW ks vs key v else (ks,vs++[v])
def wS (s:List UInt8) (obj:Bool) (q:RQ):RQ × List UInt8:=if obj=true then qEX s (blQ s q) else (blQ s q,[])
mutual
def yK (s:List UInt8):Nat→RQ→Nat→RQ × Val
 | 0,q,_=>({ q with bad:=true },zK)
 | n+1,q,d =>
  if nxQ s (zG s q d)=34 then ((zF s (zG s q d)).1,.mk 5 0 dc0 (zF s (zG s q d)).2 [] [] 0)
  else if nxQ s (zG s q d)=91 then (let q1:=blQ s (zV (zG s q d) 1)
   let r:=if nxQ s q1=93 then (zV q1 1,[],[]) else wM s n q1 d false 93 0 [] []
   (r.1,.mk 6 0 dc0 [] r.2.1 r.2.2 0))
  else if nxQ s (zG s q d)=123 then (let q1:=blQ s (zV (zG s q d) 1)
   let r:=if nxQ s q1=125 then (zV q1 1,[],[]) else wM s n q1 d true 125 0 [] []
   (r.1,.mk 7 0 dc0 [] r.2.1 r.2.2 0))
  else if qBN (nxQ s (zG s q d))=true then jQ s (zG s q d)
  else vL s (zG s q d)
def wM (s:List UInt8):Nat→RQ→Nat→Bool→UInt8→Nat→List (List UInt8)→List Val→RQ × List (List UInt8) × List Val
 | 0,q,_,_,_,_,ks,vs=>({ q with bad:=true },ks,vs)
 | n+1,q,d,obj,closes,many,ks,vs =>
  if q.bad=true then (q,ks,vs) else
  if (wS s obj q).1.bad=true then ((wS s obj q).1,ks,vs) else
  let a:=yK s n (wS s obj q).1 (d+1)
  let b:=xZ s closes (many+1) a.1
  let m:=qJM obj ks vs (wS s obj q).2 a.2
  if b.1=true then (b.2,m) else wM s n b.2 d obj closes (many+1) m.1 m.2
end
def kJ (s:List UInt8) (n:Nat) (q:RQ) (d:Nat) (obj:Bool) (closes:UInt8):RQ × List (List UInt8) × List Val :=
 if nxQ s (blQ s (zV q 1))=closes then (zV (blQ s (zV q 1)) 1,[],[]) else wM s n (blQ s (zV q 1)) d obj closes 0 [] []
theorem qDK (s : List UInt8) (n : Nat) (q : RQ) (d : Nat) : yK s (n + 1) q d =
  if nxQ s (zG s q d)=34 then ((zF s (zG s q d)).1,.mk 5 0 dc0 (zF s (zG s q d)).2 [] [] 0)
  else if nxQ s (zG s q d)=91 then ((kJ s n (zG s q d) d false 93).1,.mk 6 0 dc0 [] (kJ s n (zG s q d) d false 93).2.1 (kJ s n (zG s q d) d false 93).2.2 0)
  else if nxQ s (zG s q d)=123 then ((kJ s n (zG s q d) d true 125).1,.mk 7 0 dc0 [] (kJ s n (zG s q d) d true 125).2.1 (kJ s n (zG s q d) d true 125).2.2 0)
  else if qBN (nxQ s (zG s q d))=true then jQ s (zG s q d)
  else vL s (zG s q d):=by
 rw [yK]; rfl
theorem kX (s : List UInt8) (n : Nat) (q : RQ) (d : Nat) (obj : Bool) (closes : UInt8) (many : Nat) (ks : List (List UInt8)) (vs : List Val) : wM s (n + 1) q d obj closes many ks vs =
  if q.bad=true then (q,ks,vs) else
  if (wS s obj q).1.bad=true then ((wS s obj q).1,ks,vs) else
  if (xZ s closes (many+1) (yK s n (wS s obj q).1 (d+1)).1).1=true then ((xZ s closes (many+1) (yK s n (wS s obj q).1 (d+1)).1).2,qJM obj ks vs (wS s obj q).2 (yK s n (wS s obj q).1 (d+1)).2)
  else wM s n (xZ s closes (many+1) (yK s n (wS s obj q).1 (d+1)).1).2 d obj closes (many+1) (qJM obj ks vs (wS s obj q).2 (yK s n (wS s obj q).1 (d+1)).2).1 (qJM obj ks vs (wS s obj q).2 (yK s n (wS s obj q).1 (d+1)).2).2:=by
 rw [wM]
def zAM (s:List UInt8):Val × Int × Int :=
 let r:=yK s (2 * s.length+2) ⟨0,0,false,false,false⟩ 1
 if r.1.bad=true then (zK,0,10) else if r.1.deep=true then (zK,0,11) else if r.1.big=true then (zK,0,3) else (r.2,r.1.pos,0)
structure SameR (s:List UInt8) (q:RQ) (st:RS):Prop where
 left:st.left=s.drop q.pos
 le:q.pos≤s.length
 nodes:q.nodes=st.nodes
 bad:q.bad=false
 bad':st.bad=false
 deep:q.deep=st.deep
 big:q.big=st.big
theorem qZF (l:List UInt8):l.drop (blL l)=zO l∧blL l≤l.length:=by
 unfold blL zO
 have h:=List.takeWhile_append_dropWhile (p:=wR) (l:=l)
 have h2:=(List.takeWhile_sublist wR (l:=l)).length_le
 generalize l.takeWhile wR=A at *
 generalize l.dropWhile wR=B at *
 subst h
 exact ⟨by simp,h2⟩
theorem qGU {s:List UInt8} {q:RQ} (h:q.pos≤s.length):s.drop (blQ s q).pos=zO (s.drop q.pos)∧(blQ s q).pos≤s.length:=by
 have:=qZF (s.drop q.pos)
 unfold blQ
 simp only
 rw [← List.drop_drop]
 rw [List.length_drop] at this
 exact ⟨this.1,by omega⟩
theorem qGD {s:List UInt8} {q:RQ} {c:UInt8} (hc:c≠0):nxQ s q=c↔([c]:List UInt8).isPrefixOf (s.drop q.pos)=true:=by
 unfold nxQ
 rw [List.getD_eq_getElem?_getD]
 have e:s[q.pos]?=(s.drop q.pos)[0]?:=by rw [List.getElem?_drop,Nat.add_zero]
 rw [e]
 cases s.drop q.pos with
 | nil =>
  constructor
  ·intro h; exact absurd h.symm hc
  intro h; cases h
 | cons b r =>
  simp only [List.getElem?_cons_zero,Option.getD_some,List.isPrefixOf,Bool.and_true,beq_iff_eq]
  exact eq_comm
theorem SameR.bl {s:List UInt8} {q:RQ} {st:RS} (h:SameR s q st):SameR s (blQ s q) { st with left:=zO st.left } :=
 ⟨by rw [h.left]; exact (qGU h.le).1.symm,(qGU h.le).2,h.nodes,h.bad,h.bad',h.deep,h.big⟩
theorem SameR.adv {s:List UInt8} {q:RQ} {st:RS} (h:SameR s q st) {k:Nat} (hk:k≤st.left.length):SameR s (zV q k) (qW st k) :=
 ⟨by simp only [qW,zV]; rw [h.left,List.drop_drop],by have:=h.left; have:=h.le; simp only [zV]; rw [h.left,List.length_drop] at hk; omega,h.nodes,h.bad,h.bad',h.deep,h.big⟩
theorem SameR.take {s:List UInt8} {q:RQ} {st:RS} (h:SameR s q st) {c:UInt8} (hc:c≠0):(nxQ s (blQ s q)=c↔(tk [c] st).1=true)∧(nxQ s (blQ s q)=c→SameR s (zV (blQ s q) 1) (tk [c] st).2)∧(nxQ s (blQ s q)≠c→SameR s (blQ s q) (tk [c] st).2):=by
 have hb:=h.bl
 have hx:=qGD (s:=s) (q:=blQ s q) hc
 have hl:s.drop (blQ s q).pos=zO st.left:=hb.left.symm
 rw [hl] at hx
 refine ⟨?_,fun e => ?_,fun e => ?_⟩
 ·rw [hx]; unfold tk; split <;> simp_all
 ·have e2:=hx.1 e
  have hp:=wA e2
  unfold tk
  rw [if_pos e2]
  exact hb.adv (k:=1) (by simpa using hp)
 unfold tk
 rw [if_neg (fun h=>e (hx.2 h))]
 exact hb
theorem qIP (s:List UInt8):(zJ s).2=0∨(zJ s).2=3∨(zJ s).2=4:=by
 have hn:∀ ng dg sc,(wI ng dg sc).2=0∨(wI ng dg sc).2=3:=fun ng dg sc=>by
  unfold wI; simp only; split
  ·exact .inl rfl
  split
  ·exact .inr rfl
  exact .inl rfl
 have hl:∀ ng dg sc,(jN ng dg sc).2=0∨(jN ng dg sc).2=3:=fun ng dg sc=>by
  unfold jN; split <;> exact hn _ _ _
 unfold zJ
 split
 ·exact .inr (.inr rfl)
 unfold qMF
 split
 ·exact .inr (.inr rfl)
 split
 ·exact .inr (.inr rfl)
 rcases hl (qLP s) (List.takeWhile qJ (yZ s)++_) _ with h | h
 ·exact .inl h
 exact .inr (.inl h)
theorem qSD:∀ (f:Nat) (s:List UInt8) (k:Nat) (out:List UInt8),(wU f s k out).2.2≠0→(wU f s k out).1=[]
 | 0,_,_,_=>fun _=>by simp [wU]
 | f+1,s,k,out=>by
  simp only [wU]
  repeat' split
  all_goals first | exact fun h=>qSD f _ _ _ h | (intro h; rfl) | (intro h; exact absurd rfl h)
theorem qIE (s:List UInt8):(qU s).2.2≠0→(qU s).1=[]:=by
 unfold qU
 split
 ·exact qSD _ _ _ _
 exact fun _=>rfl
theorem SameR.quoted {s:List UInt8} {q:RQ} {st:RS} (h:SameR s q st) (ht:zO st.left=st.left):(zF s q).1.bad=(qD st).1.bad∧(zF s q).2=(qD st).2∧((qD st).1.bad=false→SameR s (zF s q).1 (qD st).1):=by
 have hp:=vB st.left
 have hk:=qFR st.left
 have e1:=qIE st.left
 unfold zF qD jP
 rw [ht,← h.left]
 have hl:=h.left
 have hle:st.left.length=s.length-q.pos:=by rw [hl,List.length_drop]
 have hqp:=h.le
 generalize qU st.left=u at *
 by_cases c1:u.2.2=3
 ·rw [if_pos c1,if_neg (by rw [c1]; decide),if_pos c1]
  refine ⟨by rw [h.bad]; exact h.bad'.symm,(e1 (by rw [c1]; decide)).symm,fun _ => ?_⟩
  exact ⟨by simp only; rw [hl,List.drop_drop,← hl],by simp only; omega,h.nodes,h.bad,h.bad',h.deep,rfl⟩
 rw [if_neg c1]
 by_cases c2:u.2.2=0
 ·rw [if_pos c2]
  refine ⟨by simp only; rw [h.bad,h.bad',c2]; rfl,rfl,fun _ => ?_⟩
  exact ⟨by simp only; rw [hl,List.drop_drop],by simp only; omega,h.nodes,by simp only; rw [h.bad,c2]; rfl,h.bad',h.deep,h.big⟩
 rw [if_neg c2,if_neg c1]
 refine ⟨by simp only; rw [decide_eq_true c2]; simp,rfl,fun hb=>by simp at hb⟩
theorem qTT (l:List UInt8):l.drop (zHJ l)=l.dropWhile zY∧zHJ l≤l.length:=by
 unfold zHJ
 have h:=List.takeWhile_append_dropWhile (p:=zY) (l:=l)
 have h2:=(List.takeWhile_sublist zY (l:=l)).length_le
 generalize l.takeWhile zY=A at *
 generalize l.dropWhile zY=B at *
 subst h
 exact ⟨by simp,h2⟩
theorem SameR.number {s:List UInt8} {q:RQ} {st:RS} (h:SameR s q st):(jQ s q).1.bad=(wO st).1.bad∧((wO st).1.bad=false→SameR s (jQ s q).1 (wO st).1∧((wO st).1.big=false→(jQ s q).2=(wO st).2)):=by
 have hc:=qIP (st.left.takeWhile zY)
 have hd:=qTT st.left
 have hl:=h.left
 have hle:st.left.length=s.length-q.pos:=by rw [hl,List.length_drop]
 have hqp:=h.le
 unfold jQ wO
 rw [← h.left]
 generalize zJ (st.left.takeWhile zY)=p at *
 simp only
 refine ⟨?_,fun hb=>⟨⟨by simp only; rw [← hd.1,hl,List.drop_drop,← hl],by simp only; omega,h.nodes, ?_, ?_,h.deep, ?_⟩,fun hg => ?_⟩⟩
 ·rw [h.bad,h.bad']
  rcases hc with h | h | h <;> rw [h] <;> rfl
 ·simp only [Bool.or_eq_false_iff,decide_eq_false_iff_not] at hb
  rw [h.bad]
  rcases hc with h | h | h
  ·rw [h]; rfl
  ·rw [h]; rfl
  exact absurd h hb.2
 ·exact hb
 ·rw [h.big]
 simp only [Bool.or_eq_false_iff,decide_eq_false_iff_not] at hg
 rw [if_neg hg.2]
theorem qRY {s w:List UInt8} {q:RQ}:(s.drop q.pos).take w.length=w↔w.isPrefixOf (s.drop q.pos)=true:=by
 rw [List.isPrefixOf_iff_prefix,List.prefix_iff_eq_take,eq_comm]
theorem SameR.words {s:List UInt8} {q:RQ} {st:RS} (h:SameR s q st) (h1:¬ nxQ s q=34) (h2:qBN (nxQ s q)=false):(vL s q).1.bad=(wT st).1.bad∧((wT st).1.bad=false→SameR s (vL s q).1 (wT st).1∧(vL s q).2=(wT st).2):=by
 have h34:¬ ([34]:List UInt8).isPrefixOf st.left=true:=by rw [h.left]; exact fun e=>h1 ((qGD (by decide)).2 e)
 have hnum:¬ (st.left≠[]∧(qN st.left 0=45∨yO (qN st.left 0)=true)):=by
  rintro ⟨g1,g2⟩
  have e:nxQ s q=st.left.getD 0 0:=by rw [h.left]; unfold nxQ; simp [List.getD_eq_getElem?_getD]
  rw [e] at h2
  unfold qBN at h2
  simp only [Bool.or_eq_false_iff,decide_eq_false_iff_not] at h2
  rcases g2 with g | g
  ·exact h2.1 (UInt8.toNat_inj.1 (by unfold qN at g; show (st.left.getD 0 0).toNat=45; omega))
  have:qJ (st.left.getD 0 0)=true:=g
  rw [this] at h2; exact absurd h2.2 (by decide)
 have key:∀ w:List UInt8,xF s w q=if w.isPrefixOf st.left=true then (true,zV q w.length) else (false,q):=fun w=>by
  unfold xF
  rw [h.left]
  by_cases c:w.isPrefixOf (s.drop q.pos)=true
  ·rw [if_pos c,if_pos (qRY.2 c)]
  rw [if_neg c,if_neg (fun e=>c (qRY.1 e))]
 have k1:=key yY
 have k2:=key kE
 have k3:=key wZ
 have hbb:q.bad=st.bad:=by rw [h.bad,h.bad']
 unfold vL wT
 rw [k1,k2,k3]
 by_cases c1:yY.isPrefixOf st.left=true
 ·rw [if_pos c1,if_pos c1,if_pos rfl]
  exact ⟨hbb,fun _=>⟨h.adv (wA c1),rfl⟩⟩
 rw [if_neg c1,if_neg c1,if_neg (by simp)]
 by_cases c2:kE.isPrefixOf st.left=true
 ·rw [if_pos c2,if_pos c2,if_pos rfl]
  exact ⟨hbb,fun _=>⟨h.adv (wA c2),rfl⟩⟩
 rw [if_neg c2,if_neg c2,if_neg (by simp)]
 by_cases c3:wZ.isPrefixOf st.left=true
 ·rw [if_pos c3,if_pos c3,if_pos rfl]
  exact ⟨hbb,fun _=>⟨h.adv (wA c3),rfl⟩⟩
 rw [if_neg c3,if_neg c3,if_neg (by simp),if_neg h34,if_neg hnum]
 exact ⟨rfl,fun hb=>by cases hb⟩
theorem qZE:∀ l:List UInt8,blL (zO l)=0
 | []=>rfl
 | b::l=>by
  have ih:=qZE l
  unfold zO blL at ih ⊢
  rw [List.dropWhile_cons]
  split
  ·exact ih
  rename_i h; rw [List.takeWhile_cons,if_neg h]; rfl
theorem qVA {s:List UInt8} {q:RQ} (h:q.pos≤s.length):blQ s (blQ s q)=blQ s q:=by
 have:=(qGU h).1
 unfold blQ at this ⊢
 simp only at this ⊢
 rw [this,qZE]; rfl
theorem SameR.beh {s : List UInt8} {q : RQ} {st : RS} (h : SameR s q st) {c : UInt8} (hc : c ≠ 0) (many : Nat) :
  (xZ s c many q).1=(wJ c many st).1∧(xZ s c many q).2.bad=(wJ c many st).2.bad∧((wJ c many st).2.bad=false→SameR s (xZ s c many q).2 (wJ c many st).2):=by
 have h1:SameR s { q with big:=Bool.or q.big (decide (200<many)) } { st with big:=st.big || decide (200<many) }:=⟨h.left,h.le,h.nodes,h.bad,h.bad',h.deep,by simp only; rw [h.big]⟩
 have hsep:wJ c many st=if ({ st with big:=st.big || decide (200<many) }:RS).bad=true then (true,{ st with big:=st.big || decide (200<many) }) else if (tk [c] { st with big:=st.big || decide (200<many) }).1=true then (true,(tk [c] { st with big:=st.big || decide (200<many) }).2) else (false,{ (tk [44] (tk [c] { st with big:=st.big || decide (200<many) }).2).2 with bad := !(tk [44] (tk [c] { st with big:=st.big || decide (200<many) }).2).1 }):=rfl
 rw [hsep]
 unfold xZ
 simp only
 generalize ({ q with big:=Bool.or q.big (decide (200<many)) }:RQ)=q1 at *
 generalize ({ st with big:=st.big || decide (200<many) }:RS)=st1 at *
 have hsb:=h1.bad'
 obtain ⟨t1,t2,t3⟩:=h1.take hc
 rw [if_neg (show ¬ st.bad=true by rw [h.bad']; simp)]
 by_cases e:nxQ s (blQ s q1)=c
 ·rw [if_pos e,if_pos (t1.1 e)]
  have:=t2 e
  exact ⟨rfl,by simp only; rw [this.bad,this.bad'],fun _=>this⟩
 rw [if_neg e,if_neg (fun h=>e (t1.2 h))]
 have g:=t3 e
 obtain ⟨u1,u2,u3⟩:=g.take (c:=44) (by decide)
 rw [qVA h1.le] at u1 u2 u3
 refine ⟨rfl, ?_,fun hb => ?_⟩
 ·simp only
  rw [g.bad]
  by_cases e2:nxQ s (blQ s q1)=44
  ·rw [u1.1 e2]; simp [e2]
  have:(tk [44] (tk [c] st1).2).1=false:=by
   cases hh:(tk [44] (tk [c] st1).2).1 with
   | false=>rfl
   | true=>exact absurd (u1.2 hh) e2
  rw [this]; simp [e2]
 have hb':(tk [44] (tk [c] st1).2).1=true:=by simpa using hb
 have e2:=u1.2 hb'
 have k:=u2 e2
 exact ⟨k.left,k.le,k.nodes,by simp only; rw [g.bad,e2]; rfl,hb,k.deep,k.big⟩
theorem qQD (st:RS):qD { st with left:=zO st.left }=qD st:=by
 unfold qD jP
 simp only [xT]
theorem SameR.key {s : List UInt8} {q : RQ} {st : RS} (h : SameR s q st) :
  (qEX s (blQ s q)).1.bad=(qQ (qD st).1).bad∧(qEX s (blQ s q)).2=(qD st).2∧((qQ (qD st).1).bad=false→SameR s (qEX s (blQ s q)).1 (qQ (qD st).1)):=by
 obtain ⟨q1,q2,q3⟩:=h.bl.quoted (xT _)
 rw [qQD] at q1 q2 q3
 unfold qEX
 simp only
 by_cases hb:(qD st).1.bad=true
 ·have hc:qQ (qD st).1=(qD st).1:=by unfold qQ; rw [if_pos hb]
  rw [hc]
  refine ⟨?_,q2,fun h'=>by rw [hb] at h'; cases h'⟩
  show Bool.or (zF s (blQ s q)).1.bad _=_
  rw [q1,hb]; rfl
 have hb':(qD st).1.bad=false:=by simpa using hb
 have g:=q3 hb'
 have hc:qQ (qD st).1={ (tk [58] (qD st).1).2 with bad := !(tk [58] (qD st).1).1 }:=by unfold qQ; rw [if_neg hb]
 rw [hc]
 obtain ⟨t1,t2,t3⟩:=g.take (c:=58) (by decide)
 refine ⟨?_,q2,fun h' => ?_⟩
 ·show Bool.or (zF s (blQ s q)).1.bad _=_
  rw [q1,hb']
  by_cases e:nxQ s (blQ s (zF s (blQ s q)).1)=58
  ·rw [t1.1 e]; simp [e]
  have:(tk [58] (qD st).1).1=false:=by
   cases hh:(tk [58] (qD st).1).1 with
   | false=>rfl
   | true=>exact absurd (t1.2 hh) e
  rw [this]; simp [e]
 have e:=t1.2 (by simpa using h')
 have k:=t2 e
 exact ⟨k.left,k.le,k.nodes,by show Bool.or (zF s (blQ s q)).1.bad _=_; rw [q1,hb',e]; rfl,h',k.deep,k.big⟩
theorem qAV {s:List UInt8} {n:Nat} {q:RQ} {d:Nat} {obj:Bool} {c:UInt8} {many:Nat} {ks:List (List UInt8)} {vs:List Val} (h:q.bad=true):(wM s n q d obj c many ks vs).1.bad=true:=by
 cases n with
 | zero=>simp [wM]
 | succ n=>rw [kX,if_pos h]; exact h
theorem qQN {n:Nat} {st:RS} {d many:Nat} {vs:List Val} (h:st.bad=true):(yN n st d many vs).1.bad=true:=by
 cases n with
 | zero=>simp [yN]
 | succ n=>rw [qCM,if_pos h]; exact h
theorem qJV {n:Nat} {st:RS} {d many:Nat} {ks:List (List UInt8)} {vs:List Val} (h:st.bad=true):(wN n st d many ks vs).1.bad=true:=by
 cases n with
 | zero=>simp [wN]
 | succ n=>rw [wN,if_pos h]; exact h
theorem qZH {s:List UInt8} {c:UInt8} {many:Nat} {q:RQ} (h:q.bad=true):(xZ s c many q).2.bad=true:=by
 unfold xZ; simp only; split
 ·exact h
 simp only [blQ]; rw [h]; rfl
theorem qKW {c:UInt8} {many:Nat} {st:RS} (h:st.bad=true):wJ c many st=(true,{ st with big:=st.big || decide (200<many) }):=by
 unfold wJ; simp only; rw [if_pos h]
theorem qSV {c:UInt8} {many:Nat} {st:RS} (h:(wJ c many st).2.big=false):st.big=false:=by
 unfold wJ at h; simp only at h
 split at h
 ·simp only [Bool.or_eq_false_iff] at h; exact h.1
 split at h
 ·rw [qEM] at h; simp only [Bool.or_eq_false_iff] at h; exact h.1
 simp only [qEM,Bool.or_eq_false_iff] at h; exact h.1
theorem qXC {st:RS} (h:(qQ st).big=false):st.big=false:=by
 unfold qQ at h; split at h
 ·exact h
 simpa using h
theorem qCH {st:RS} (h:(qD st).1.big=false):st.big=false:=by
 unfold qD jP at h; split at h
 ·exact h
 split at h
 ·cases h
 exact h
theorem zHD (ks:List (List UInt8)) (vs vs':List Val) (k:List UInt8) (v v':Val):(kW ks vs k v).1=(kW ks vs' k v').1:=by
 unfold kW; split <;> rfl
theorem qNX (s : List UInt8) : ∀ n : Nat,
  (∀ q st d,SameR s (blQ s q) { st with left:=zO st.left }→(yK s n q d).1.bad=(qS n st d).1.bad∧((qS n st d).1.bad=false→SameR s (yK s n q d).1 (qS n st d).1∧((qS n st d).1.big=false→st.big=false∧(yK s n q d).2=(qS n st d).2))) ∧
  (∀ q st d many vs vs',SameR s q st→(st.big=false→vs'=vs)→(wM s n q d false 93 many [] vs').1.bad=(yN n st (d+1) (many+1) vs).1.bad∧((yN n st (d+1) (many+1) vs).1.bad=false→SameR s (wM s n q d false 93 many [] vs').1 (yN n st (d+1) (many+1) vs).1∧(wM s n q d false 93 many [] vs').2.1=[]∧((yN n st (d+1) (many+1) vs).1.big=false→st.big=false∧(wM s n q d false 93 many [] vs').2.2=(yN n st (d+1) (many+1) vs).2))) ∧
  (∀ q st d many ks vs vs',SameR s q st→(st.big=false→vs'=vs)→(wM s n q d true 125 many ks vs').1.bad=(wN n st (d+1) (many+1) ks vs).1.bad∧((wN n st (d+1) (many+1) ks vs).1.bad=false→SameR s (wM s n q d true 125 many ks vs').1 (wN n st (d+1) (many+1) ks vs).1∧(wM s n q d true 125 many ks vs').2.1=(wN n st (d+1) (many+1) ks vs).2.1∧((wN n st (d+1) (many+1) ks vs).1.big=false→st.big=false∧(wM s n q d true 125 many ks vs').2.2=(wN n st (d+1) (many+1) ks vs).2.2)))
 | 0=>⟨fun q st d _=>by simp [yK,qS],fun q st d many vs vs' _ _=>by simp [wM,yN],fun q st d many ks vs vs' _ _=>by simp [wM,wN]⟩
 | n+1=>by
  obtain ⟨ih1,ih2,ih3⟩:=qNX s n
  refine ⟨fun q st d h => ?_,fun q st d many vs vs' h hv => ?_,fun q st d many ks vs vs' h hv => ?_⟩
  ·have hE:SameR s (zG s q d) (qT st d):=⟨h.left,h.le,by show q.nodes+1=st.nodes+1; have:=h.nodes; simp only [blQ] at this; omega,h.bad,h.bad',by
    have:=h.deep; simp only [blQ] at this; show Bool.or q.deep _=Bool.or st.deep _; rw [this],by
    have hn:=h.nodes; simp only [blQ] at hn; have:=h.big; simp only [blQ] at this; show Bool.or q.big _=Bool.or st.big _; rw [this,hn]⟩
   have hEt:zO (qT st d).left=(qT st d).left:=xT _
   have hbg:(qT st d).big=false→st.big=false:=fun h=>by
    have:Bool.or st.big (decide (400<st.nodes+1))=false:=h
    simp only [Bool.or_eq_false_iff] at this; exact this.1
   rw [qAL,qDK]
   have x34:=qGD (s:=s) (q:=zG s q d) (c:=34) (by decide)
   have x91:=qGD (s:=s) (q:=zG s q d) (c:=91) (by decide)
   have x123:=qGD (s:=s) (q:=zG s q d) (c:=123) (by decide)
   rw [← hE.left] at x34 x91 x123
   generalize zG s q d=Q at *
   generalize qT st d=E at *
   have hkids:∀ (obj:Bool) (c:UInt8),c≠0→1≤E.left.length→True→(nxQ s (blQ s (zV Q 1))=c↔(tk [c] (qW E 1)).1=true)∧(nxQ s (blQ s (zV Q 1))=c→SameR s (zV (blQ s (zV Q 1)) 1) (tk [c] (qW E 1)).2)∧(nxQ s (blQ s (zV Q 1))≠c→SameR s (blQ s (zV Q 1)) (tk [c] (qW E 1)).2):=fun obj c hc hl _=>(hE.adv hl).take hc
   by_cases c1:nxQ s Q=34
   ·rw [if_pos c1]
    have n91:¬ nxQ s Q=91:=by rw [c1]; decide
    have n123:¬ nxQ s Q=123:=by rw [c1]; decide
    rw [if_neg (fun h=>n91 (x91.2 h)),if_neg (fun h=>n123 (x123.2 h))]
    have hp:=x34.1 c1
    obtain ⟨t,ht⟩:=List.isPrefixOf_iff_prefix.1 hp
    have hat:wT E=((qD E).1,.mk 5 0 dc0 (qD E).2 [] [] 0):=by
     unfold wT
     rw [if_neg (by rw [← ht]; simp [yY,List.isPrefixOf]),if_neg (by rw [← ht]; simp [kE,List.isPrefixOf]),if_neg (by rw [← ht]; simp [wZ,List.isPrefixOf]),if_pos hp]
    rw [hat]
    obtain ⟨g1,g2,g3⟩:=hE.quoted hEt
    exact ⟨g1,fun hb=>⟨g3 hb,fun hg=>⟨hbg (qCH hg),by simp only; rw [g2]⟩⟩⟩
   rw [if_neg c1]
   by_cases c2:nxQ s Q=91
   ·rw [if_pos c2,if_pos (x91.1 c2)]
    have hl:=wA (x91.1 c2)
    obtain ⟨t1,t2,t3⟩:=hkids false 93 (by decide) (by simpa using hl) trivial
    have hld:(qW E 1).big=E.big:=rfl
    unfold kJ qNE
    by_cases e:nxQ s (blQ s (zV Q 1))=93
    ·rw [if_pos e,if_pos (t1.1 e)]
     have g:=t2 e
     exact ⟨by simp only; rw [g.bad,g.bad'],fun _=>⟨g,fun hg=>⟨hbg (by simpa [hld] using hg),rfl⟩⟩⟩
    rw [if_neg e,if_neg (fun h=>e (t1.2 h))]
    have g:=t3 e
    obtain ⟨k1,k2⟩:=ih2 _ _ d 0 [] [] g (fun _=>rfl)
    refine ⟨k1,fun hb => ?_⟩
    obtain ⟨k3,k4,k5⟩:=k2 hb
    refine ⟨k3,fun hg => ?_⟩
    obtain ⟨k6,k7⟩:=k5 hg
    refine ⟨hbg (by simpa [hld] using k6), ?_⟩
    simp only
    rw [k4,k7]
   rw [if_neg c2,if_neg (fun h=>c2 (x91.2 h))]
   by_cases c3:nxQ s Q=123
   ·rw [if_pos c3,if_pos (x123.1 c3)]
    have hl:=wA (x123.1 c3)
    obtain ⟨t1,t2,t3⟩:=hkids true 125 (by decide) (by simpa using hl) trivial
    have hld:(qW E 1).big=E.big:=rfl
    unfold kJ qER
    by_cases e:nxQ s (blQ s (zV Q 1))=125
    ·rw [if_pos e,if_pos (t1.1 e)]
     have g:=t2 e
     exact ⟨by simp only; rw [g.bad,g.bad'],fun _=>⟨g,fun hg=>⟨hbg (by simpa [hld] using hg),rfl⟩⟩⟩
    rw [if_neg e,if_neg (fun h=>e (t1.2 h))]
    have g:=t3 e
    obtain ⟨k1,k2⟩:=ih3 _ _ d 0 [] [] [] g (fun _=>rfl)
    refine ⟨k1,fun hb => ?_⟩
    obtain ⟨k3,k4,k5⟩:=k2 hb
    refine ⟨k3,fun hg => ?_⟩
    obtain ⟨k6,k7⟩:=k5 hg
    refine ⟨hbg (by simpa [hld] using k6), ?_⟩
    simp only
    rw [k4,k7]
   rw [if_neg c3,if_neg (fun h=>c3 (x123.2 h))]
   by_cases c4:qBN (nxQ s Q)=true
   ·rw [if_pos c4]
    have e:nxQ s Q=E.left.getD 0 0:=by rw [hE.left]; unfold nxQ; simp [List.getD_eq_getElem?_getD]
    have hne:E.left≠[]:=by intro h0; rw [e,h0] at c4; exact absurd c4 (by decide)
    obtain ⟨b,t,ht⟩:=List.exists_cons_of_ne_nil hne
    have hb:b=nxQ s Q:=by rw [e,ht]; rfl
    have hbn:qBN b=true:=by rw [hb]; exact c4
    have hat:wT E=wO E:=by
     have k1:¬ b=110:=by rintro rfl; revert hbn; decide
     have k2:¬ b=116:=by rintro rfl; revert hbn; decide
     have k3:¬ b=102:=by rintro rfl; revert hbn; decide
     have k4:¬ b=34:=by rintro rfl; revert hbn; decide
     unfold wT
     rw [if_neg (by rw [ht]; simp [yY,List.isPrefixOf]; intro h; exact absurd h.symm k1),if_neg (by rw [ht]; simp [kE,List.isPrefixOf]; intro h; exact absurd h.symm k2),if_neg (by rw [ht]; simp [wZ,List.isPrefixOf]; intro h; exact absurd h.symm k3),if_neg (by rw [ht]; simp [List.isPrefixOf]; exact fun h=>k4 h.symm),if_pos]
     refine ⟨hne, ?_⟩
     have hb0:qN E.left 0=(b.toNat:Int):=by rw [ht]; rfl
     rw [hb0]
     unfold qBN at hbn
     simp only [Bool.or_eq_true,decide_eq_true_eq] at hbn
     rcases hbn with rfl | h
     ·exact .inl rfl
     exact .inr h
    rw [hat]
    obtain ⟨g1,g2⟩:=hE.number
    refine ⟨g1,fun hb => ?_⟩
    obtain ⟨g3,g4⟩:=g2 hb
    refine ⟨g3,fun hg=>⟨hbg ?_,g4 hg⟩⟩
    unfold wO at hg
    simp only [Bool.or_eq_false_iff] at hg
    exact hg.1
   rw [if_neg c4]
   obtain ⟨g1,g2⟩:=hE.words c1 (by simpa using c4)
   refine ⟨g1,fun hb => ?_⟩
   obtain ⟨g3,g4⟩:=g2 hb
   refine ⟨g3,fun hg=>⟨hbg ?_,g4⟩⟩
   unfold wT at hg
   split at hg
   ·exact hg
   split at hg
   ·exact hg
   split at hg
   ·exact hg
   split at hg
   ·exact qCH hg
   split at hg
   ·unfold wO at hg; simp only [Bool.or_eq_false_iff] at hg; exact hg.1
   exact hg
  ·rw [kX,qCM,if_neg (show ¬ q.bad=true by rw [h.bad]; simp),if_neg (show ¬ st.bad=true by rw [h.bad']; simp)]
   have hd:wS s false q=(blQ s q,[]):=rfl
   rw [hd,if_neg (by simp only; rw [h.bl.bad]; simp)]
   obtain ⟨v1,v2⟩:=ih1 (blQ s q) st (d+1) (by rw [qVA h.le]; exact h.bl)
   simp only
   generalize yK s n (blQ s q) (d+1)=A at *
   generalize qS n st (d+1)=B at *
   have hm:∀ key,qJM false [] vs' key A.2=([],vs'++[A.2]):=fun _=>rfl
   simp only [hm]
   by_cases hb:B.1.bad=true
   ·rw [hb] at v1
    have e1:=qZH (s:=s) (c:=93) (many:=many+1) v1
    rw [qKW hb,if_pos rfl]
    refine ⟨?_,fun h'=>by simp only at h'; rw [hb] at h'; cases h'⟩
    simp only; rw [hb]
    split
    ·exact e1
    exact qAV e1
   have hb':B.1.bad=false:=by simpa using hb
   obtain ⟨v3,v4⟩:=v2 hb'
   obtain ⟨s1,s2,s3⟩:=v3.beh (c:=93) (by decide) (many+1)
   have sb:=qSV (c:=93) (many:=many+1) (st:=B.1)
   generalize xZ s 93 (many+1) A.1=X at *
   generalize wJ 93 (many+1) B.1=Y at *
   rw [s1]
   by_cases hy:Y.1=true
   ·rw [if_pos hy,if_pos hy]
    refine ⟨s2,fun h'=>⟨s3 h',rfl,fun hg => ?_⟩⟩
    obtain ⟨w1,w2⟩:=v4 (sb hg)
    exact ⟨w1,by simp only; rw [hv w1,w2]⟩
   rw [if_neg hy,if_neg hy]
   by_cases hyb:Y.2.bad=true
   ·rw [hyb] at s2
    exact ⟨by rw [qAV s2,qQN hyb],fun h'=>by rw [qQN hyb] at h'; cases h'⟩
   have g:=s3 (by simpa using hyb)
   obtain ⟨k1,k2⟩:=ih2 X.2 Y.2 d (many+1) (vs++[B.2]) (vs'++[A.2]) g (fun hg=>by
    obtain ⟨w1,w2⟩:=v4 (sb hg)
    rw [hv w1,w2])
   refine ⟨k1,fun h' => ?_⟩
   obtain ⟨k3,k4,k5⟩:=k2 h'
   refine ⟨k3,k4,fun hg => ?_⟩
   obtain ⟨k6,k7⟩:=k5 hg
   exact ⟨(v4 (sb k6)).1,k7⟩
  rw [kX,wN,if_neg (show ¬ q.bad=true by rw [h.bad]; simp),if_neg (show ¬ st.bad=true by rw [h.bad']; simp)]
  have hd:wS s true q=qEX s (blQ s q):=rfl
  obtain ⟨y1,y2,y3⟩:=h.key
  have ybig:(qQ (qD st).1).big=false→st.big=false:=fun h=>qCH (qXC h)
  rw [hd]
  generalize qEX s (blQ s q)=K at *
  simp only
  generalize (qD st).2=key at *
  generalize qQ (qD st).1=C at *
  by_cases hC:C.bad=true
  ·rw [hC] at y1
   rw [if_pos y1]
   simp only [hC,if_true]
   rw [qKW hC,if_pos rfl]
   exact ⟨by simp only; rw [y1,hC],fun h'=>by simp only at h'; rw [hC] at h'; cases h'⟩
  have hC':C.bad=false:=by simpa using hC
  have g:=y3 hC'
  rw [if_neg (by rw [g.bad]; simp)]
  simp only [hC',Bool.false_eq_true,if_false]
  obtain ⟨v1,v2⟩:=ih1 K.1 C (d+1) g.bl
  rw [y2]
  generalize yK s n K.1 (d+1)=A at *
  generalize qS n C (d+1)=B at *
  have hm:qJM true ks vs' key A.2=kW ks vs' key A.2:=rfl
  rw [hm]
  have hpf:=zHD ks vs vs' key B.2 A.2
  by_cases hb:B.1.bad=true
  ·rw [hb] at v1
   have e1:=qZH (s:=s) (c:=125) (many:=many+1) v1
   rw [qKW hb,if_pos rfl]
   refine ⟨?_,fun h'=>by simp only at h'; rw [hb] at h'; cases h'⟩
   simp only; rw [hb]
   split
   ·exact e1
   exact qAV e1
  have hb':B.1.bad=false:=by simpa using hb
  obtain ⟨v3,v4⟩:=v2 hb'
  obtain ⟨s1,s2,s3⟩:=v3.beh (c:=125) (by decide) (many+1)
  have sb:=qSV (c:=125) (many:=many+1) (st:=B.1)
  generalize xZ s 125 (many+1) A.1=X at *
  generalize wJ 125 (many+1) B.1=Y at *
  rw [s1]
  by_cases hy:Y.1=true
  ·rw [if_pos hy,if_pos hy]
   refine ⟨s2,fun h'=>⟨s3 h',hpf.symm,fun hg => ?_⟩⟩
   obtain ⟨w1,w2⟩:=v4 (sb hg)
   exact ⟨ybig w1,by simp only; rw [hv (ybig w1),w2]⟩
  rw [if_neg hy,if_neg hy]
  by_cases hyb:Y.2.bad=true
  ·rw [hyb] at s2
   exact ⟨by rw [qAV s2,qJV hyb],fun h'=>by rw [qJV hyb] at h'; cases h'⟩
  have g2:=s3 (by simpa using hyb)
  rw [← hpf]
  obtain ⟨k1,k2⟩:=ih3 X.2 Y.2 d (many+1) (kW ks vs key B.2).1 (kW ks vs key B.2).2 (kW ks vs' key A.2).2 g2 (fun hg=>by
   obtain ⟨w1,w2⟩:=v4 (sb hg)
   rw [hv (ybig w1),w2])
  refine ⟨k1,fun h' => ?_⟩
  obtain ⟨k3,k4,k5⟩:=k2 h'
  refine ⟨k3,k4,fun hg => ?_⟩
  obtain ⟨k6,k7⟩:=k5 hg
  exact ⟨ybig (v4 (sb k6)).1,k7⟩
theorem zDL (s:List UInt8):zAM s=kF s:=by
 have h0:SameR s ⟨0,0,false,false,false⟩ ⟨s,0,false,false,false⟩:=⟨rfl,Nat.zero_le _,rfl,rfl,rfl,rfl,rfl⟩
 obtain ⟨h1,h2⟩:=(qNX s (2 * s.length+2)).1 _ _ 1 h0.bl
 unfold zAM kF
 simp only
 generalize yK s (2 * s.length+2) ⟨0,0,false,false,false⟩ 1=A at *
 generalize qS (2 * s.length+2) ⟨s,0,false,false,false⟩ 1=B at *
 rw [h1]
 by_cases hb:B.1.bad=true
 ·rw [if_pos hb,if_pos hb]
 rw [if_neg hb,if_neg hb]
 obtain ⟨h3,h4⟩:=h2 (by simpa using hb)
 rw [h3.deep,h3.big]
 split
 ·rfl
 split
 ·rfl
 rename_i hg
 rw [(h4 (by simpa using hg)).2]
 have:=h3.left
 have hle:=h3.le
 congr 2
 rw [this,List.length_drop]; omega
end Go.Proofs.YtlmedakhioiahaaGreatDoor
