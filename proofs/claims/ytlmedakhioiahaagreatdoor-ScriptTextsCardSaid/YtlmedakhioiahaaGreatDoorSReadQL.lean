import Derived.Test.YtlmedakhioiahaaGreatDoorK3
namespace Go.Proofs.YtlmedakhioiahaaGreatDoor
open Sy Go
set_option maxRecDepth 100000
set_option maxHeartbeats 1000000
set_option linter.unusedSimpArgs false
set_option linter.unusedVariables false
structure RQ where
 pos:Nat
 nodes:Nat
 bad:Bool
 deep:Bool
 big:Bool
 deriving DecidableEq
def blL (l:List UInt8):Nat:=(l.takeWhile jF).length
def blQ (s:List UInt8) (q:RQ):RQ:={ q with pos:=q.pos+blL (s.drop q.pos) }
def nxQ (s:List UInt8) (q:RQ):UInt8:=s.getD q.pos 0
def zV (q:RQ) (k:Nat):RQ:={ q with pos:=q.pos+k }
def zE (s:List UInt8) (q:RQ):RQ × List UInt8 :=
 if (qU (s.drop q.pos)).2.2=3 then ({ q with pos:=q.pos+uI (s.drop q.pos),big:=true },[])
 else ({ q with pos:=q.pos+(qU (s.drop q.pos)).2.1,bad:=Bool.or q.bad (decide ((qU (s.drop q.pos)).2.2≠0)) },(qU (s.drop q.pos)).1)
def zFW (l:List UInt8):Nat:=(l.takeWhile wI).length
def jI (s:List UInt8) (q:RQ):RQ × Val :=
 ({ q with pos:=q.pos+zFW (s.drop q.pos),big:=Bool.or q.big (decide ((zW ((s.drop q.pos).takeWhile wI)).2=3)),bad:=Bool.or q.bad (decide ((zW ((s.drop q.pos).takeWhile wI)).2≠3∧(zW ((s.drop q.pos).takeWhile wI)).2≠0)) },
  .mk 4 0 (if (zW ((s.drop q.pos).takeWhile wI)).2=3 then ⟨false,[48],0⟩ else (zW ((s.drop q.pos).takeWhile wI)).1) [] [] [] 0)
def jT (s w:List UInt8) (q:RQ):Bool × RQ:=if (s.drop q.pos).take w.length=w then (true,zV q w.length) else (false,q)
def zG (s:List UInt8) (q:RQ) (d:Nat):RQ:=⟨(blQ s q).pos,q.nodes+1,q.bad,Bool.or q.deep (decide (12<d)),Bool.or q.big (decide (400<q.nodes+1))⟩
def qAV (c:UInt8):Bool:=decide (c=45) || qJ c
def vB (s:List UInt8) (q:RQ):RQ × Val :=
 if (jT s kX q).1=true then ((jT s kX q).2,.mk 1 0 dc0 [] [] [] 0)
 else if (jT s kW q).1=true then ((jT s kW q).2,.mk 3 0 dc0 [] [] [] 0)
 else if (jT s yG q).1=true then ((jT s yG q).2,.mk 2 0 dc0 [] [] [] 0)
 else ({ q with bad:=true },zK)
def qEM (s:List UInt8) (q:RQ):RQ × List UInt8 :=
 let a:=zE s q
 let b:=blQ s a.1
 ({ b with pos:=b.pos+1,bad:=Bool.or b.bad (decide (nxQ s b≠58)) },a.2)
def xU (s:List UInt8) (closes:UInt8) (many:Nat) (q:RQ):Bool × RQ :=
 let a:=blQ s { q with big:=Bool.or q.big (decide (200<many)) }
 if nxQ s a=closes then (true,zV a 1) else (false,{ a with pos:=a.pos+1,bad:=Bool.or a.bad (decide (nxQ s a≠44)) })
def qIX (obj:Bool) (ks:List (List UInt8)) (vs:List Val) (key:List UInt8) (v:Val):List (List UInt8) × List Val:=if obj=true then jQ ks vs key v else (ks,vs++[v])
def wL (s:List UInt8) (obj:Bool) (q:RQ):RQ × List UInt8:=if obj=true then qEM s (blQ s q) else (blQ s q,[])
mutual
def yB (s:List UInt8):Nat→RQ→Nat→RQ × Val
 | 0,q,_=>({ q with bad:=true },zK)
 | n+1,q,d =>
  if nxQ s (zG s q d)=34 then ((zE s (zG s q d)).1,.mk 5 0 dc0 (zE s (zG s q d)).2 [] [] 0)
  else if nxQ s (zG s q d)=91 then (let q1:=blQ s (zV (zG s q d) 1)
   let r:=if nxQ s q1=93 then (zV q1 1,[],[]) else wJ s n q1 d false 93 0 [] []
   (r.1,.mk 6 0 dc0 [] r.2.1 r.2.2 0))
  else if nxQ s (zG s q d)=123 then (let q1:=blQ s (zV (zG s q d) 1)
   let r:=if nxQ s q1=125 then (zV q1 1,[],[]) else wJ s n q1 d true 125 0 [] []
   (r.1,.mk 7 0 dc0 [] r.2.1 r.2.2 0))
  else if qAV (nxQ s (zG s q d))=true then jI s (zG s q d)
  else vB s (zG s q d)
def wJ (s:List UInt8):Nat→RQ→Nat→Bool→UInt8→Nat→List (List UInt8)→List Val→RQ × List (List UInt8) × List Val
 | 0,q,_,_,_,_,ks,vs=>({ q with bad:=true },ks,vs)
 | n+1,q,d,obj,closes,many,ks,vs =>
  if q.bad=true then (q,ks,vs) else
  if (wL s obj q).1.bad=true then ((wL s obj q).1,ks,vs) else
  let a:=yB s n (wL s obj q).1 (d+1)
  let b:=xU s closes (many+1) a.1
  let m:=qIX obj ks vs (wL s obj q).2 a.2
  if b.1=true then (b.2,m) else wJ s n b.2 d obj closes (many+1) m.1 m.2
end
def kA (s:List UInt8) (n:Nat) (q:RQ) (d:Nat) (obj:Bool) (closes:UInt8):RQ × List (List UInt8) × List Val :=
 if nxQ s (blQ s (zV q 1))=closes then (zV (blQ s (zV q 1)) 1,[],[]) else wJ s n (blQ s (zV q 1)) d obj closes 0 [] []
theorem qCZ (s : List UInt8) (n : Nat) (q : RQ) (d : Nat) : yB s (n + 1) q d =
  if nxQ s (zG s q d)=34 then ((zE s (zG s q d)).1,.mk 5 0 dc0 (zE s (zG s q d)).2 [] [] 0)
  else if nxQ s (zG s q d)=91 then ((kA s n (zG s q d) d false 93).1,.mk 6 0 dc0 [] (kA s n (zG s q d) d false 93).2.1 (kA s n (zG s q d) d false 93).2.2 0)
  else if nxQ s (zG s q d)=123 then ((kA s n (zG s q d) d true 125).1,.mk 7 0 dc0 [] (kA s n (zG s q d) d true 125).2.1 (kA s n (zG s q d) d true 125).2.2 0)
  else if qAV (nxQ s (zG s q d))=true then jI s (zG s q d)
  else vB s (zG s q d):=by
 rw [yB]; rfl
theorem kN (s : List UInt8) (n : Nat) (q : RQ) (d : Nat) (obj : Bool) (closes : UInt8) (many : Nat) (ks : List (List UInt8)) (vs : List Val) : wJ s (n + 1) q d obj closes many ks vs =
  if q.bad=true then (q,ks,vs) else
  if (wL s obj q).1.bad=true then ((wL s obj q).1,ks,vs) else
  if (xU s closes (many+1) (yB s n (wL s obj q).1 (d+1)).1).1=true then ((xU s closes (many+1) (yB s n (wL s obj q).1 (d+1)).1).2,qIX obj ks vs (wL s obj q).2 (yB s n (wL s obj q).1 (d+1)).2)
  else wJ s n (xU s closes (many+1) (yB s n (wL s obj q).1 (d+1)).1).2 d obj closes (many+1) (qIX obj ks vs (wL s obj q).2 (yB s n (wL s obj q).1 (d+1)).2).1 (qIX obj ks vs (wL s obj q).2 (yB s n (wL s obj q).1 (d+1)).2).2:=by
 rw [wJ]
def qZE (s:List UInt8):Val × Int × Int :=
 let r:=yB s (2 * s.length+2) ⟨0,0,false,false,false⟩ 1
 if r.1.bad=true then (zK,0,10) else if r.1.deep=true then (zK,0,11) else if r.1.big=true then (zK,0,3) else (r.2,r.1.pos,0)
structure SameR (s:List UInt8) (q:RQ) (st:RS):Prop where
 left:st.left=s.drop q.pos
 le:q.pos≤s.length
 nodes:q.nodes=st.nodes
 bad:q.bad=false
 bad':st.bad=false
 deep:q.deep=st.deep
 big:q.big=st.big
theorem qXX (l:List UInt8):l.drop (blL l)=zO l∧blL l≤l.length:=by
 unfold blL zO
 have h:=List.takeWhile_append_dropWhile (p:=jF) (l:=l)
 have h2:=(List.takeWhile_sublist jF (l:=l)).length_le
 generalize l.takeWhile jF=A at *
 generalize l.dropWhile jF=B at *
 subst h
 exact ⟨by simp,h2⟩
theorem qGI {s:List UInt8} {q:RQ} (h:q.pos≤s.length):s.drop (blQ s q).pos=zO (s.drop q.pos)∧(blQ s q).pos≤s.length:=by
 have:=qXX (s.drop q.pos)
 unfold blQ
 simp only
 rw [← List.drop_drop]
 rw [List.length_drop] at this
 exact ⟨this.1,by omega⟩
theorem qFR {s:List UInt8} {q:RQ} {c:UInt8} (hc:c≠0):nxQ s q=c↔([c]:List UInt8).isPrefixOf (s.drop q.pos)=true:=by
 unfold nxQ
 rw [List.getD_eq_getElem?_getD]
 have e:s[q.pos]?=(s.drop q.pos)[0]?:=by rw [List.getElem?_drop,Nat.add_zero]
 rw [e]
 cases s.drop q.pos with
 | nil =>
  constructor
  ·intro h; exact absurd h.symm hc
  intro h; cases h
 | cons b r =>
  simp only [List.getElem?_cons_zero,Option.getD_some,List.isPrefixOf,Bool.and_true,beq_iff_eq]
  exact eq_comm
theorem SameR.bl {s:List UInt8} {q:RQ} {st:RS} (h:SameR s q st):SameR s (blQ s q) { st with left:=zO st.left } :=
 ⟨by rw [h.left]; exact (qGI h.le).1.symm,(qGI h.le).2,h.nodes,h.bad,h.bad',h.deep,h.big⟩
theorem SameR.adv {s:List UInt8} {q:RQ} {st:RS} (h:SameR s q st) {k:Nat} (hk:k≤st.left.length):SameR s (zV q k) (zB st k) :=
 ⟨by simp only [zB,zV]; rw [h.left,List.drop_drop],by have:=h.left; have:=h.le; simp only [zV]; rw [h.left,List.length_drop] at hk; omega,h.nodes,h.bad,h.bad',h.deep,h.big⟩
theorem SameR.take {s:List UInt8} {q:RQ} {st:RS} (h:SameR s q st) {c:UInt8} (hc:c≠0):(nxQ s (blQ s q)=c↔(tk [c] st).1=true)∧(nxQ s (blQ s q)=c→SameR s (zV (blQ s q) 1) (tk [c] st).2)∧(nxQ s (blQ s q)≠c→SameR s (blQ s q) (tk [c] st).2):=by
 have hb:=h.bl
 have hx:=qFR (s:=s) (q:=blQ s q) hc
 have hl:s.drop (blQ s q).pos=zO st.left:=hb.left.symm
 rw [hl] at hx
 refine ⟨?_,fun e => ?_,fun e => ?_⟩
 ·rw [hx]; unfold tk; split <;> simp_all
 ·have e2:=hx.1 e
  have hp:=wD e2
  unfold tk
  rw [if_pos e2]
  exact hb.adv (k:=1) (by simpa using hp)
 unfold tk
 rw [if_neg (fun h=>e (hx.2 h))]
 exact hb
theorem qIA (s:List UInt8):(zW s).2=0∨(zW s).2=3∨(zW s).2=4:=by
 have hn:∀ ng dg sc,(wO ng dg sc).2=0∨(wO ng dg sc).2=3:=fun ng dg sc=>by
  unfold wO; simp only; split
  ·exact .inl rfl
  split
  ·exact .inr rfl
  exact .inl rfl
 have hl:∀ ng dg sc,(jP ng dg sc).2=0∨(jP ng dg sc).2=3:=fun ng dg sc=>by
  unfold jP; split <;> exact hn _ _ _
 unfold zW
 split
 ·exact .inr (.inr rfl)
 unfold qQG
 split
 ·exact .inr (.inr rfl)
 split
 ·exact .inr (.inr rfl)
 rcases hl (qSV s) (List.takeWhile qJ (vY s)++_) _ with h | h
 ·exact .inl h
 exact .inr (.inl h)
theorem qRJ:∀ (f:Nat) (s:List UInt8) (k:Nat) (out:List UInt8),(yJ f s k out).2.2≠0→(yJ f s k out).1=[]
 | 0,_,_,_=>fun _=>by simp [yJ]
 | f+1,s,k,out=>by
  simp only [yJ]
  repeat' split
  all_goals first | exact fun h=>qRJ f _ _ _ h | (intro h; rfl) | (intro h; exact absurd rfl h)
theorem qHQ (s:List UInt8):(qU s).2.2≠0→(qU s).1=[]:=by
 unfold qU
 split
 ·exact qRJ _ _ _ _
 exact fun _=>rfl
theorem SameR.quoted {s:List UInt8} {q:RQ} {st:RS} (h:SameR s q st) (ht:zO st.left=st.left):(zE s q).1.bad=(qE st).1.bad∧(zE s q).2=(qE st).2∧((qE st).1.bad=false→SameR s (zE s q).1 (qE st).1):=by
 have hp:=xW st.left
 have hk:=qFG st.left
 have e1:=qHQ st.left
 unfold zE qE jY
 rw [ht,← h.left]
 have hl:=h.left
 have hle:st.left.length=s.length-q.pos:=by rw [hl,List.length_drop]
 have hqp:=h.le
 generalize qU st.left=u at *
 by_cases c1:u.2.2=3
 ·rw [if_pos c1,if_neg (by rw [c1]; decide),if_pos c1]
  refine ⟨by rw [h.bad]; exact h.bad'.symm,(e1 (by rw [c1]; decide)).symm,fun _ => ?_⟩
  exact ⟨by simp only; rw [hl,List.drop_drop,← hl],by simp only; omega,h.nodes,h.bad,h.bad',h.deep,rfl⟩
 rw [if_neg c1]
 by_cases c2:u.2.2=0
 ·rw [if_pos c2]
  refine ⟨by simp only; rw [h.bad,h.bad',c2]; rfl,rfl,fun _ => ?_⟩
  exact ⟨by simp only; rw [hl,List.drop_drop],by simp only; omega,h.nodes,by simp only; rw [h.bad,c2]; rfl,h.bad',h.deep,h.big⟩
 rw [if_neg c2,if_neg c1]
 refine ⟨by simp only; rw [decide_eq_true c2]; simp,rfl,fun hb=>by simp at hb⟩
theorem qST (l:List UInt8):l.drop (zFW l)=l.dropWhile wI∧zFW l≤l.length:=by
 unfold zFW
 have h:=List.takeWhile_append_dropWhile (p:=wI) (l:=l)
 have h2:=(List.takeWhile_sublist wI (l:=l)).length_le
 generalize l.takeWhile wI=A at *
 generalize l.dropWhile wI=B at *
 subst h
 exact ⟨by simp,h2⟩
theorem SameR.number {s:List UInt8} {q:RQ} {st:RS} (h:SameR s q st):(jI s q).1.bad=(wS st).1.bad∧((wS st).1.bad=false→SameR s (jI s q).1 (wS st).1∧((wS st).1.big=false→(jI s q).2=(wS st).2)):=by
 have hc:=qIA (st.left.takeWhile wI)
 have hd:=qST st.left
 have hl:=h.left
 have hle:st.left.length=s.length-q.pos:=by rw [hl,List.length_drop]
 have hqp:=h.le
 unfold jI wS
 rw [← h.left]
 generalize zW (st.left.takeWhile wI)=p at *
 simp only
 refine ⟨?_,fun hb=>⟨⟨by simp only; rw [← hd.1,hl,List.drop_drop,← hl],by simp only; omega,h.nodes, ?_, ?_,h.deep, ?_⟩,fun hg => ?_⟩⟩
 ·rw [h.bad,h.bad']
  rcases hc with h | h | h <;> rw [h] <;> rfl
 ·simp only [Bool.or_eq_false_iff,decide_eq_false_iff_not] at hb
  rw [h.bad]
  rcases hc with h | h | h
  ·rw [h]; rfl
  ·rw [h]; rfl
  exact absurd h hb.2
 ·exact hb
 ·rw [h.big]
 simp only [Bool.or_eq_false_iff,decide_eq_false_iff_not] at hg
 rw [if_neg hg.2]
theorem qRE {s w:List UInt8} {q:RQ}:(s.drop q.pos).take w.length=w↔w.isPrefixOf (s.drop q.pos)=true:=by
 rw [List.isPrefixOf_iff_prefix,List.prefix_iff_eq_take,eq_comm]
theorem SameR.words {s:List UInt8} {q:RQ} {st:RS} (h:SameR s q st) (h1:¬ nxQ s q=34) (h2:qAV (nxQ s q)=false):(vB s q).1.bad=(yF st).1.bad∧((yF st).1.bad=false→SameR s (vB s q).1 (yF st).1∧(vB s q).2=(yF st).2):=by
 have h34:¬ ([34]:List UInt8).isPrefixOf st.left=true:=by rw [h.left]; exact fun e=>h1 ((qFR (by decide)).2 e)
 have hnum:¬ (st.left≠[]∧(qQ st.left 0=45∨yN (qQ st.left 0)=true)):=by
  rintro ⟨g1,g2⟩
  have e:nxQ s q=st.left.getD 0 0:=by rw [h.left]; unfold nxQ; simp [List.getD_eq_getElem?_getD]
  rw [e] at h2
  unfold qAV at h2
  simp only [Bool.or_eq_false_iff,decide_eq_false_iff_not] at h2
  rcases g2 with g | g
  ·exact h2.1 (UInt8.toNat_inj.1 (by unfold qQ at g; show (st.left.getD 0 0).toNat=45; omega))
  have:qJ (st.left.getD 0 0)=true:=g
  rw [this] at h2; exact absurd h2.2 (by decide)
 have key:∀ w:List UInt8,jT s w q=if w.isPrefixOf st.left=true then (true,zV q w.length) else (false,q):=fun w=>by
  unfold jT
  rw [h.left]
  by_cases c:w.isPrefixOf (s.drop q.pos)=true
  ·rw [if_pos c,if_pos (qRE.2 c)]
  rw [if_neg c,if_neg (fun e=>c (qRE.1 e))]
 have k1:=key kX
 have k2:=key kW
 have k3:=key yG
 have hbb:q.bad=st.bad:=by rw [h.bad,h.bad']
 unfold vB yF
 rw [k1,k2,k3]
 by_cases c1:kX.isPrefixOf st.left=true
 ·rw [if_pos c1,if_pos c1,if_pos rfl]
  exact ⟨hbb,fun _=>⟨h.adv (wD c1),rfl⟩⟩
 rw [if_neg c1,if_neg c1,if_neg (by simp)]
 by_cases c2:kW.isPrefixOf st.left=true
 ·rw [if_pos c2,if_pos c2,if_pos rfl]
  exact ⟨hbb,fun _=>⟨h.adv (wD c2),rfl⟩⟩
 rw [if_neg c2,if_neg c2,if_neg (by simp)]
 by_cases c3:yG.isPrefixOf st.left=true
 ·rw [if_pos c3,if_pos c3,if_pos rfl]
  exact ⟨hbb,fun _=>⟨h.adv (wD c3),rfl⟩⟩
 rw [if_neg c3,if_neg c3,if_neg (by simp),if_neg h34,if_neg hnum]
 exact ⟨rfl,fun hb=>by cases hb⟩
theorem qXW:∀ l:List UInt8,blL (zO l)=0
 | []=>rfl
 | b::l=>by
  have ih:=qXW l
  unfold zO blL at ih ⊢
  rw [List.dropWhile_cons]
  split
  ·exact ih
  rename_i h; rw [List.takeWhile_cons,if_neg h]; rfl
theorem qTX {s:List UInt8} {q:RQ} (h:q.pos≤s.length):blQ s (blQ s q)=blQ s q:=by
 have:=(qGI h).1
 unfold blQ at this ⊢
 simp only at this ⊢
 rw [this,qXW]; rfl
theorem SameR.beh {s : List UInt8} {q : RQ} {st : RS} (h : SameR s q st) {c : UInt8} (hc : c ≠ 0) (many : Nat) :
  (xU s c many q).1=(wW c many st).1∧(xU s c many q).2.bad=(wW c many st).2.bad∧((wW c many st).2.bad=false→SameR s (xU s c many q).2 (wW c many st).2):=by
 have h1:SameR s { q with big:=Bool.or q.big (decide (200<many)) } { st with big:=st.big || decide (200<many) }:=⟨h.left,h.le,h.nodes,h.bad,h.bad',h.deep,by simp only; rw [h.big]⟩
 have hsep:wW c many st=if ({ st with big:=st.big || decide (200<many) }:RS).bad=true then (true,{ st with big:=st.big || decide (200<many) }) else if (tk [c] { st with big:=st.big || decide (200<many) }).1=true then (true,(tk [c] { st with big:=st.big || decide (200<many) }).2) else (false,{ (tk [44] (tk [c] { st with big:=st.big || decide (200<many) }).2).2 with bad := !(tk [44] (tk [c] { st with big:=st.big || decide (200<many) }).2).1 }):=rfl
 rw [hsep]
 unfold xU
 simp only
 generalize ({ q with big:=Bool.or q.big (decide (200<many)) }:RQ)=q1 at *
 generalize ({ st with big:=st.big || decide (200<many) }:RS)=st1 at *
 have hsb:=h1.bad'
 obtain ⟨t1,t2,t3⟩:=h1.take hc
 rw [if_neg (show ¬ st.bad=true by rw [h.bad']; simp)]
 by_cases e:nxQ s (blQ s q1)=c
 ·rw [if_pos e,if_pos (t1.1 e)]
  have:=t2 e
  exact ⟨rfl,by simp only; rw [this.bad,this.bad'],fun _=>this⟩
 rw [if_neg e,if_neg (fun h=>e (t1.2 h))]
 have g:=t3 e
 obtain ⟨u1,u2,u3⟩:=g.take (c:=44) (by decide)
 rw [qTX h1.le] at u1 u2 u3
 refine ⟨rfl, ?_,fun hb => ?_⟩
 ·simp only
  rw [g.bad]
  by_cases e2:nxQ s (blQ s q1)=44
  ·rw [u1.1 e2]; simp [e2]
  have:(tk [44] (tk [c] st1).2).1=false:=by
   cases hh:(tk [44] (tk [c] st1).2).1 with
   | false=>rfl
   | true=>exact absurd (u1.2 hh) e2
  rw [this]; simp [e2]
 have hb':(tk [44] (tk [c] st1).2).1=true:=by simpa using hb
 have e2:=u1.2 hb'
 have k:=u2 e2
 exact ⟨k.left,k.le,k.nodes,by simp only; rw [g.bad,e2]; rfl,hb,k.deep,k.big⟩
theorem qPJ (st:RS):qE { st with left:=zO st.left }=qE st:=by
 unfold qE jY
 simp only [xL]
theorem SameR.key {s : List UInt8} {q : RQ} {st : RS} (h : SameR s q st) :
  (qEM s (blQ s q)).1.bad=(qP (qE st).1).bad∧(qEM s (blQ s q)).2=(qE st).2∧((qP (qE st).1).bad=false→SameR s (qEM s (blQ s q)).1 (qP (qE st).1)):=by
 obtain ⟨q1,q2,q3⟩:=h.bl.quoted (xL _)
 rw [qPJ] at q1 q2 q3
 unfold qEM
 simp only
 by_cases hb:(qE st).1.bad=true
 ·have hc:qP (qE st).1=(qE st).1:=by unfold qP; rw [if_pos hb]
  rw [hc]
  refine ⟨?_,q2,fun h'=>by rw [hb] at h'; cases h'⟩
  show Bool.or (zE s (blQ s q)).1.bad _=_
  rw [q1,hb]; rfl
 have hb':(qE st).1.bad=false:=by simpa using hb
 have g:=q3 hb'
 have hc:qP (qE st).1={ (tk [58] (qE st).1).2 with bad := !(tk [58] (qE st).1).1 }:=by unfold qP; rw [if_neg hb]
 rw [hc]
 obtain ⟨t1,t2,t3⟩:=g.take (c:=58) (by decide)
 refine ⟨?_,q2,fun h' => ?_⟩
 ·show Bool.or (zE s (blQ s q)).1.bad _=_
  rw [q1,hb']
  by_cases e:nxQ s (blQ s (zE s (blQ s q)).1)=58
  ·rw [t1.1 e]; simp [e]
  have:(tk [58] (qE st).1).1=false:=by
   cases hh:(tk [58] (qE st).1).1 with
   | false=>rfl
   | true=>exact absurd (t1.2 hh) e
  rw [this]; simp [e]
 have e:=t1.2 (by simpa using h')
 have k:=t2 e
 exact ⟨k.left,k.le,k.nodes,by show Bool.or (zE s (blQ s q)).1.bad _=_; rw [q1,hb',e]; rfl,h',k.deep,k.big⟩
theorem qAF {s:List UInt8} {n:Nat} {q:RQ} {d:Nat} {obj:Bool} {c:UInt8} {many:Nat} {ks:List (List UInt8)} {vs:List Val} (h:q.bad=true):(wJ s n q d obj c many ks vs).1.bad=true:=by
 cases n with
 | zero=>simp [wJ]
 | succ n=>rw [kN,if_pos h]; exact h
theorem qPS {n:Nat} {st:RS} {d many:Nat} {vs:List Val} (h:st.bad=true):(yP n st d many vs).1.bad=true:=by
 cases n with
 | zero=>simp [yP]
 | succ n=>rw [qCD,if_pos h]; exact h
theorem qJJ {n:Nat} {st:RS} {d many:Nat} {ks:List (List UInt8)} {vs:List Val} (h:st.bad=true):(wR n st d many ks vs).1.bad=true:=by
 cases n with
 | zero=>simp [wR]
 | succ n=>rw [wR,if_pos h]; exact h
theorem qXZ {s:List UInt8} {c:UInt8} {many:Nat} {q:RQ} (h:q.bad=true):(xU s c many q).2.bad=true:=by
 unfold xU; simp only; split
 ·exact h
 simp only [blQ]; rw [h]; rfl
theorem qKJ {c:UInt8} {many:Nat} {st:RS} (h:st.bad=true):wW c many st=(true,{ st with big:=st.big || decide (200<many) }):=by
 unfold wW; simp only; rw [if_pos h]
theorem qRX {c:UInt8} {many:Nat} {st:RS} (h:(wW c many st).2.big=false):st.big=false:=by
 unfold wW at h; simp only at h
 split at h
 ·simp only [Bool.or_eq_false_iff] at h; exact h.1
 split at h
 ·rw [qEC] at h; simp only [Bool.or_eq_false_iff] at h; exact h.1
 simp only [qEC,Bool.or_eq_false_iff] at h; exact h.1
theorem qVY {st:RS} (h:(qP st).big=false):st.big=false:=by
 unfold qP at h; split at h
 ·exact h
 simpa using h
theorem qBW {st:RS} (h:(qE st).1.big=false):st.big=false:=by
 unfold qE jY at h; split at h
 ·exact h
 split at h
 ·cases h
 exact h
theorem zFN (ks:List (List UInt8)) (vs vs':List Val) (k:List UInt8) (v v':Val):(jQ ks vs k v).1=(jQ ks vs' k v').1:=by
 unfold jQ; split <;> rfl
theorem qNH (s : List UInt8) : ∀ n : Nat,
  (∀ q st d,SameR s (blQ s q) { st with left:=zO st.left }→(yB s n q d).1.bad=(qS n st d).1.bad∧((qS n st d).1.bad=false→SameR s (yB s n q d).1 (qS n st d).1∧((qS n st d).1.big=false→st.big=false∧(yB s n q d).2=(qS n st d).2))) ∧
  (∀ q st d many vs vs',SameR s q st→(st.big=false→vs'=vs)→(wJ s n q d false 93 many [] vs').1.bad=(yP n st (d+1) (many+1) vs).1.bad∧((yP n st (d+1) (many+1) vs).1.bad=false→SameR s (wJ s n q d false 93 many [] vs').1 (yP n st (d+1) (many+1) vs).1∧(wJ s n q d false 93 many [] vs').2.1=[]∧((yP n st (d+1) (many+1) vs).1.big=false→st.big=false∧(wJ s n q d false 93 many [] vs').2.2=(yP n st (d+1) (many+1) vs).2))) ∧
  (∀ q st d many ks vs vs',SameR s q st→(st.big=false→vs'=vs)→(wJ s n q d true 125 many ks vs').1.bad=(wR n st (d+1) (many+1) ks vs).1.bad∧((wR n st (d+1) (many+1) ks vs).1.bad=false→SameR s (wJ s n q d true 125 many ks vs').1 (wR n st (d+1) (many+1) ks vs).1∧(wJ s n q d true 125 many ks vs').2.1=(wR n st (d+1) (many+1) ks vs).2.1∧((wR n st (d+1) (many+1) ks vs).1.big=false→st.big=false∧(wJ s n q d true 125 many ks vs').2.2=(wR n st (d+1) (many+1) ks vs).2.2)))
 | 0=>⟨fun q st d _=>by simp [yB,qS],fun q st d many vs vs' _ _=>by simp [wJ,yP],fun q st d many ks vs vs' _ _=>by simp [wJ,wR]⟩
 | n+1=>by
  obtain ⟨ih1,ih2,ih3⟩:=qNH s n
  refine ⟨fun q st d h => ?_,fun q st d many vs vs' h hv => ?_,fun q st d many ks vs vs' h hv => ?_⟩
  ·have hE:SameR s (zG s q d) (qV st d):=⟨h.left,h.le,by show q.nodes+1=st.nodes+1; have:=h.nodes; simp only [blQ] at this; omega,h.bad,h.bad',by
    have:=h.deep; simp only [blQ] at this; show Bool.or q.deep _=Bool.or st.deep _; rw [this],by
    have hn:=h.nodes; simp only [blQ] at hn; have:=h.big; simp only [blQ] at this; show Bool.or q.big _=Bool.or st.big _; rw [this,hn]⟩
   have hEt:zO (qV st d).left=(qV st d).left:=xL _
   have hbg:(qV st d).big=false→st.big=false:=fun h=>by
    have:Bool.or st.big (decide (400<st.nodes+1))=false:=h
    simp only [Bool.or_eq_false_iff] at this; exact this.1
   rw [uW,qCZ]
   have x34:=qFR (s:=s) (q:=zG s q d) (c:=34) (by decide)
   have x91:=qFR (s:=s) (q:=zG s q d) (c:=91) (by decide)
   have x123:=qFR (s:=s) (q:=zG s q d) (c:=123) (by decide)
   rw [← hE.left] at x34 x91 x123
   generalize zG s q d=Q at *
   generalize qV st d=E at *
   have hkids:∀ (obj:Bool) (c:UInt8),c≠0→1≤E.left.length→True→(nxQ s (blQ s (zV Q 1))=c↔(tk [c] (zB E 1)).1=true)∧(nxQ s (blQ s (zV Q 1))=c→SameR s (zV (blQ s (zV Q 1)) 1) (tk [c] (zB E 1)).2)∧(nxQ s (blQ s (zV Q 1))≠c→SameR s (blQ s (zV Q 1)) (tk [c] (zB E 1)).2):=fun obj c hc hl _=>(hE.adv hl).take hc
   by_cases c1:nxQ s Q=34
   ·rw [if_pos c1]
    have n91:¬ nxQ s Q=91:=by rw [c1]; decide
    have n123:¬ nxQ s Q=123:=by rw [c1]; decide
    rw [if_neg (fun h=>n91 (x91.2 h)),if_neg (fun h=>n123 (x123.2 h))]
    have hp:=x34.1 c1
    obtain ⟨t,ht⟩:=List.isPrefixOf_iff_prefix.1 hp
    have hat:yF E=((qE E).1,.mk 5 0 dc0 (qE E).2 [] [] 0):=by
     unfold yF
     rw [if_neg (by rw [← ht]; simp [kX,List.isPrefixOf]),if_neg (by rw [← ht]; simp [kW,List.isPrefixOf]),if_neg (by rw [← ht]; simp [yG,List.isPrefixOf]),if_pos hp]
    rw [hat]
    obtain ⟨g1,g2,g3⟩:=hE.quoted hEt
    exact ⟨g1,fun hb=>⟨g3 hb,fun hg=>⟨hbg (qBW hg),by simp only; rw [g2]⟩⟩⟩
   rw [if_neg c1]
   by_cases c2:nxQ s Q=91
   ·rw [if_pos c2,if_pos (x91.1 c2)]
    have hl:=wD (x91.1 c2)
    obtain ⟨t1,t2,t3⟩:=hkids false 93 (by decide) (by simpa using hl) trivial
    have hld:(zB E 1).big=E.big:=rfl
    unfold kA qMO
    by_cases e:nxQ s (blQ s (zV Q 1))=93
    ·rw [if_pos e,if_pos (t1.1 e)]
     have g:=t2 e
     exact ⟨by simp only; rw [g.bad,g.bad'],fun _=>⟨g,fun hg=>⟨hbg (by simpa [hld] using hg),rfl⟩⟩⟩
    rw [if_neg e,if_neg (fun h=>e (t1.2 h))]
    have g:=t3 e
    obtain ⟨k1,k2⟩:=ih2 _ _ d 0 [] [] g (fun _=>rfl)
    refine ⟨k1,fun hb => ?_⟩
    obtain ⟨k3,k4,k5⟩:=k2 hb
    refine ⟨k3,fun hg => ?_⟩
    obtain ⟨k6,k7⟩:=k5 hg
    refine ⟨hbg (by simpa [hld] using k6), ?_⟩
    simp only
    rw [k4,k7]
   rw [if_neg c2,if_neg (fun h=>c2 (x91.2 h))]
   by_cases c3:nxQ s Q=123
   ·rw [if_pos c3,if_pos (x123.1 c3)]
    have hl:=wD (x123.1 c3)
    obtain ⟨t1,t2,t3⟩:=hkids true 125 (by decide) (by simpa using hl) trivial
    have hld:(zB E 1).big=E.big:=rfl
    unfold kA qEG
    by_cases e:nxQ s (blQ s (zV Q 1))=125
    ·rw [if_pos e,if_pos (t1.1 e)]
     have g:=t2 e
     exact ⟨by simp only; rw [g.bad,g.bad'],fun _=>⟨g,fun hg=>⟨hbg (by simpa [hld] using hg),rfl⟩⟩⟩
    rw [if_neg e,if_neg (fun h=>e (t1.2 h))]
    have g:=t3 e
    obtain ⟨k1,k2⟩:=ih3 _ _ d 0 [] [] [] g (fun _=>rfl)
    refine ⟨k1,fun hb => ?_⟩
    obtain ⟨k3,k4,k5⟩:=k2 hb
    refine ⟨k3,fun hg => ?_⟩
    obtain ⟨k6,k7⟩:=k5 hg
    refine ⟨hbg (by simpa [hld] using k6), ?_⟩
    simp only
    rw [k4,k7]
   rw [if_neg c3,if_neg (fun h=>c3 (x123.2 h))]
   by_cases c4:qAV (nxQ s Q)=true
   ·rw [if_pos c4]
    have e:nxQ s Q=E.left.getD 0 0:=by rw [hE.left]; unfold nxQ; simp [List.getD_eq_getElem?_getD]
    have hne:E.left≠[]:=by intro h0; rw [e,h0] at c4; exact absurd c4 (by decide)
    obtain ⟨b,t,ht⟩:=List.exists_cons_of_ne_nil hne
    have hb:b=nxQ s Q:=by rw [e,ht]; rfl
    have hbn:qAV b=true:=by rw [hb]; exact c4
    have hat:yF E=wS E:=by
     have k1:¬ b=110:=by rintro rfl; revert hbn; decide
     have k2:¬ b=116:=by rintro rfl; revert hbn; decide
     have k3:¬ b=102:=by rintro rfl; revert hbn; decide
     have k4:¬ b=34:=by rintro rfl; revert hbn; decide
     unfold yF
     rw [if_neg (by rw [ht]; simp [kX,List.isPrefixOf]; intro h; exact absurd h.symm k1),if_neg (by rw [ht]; simp [kW,List.isPrefixOf]; intro h; exact absurd h.symm k2),if_neg (by rw [ht]; simp [yG,List.isPrefixOf]; intro h; exact absurd h.symm k3),if_neg (by rw [ht]; simp [List.isPrefixOf]; exact fun h=>k4 h.symm),if_pos]
     refine ⟨hne, ?_⟩
     have hb0:qQ E.left 0=(b.toNat:Int):=by rw [ht]; rfl
     rw [hb0]
     unfold qAV at hbn
     simp only [Bool.or_eq_true,decide_eq_true_eq] at hbn
     rcases hbn with rfl | h
     ·exact .inl rfl
     exact .inr h
    rw [hat]
    obtain ⟨g1,g2⟩:=hE.number
    refine ⟨g1,fun hb => ?_⟩
    obtain ⟨g3,g4⟩:=g2 hb
    refine ⟨g3,fun hg=>⟨hbg ?_,g4 hg⟩⟩
    unfold wS at hg
    simp only [Bool.or_eq_false_iff] at hg
    exact hg.1
   rw [if_neg c4]
   obtain ⟨g1,g2⟩:=hE.words c1 (by simpa using c4)
   refine ⟨g1,fun hb => ?_⟩
   obtain ⟨g3,g4⟩:=g2 hb
   refine ⟨g3,fun hg=>⟨hbg ?_,g4⟩⟩
   unfold yF at hg
   split at hg
   ·exact hg
   split at hg
   ·exact hg
   split at hg
   ·exact hg
   split at hg
   ·exact qBW hg
   split at hg
   ·unfold wS at hg; simp only [Bool.or_eq_false_iff] at hg; exact hg.1
   exact hg
  ·rw [kN,qCD,if_neg (show ¬ q.bad=true by rw [h.bad]; simp),if_neg (show ¬ st.bad=true by rw [h.bad']; simp)]
   have hd:wL s false q=(blQ s q,[]):=rfl
   rw [hd,if_neg (by simp only; rw [h.bl.bad]; simp)]
   obtain ⟨v1,v2⟩:=ih1 (blQ s q) st (d+1) (by rw [qTX h.le]; exact h.bl)
   simp only
   generalize yB s n (blQ s q) (d+1)=A at *
   generalize qS n st (d+1)=B at *
   have hm:∀ key,qIX false [] vs' key A.2=([],vs'++[A.2]):=fun _=>rfl
   simp only [hm]
   by_cases hb:B.1.bad=true
   ·rw [hb] at v1
    have e1:=qXZ (s:=s) (c:=93) (many:=many+1) v1
    rw [qKJ hb,if_pos rfl]
    refine ⟨?_,fun h'=>by simp only at h'; rw [hb] at h'; cases h'⟩
    simp only; rw [hb]
    split
    ·exact e1
    exact qAF e1
   have hb':B.1.bad=false:=by simpa using hb
   obtain ⟨v3,v4⟩:=v2 hb'
   obtain ⟨s1,s2,s3⟩:=v3.beh (c:=93) (by decide) (many+1)
   have sb:=qRX (c:=93) (many:=many+1) (st:=B.1)
   generalize xU s 93 (many+1) A.1=X at *
   generalize wW 93 (many+1) B.1=Y at *
   rw [s1]
   by_cases hy:Y.1=true
   ·rw [if_pos hy,if_pos hy]
    refine ⟨s2,fun h'=>⟨s3 h',rfl,fun hg => ?_⟩⟩
    obtain ⟨w1,w2⟩:=v4 (sb hg)
    exact ⟨w1,by simp only; rw [hv w1,w2]⟩
   rw [if_neg hy,if_neg hy]
   by_cases hyb:Y.2.bad=true
   ·rw [hyb] at s2
    exact ⟨by rw [qAF s2,qPS hyb],fun h'=>by rw [qPS hyb] at h'; cases h'⟩
   have g:=s3 (by simpa using hyb)
   obtain ⟨k1,k2⟩:=ih2 X.2 Y.2 d (many+1) (vs++[B.2]) (vs'++[A.2]) g (fun hg=>by
    obtain ⟨w1,w2⟩:=v4 (sb hg)
    rw [hv w1,w2])
   refine ⟨k1,fun h' => ?_⟩
   obtain ⟨k3,k4,k5⟩:=k2 h'
   refine ⟨k3,k4,fun hg => ?_⟩
   obtain ⟨k6,k7⟩:=k5 hg
   exact ⟨(v4 (sb k6)).1,k7⟩
  rw [kN,wR,if_neg (show ¬ q.bad=true by rw [h.bad]; simp),if_neg (show ¬ st.bad=true by rw [h.bad']; simp)]
  have hd:wL s true q=qEM s (blQ s q):=rfl
  obtain ⟨y1,y2,y3⟩:=h.key
  have ybig:(qP (qE st).1).big=false→st.big=false:=fun h=>qBW (qVY h)
  rw [hd]
  generalize qEM s (blQ s q)=K at *
  simp only
  generalize (qE st).2=key at *
  generalize qP (qE st).1=C at *
  by_cases hC:C.bad=true
  ·rw [hC] at y1
   rw [if_pos y1]
   simp only [hC,if_true]
   rw [qKJ hC,if_pos rfl]
   exact ⟨by simp only; rw [y1,hC],fun h'=>by simp only at h'; rw [hC] at h'; cases h'⟩
  have hC':C.bad=false:=by simpa using hC
  have g:=y3 hC'
  rw [if_neg (by rw [g.bad]; simp)]
  simp only [hC',Bool.false_eq_true,if_false]
  obtain ⟨v1,v2⟩:=ih1 K.1 C (d+1) g.bl
  rw [y2]
  generalize yB s n K.1 (d+1)=A at *
  generalize qS n C (d+1)=B at *
  have hm:qIX true ks vs' key A.2=jQ ks vs' key A.2:=rfl
  rw [hm]
  have hpf:=zFN ks vs vs' key B.2 A.2
  by_cases hb:B.1.bad=true
  ·rw [hb] at v1
   have e1:=qXZ (s:=s) (c:=125) (many:=many+1) v1
   rw [qKJ hb,if_pos rfl]
   refine ⟨?_,fun h'=>by simp only at h'; rw [hb] at h'; cases h'⟩
   simp only; rw [hb]
   split
   ·exact e1
   exact qAF e1
  have hb':B.1.bad=false:=by simpa using hb
  obtain ⟨v3,v4⟩:=v2 hb'
  obtain ⟨s1,s2,s3⟩:=v3.beh (c:=125) (by decide) (many+1)
  have sb:=qRX (c:=125) (many:=many+1) (st:=B.1)
  generalize xU s 125 (many+1) A.1=X at *
  generalize wW 125 (many+1) B.1=Y at *
  rw [s1]
  by_cases hy:Y.1=true
  ·rw [if_pos hy,if_pos hy]
   refine ⟨s2,fun h'=>⟨s3 h',hpf.symm,fun hg => ?_⟩⟩
   obtain ⟨w1,w2⟩:=v4 (sb hg)
   exact ⟨ybig w1,by simp only; rw [hv (ybig w1),w2]⟩
  rw [if_neg hy,if_neg hy]
  by_cases hyb:Y.2.bad=true
  ·rw [hyb] at s2
   exact ⟨by rw [qAF s2,qJJ hyb],fun h'=>by rw [qJJ hyb] at h'; cases h'⟩
  have g2:=s3 (by simpa using hyb)
  rw [← hpf]
  obtain ⟨k1,k2⟩:=ih3 X.2 Y.2 d (many+1) (jQ ks vs key B.2).1 (jQ ks vs key B.2).2 (jQ ks vs' key A.2).2 g2 (fun hg=>by
   obtain ⟨w1,w2⟩:=v4 (sb hg)
   rw [hv (ybig w1),w2])
  refine ⟨k1,fun h' => ?_⟩
  obtain ⟨k3,k4,k5⟩:=k2 h'
  refine ⟨k3,k4,fun hg => ?_⟩
  obtain ⟨k6,k7⟩:=k5 hg
  exact ⟨ybig (v4 (sb k6)).1,k7⟩
theorem zBX (s:List UInt8):qZE s=wA s:=by
 have h0:SameR s ⟨0,0,false,false,false⟩ ⟨s,0,false,false,false⟩:=⟨rfl,Nat.zero_le _,rfl,rfl,rfl,rfl,rfl⟩
 obtain ⟨h1,h2⟩:=(qNH s (2 * s.length+2)).1 _ _ 1 h0.bl
 unfold qZE wA
 simp only
 generalize yB s (2 * s.length+2) ⟨0,0,false,false,false⟩ 1=A at *
 generalize qS (2 * s.length+2) ⟨s,0,false,false,false⟩ 1=B at *
 rw [h1]
 by_cases hb:B.1.bad=true
 ·rw [if_pos hb,if_pos hb]
 rw [if_neg hb,if_neg hb]
 obtain ⟨h3,h4⟩:=h2 (by simpa using hb)
 rw [h3.deep,h3.big]
 split
 ·rfl
 split
 ·rfl
 rename_i hg
 rw [(h4 (by simpa using hg)).2]
 have:=h3.left
 have hle:=h3.le
 congr 2
 rw [this,List.length_drop]; omega
end Go.Proofs.YtlmedakhioiahaaGreatDoor
