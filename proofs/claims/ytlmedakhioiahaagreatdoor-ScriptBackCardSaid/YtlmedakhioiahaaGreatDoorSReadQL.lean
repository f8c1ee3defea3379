import Derived.Test.YtlmedakhioiahaaGreatDoorK3
namespace Go.Proofs.YtlmedakhioiahaaGreatDoor
open Sy Go
set_option maxRecDepth 100000
set_option maxHeartbeats 1000000
set_option linter.unusedSimpArgs false
set_option linter.unusedVariables false
structure RQ where
 pos:Nat
 nodes:Nat
 bad:Bool
 deep:Bool
 big:Bool
 deriving DecidableEq
def blL (l:List UInt8):Nat:=(l.takeWhile wC).length
def blQ (s:List UInt8) (q:RQ):RQ:={ q with pos:=q.pos+blL (s.drop q.pos) }
def nxQ (s:List UInt8) (q:RQ):UInt8:=s.getD q.pos 0
def qUO (q:RQ) (k:Nat):RQ:={ q with pos:=q.pos+k }
def xJ (s:List UInt8) (q:RQ):RQ × List UInt8 :=
 if (zA (s.drop q.pos)).2.2=3 then ({ q with pos:=q.pos+qCJ (s.drop q.pos),big:=true },[])
 else ({ q with pos:=q.pos+(zA (s.drop q.pos)).2.1,bad:=Bool.or q.bad (decide ((zA (s.drop q.pos)).2.2≠0)) },(zA (s.drop q.pos)).1)
def zDY (s:List UInt8) (q:RQ):RQ × List UInt8 :=
 let a:=xJ s q
 let b:=blQ s a.1
 ({ b with pos:=b.pos+1,bad:=Bool.or b.bad (decide (nxQ s b≠58)) },a.2)
structure SameR (s:List UInt8) (q:RQ) (st:RS):Prop where
 left:st.left=s.drop q.pos
 le:q.pos≤s.length
 nodes:q.nodes=st.nodes
 bad:q.bad=false
 bad':st.bad=false
 deep:q.deep=st.deep
 big:q.big=st.big
theorem zEQ (l:List UInt8):l.drop (blL l)=zG l∧blL l≤l.length:=by
 unfold blL zG
 have h:=List.takeWhile_append_dropWhile (p:=wC) (l:=l)
 have h2:=(List.takeWhile_sublist wC (l:=l)).length_le
 generalize l.takeWhile wC=A at *
 generalize l.dropWhile wC=B at *
 subst h
 exact ⟨by simp,h2⟩
theorem qSD {s:List UInt8} {q:RQ} (h:q.pos≤s.length):s.drop (blQ s q).pos=zG (s.drop q.pos)∧(blQ s q).pos≤s.length:=by
 have:=zEQ (s.drop q.pos)
 unfold blQ
 simp only
 rw [← List.drop_drop]
 rw [List.length_drop] at this
 exact ⟨this.1,by omega⟩
theorem zDO {s:List UInt8} {q:RQ} {c:UInt8} (hc:c≠0):nxQ s q=c↔([c]:List UInt8).isPrefixOf (s.drop q.pos)=true:=by
 unfold nxQ
 rw [List.getD_eq_getElem?_getD]
 have e:s[q.pos]?=(s.drop q.pos)[0]?:=by rw [List.getElem?_drop,Nat.add_zero]
 rw [e]
 cases s.drop q.pos with
 | nil =>
  constructor
  ·intro h; exact absurd h.symm hc
  intro h; cases h
 | cons b r =>
  simp only [List.getElem?_cons_zero,Option.getD_some,List.isPrefixOf,Bool.and_true,beq_iff_eq]
  exact eq_comm
theorem SameR.bl {s:List UInt8} {q:RQ} {st:RS} (h:SameR s q st):SameR s (blQ s q) { st with left:=zG st.left } :=
 ⟨by rw [h.left]; exact (qSD h.le).1.symm,(qSD h.le).2,h.nodes,h.bad,h.bad',h.deep,h.big⟩
theorem SameR.adv {s:List UInt8} {q:RQ} {st:RS} (h:SameR s q st) {k:Nat} (hk:k≤st.left.length):SameR s (qUO q k) (qT st k) :=
 ⟨by simp only [qT,qUO]; rw [h.left,List.drop_drop],by have:=h.left; have:=h.le; simp only [qUO]; rw [h.left,List.length_drop] at hk; omega,h.nodes,h.bad,h.bad',h.deep,h.big⟩
theorem SameR.take {s:List UInt8} {q:RQ} {st:RS} (h:SameR s q st) {c:UInt8} (hc:c≠0):(nxQ s (blQ s q)=c↔(tk [c] st).1=true)∧(nxQ s (blQ s q)=c→SameR s (qUO (blQ s q) 1) (tk [c] st).2)∧(nxQ s (blQ s q)≠c→SameR s (blQ s q) (tk [c] st).2):=by
 have hb:=h.bl
 have hx:=zDO (s:=s) (q:=blQ s q) hc
 have hl:s.drop (blQ s q).pos=zG st.left:=hb.left.symm
 rw [hl] at hx
 refine ⟨?_,fun e => ?_,fun e => ?_⟩
 ·rw [hx]; unfold tk; split <;> simp_all
 ·have e2:=hx.1 e
  have hp:=wV e2
  unfold tk
  rw [if_pos e2]
  exact hb.adv (k:=1) (by simpa using hp)
 unfold tk
 rw [if_neg (fun h=>e (hx.2 h))]
 exact hb
theorem qQW (s:List UInt8):(zW s).2=0∨(zW s).2=3∨(zW s).2=4:=by
 have hn:∀ ng dg sc,(yH ng dg sc).2=0∨(yH ng dg sc).2=3:=fun ng dg sc=>by
  unfold yH; simp only; split
  ·exact .inl rfl
  split
  ·exact .inr rfl
  exact .inl rfl
 have hl:∀ ng dg sc,(xF ng dg sc).2=0∨(xF ng dg sc).2=3:=fun ng dg sc=>by
  unfold xF; split <;> exact hn _ _ _
 unfold zW
 split
 ·exact .inr (.inr rfl)
 unfold qJZ
 split
 ·exact .inr (.inr rfl)
 split
 ·exact .inr (.inr rfl)
 rcases hl (qJG s) (List.takeWhile qI (yJ s)++_) _ with h | h
 ·exact .inl h
 exact .inr (.inl h)
theorem qPT:∀ (f:Nat) (s:List UInt8) (k:Nat) (out:List UInt8),(wD f s k out).2.2≠0→(wD f s k out).1=[]
 | 0,_,_,_=>fun _=>by simp [wD]
 | f+1,s,k,out=>by
  simp only [wD]
  repeat' split
  all_goals first | exact fun h=>qPT f _ _ _ h | (intro h; rfl) | (intro h; exact absurd rfl h)
theorem qPQ (s:List UInt8):(zA s).2.2≠0→(zA s).1=[]:=by
 unfold zA
 split
 ·exact qPT _ _ _ _
 exact fun _=>rfl
theorem SameR.quoted {s:List UInt8} {q:RQ} {st:RS} (h:SameR s q st) (ht:zG st.left=st.left):(xJ s q).1.bad=(qB st).1.bad∧(xJ s q).2=(qB st).2∧((qB st).1.bad=false→SameR s (xJ s q).1 (qB st).1):=by
 have hp:=qCF st.left
 have hk:=qQC st.left
 have e1:=qPQ st.left
 unfold xJ qB yW
 rw [ht,← h.left]
 have hl:=h.left
 have hle:st.left.length=s.length-q.pos:=by rw [hl,List.length_drop]
 have hqp:=h.le
 generalize zA st.left=u at *
 by_cases c1:u.2.2=3
 ·rw [if_pos c1,if_neg (by rw [c1]; decide),if_pos c1]
  refine ⟨by rw [h.bad]; exact h.bad'.symm,(e1 (by rw [c1]; decide)).symm,fun _ => ?_⟩
  exact ⟨by simp only; rw [hl,List.drop_drop,← hl],by simp only; omega,h.nodes,h.bad,h.bad',h.deep,rfl⟩
 rw [if_neg c1]
 by_cases c2:u.2.2=0
 ·rw [if_pos c2]
  refine ⟨by simp only; rw [h.bad,h.bad',c2]; rfl,rfl,fun _ => ?_⟩
  exact ⟨by simp only; rw [hl,List.drop_drop],by simp only; omega,h.nodes,by simp only; rw [h.bad,c2]; rfl,h.bad',h.deep,h.big⟩
 rw [if_neg c2,if_neg c1]
 refine ⟨by simp only; rw [decide_eq_true c2]; simp,rfl,fun hb=>by simp at hb⟩
theorem qNS (st:RS):qB { st with left:=zG st.left }=qB st:=by
 unfold qB yW
 simp only [xP]
theorem SameR.key {s : List UInt8} {q : RQ} {st : RS} (h : SameR s q st) :
  (zDY s (blQ s q)).1.bad=(qK (qB st).1).bad∧(zDY s (blQ s q)).2=(qB st).2∧((qK (qB st).1).bad=false→SameR s (zDY s (blQ s q)).1 (qK (qB st).1)):=by
 obtain ⟨q1,q2,q3⟩:=h.bl.quoted (xP _)
 rw [qNS] at q1 q2 q3
 unfold zDY
 simp only
 by_cases hb:(qB st).1.bad=true
 ·have hc:qK (qB st).1=(qB st).1:=by unfold qK; rw [if_pos hb]
  rw [hc]
  refine ⟨?_,q2,fun h'=>by rw [hb] at h'; cases h'⟩
  show Bool.or (xJ s (blQ s q)).1.bad _=_
  rw [q1,hb]; rfl
 have hb':(qB st).1.bad=false:=by simpa using hb
 have g:=q3 hb'
 have hc:qK (qB st).1={ (tk [58] (qB st).1).2 with bad := !(tk [58] (qB st).1).1 }:=by unfold qK; rw [if_neg hb]
 rw [hc]
 obtain ⟨t1,t2,t3⟩:=g.take (c:=58) (by decide)
 refine ⟨?_,q2,fun h' => ?_⟩
 ·show Bool.or (xJ s (blQ s q)).1.bad _=_
  rw [q1,hb']
  by_cases e:nxQ s (blQ s (xJ s (blQ s q)).1)=58
  ·rw [t1.1 e]; simp [e]
  have:(tk [58] (qB st).1).1=false:=by
   cases hh:(tk [58] (qB st).1).1 with
   | false=>rfl
   | true=>exact absurd (t1.2 hh) e
  rw [this]; simp [e]
 have e:=t1.2 (by simpa using h')
 have k:=t2 e
 exact ⟨k.left,k.le,k.nodes,by show Bool.or (xJ s (blQ s q)).1.bad _=_; rw [q1,hb',e]; rfl,h',k.deep,k.big⟩
theorem qBY {n:Nat} {st:RS} {d many:Nat} {vs:List Val} (h:st.bad=true):(wM n st d many vs).1.bad=true:=by
 cases n with
 | zero=>simp [wM]
 | succ n=>rw [qEK,if_pos h]; exact h
theorem qBX {n:Nat} {st:RS} {d many:Nat} {ks:List (List UInt8)} {vs:List Val} (h:st.bad=true):(zZ n st d many ks vs).1.bad=true:=by
 cases n with
 | zero=>simp [zZ]
 | succ n=>rw [zZ,if_pos h]; exact h
end Go.Proofs.YtlmedakhioiahaaGreatDoor
