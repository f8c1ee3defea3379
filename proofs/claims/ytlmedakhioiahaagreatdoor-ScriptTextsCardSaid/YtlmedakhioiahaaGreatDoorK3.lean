import Derived.Test.YtlmedakhioiahaaGreatDoorK2
import Derived.Test.YtlmedakhioiahaaGreatDoorM3
import Derived.Test.YtlmedakhioiahaaGreatDoorK1
namespace Go.Proofs.YtlmedakhioiahaaGreatDoor
open Sy Go
set_option linter.unusedSimpArgs false
set_option linter.unusedVariables false
def InM (a:Int):Prop:=0≤a∧a<18446744073709551616
def yM (a:Int):Nat:=(a % 18446744073709551616).toNat
theorem qPO (a:Int):yM a<2 ^ 64:=by unfold yM; omega
theorem qXI {a:Int} (h:InM a):((yM a:Nat):Int)=a:=by unfold yM; unfold InM at h; omega
theorem qZJ {n:Nat} (h:n<2 ^ 64):yM n=n:=by unfold yM; omega
def orM (a b:Int):Int:=((yM a ||| yM b:Nat):Int)
def zMG (a b:Int):Int:=((yM a &&& yM b:Nat):Int)
def zLO (a b:Int):Int:=((yM a &&& (18446744073709551615-yM b):Nat):Int)
theorem zHL (a b:Int):yM a ||| yM b<2 ^ 64:=Nat.or_lt_two_pow (qPO a) (qPO b)
theorem qJK (a b:Int):yM (orM a b)=yM a ||| yM b:=qZJ (zHL a b)
theorem zAP {n:Nat} (h:n<2 ^ 64):IntKind.u64.wrap (n:Int)=n:=by simp [IntKind.wrap,IntKind.bits,IntKind.signed]; omega
theorem zFQ (a b:Int):IntKind.u64.wrap (((a % 2 ^ IntKind.u64.bits).toNat ||| (b % 2 ^ IntKind.u64.bits).toNat:Nat):Int)=orM a b:=zAP (zHL a b)
theorem or_assoc (a b c:Int):orM (orM a b) c=orM a (orM b c):=by
 show ((yM (orM a b) ||| yM c:Nat):Int)=((yM a ||| yM (orM b c):Nat):Int)
 rw [qJK,qJK,Nat.or_assoc]
theorem or_self {a:Int} (h:InM a):orM a a=a:=by unfold orM; rw [Nat.or_self,qXI h]
def LeM (a b:Int):Prop:=orM a b=b
theorem LeM.trans {a b c:Int} (h1:LeM a b) (h2:LeM b c):LeM a c:=by
 unfold LeM at *; rw [← h2,← or_assoc,h1]
theorem LeM.or {a b c:Int} (h1:LeM a c) (h2:LeM b c):LeM (orM a b) c:=by
 unfold LeM at *; rw [or_assoc,h2,h1]
theorem LeM.refl {a:Int} (h:InM a):LeM a a:=or_self h
theorem LeM.and {a b:Int} (h:LeM a b) (ha:InM a):zMG b a=a:=by
 unfold LeM at h
 have h1:yM a ||| yM b=yM b:=by rw [← qJK,h]
 unfold zMG
 have:yM b &&& yM a=yM a:=by
  rw [← h1]
  apply Nat.eq_of_testBit_eq; intro i
  simp only [Nat.testBit_and,Nat.testBit_or]
  cases (yM a).testBit i <;> cases (yM b).testBit i <;> rfl
 rw [this,qXI ha]
theorem LeM.sub {a b:Int} (h:LeM a b):zLO a b=0:=by
 unfold LeM at h
 have h1:yM a ||| yM b=yM b:=by rw [← qJK,h]
 have hb:=qPO b
 unfold zLO
 have:yM a &&& (18446744073709551615-yM b)=0:=by
  apply Nat.eq_of_testBit_eq; intro i
  rw [show 18446744073709551615-yM b=2 ^ 64-(yM b+1) by omega]
  simp only [Nat.testBit_and,Nat.testBit_two_pow_sub_succ hb,Nat.zero_testBit]
  have h3:(yM a ||| yM b).testBit i=(yM b).testBit i:=by rw [h1]
  rw [Nat.testBit_or] at h3
  revert h3
  cases (yM a).testBit i <;> cases (yM b).testBit i <;> simp
 rw [this]; rfl
def zK:Val := .mk 0 0 dc0 [] [] [] 0
@[simp] theorem zHS:zK.kind=0:=rfl
@[simp] theorem zHR:zK.mask=0:=rfl
@[simp] theorem zJR:zK.num.neg=false:=rfl
@[simp] theorem zEN:zK.num.digits=[]:=rfl
@[simp] theorem zHE:zK.num.scale=0:=rfl
@[simp] theorem zHQ:zK.text=[]:=rfl
@[simp] theorem zHU:zK.keys=[]:=rfl
@[simp] theorem zHT:zK.kids=[]:=rfl
@[simp] theorem zHV:zK.code=0:=rfl
@[simp] def zKG:List V:=[.p (.int .i64 0),.p (.int .u64 0),.p (.bool false),.p (.str []),.p (.int .i64 0),.p (.str []),.nilsl,.nilsl,.p (.int .i64 0)]
def qRW (v:Val) (m:Int):Val := .mk v.kind m v.num v.text v.keys v.kids v.code
@[simp] theorem zJX (u:Val) (m:Int):(qRW u m).kind=u.kind:=rfl
@[simp] theorem zJW (u:Val) (m:Int):(qRW u m).mask=m:=rfl
@[simp] theorem zLR (u:Val) (m:Int):(qRW u m).num=u.num:=rfl
@[simp] theorem zJV (u:Val) (m:Int):(qRW u m).text=u.text:=rfl
@[simp] theorem zJZ (u:Val) (m:Int):(qRW u m).keys=u.keys:=rfl
@[simp] theorem zJY (u:Val) (m:Int):(qRW u m).kids=u.kids:=rfl
@[simp] theorem zKA (u:Val) (m:Int):(qRW u m).code=u.code:=rfl
def qBG (v:Val) (m:Int):Val:=qRW v (orM v.mask m)
@[simp] theorem zHY (u:Val) (m:Int):(qBG u m).kind=u.kind:=rfl
@[simp] theorem zHX (u:Val) (m:Int):(qBG u m).mask=orM u.mask m:=rfl
@[simp] theorem zJS (u:Val) (m:Int):(qBG u m).num=u.num:=rfl
@[simp] theorem zHW (u:Val) (m:Int):(qBG u m).text=u.text:=rfl
@[simp] theorem zIA (u:Val) (m:Int):(qBG u m).keys=u.keys:=rfl
@[simp] theorem zHZ (u:Val) (m:Int):(qBG u m).kids=u.kids:=rfl
@[simp] theorem zIB (u:Val) (m:Int):(qBG u m).code=u.code:=rfl
theorem zGB (v:Val):qAT id v=v:=by
 induction v using Val.induct with
 | h v ih =>
  rw [qXL]
  have:v.kids.map (qAT id)=v.kids:=by
   conv=>rhs; rw [← List.map_id v.kids]
   exact List.map_congr_left fun k hk=>ih k hk
  rw [this]; cases v; rfl
mutual
def InV:Val→Prop
 | .mk _ m _ _ _ vs _=>InM m∧zEH vs
def zEH:List Val→Prop
 | []=>True
 | v::vs=>InV v∧zEH vs
end
theorem zEG:∀ l,zEH l↔∀ v∈l,InV v
 | []=>by simp [zEH]
 | v::vs=>by simp [zEH,zEG vs]
theorem zBJ (v:Val):Val.sz v=1+Val.szL v.kids:=by cases v; simp only [Val.sz,Val.kids_mk]
@[simp] theorem zMJ:Val.szL []=0:=by simp only [Val.szL]
@[simp] theorem zMI (x:Val):Val.szL [x]=Val.sz x:=by simp only [Val.szL,Nat.add_zero]
theorem zIF (v:Val):1≤Val.sz v:=by rw [zBJ]; omega
theorem qWY:∀ l:List Val,l.length≤Val.szL l
 | []=>by simp
 | v::l=>by simp only [Val.szL,List.length_cons]; have:=qWY l; have:=zIF v; omega
theorem qVJ {v:Val} {n:Nat} (h:Val.sz v≤n):v.kids.length≤n:=by rw [zBJ] at h; have:=qWY v.kids; omega
def jG (v:Val) (s:List UInt8):Val × Bool:=if v.kind=7∧s∈v.keys then (qBG (qDU v s) v.mask,true) else (zK,false)
set_option maxRecDepth 100000
structure RS where
 left:List UInt8
 nodes:Nat
 bad:Bool
 deep:Bool
 big:Bool
 deriving DecidableEq
def zB (st:RS) (k:Nat):RS:={ st with left:=st.left.drop k }
def jF (b:UInt8):Bool:=b == 32 || b == 9 || b == 13 || b == 10
def zO (s:List UInt8):List UInt8:=s.dropWhile jF
def wI (b:UInt8):Bool:=qJ b || b == 45 || b == 43 || b == 46 || b == 101 || b == 69
def tk (w:List UInt8) (st:RS):Bool × RS :=
 if w.isPrefixOf (zO st.left) then (true,{ st with left:=(zO st.left).drop w.length }) else (false,{ st with left:=zO st.left })
def jO:List UInt8→Nat
 | []=>0
 | b::t=>if b=34 then 1 else if b=92 then (match t with
  | []=>1
  | _::u=>2+jO u) else 1+jO t
def uI (s:List UInt8):Nat:=if s=[] then 0 else 1+jO (s.drop 1)
def jY (l:List UInt8) (st:RS) (u:List UInt8 × Nat × Int):RS × List UInt8 :=
 if u.2.2=0 then ({ st with left:=l.drop u.2.1 },u.1) else if u.2.2=3 then ({ st with left:=l.drop (uI l),big:=true },u.1) else ({ st with left:=l.drop u.2.1,bad:=true },u.1)
def qE (st:RS):RS × List UInt8:=jY (zO st.left) st (qU (zO st.left))
def wS (st:RS):RS × Val :=
 ({ st with left:=st.left.dropWhile wI,big:=st.big || decide ((zW (st.left.takeWhile wI)).2=3),bad:=st.bad || decide ((zW (st.left.takeWhile wI)).2=4) },.mk 4 0 (zW (st.left.takeWhile wI)).1 [] [] [] 0)
def wW (c:UInt8) (many:Nat) (st:RS):Bool × RS :=
 let st1:RS:={ st with big:=st.big || decide (200<many) }
 if st1.bad=true then (true,st1) else
 let a:=tk [c] st1
 if a.1=true then (true,a.2) else let b:=tk [44] a.2
  (false,{ b.2 with bad := !b.1 })
def jQ (ks:List (List UInt8)) (vs:List Val) (key:List UInt8) (v:Val):List (List UInt8) × List Val:=if key∈ks then (ks,vs.set (ks.idxOf key) v) else (ks++[key],vs++[v])
def qP (st:RS):RS:=if st.bad=true then st else { (tk [58] st).2 with bad := !(tk [58] st).1 }
def kX:List UInt8:=[110,117,108,108]
def kW:List UInt8:=[116,114,117,101]
def yG:List UInt8:=[102,97,108,115,101]
def qV (st:RS) (d:Nat):RS:=⟨zO st.left,st.nodes+1,st.bad,st.deep || decide (12<d),st.big || decide (400<st.nodes+1)⟩
def yF (st:RS):RS × Val :=
 if kX.isPrefixOf st.left then (zB st 4,.mk 1 0 dc0 [] [] [] 0)
 else if kW.isPrefixOf st.left then (zB st 4,.mk 3 0 dc0 [] [] [] 0)
 else if yG.isPrefixOf st.left then (zB st 5,.mk 2 0 dc0 [] [] [] 0)
 else if ([34]:List UInt8).isPrefixOf st.left then ((qE st).1,.mk 5 0 dc0 (qE st).2 [] [] 0)
 else if st.left≠[]∧(qQ st.left 0=45∨yN (qQ st.left 0)=true) then wS st
 else ({ st with bad:=true },zK)
mutual
def qS:Nat→RS→Nat→RS × Val
 | 0,st,_=>({ st with bad:=true },zK)
 | n+1,st,d =>
  if ([91]:List UInt8).isPrefixOf (qV st d).left then
   (let a:=tk [93] (zB (qV st d) 1)
    let r:=if a.1=true then (a.2,[]) else yP n a.2 (d+1) 1 []
    (r.1,.mk 6 0 dc0 [] [] r.2 0))
  else if ([123]:List UInt8).isPrefixOf (qV st d).left then
   (let a:=tk [125] (zB (qV st d) 1)
    let r:=if a.1=true then (a.2,[],[]) else wR n a.2 (d+1) 1 [] []
    (r.1,.mk 7 0 dc0 [] r.2.1 r.2.2 0))
  else yF (qV st d)
def yP:Nat→RS→Nat→Nat→List Val→RS × List Val
 | 0,st,_,_,vs=>({ st with bad:=true },vs)
 | n+1,st,d,many,vs =>
  if st.bad=true then (st,vs) else
  let a:=qS n st d
  let b:=wW 93 many a.1
  if b.1=true then (b.2,vs++[a.2]) else yP n b.2 d (many+1) (vs++[a.2])
def wR:Nat→RS→Nat→Nat→List (List UInt8)→List Val→RS × List (List UInt8) × List Val
 | 0,st,_,_,ks,vs=>({ st with bad:=true },ks,vs)
 | n+1,st,d,many,ks,vs =>
  if st.bad=true then (st,ks,vs) else
  let q:=qE st
  let c:=qP q.1
  let a:=if c.bad=true then (c,ks,vs) else let v:=qS n c d
   (v.1,jQ ks vs q.2 v.2)
  let b:=wW 125 many a.1
  if b.1=true then (b.2,a.2) else wR n b.2 d (many+1) a.2.1 a.2.2
end
def wA (s:List UInt8):Val × Int × Int :=
 let r:=qS (2 * s.length+2) ⟨s,0,false,false,false⟩ 1
 if r.1.bad=true then (zK,0,10) else if r.1.deep=true then (zK,0,11) else if r.1.big=true then (zK,0,3) else (r.2,(s.length:Int)-r.1.left.length,0)
theorem qBU (s:List UInt8):(zO s).length≤s.length:=(List.dropWhile_sublist _).length_le
theorem uF (w:List UInt8) (st:RS):(tk w st).2.left.length≤st.left.length∧((tk w st).1=true→(tk w st).2.left.length+w.length≤st.left.length):=by
 have h:=qBU st.left
 unfold tk
 split
 ·rename_i hp
  have:=(List.isPrefixOf_iff_prefix.1 hp).length_le
  simp only [List.length_drop]
  exact ⟨by omega,fun _=>by omega⟩
 exact ⟨h,fun h=>by cases h⟩
@[simp] theorem qPA (w:List UInt8) (st:RS):(tk w st).2.bad=st.bad:=by unfold tk; split <;> rfl
@[simp] theorem yK (w:List UInt8) (st:RS):(tk w st).2.nodes=st.nodes:=by unfold tk; split <;> rfl
@[simp] theorem qOZ (w:List UInt8) (st:RS):(tk w st).2.deep=st.deep:=by unfold tk; split <;> rfl
@[simp] theorem qEC (w:List UInt8) (st:RS):(tk w st).2.big=st.big:=by unfold tk; split <;> rfl
theorem qAC (st:RS):(qE st).1.left.length≤st.left.length:=by
 have h:=qBU st.left
 unfold qE jY
 split
 ·simp only [List.length_drop]; omega
 split <;> (simp only [List.length_drop]; omega)
theorem qPE (c:UInt8) (many:Nat) (st:RS):(wW c many st).2.left.length≤st.left.length:=by
 unfold wW
 simp only
 split
 ·exact Nat.le_refl _
 split
 ·exact (uF _ _).1
 exact Nat.le_trans (uF _ _).1 (uF _ _).1
theorem qGF (st:RS):(qP st).left.length≤st.left.length:=by
 unfold qP; split
 ·exact Nat.le_refl _
 exact (uF _ _).1
theorem qLO (st:RS) (d:Nat):(qV st d).left.length≤st.left.length:=qBU _
theorem qQH (p:UInt8→Bool) (l:List UInt8):(l.dropWhile p).length≤l.length:=(List.dropWhile_sublist _).length_le
theorem qJX:∀ (f:Nat) (s:List UInt8) (k:Nat) (out:List UInt8),(yJ f s k out).2.2=0→k+1≤(yJ f s k out).2.1
 | 0,s,k,out,h=>by simp [yJ] at h
 | f+1,s,k,out,h=>by
  simp only [yJ] at h ⊢
  split at h
  ·simp at h
  rename_i h1
  rw [if_neg h1]
  split at h
  ·rename_i h2
   rw [if_pos h2]
   split at h
   ·simp at h
   rename_i h3; rw [if_neg h3]; exact Nat.le_refl _
  rename_i h2
  rw [if_neg h2]
  split at h
  ·simp at h
  rename_i h3
  rw [if_neg h3]
  split at h
  ·rename_i h4
   rw [if_pos h4]
   cases he:qMQ s with
   | none=>rw [he] at h; simp at h
   | some cn =>
    obtain ⟨c,n⟩:=cn
    rw [he] at h
    simp only at h ⊢
    have:=qJX f _ _ _ h
    omega
  rename_i h4
  rw [if_neg h4]
  have:=qJX f _ _ _ h
  omega
theorem qYU {st:RS} (h:([34]:List UInt8).isPrefixOf (zO st.left)=true):(qE st).1.bad=false→(qE st).1.left.length<st.left.length:=by
 have h1:=qBU st.left
 obtain ⟨t,ht⟩:=List.isPrefixOf_iff_prefix.1 h
 unfold qE jY
 generalize zO st.left=l at *
 subst ht
 have hu:qU ([34]++t)=yJ (t.length+1) t 1 []:=by
  unfold qU
  simp
 rw [hu]
 split
 ·rename_i h0
  intro _
  have:=qJX _ _ _ _ h0
  simp only [List.length_drop]
  simp at h1 ⊢; omega
 split
 ·intro _
  simp only [List.length_drop,uI]
  simp at h1 ⊢; omega
 intro hb; simp at hb
theorem qZC:(zW []).2=4:=by decide +kernel
theorem qZG {st:RS} (h:(wS st).1.bad=false):(wS st).1.left.length<st.left.length:=by
 unfold wS at h ⊢
 simp only [Bool.or_eq_false_iff,decide_eq_false_iff_not] at h
 have hs:=List.takeWhile_append_dropWhile (p:=wI) (l:=st.left)
 generalize hA:st.left.takeWhile wI=A at *
 simp only
 have hl:=congrArg List.length hs
 rw [List.length_append] at hl
 have:A≠[]:=by rintro rfl; exact h.2 qZC
 have:=List.length_pos_iff.2 this
 omega
theorem xL (s:List UInt8):zO (zO s)=zO s:=by
 unfold zO
 induction s with
 | nil=>rfl
 | cons b s ih =>
  rw [List.dropWhile_cons]
  split
  ·exact ih
  rename_i h; rw [List.dropWhile_cons,if_neg h]
theorem wD {w l:List UInt8} (h:w.isPrefixOf l=true):w.length≤l.length:=(List.isPrefixOf_iff_prefix.1 h).length_le
theorem qYA (st:RS) (ht:zO st.left=st.left):(yF st).1.left.length≤st.left.length∧((yF st).1.bad=false→(yF st).1.left.length<st.left.length):=by
 unfold yF
 split
 ·rename_i h; have:=wD h; simp [kX,zB] at this ⊢; omega
 split
 ·rename_i h; have:=wD h; simp [kW,zB] at this ⊢; omega
 split
 ·rename_i h; have:=wD h; simp [yG,zB] at this ⊢; omega
 split
 ·rename_i h; exact ⟨qAC st,qYU (by rw [ht]; exact h)⟩
 split
 ·exact ⟨qQH _ _,qZG⟩
 exact ⟨Nat.le_refl _,fun h=>by simp at h⟩
theorem zCE : ∀ n : Nat, (∀ st d, (qS n st d).1.left.length ≤ st.left.length ∧ ((qS n st d).1.bad = false → (qS n st d).1.left.length < st.left.length)) ∧
  (∀ st d many vs,(yP n st d many vs).1.left.length≤st.left.length)∧(∀ st d many ks vs,(wR n st d many ks vs).1.left.length≤st.left.length)
 | 0=>⟨fun st d=>⟨by simp [qS],fun h=>by simp [qS] at h⟩,fun st d many vs=>by simp [yP],fun st d many ks vs=>by simp [wR]⟩
 | n+1=>by
  obtain ⟨ih1,ih2,ih3⟩:=zCE n
  refine ⟨fun st d => ?_,fun st d many vs => ?_,fun st d many ks vs => ?_⟩
  ·have he:=qLO st d
   have ht:zO (qV st d).left=(qV st d).left:=xL _
   simp only [qS]
   split
   ·rename_i h
    have h1:=wD h
    have h2:=uF [93] (zB (qV st d) 1)
    simp only [zB,List.length_drop,List.length_cons,List.length_nil] at h1 h2
    split
    ·simp only [zB]; exact ⟨by omega,fun _=>by omega⟩
    have h3:=ih2 (tk [93] (zB (qV st d) 1)).2 (d+1) 1 []
    simp only [zB] at h3 ⊢
    exact ⟨by omega,fun _=>by omega⟩
   split
   ·rename_i h
    have h1:=wD h
    have h2:=uF [125] (zB (qV st d) 1)
    simp only [zB,List.length_drop,List.length_cons,List.length_nil] at h1 h2
    split
    ·simp only [zB]; exact ⟨by omega,fun _=>by omega⟩
    have h3:=ih3 (tk [125] (zB (qV st d) 1)).2 (d+1) 1 [] []
    simp only [zB] at h3 ⊢
    exact ⟨by omega,fun _=>by omega⟩
   have h1:=qYA (qV st d) ht
   exact ⟨by omega,fun hb=>by have:=h1.2 hb; omega⟩
  ·simp only [yP]
   split
   ·exact Nat.le_refl _
   have h1:=(ih1 st d).1
   have h2:=qPE 93 many (qS n st d).1
   split
   ·simp only; omega
   have:=ih2 (wW 93 many (qS n st d).1).2 d (many+1) (vs++[(qS n st d).2]); omega
  simp only [wR]
  split
  ·exact Nat.le_refl _
  have h1:=qAC st
  have h2:=qGF (qE st).1
  have h3:=(ih1 (qP (qE st).1) d).1
  generalize hA:(if (qP (qE st).1).bad=true then (qP (qE st).1,ks,vs) else ((qS n (qP (qE st).1) d).1,jQ ks vs (qE st).2 (qS n (qP (qE st).1) d).2))=A
  have h4:A.1.left.length≤st.left.length:=by
   rw [← hA]; split
   ·simp only; omega
   simp only; omega
  have h5:=qPE 125 many A.1
  split
  ·simp only; omega
  have:=ih3 (wW 125 many A.1).2 d (many+1) A.2.1 A.2.2; omega
set_option maxHeartbeats 4000000
variable {G:qO}
@[simp] def rdC (st:RS):List V:=[.p (.str st.left),.p (.int .i64 st.nodes),.p (.bool st.bad),.p (.bool st.deep),.p (.bool st.big)]
theorem qWV (s:List UInt8):uE (asF [32,9,10,13]) s=zO s:=by
 unfold uE zO
 congr 1
 funext b
 have key:∀ k:Fin 256,asF [32,9,10,13] k.val=jF (UInt8.ofNat k.val):=by decide +kernel
 have:=key ⟨b.toNat,b.toNat_lt⟩
 simpa using this
def zIY:List UInt8:=[48,49,50,51,52,53,54,55,56,57,45,43,46,101,69]
theorem zFT (s:List UInt8):uE (asF zIY) s=s.dropWhile wI:=by
 unfold uE
 congr 1
 funext b
 have key:∀ k:Fin 256,asF zIY k.val=wI (UInt8.ofNat k.val):=by decide +kernel
 have:=key ⟨b.toNat,b.toNat_lt⟩
 simpa using this
theorem qER (s w:List UInt8):wY s w=w.isPrefixOf s:=by
 rw [Bool.eq_iff_iff]
 simp only [wY,Bool.and_eq_true,decide_eq_true_eq,List.isPrefixOf_iff_prefix]
 constructor
 ·rintro ⟨h1,h2⟩; exact ⟨s.drop w.length,by have:=List.take_append_drop w.length s; rw [h2] at this; exact this⟩
 rintro ⟨t,rfl⟩; simp
theorem qWW (st:RS):AX Tryz.prog G 109 [.ptr 2 0] [(2,.vars 85 (rdC st))] (.tuple []) [2] [(2,.vars 85 (rdC { st with left:=zO st.left }))]:=by
 refine AX.introU tok 900 Tryz.func109 (by kernel_rfl) rfl rfl ?_
 simp only [Tryz.f109,qL,List.map_cons,List.map_nil]
 have ht:=qIN (G:=G) st.left [32,9,10,13] (by simp) (by decide)
 rw [qWV] at ht
 refine rgz [.nilp,.str (zO st.left)] [[],[],[],[],[2,6],[],[],[],[10]] ?_
 iterate 9 refine oq1 tok ht ?_
 refine qA ?_
 exact qIG
theorem jU (st:RS) (w:List UInt8):AX Tryz.prog G 78 [.ptr 2 0,.p (.str w)] [(2,.vars 85 (rdC st))] (.p (.bool (tk w st).1)) [2] [(2,.vars 85 (rdC (tk w st).2))]:=by
 refine AX.introU tok 900 Tryz.func78 (by kernel_rfl) rfl rfl ?_
 simp only [Tryz.f78,qL,List.map_cons,List.map_nil]
 have hc:=qBF (G:=G) (zO st.left) w
 rw [qER] at hc
 have ht:tk w st=if w.isPrefixOf (zO st.left) then (true,{ st with left:=(zO st.left).drop w.length }) else (false,{ st with left:=zO st.left }):=rfl
 rw [ht]
 have hcp:xT (zO st.left) w=if w.isPrefixOf (zO st.left) then (zO st.left).drop w.length else zO st.left:=by unfold xT; rw [qER]
 generalize hb:w.isPrefixOf (zO st.left)=b at *
 refine rgn [] [[0,1]] ?_
 refine op1 tok ?_
 refine qA (rgn [] [[]] ?_)
 refine op1 tok ?_
 refine qI ?_
 refine qB.stepK [0,1] (qZ rfl (qWW st) (by simp)) (by conv=>lhs; simp) rfl ?_
 refine qB.nil ?_
 refine rgn [.nilp,.tup [.str (xT (zO st.left) w),.bool b]] [[],[],[],[],[0,13,14],[],[],[],[0,16,17],[],[0,5,6]] ?_
 iterate 11 refine oq1 tok hc ?_
 refine qA (AW.seq (rgn [] [[]] ?_))
 refine op1 tok ?_
 refine qA (cnd ?_ ?_)
 ·intro h18
  try simp at h18
  subst h18
  simp only [if_true] at hcp ⊢
  rw [← hcp]
  refine rgz [] [[],[],[],[6,20,22],[6]] ?_
  iterate 5 refine op1 tok ?_ (hv:=by first | with_reducible exact True.intro | ((simp [hcp]); done) | omega | simp | (simp +contextual; omega))
  refine qA (rgn [] [[],[4]] ?_)
  iterate 2 refine op1 tok ?_
  refine qA ?_
  exact AW.ret qT
 intro h18
 try simp at h18
 subst h18
 refine AW.skip (rgn [] [[],[4]] ?_)
 iterate 2 refine op1 tok ?_
 refine qA ?_
 exact AW.ret qT
theorem qKI:∀ l:List UInt8,jO l≤l.length
 | []=>Nat.le_refl _
 | [b]=>by simp only [jO]; split <;> (try split) <;> simp
 | b::c::u=>by
  have h1:=qKI u
  have h2:=qKI (c::u)
  simp only [jO,List.length_cons] at h2 ⊢
  split
  ·omega
  split
  ·omega
  omega
theorem qFG (l:List UInt8):uI l≤l.length:=by
 unfold uI
 split
 ·omega
 rename_i h
 have h1:=qKI (l.drop 1)
 have h2:=List.length_pos_iff.2 h
 rw [List.length_drop] at h1; omega
theorem zFE (t:List UInt8):jO (34::t)=1:=by unfold jO; simp
theorem zFG:jO [92]=1:=by unfold jO; simp
theorem zFH (d:UInt8) (u:List UInt8):jO (92::d::u)=2+jO u:=by rw [jO]; simp
theorem zFF {c:UInt8} (h1:c≠34) (h2:c≠92) (t:List UInt8):jO (c::t)=1+jO t:=by
 cases t <;> (rw [jO]; simp [h1,h2,jO])
def vD (s:List UInt8) (i:Nat):Nat:=if i≤s.length then i+jO (s.drop i) else s.length
theorem qHU {s:List UInt8} {i:Nat} {c:UInt8} (h:s[i]?=some c):vD s i=if c=34 then i+1 else if c=92 then vD s (i+2) else vD s (i+1):=by
 have hi:=(List.getElem?_eq_some_iff.1 h).1
 have hd:s.drop i=c::s.drop (i+1):=by
  rw [List.drop_eq_getElem_cons hi]; congr 1
  have:=List.getElem?_eq_getElem hi
  rw [h] at this; exact (Option.some.inj this).symm
 unfold vD
 rw [if_pos (by omega),hd]
 by_cases h1:c=34
 ·rw [if_pos h1,h1,zFE]
 rw [if_neg h1]
 by_cases h2:c=92
 ·rw [if_pos h2]
  by_cases h3:i+2≤s.length
  ·obtain ⟨d,u,hu⟩:∃ d u,s.drop (i+1)=d::u:=by
    cases h4:s.drop (i+1) with
    | nil=>have:=congrArg List.length h4; simp at this; omega
    | cons d u=>exact ⟨d,u,rfl⟩
   have hu2:s.drop (i+2)=u:=by rw [show i+2=(i+1)+1 by omega,← List.drop_drop,hu]; rfl
   rw [if_pos h3,hu2,hu,h2,zFH]; omega
  have hu:s.drop (i+1)=[]:=List.drop_of_length_le (by omega)
  rw [if_neg h3,hu,h2,zFG]
  have:s.length=i+1:=by have:=congrArg List.length hu; simp at this; omega
  omega
 rw [if_neg h2,if_pos (by omega),zFF h1 h2]; omega
theorem qKH (s:List UInt8):uI s=vD s 1:=by
 unfold uI vD
 split
 ·rename_i h; subst h; rfl
 rename_i h; have:=List.length_pos_iff.2 h; rw [if_pos (by omega)]
theorem qUO (s:List UInt8) (hs:s.length≤1000000000000):AFn Tryz.prog G 117 [.str s] (.int .i64 (uI s)):=by
 refine AFn.introU tok Tryz.func117 (by kernel_rfl) rfl rfl ?_
 simp only [Tryz.f117,qL,List.map_cons,List.map_nil]
 refine rgn [] [[0]] ?_
 refine op1 tok ?_
 refine qA (AW.seq (rgn [] [[]] ?_))
 refine op1 tok ?_
 refine qA (AW.block ?_)
 refine AW.loop (α:=Nat) (fun i=>uI s=vD s i∧i≤s.length+2) (fun i=>⟨zD 23 [(0,.p (.str s)),(3,.p (.int .i64 i))],[],[],0⟩) (fun i=>s.length+2-i) (1) ⟨qKH s,by omega⟩ ⟨qD (by simp),rfl,by simp,by simp⟩ ?_
 rintro i ⟨hi,hil⟩
 rw [hi]
 refine AW.seq (rgn [] [[],[],[],[0,3,7]] ?_)
 iterate 4 refine op1 tok ?_
 refine qA (cnd ?_ ?_)
 ·intro h7
  try simp at h7
  obtain ⟨c,hc⟩:∃ c,s[i]?=some c:=⟨s[i],by simp [show i<s.length by omega]⟩
  have hst:=qHU hc
  rw [hst]
  have hcl:=c.toNat_lt
  refine AW.skip (AW.seq (AW.block (rgn [.int .u8 c.toNat] [[],[],[0,3,12]] ?_)))
  iterate 3 refine op1 tok ?_ (hv:=by first | with_reducible exact True.intro | (first | exact ⟨by omega,_,hc,rfl⟩ | simp [hc]; done) | omega | simp | (simp +contextual; omega))
  refine qA (AW.block (rgn [] [[],[0,3,12,13]] ?_))
  iterate 2 refine op1 tok ?_
  refine qA (cnd ?_ ?_)
  ·intro h13
   try simp at h13
   rw [if_pos (show c=34 from UInt8.toNat_inj.1 (by show c.toNat=34; omega))]
   refine rgn [] [[],[],[2]] ?_
   iterate 3 refine op1 tok ?_
   exact qA (AW.ret qK)
  intro h13
  try simp at h13
  rw [if_neg (show ¬ c=34 by rintro rfl; exact h13 rfl)]
  rw [if_neg (show ¬ c=34 by rintro rfl; exact h13 rfl)] at hst
  refine rgn [] [[],[0,3,17]] ?_
  iterate 2 refine op1 tok ?_
  refine qA (cnd ?_ ?_)
  ·intro h17
   try simp at h17
   rw [if_pos (show c=92 from UInt8.toNat_inj.1 (by show c.toNat=92; omega))]
   rw [if_pos (show c=92 from UInt8.toNat_inj.1 (by show c.toNat=92; omega))] at hst
   refine rgz [] [[],[],[0,3]] ?_
   iterate 3 refine op1 tok ?_
   refine qA (rgz [] [[],[],[0,3]] ?_)
   iterate 3 refine op1 tok ?_
   refine qA ?_
   exact ⟨i+2,⟨rfl,by omega⟩,by omega,qD (by simp [(show (i:Int)+1+1=i+2 by omega)]),rfl,by simp [(show (i:Int)+1+1=i+2 by omega)],by simp [(show (i:Int)+1+1=i+2 by omega)]⟩
  intro h17
  try simp at h17
  rw [if_neg (show ¬ c=92 by rintro rfl; exact h17 rfl)]
  rw [if_neg (show ¬ c=92 by rintro rfl; exact h17 rfl)] at hst
  refine AW.skip (rgz [] [[],[],[0,3]] ?_)
  iterate 3 refine op1 tok ?_
  refine qA ?_
  exact ⟨i+1,⟨rfl,by omega⟩,by omega,qD (by simp),rfl,by simp,by simp⟩
 intro h7
 try simp at h7
 have hend:vD s i=s.length:=by
  unfold vD; split
  ·rw [show i=s.length by omega]; simp [jO]
  rfl
 refine AW.exit ?_
 simp
 refine rgn [] [[],[],[2]] ?_
 iterate 3 refine op1 tok ?_
 refine qA ?_
 exact AW.ret (qK (k:=by simp [hend]))
theorem qMZ {s:List UInt8} (h:(wQ s).isSome=true):6≤s.length:=by
 unfold wQ at h
 split at h
 ·cases h
 omega
theorem zCX {s:List UInt8} (h:(yD s).2.2=true):(yD s).2.1≤s.length:=by
 match s with
 | []=>simp [yD] at h
 | [a]=>simp [yD] at h
 | a::c::t =>
  have h1:=qMZ (s:=a::c::t)
  have h2:=qMZ (s:=(a::c::t).drop 6)
  unfold yD at h ⊢
  cases hv:xS c with
  | some v=>simp only [hv]; simp
  | none =>
   simp only [hv] at h ⊢
   unfold qIZ at h ⊢
   generalize wQ (a::c::t)=A at *
   generalize wQ ((a::c::t).drop 6)=B at *
   split at h
   ·rename_i hc
    rw [if_pos hc]
    simp only [Bool.and_eq_true] at h
    exact h1 h.1
   rename_i hc
   rw [if_neg hc]
   simp only [Bool.and_eq_true] at h
   have:=h2 h.1
   rw [List.length_drop] at this
   simp only; omega
theorem qGP:∀ (f:Nat) (s:List UInt8) (k:Nat) (out:List UInt8),((yJ f s k out).2.2=0∧(yJ f s k out).2.1≤k+s.length)∨(((yJ f s k out).2.2=3∨(yJ f s k out).2.2=6)∧(yJ f s k out).2.1=0)
 | 0,s,k,out => .inr (by simp [yJ])
 | f+1,s,k,out=>by
  simp only [yJ]
  split
  ·exact .inr (by simp)
  rename_i hne
  split
  ·split
   ·exact .inr (by simp)
   exact .inl ⟨rfl,by have:=List.length_pos_iff.2 hne; simp only; omega⟩
  split
  ·exact .inr (by simp)
  split
  ·cases he:qMQ s with
   | none=>exact .inr (by simp)
   | some cn =>
    obtain ⟨c,n⟩:=cn
    simp only
    have hn:n≤s.length:=by
     unfold qMQ at he
     split at he
     ·rename_i h; cases he; exact zCX h
     cases he
    have:=qGP f (s.drop n) (k+n) (out++Lib.encodeRune c)
    rw [List.length_drop] at this
    omega
  have hn:=Lib.decodeL_le s hne
  have:=qGP f (s.drop (Lib.decodeL s).2) (k+(Lib.decodeL s).2) (out++Lib.encodeRune (Lib.decodeL s).1)
  rw [List.length_drop] at this
  omega
theorem xW (s:List UInt8):((qU s).2.2=0∧(qU s).2.1≤s.length)∨(((qU s).2.2=3∨(qU s).2.2=6)∧(qU s).2.1=0):=by
 unfold qU
 split
 ·rename_i h
  have:=qGP s.length (s.drop 1) 1 []
  rw [List.length_drop] at this
  have:1≤s.length:=by cases s with
   | nil=>simp at h
   | cons=>simp
  omega
 exact .inr (by simp)
theorem qNI (hG:U8 G) (st:RS) (hl:st.left.length≤1000000000):AX Tryz.prog G 82 [.ptr 2 0] [(2,.vars 85 (rdC st))] (.p (.str (qE st).2)) [2] [(2,.vars 85 (rdC (qE st).1))]:=by
 refine AX.introU tok 900 Tryz.func82 (by kernel_rfl) rfl rfl ?_
 simp only [Tryz.f82,qL,List.map_cons,List.map_nil]
 have hle:=qBU st.left
 have hu:=qWI (G:=G) hG (zO st.left) (by omega)
 have hp:=xW (zO st.left)
 have hsk:=qUO (G:=G) (zO st.left) (by omega)
 have hsl:=qFG (zO st.left)
 have hq:qE st=jY (zO st.left) st (qU (zO st.left)):=rfl
 rw [hq]
 unfold jY
 refine rgn [] [[0]] ?_
 refine op1 tok ?_
 refine qA (rgn [] [[]] ?_)
 refine op1 tok ?_
 refine qI ?_
 refine qB.stepK [0] (qZ rfl (qWW st) (by simp)) (by conv=>lhs; simp) rfl ?_
 refine qB.nil ?_
 generalize zO st.left=l at *
 generalize qU l=u at *
 obtain ⟨us,un,ue⟩:=u
 simp only at hu hp ⊢
 refine rgn [.nilp,.tup [.str us,.int .i64 un,.int .i64 ue]] [[],[],[],[],[0,13],[],[],[],[],[],[0,3,4,16],[0,3,4,5]] ?_
 iterate 12 refine oq1 tok hu ?_
 refine qA (AW.seq (rgn [] [[0,3,4,17]] ?_))
 refine op1 tok ?_
 refine qA (AW.block (rgn [] [[],[0,3,4,17,21]] ?_))
 iterate 2 refine op1 tok ?_
 refine qA (cnd ?_ ?_)
 ·intro h21
  try simp at h21
  subst h21
  have h0:un≤l.length:=by omega
  refine AW.skip (rgn [] [[],[],[],[],[3,4,33,37],[],[],[3,39,40],[],[3]] ?_)
  iterate 10 refine op1 tok ?_ (hv:=by first | with_reducible exact True.intro | (omega; done) | omega | simp | (simp +contextual; omega))
  refine qA (rgn [] [[],[2]] ?_)
  iterate 2 refine op1 tok ?_
  refine qA ?_
  exact AW.ret qT
 intro h21
 try simp at h21
 rw [if_neg h21]
 refine rgn [] [[],[0,3,4,23]] ?_
 iterate 2 refine op1 tok ?_
 refine qA (cnd ?_ ?_)
 ·intro h23
  try simp at h23
  rw [if_pos h23]
  refine rgz [.nilp,.int .i64 (uI l)] [[],[],[],[],[],[0,3,25,30],[],[],[],[0,3,4]] ?_
  iterate 10 refine oq1 tok hsk ?_
  refine qA (rgn [] [[],[],[],[],[3,4,33,37],[],[],[3,39,40],[],[3]] ?_)
  iterate 10 refine op1 tok ?_ (hv:=by first | with_reducible exact True.intro | (omega; done) | omega | simp | (simp +contextual; omega))
  refine qA (rgn [] [[],[2]] ?_)
  iterate 2 refine op1 tok ?_
  refine qA ?_
  exact AW.ret qT
 intro h23
 try simp at h23
 rw [if_neg h23]
 refine rgz [] [[],[],[],[0,3,4]] ?_
 iterate 4 refine op1 tok ?_
 refine qA (rgn [] [[],[],[],[],[3,4,33,37],[],[],[3,39,40],[],[3]] ?_)
 iterate 10 refine op1 tok ?_ (hv:=by first | with_reducible exact True.intro | (omega; done) | omega | simp | (simp +contextual; omega))
 refine qA (rgn [] [[],[2]] ?_)
 iterate 2 refine op1 tok ?_
 refine qA ?_
 exact AW.ret qT
theorem qVD (l:List UInt8):l.take (l.length-(l.dropWhile wI).length)=l.takeWhile wI∧(l.dropWhile wI).length≤l.length:=by
 have h:=List.takeWhile_append_dropWhile (p:=wI) (l:=l)
 generalize l.takeWhile wI=A at *
 generalize l.dropWhile wI=B at *
 subst h
 simp
theorem qZH (st:RS) (hl:st.left.length≤1000000000):AX Tryz.prog G 83 [.ptr 2 0] [(2,.vars 85 (rdC st))] (.agg (wS st).2.cells) [2] [(2,.vars 85 (rdC (wS st).1))]:=by
 refine AX.introU tok 900 Tryz.func83 (by kernel_rfl) rfl rfl ?_
 simp only [Tryz.f83,qL,List.map_cons,List.map_nil]
 have ht:=qIN (G:=G) st.left zIY (by decide) (by decide)
 rw [zFT] at ht
 obtain ⟨hs1,hs2⟩:=qVD st.left
 have hpl:(st.left.takeWhile wI).length≤1000000000:=Nat.le_trans (List.takeWhile_sublist _).length_le hl
 have hp:=qUE (G:=G) (st.left.takeWhile wI) hpl
 have hn:wS st=({ st with left:=st.left.dropWhile wI,big:=st.big || decide ((zW (st.left.takeWhile wI)).2=3),bad:=st.bad || decide ((zW (st.left.takeWhile wI)).2=4) },.mk 4 0 (zW (st.left.takeWhile wI)).1 [] [] [] 0):=rfl
 rw [hn]
 generalize st.left.dropWhile wI=rest at *
 generalize st.left.takeWhile wI=A at *
 generalize zW A=p at *
 obtain ⟨dc,e⟩:=p
 simp only at *
 refine rgn [] [[]] ?_
 refine op1 tok ?_
 refine qA (rgn [.nilp,.str rest] [[],[],[],[],[0,2,10],[0,2,3]] ?_)
 iterate 6 refine oq1 tok ht ?_
 refine qA ?_
 refine AW.seqDrawS tok mixed 19 [[0],[12],[13],[14],[0],[16],[17],[18],[19],[3],[21],[20,22],[15,23],[24],[25],[11],[11],[],[4,26]] [.nilp,.tup [dc.enc,.int .i64 e]] [] (by kernel_rfl) ?_
 iterate 19 refine d1 ?_ (hv:=by first | with_reducible exact True.intro | (first | omega | exact ⟨by omega,by omega⟩ | (rw [hs1]; exact hp); done) | omega | simp | (simp +contextual; omega))
 refine DGo.nil (by kernel_rfl) ⟨by kernel_rfl, ?_⟩
 refine qB.run [[0,2,3,4,5]] ?_
 refine op1 tok ?_
 refine qA (rgn [] [[],[],[],[],[],[0,2,3,4,5,28,33],[],[],[],[0,2,3,4,5,36,37],[],[0,2,3,4,5]] ?_)
 iterate 6 refine op1 tok ?_
 iterate 2 refine op2 tok ?_
 iterate 4 refine op1 tok ?_
 refine qA (rgn [] [[],[],[],[],[],[0,2,3,4,5,39,44],[],[],[0,2,3,4,39,47],[],[],[0,2,3,4]] ?_)
 iterate 6 refine op1 tok ?_
 iterate 2 refine op2 tok ?_
 iterate 4 refine op1 tok ?_
 refine qA (rgn [] [[],[],[],[2,4,51,53],[2,4]] ?_)
 iterate 5 refine op1 tok ?_
 refine qA (rgn [] [[],[],[2]] ?_)
 iterate 3 refine op1 tok ?_
 refine qA ?_
 refine AW.fillE 902 [none,none,none,none,none,none,some 1,some 9,none] (by conv=>lhs; simp) ?_
 exact AW.ret qT
theorem qDC (c:UInt8) (many:Nat) (st:RS):(wW c many st).2.nodes=st.nodes:=by
 unfold wW; simp only; split
 ·rfl
 split <;> simp
theorem qJF (c:UInt8) (many:Nat) (st:RS) (h:(wW c many st).2.bad=false):st.bad=false:=by
 unfold wW at h; simp only at h; split at h
 ·rename_i hb; rw [hb] at h; cases h
 rename_i hb; simpa using hb
theorem qRY (c:UInt8) (many:Nat) (st:RS) (h:(wW c many st).1=false):st.bad=false:=by
 unfold wW at h; simp only at h; split at h
 ·cases h
 rename_i hb; simpa using hb
theorem jX (st:RS):(qE st).1.nodes=st.nodes:=by
 unfold qE jY; split
 ·rfl
 split <;> rfl
theorem qUU (st:RS) (h:(qE st).1.bad=false):st.bad=false:=by
 unfold qE jY at h; split at h
 ·exact h
 split at h
 ·exact h
 cases h
theorem uN (st:RS):(qP st).nodes=st.nodes:=by
 unfold qP; split
 ·rfl
 simp
theorem qLY (st:RS):(yF st).1.nodes=st.nodes:=by
 unfold yF
 split
 ·rfl
 split
 ·rfl
 split
 ·rfl
 split
 ·exact jX st
 split <;> rfl
theorem zDX (st:RS) (h:(yF st).1.bad=false):st.bad=false:=by
 unfold yF at h
 split at h
 ·exact h
 split at h
 ·exact h
 split at h
 ·exact h
 split at h
 ·exact qUU st h
 split at h
 ·simp only [wS,Bool.or_eq_false_iff] at h; exact h.1
 cases h
theorem zCD : ∀ n : Nat, (∀ st d, (qS n st d).1.bad = false → st.bad = false ∧ (qS n st d).1.nodes + (qS n st d).1.left.length ≤ st.nodes + st.left.length) ∧
  (∀ st d many vs,(yP n st d many vs).1.bad=false→st.bad=false∧(yP n st d many vs).1.nodes+(yP n st d many vs).1.left.length≤st.nodes+st.left.length) ∧
  (∀ st d many ks vs,(wR n st d many ks vs).1.bad=false→st.bad=false∧(wR n st d many ks vs).1.nodes+(wR n st d many ks vs).1.left.length≤st.nodes+st.left.length)
 | 0=>⟨fun st d h=>by simp [qS] at h,fun st d many vs h=>by simp [yP] at h,fun st d many ks vs h=>by simp [wR] at h⟩
 | n+1=>by
  obtain ⟨ih1,ih2,ih3⟩:=zCD n
  refine ⟨fun st d => ?_,fun st d many vs => ?_,fun st d many ks vs => ?_⟩
  ·have he:=qLO st d
   have hen:(qV st d).nodes=st.nodes+1:=rfl
   have heb:(qV st d).bad=st.bad:=rfl
   have ht:zO (qV st d).left=(qV st d).left:=xL _
   simp only [qS]
   split
   ·rename_i h
    have h1:=wD h
    have h2:=uF [93] (zB (qV st d) 1)
    have h5:=yK [93] (zB (qV st d) 1)
    have h6:=qPA [93] (zB (qV st d) 1)
    simp only [zB,List.length_drop,List.length_cons,List.length_nil] at h1 h2 h5 h6
    split
    ·simp only [zB]; intro hb; exact ⟨by rw [← heb,← h6]; exact hb,by omega⟩
    have h3:=ih2 (tk [93] (zB (qV st d) 1)).2 (d+1) 1 []
    simp only [zB] at h3 ⊢
    intro hb
    obtain ⟨h7,h8⟩:=h3 hb
    exact ⟨by rw [← heb,← h6]; exact h7,by omega⟩
   split
   ·rename_i h
    have h1:=wD h
    have h2:=uF [125] (zB (qV st d) 1)
    have h5:=yK [125] (zB (qV st d) 1)
    have h6:=qPA [125] (zB (qV st d) 1)
    simp only [zB,List.length_drop,List.length_cons,List.length_nil] at h1 h2 h5 h6
    split
    ·simp only [zB]; intro hb; exact ⟨by rw [← heb,← h6]; exact hb,by omega⟩
    have h3:=ih3 (tk [125] (zB (qV st d) 1)).2 (d+1) 1 [] []
    simp only [zB] at h3 ⊢
    intro hb
    obtain ⟨h7,h8⟩:=h3 hb
    exact ⟨by rw [← heb,← h6]; exact h7,by omega⟩
   have h1:=qYA (qV st d) ht
   have h2:=qLY (qV st d)
   intro hb
   have:=h1.2 hb
   exact ⟨heb ▸ zDX _ hb,by omega⟩
  ·simp only [yP]
   split
   ·rename_i hb; intro h; simp only at h; rw [h] at hb; cases hb
   rename_i hb
   have hb':st.bad=false:=by simpa using hb
   have h1:=ih1 st d
   have h2:=qPE 93 many (qS n st d).1
   have h3:=qDC 93 many (qS n st d).1
   have h4:=qJF 93 many (qS n st d).1
   split
   ·simp only; intro h; have:=h1 (h4 h); exact ⟨hb',by omega⟩
   intro h
   obtain ⟨h5,h6⟩:=ih2 (wW 93 many (qS n st d).1).2 d (many+1) (vs++[(qS n st d).2]) h
   have:=h1 (h4 h5); exact ⟨hb',by omega⟩
  simp only [wR]
  split
  ·rename_i hb; intro h; simp only at h; rw [h] at hb; cases hb
  rename_i hb
  have hb':st.bad=false:=by simpa using hb
  have h1:=qAC st
  have h1':=jX st
  have h2:=qGF (qE st).1
  have h2':=uN (qE st).1
  have h3:=ih1 (qP (qE st).1) d
  generalize hA:(if (qP (qE st).1).bad=true then (qP (qE st).1,ks,vs) else ((qS n (qP (qE st).1) d).1,jQ ks vs (qE st).2 (qS n (qP (qE st).1) d).2))=A
  have h4:A.1.bad=false→A.1.nodes+A.1.left.length≤st.nodes+st.left.length:=by
   rw [← hA]; split
   ·rename_i h; intro h'; simp only at h'; rw [h] at h'; cases h'
   intro h'; have:=(h3 h').2; simp only; omega
  have h5:=qPE 125 many A.1
  have h6:=qDC 125 many A.1
  have h7:=qJF 125 many A.1
  split
  ·simp only; intro h; have:=h4 (h7 h); exact ⟨hb',by omega⟩
  intro h
  obtain ⟨h8,h9⟩:=ih3 (wW 125 many A.1).2 d (many+1) A.2.1 A.2.2 h
  have:=h4 (h7 h8); exact ⟨hb',by omega⟩
def qHL (G:qO) (N d:Nat):Prop:=∀ (m:Nat) (s:RS),m<N→2 * s.left.length+2≤m→s.left.length≤1000000000→s.nodes+s.left.length≤10000000000→d+s.left.length≤10000000000 →
 AX Tryz.prog G 47 [.ptr 2 0,.p (.int .i64 d)] [(2,.vars 85 (rdC s))] (.agg (qS m s d).2.cells) [2] [(2,.vars 85 (rdC (qS m s d).1))]
theorem zCC (st st':RS) (d:Nat) (v:Val) (vs:List Val) (hl:vs.length≤1000000000) (hv:AX Tryz.prog G 47 [.ptr 2 0,.p (.int .i64 d)] [(2,.vars 85 (rdC st))] (.agg v.cells) [2] [(2,.vars 85 (rdC st'))]):AX Tryz.prog G 112 [.ptr 5 0,.ptr 6 0,.ptr 7 0] [(2,.vars 85 (rdC st)),(5,.vars 42 [.p (.int .i64 6),.p (.int .u64 0),.p (.bool false),.p (.str []),.p (.int .i64 0),.p (.str []),.nilsl,.ms 8,.p (.int .i64 0)]),(6,.vars 83 [.ptr 2 0]),(7,.vars 3 [.p (.int .i64 d)]),(8,.row 42 9 (vs.map Val.enc))] (.tuple []) [2,5,6,7] [(2,.vars 85 (rdC st')),(5,.vars 42 [.p (.int .i64 6),.p (.int .u64 0),.p (.bool false),.p (.str []),.p (.int .i64 0),.p (.str []),.nilsl,.ms 8,.p (.int .i64 0)]),(6,.vars 83 [.ptr 2 0]),(7,.vars 3 [.p (.int .i64 d)]),(8,.row 42 9 ((vs++[v]).map Val.enc))]:=by
 refine AX.introU tok 900 Tryz.func112 (by kernel_rfl) rfl rfl ?_
 simp only [Tryz.f112,qL,List.map_cons,List.map_nil]
 simp only [rdC,Val.cells] at hv
 refine AW.drawS tok mixed 12 [[0],[3],[1],[2],[5,6],[4],[],[4,9],[10,8],[11,7],[0],[12,10]] [.ref [.str st'.left,.int .i64 st'.nodes,.bool st'.bad,.bool st'.deep,.bool st'.big],v.enc,zK.enc,zK.enc,v.enc] [] (by kernel_rfl) ?_
 iterate 12 refine d1 ?_ (h:=by intro C; conv=>lhs; simp [Value.oneCell']) (hv:=by first | with_reducible exact True.intro | (first | omega | (simpa [qM] using hv) | (simp; omega) | (trace_state; fail); done) | omega | simp | (simp +contextual; omega))
 refine DGo.nil (by kernel_rfl) ⟨by kernel_rfl, ?_⟩
 refine qB.take 910 8 (by conv=>lhs; simp) ?_
 refine qB.nil ?_
 exact qIG
def qMO (n:Nat) (st:RS) (d:Nat):RS × List Val:=if (tk [93] st).1=true then ((tk [93] st).2,[]) else yP n (tk [93] st).2 d 1 []
theorem qCD (n:Nat) (st:RS) (d many:Nat) (vs:List Val):yP (n+1) st d many vs=if st.bad=true then (st,vs) else if (wW 93 many (qS n st d).1).1=true then ((wW 93 many (qS n st d).1).2,vs++[(qS n st d).2]) else yP n (wW 93 many (qS n st d).1).2 d (many+1) (vs++[(qS n st d).2]):=by
 simp only [yP]
theorem zDD (N:Nat) (st:RS) (d:Nat) (hN:2 * st.left.length+3≤N) (hl:st.left.length≤1000000000) (hk:st.nodes+st.left.length≤10000000000) (hd:d+st.left.length≤10000000000) (hv:qHL G N d):AX Tryz.prog G 111 [.ptr 2 0,.p (.str [93]),.func (.func 112) [] [.ptr 5 0,.ptr 6 0,.ptr 7 0]] [(2,.vars 85 (rdC st)),(5,.vars 42 [.p (.int .i64 6),.p (.int .u64 0),.p (.bool false),.p (.str []),.p (.int .i64 0),.p (.str []),.nilsl,.ms 8,.p (.int .i64 0)]),(6,.vars 83 [.ptr 2 0]),(7,.vars 3 [.p (.int .i64 d)]),(8,.row 42 9 (([]:List Val).map Val.enc))] (.tuple []) [2,5,6,7] [(2,.vars 85 (rdC (qMO N st d).1)),(5,.vars 42 [.p (.int .i64 6),.p (.int .u64 0),.p (.bool false),.p (.str []),.p (.int .i64 0),.p (.str []),.nilsl,.ms 8,.p (.int .i64 0)]),(6,.vars 83 [.ptr 2 0]),(7,.vars 3 [.p (.int .i64 d)]),(8,.row 42 9 ((qMO N st d).2.map Val.enc))]:=by
 refine AX.introU tok 900 Tryz.func111 (by kernel_rfl) rfl rfl ?_
 simp only [Tryz.f111,qL,List.map_cons,List.map_nil]
 have hM:qMO N st d=if (tk [93] st).1=true then ((tk [93] st).2,[]) else yP N (tk [93] st).2 d 1 []:=rfl
 rw [hM]
 have htl:=(uF [93] st).1
 have htn:=yK [93] st
 have htb:=qPA [93] st
 have htd:=qOZ [93] st
 have htg:=qEC [93] st
 refine AW.seq (rgn [] [[],[]] ?_)
 iterate 2 refine op1 tok ?_
 refine qI ?_
 refine qB.stepK [0,1,2,9] (qZ rfl (jU st [93]) (by simp)) (by conv=>lhs; simp) rfl ?_
 refine qB.nil ?_
 refine cnd ?_ ?_
 ·intro h9
  try simp at h9
  rw [if_pos h9]
  exact AW.ret qT
 intro h9
 try simp at h9
 rw [if_neg (by rw [h9]; simp)]
 generalize (tk [93] st).2=sa at *
 refine AW.skip (rgn [] [[]] ?_)
 refine op1 tok ?_
 refine qA (AW.block ?_)
 refine AW.pinsTo [2,5,6,7] (by simp) (by conv=>lhs; simp) ?_
 refine AW.loop (α:=Nat × RS × Nat × List Val) (fun a=>yP N sa d 1 []=yP a.1 a.2.1 d a.2.2.1 a.2.2.2∧2 * a.2.1.left.length+3≤a.1∧a.1≤N∧a.2.1.left.length≤st.left.length∧(a.2.1.bad=false→a.2.1.nodes+a.2.1.left.length≤10000000000)∧a.2.2.2.length+a.2.1.left.length≤1000000000∧a.2.2.1+a.2.1.left.length≤1000000001) (fun a=>⟨zD 45 [(0,.ptr 2 0),(1,.p (.str [93])),(2,.func (.func 112) [] [.ptr 5 0,.ptr 6 0,.ptr 7 0]),(6,.p (.int .i64 a.2.2.1))],[2,5,6,7],[(2,.vars 85 (rdC a.2.1)),(5,.vars 42 [.p (.int .i64 6),.p (.int .u64 0),.p (.bool false),.p (.str []),.p (.int .i64 0),.p (.str []),.nilsl,.ms 8,.p (.int .i64 0)]),(6,.vars 83 [.ptr 2 0]),(7,.vars 3 [.p (.int .i64 d)]),(8,.row 42 9 (a.2.2.2.map Val.enc))],900⟩) (fun a=>a.1) ((N,sa,1,[])) ⟨rfl,by simp only; omega,by simp,by simp only; omega,fun _=>by simp only; omega,by simp; omega,by simp only; omega⟩ ⟨qD (by simp),rfl,by simp [htn,htb,htd,htg],by simp⟩ ?_
 rintro ⟨n,s,many,vs⟩ ⟨hq,hf,hfN,hsl,hnl,hvl,hml⟩
 simp only at hq hf hfN hsl hnl hvl hml
 rw [hq]
 clear hq
 obtain ⟨n,rfl⟩:∃ g,n=g+1:=⟨n-1,by omega⟩
 rw [qCD]
 refine AW.seq (rgn [] [[],[],[],[],[0,1,2,6,14]] ?_)
 iterate 5 refine op1 tok ?_
 refine qA (cnd ?_ ?_)
 ·intro h14
  try simp at h14
  have hb:s.bad=false:=by simpa using h14
  rw [if_neg (by rw [hb]; simp)]
  have hnb:=hnl hb
  have hvn:=hv n s (by omega) (by omega) (by omega) (hnl hb) (by omega)
  have hle:=((zCE n).1 s d)
  have hln:=((zCD n).1 s d)
  refine AW.skip (AW.seq (AW.block (rgn [] [[]] ?_)))
  refine op1 tok ?_
  refine qI ?_
  refine qB.stepK [0,1,2,6] (qZ rfl (zCC s (qS n s d).1 d (qS n s d).2 vs (by omega) hvn) (by simp)) (by conv=>lhs; simp) rfl ?_
  refine qB.nil ?_
  generalize qS n s d=A at *; obtain ⟨⟨l,nn,b,dp,bg⟩,v⟩:=A
  simp only at hle hln ⊢
  clear hvn
  have hdm:decide ((200:Int)<(many:Int))=decide (200<many):=by rw [decide_eq_decide]; omega
  refine rgn [] [[],[],[],[],[],[0,1,2,6,19,24],[],[],[],[0,1,2,6,27,28],[],[0,1,2,6]] ?_
  iterate 6 refine op1 tok ?_
  iterate 2 refine op2 tok ?_
  iterate 4 refine op1 tok ?_
  refine qA (AW.seq ?_)
  by_cases hs6:b=true
  ·
   simp only [hdm]
   first | subst hs6 | obtain rfl:b=false:=by simpa using hs6
   refine rgn [] [[],[],[],[],[0,1,2,6,34],[],[],[],[0,1,2,6,38]] ?_
   iterate 5 refine op1 tok ?_
   iterate 3 refine op2 tok ?_
   refine op1 tok ?_
   refine qA (cnd ?_ ?_)
   ·intro h38
    try simp at h38
    rw [show wW 93 many ⟨l,nn,true,dp,bg⟩=(true,⟨l,nn,true,dp,Bool.or bg (decide (200<many))⟩) by simp [wW]]
    exact AW.ret qT
   intro h38
   try simp at h38
  ·
   simp only [hdm]
   first | subst hs6 | obtain rfl:b=false:=by simpa using hs6
   refine rgn [] [[],[],[],[],[0,1,2,6,34],[],[]] ?_
   iterate 5 refine op1 tok ?_
   iterate 2 refine op2 tok ?_
   refine qI ?_
   refine qB.stepKIf [0,1,2,6,34,37] 34 rfl rfl (qZ rfl (jU ⟨l,nn,false,dp,Bool.or bg (decide (200<many))⟩ [93]) (by simp)) (by simp) (by conv=>lhs; simp) ?_
   refine qB.run [[0,1,2,6,38]] ?_
   refine op1 tok ?_
   refine qA (cnd ?_ ?_)
   ·intro h38
    try simp at h38
    rw [show wW 93 many ⟨l,nn,false,dp,bg⟩=(true,(tk [93] ⟨l,nn,false,dp,Bool.or bg (decide (200<many))⟩).2) by simp [wW,h38]]
    exact AW.ret qT
   intro h38
   try simp at h38
   rw [show wW 93 many ⟨l,nn,false,dp,bg⟩=(false,{ (tk [44] (tk [93] ⟨l,nn,false,dp,Bool.or bg (decide (200<many))⟩).2).2 with bad := !(tk [44] (tk [93] ⟨l,nn,false,dp,Bool.or bg (decide (200<many))⟩).2).1 }) by simp [wW,h38]]
   have hx:=(uF [93] ⟨l,nn,false,dp,Bool.or bg (decide (200<many))⟩).1
   have hy:=(uF [44] (tk [93] ⟨l,nn,false,dp,Bool.or bg (decide (200<many))⟩).2).1
   simp only [Bool.false_eq_true,if_false]
   simp only at hx
   have hlt:=hle.2 rfl
   have hl2:=(hln rfl).2
   refine AW.skip (rgz [] [[],[]] ?_)
   iterate 2 refine op1 tok ?_
   refine qI ?_
   refine qB.stepK [0,1,2,6,39,41] (qZ rfl (jU (tk [93] ⟨l,nn,false,dp,Bool.or bg (decide (200<many))⟩).2 [44]) (by simp)) (by conv=>lhs; simp) rfl ?_
   refine qB.run [[],[],[],[0,1,2,6]] ?_
   iterate 4 refine op1 tok ?_
   refine qA (rgz [] [[],[],[0,1,2,6]] ?_)
   iterate 3 refine op1 tok ?_
   refine qA ?_
   exact ⟨(n,{ (tk [44] (tk [93] ⟨l,nn,false,dp,Bool.or bg (decide (200<many))⟩).2).2 with bad := !(tk [44] (tk [93] ⟨l,nn,false,dp,Bool.or bg (decide (200<many))⟩).2).1 },many+1,vs++[v]),⟨by simp,by simp only; omega,by omega,by simp only; omega,fun _=>by simp only [yK]; omega,by simp; omega,by simp only; omega⟩,by simp only; omega,qD (by simp),rfl,by simp,by simp⟩
 intro h14
 try simp at h14
 rw [if_pos (show s.bad=true by simpa using h14)]
 refine AW.exit ?_
 simp
 exact qIG
theorem zGC (N:Nat) (st:RS) (d:Nat) (hN:2 * st.left.length+3≤N) (hl:st.left.length≤1000000000) (hk:st.nodes+st.left.length≤10000000000) (hd:d+st.left.length≤10000000000) (hv:qHL G N d):AX Tryz.prog G 79 [.ptr 2 0,.p (.int .i64 d)] [(2,.vars 85 (rdC st))] (.agg (Val.mk 6 0 dc0 [] [] (qMO N st d).2 0).cells) [2] [(2,.vars 85 (rdC (qMO N st d).1))]:=by
 refine AX.introU tok 900 Tryz.func79 (by kernel_rfl) rfl rfl ?_
 simp only [Tryz.f79,qL,List.map_cons,List.map_nil]
 refine rgn [] [[],[],[2,3,4]] ?_
 iterate 3 refine op1 tok ?_
 refine qA (rgn [] [[],[],[2,3,4,5]] ?_)
 iterate 3 refine op1 tok ?_
 refine qA ?_
 refine AW.renE 902 6 (by simp) (by conv=>lhs; simp) ?_
 refine AW.renE 903 7 (by simp) (by conv=>lhs; simp) ?_
 refine AW.renE 905 5 (by simp) (by conv=>lhs; simp) ?_
 refine AW.beginBox 5 8 7 42 9 (by simp; exact ⟨rfl,rfl⟩) (by simp) (by simp) (by conv=>lhs; simp) ?_
 refine rgn [] [[],[]] ?_
 iterate 2 refine op1 tok ?_
 refine qI ?_
 refine qB.stepK [4,5] (qZ rfl (zDD N st d hN hl hk hd hv) (by simp)) (by conv=>lhs; simp) rfl ?_
 refine qB.nil ?_
 refine AW.fillE 5 [none,none,none,none,none,none,some 1] (by conv=>lhs; simp) ?_
 refine AW.freeze 8 ?_
 refine rgn [] [[],[4]] ?_
 iterate 2 refine op1 tok ?_
 refine qA ?_
 exact AW.ret (qT (k:=by simp [dc0]))
def qZT (ks:List (List UInt8)) (s:List UInt8):Int:=if s∈ks then (ks.idxOf s:Int) else -1
theorem zGG (l:List (List UInt8)) (s:List UInt8):AX Tryz.prog G 114 [.ms 3,.p (.str s)] [(3,.row 9 1 (l.map PD.str))] (.p (.int .i64 (qZT l s))) [3] [(3,.row 9 1 (l.map PD.str))]:=by
 refine AX.introU tok 900 Tryz.func114 (by kernel_rfl) rfl rfl ?_
 simp only [Tryz.f114,qL,List.map_cons,List.map_nil]
 refine rgn [] [[0,1]] ?_
 refine op1 tok ?_
 refine qA (AW.seq (rgn [] [[],[],[0,1,7,8]] ?_))
 iterate 3 refine op1 tok ?_
 refine qA (AW.block ?_)
 refine AW.intFactU (i:=7) rfl (by decide) ?_; intro hlen; simp at hlen
 refine AW.loop (α:=Nat) (fun k=>k≤l.length∧s ∉ l.take k) (fun k=>⟨zD 19 [(0,.ms 3),(1,.p (.str s)),(7,.p (.int .i64 l.length)),(8,.p (.int .i64 k))],[3],[(3,.row 9 1 (l.map PD.str))],900⟩) (fun k=>l.length-k) (0) ⟨by omega,by simp⟩ ⟨qD (by simp),rfl,by simp,by simp⟩ ?_
 rintro k ⟨hk,hno⟩
 refine rgn [] [[]] ?_
 refine op1 tok ?_
 refine qA (AW.seq (cnd ?_ ?_))
 ·intro h9
  try simp at h9
  obtain ⟨x,hx⟩:∃ x,l[k]?=some x:=⟨l[k],by simp [h9]⟩
  refine AW.skip (AW.seq (AW.block (rgn [] [[],[0,1,5,7,8]] ?_)))
  iterate 2 refine op1 tok ?_
  refine qA (rgn [.str x] [[],[],[],[],[],[0,1,5,7,8,16]] ?_)
  iterate 6 refine op1 tok ?_ (hv:=by first | with_reducible exact True.intro | (simp [hx]; done) | omega | simp | (simp +contextual; omega))
  refine qA (cnd ?_ ?_)
  ·intro h16
   try simp at h16
   have hR:qZT l s=k:=by
    have hm:s∈l:=by rw [h16]; exact List.mem_of_getElem? hx
    unfold qZT; rw [if_pos hm]
    have:l.idxOf s=k:=by
     obtain ⟨h1,h2⟩:=List.getElem?_eq_some_iff.1 hx
     have h3:=List.take_append_drop k l
     rw [← h3,List.idxOf_append,if_neg hno,List.drop_eq_getElem_cons h1,h2,h16,List.idxOf_cons_self]
     simp; omega
    rw [this]
   refine rgn [] [[],[4]] ?_
   iterate 2 refine op1 tok ?_
   refine qA ?_
   exact AW.ret (qT (k:=by simp [hR]))
  intro h16
  try simp at h16
  refine AW.skip (rgz [] [[],[0,1,7,8]] ?_)
  iterate 2 refine op1 tok ?_
  refine qA ?_
  exact ⟨k+1,⟨by omega,by rw [List.take_add_one,hx]; simp; exact ⟨hno,h16⟩⟩,by omega,qD (by simp),rfl,by simp,by simp⟩
 intro h9
 try simp at h9
 have hR:qZT l s = -1:=by rw [List.take_of_length_le h9] at hno; unfold qZT; rw [if_neg hno]
 refine AW.exit ?_
 simp
 refine rgn [] [[]] ?_
 refine op1 tok ?_
 refine qA ?_
 exact AW.ret (qT (k:=by simp [hR]))
def yQ (q:RS × List UInt8) (ks:List (List UInt8)) (vs:List Val) (v:RS × Val):RS × List (List UInt8) × List Val:=if (qP q.1).bad=true then (qP q.1,ks,vs) else (v.1,jQ ks vs q.2 v.2)
theorem zFS (hG:U8 G) (st:RS) (d:Nat) (v:RS × Val) (ks:List (List UInt8)) (vs:List Val) (hl:st.left.length≤1000000000) (hlen:ks.length=vs.length) (hvl:vs.length≤1000000000) (hv:(qP (qE st).1).bad=false→AX Tryz.prog G 47 [.ptr 2 0,.p (.int .i64 d)] [(2,.vars 85 (rdC (qP (qE st).1)))] (.agg v.2.cells) [2] [(2,.vars 85 (rdC v.1))]):AX Tryz.prog G 113 [.ptr 6 0,.ptr 7 0,.ptr 5 0] [(2,.vars 85 (rdC st)),(5,.vars 42 [.p (.int .i64 7),.p (.int .u64 0),.p (.bool false),.p (.str []),.p (.int .i64 0),.p (.str []),.ms 3,.ms 8,.p (.int .i64 0)]),(6,.vars 83 [.ptr 2 0]),(7,.vars 3 [.p (.int .i64 d)]),(3,.row 9 1 (ks.map PD.str)),(8,.row 42 9 (vs.map Val.enc))] (.tuple []) [2,5,6,7] [(2,.vars 85 (rdC (yQ (qE st) ks vs v).1)),(5,.vars 42 [.p (.int .i64 7),.p (.int .u64 0),.p (.bool false),.p (.str []),.p (.int .i64 0),.p (.str []),.ms 3,.ms 8,.p (.int .i64 0)]),(6,.vars 83 [.ptr 2 0]),(7,.vars 3 [.p (.int .i64 d)]),(3,.row 9 1 ((yQ (qE st) ks vs v).2.1.map PD.str)),(8,.row 42 9 ((yQ (qE st) ks vs v).2.2.map Val.enc))]:=by
 refine AX.introU tok 900 Tryz.func113 (by kernel_rfl) rfl rfl ?_
 simp only [Tryz.f113,qL,List.map_cons,List.map_nil]
 refine rgn [] [[]] ?_
 refine op1 tok ?_
 refine qI ?_
 refine qB.stepK [0,1,2,7] (qZ rfl (qNI hG st hl) (by simp)) (by conv=>lhs; simp) rfl ?_
 refine qB.run [[0,1,2,3]] ?_
 refine op1 tok ?_
 refine qA (AW.seq ?_)
 by_cases hs1:(qE st).1.bad=true
 ·
  generalize qE st=q at *; obtain ⟨⟨l,nn,b,dp,bg⟩,key⟩:=q
  simp only at hs1 hv ⊢
  first | subst hs1 | obtain rfl:b=false:=by simpa using hs1
  refine AW.seqDrawS tok mixed 13 [[0],[0],[9],[10],[11],[12],[0,13],[14,13],[15,13],[13,16],[8],[18],[19,17]] [] [] (by kernel_rfl) ?_
  iterate 6 refine d1 ?_
  iterate 3 refine d2 13 rfl rfl ?_
  iterate 4 refine d1 ?_
  refine DGo.nil (by kernel_rfl) ⟨by kernel_rfl, ?_⟩
  refine qB.nil ?_
  refine rgn [] [[],[],[],[0,1,2,3,23]] ?_
  iterate 4 refine op1 tok ?_
  refine qA (cnd ?_ ?_)
  ·intro h23
   try simp at h23
   rw [show yQ (⟨l,nn,true,dp,bg⟩,key) ks vs v=(⟨l,nn,true,dp,bg⟩,ks,vs) by simp [yQ,qP]]
   exact AW.ret qT
  intro h23
  try simp at h23
 ·
  generalize qE st=q at *; obtain ⟨⟨l,nn,b,dp,bg⟩,key⟩:=q
  simp only at hs1 hv ⊢
  first | subst hs1 | obtain rfl:b=false:=by simpa using hs1
  have htk:=jU (G:=G) ⟨l,nn,false,dp,bg⟩ [58]
  simp only [rdC] at htk
  have hcl:qP ⟨l,nn,false,dp,bg⟩={ (tk [58] ⟨l,nn,false,dp,bg⟩).2 with bad := !(tk [58] ⟨l,nn,false,dp,bg⟩).1 }:=rfl
  rw [hcl] at hv
  simp only [yQ,hcl]
  have htn:=yK [58] ⟨l,nn,false,dp,bg⟩
  have htd:=qOZ [58] ⟨l,nn,false,dp,bg⟩
  have htg:=qEC [58] ⟨l,nn,false,dp,bg⟩
  refine AW.seqDrawS tok mixed 13 [[0],[0],[9],[10],[11],[12],[0,13],[14,13],[15,13],[13,16],[8],[18],[19,17]] [.ref [.str (tk [58] ⟨l,nn,false,dp,bg⟩).2.left,.int .i64 (tk [58] ⟨l,nn,false,dp,bg⟩).2.nodes,.bool (tk [58] ⟨l,nn,false,dp,bg⟩).2.bad,.bool (tk [58] ⟨l,nn,false,dp,bg⟩).2.deep,.bool (tk [58] ⟨l,nn,false,dp,bg⟩).2.big],.bool (tk [58] ⟨l,nn,false,dp,bg⟩).1] [] (by kernel_rfl) ?_
  iterate 6 refine d1 ?_ (hv:=by first | with_reducible exact True.intro | (simpa [qM] using htk; done) | omega | simp | (simp +contextual; omega))
  iterate 3 refine d2 13 rfl rfl ?_ (hv:=by first | with_reducible exact True.intro | (simpa [qM] using htk; done) | omega | simp | (simp +contextual; omega))
  iterate 4 refine d1 ?_ (hv:=by first | with_reducible exact True.intro | (simpa [qM] using htk; done) | omega | simp | (simp +contextual; omega))
  refine DGo.nil (by kernel_rfl) ⟨by kernel_rfl, ?_⟩
  refine qB.nil ?_
  refine rgn [] [[],[],[],[0,1,2,3,23]] ?_
  iterate 4 refine op1 tok ?_
  refine qA (cnd ?_ ?_)
  ·intro h23
   try simp at h23
   rw [if_pos (by simpa using h23)]
   exact AW.ret qT
  intro h23
  try simp at h23
  rw [if_neg (by simpa using h23)]
  have hv:=hv (by simpa using h23)
  obtain ⟨sv,v⟩:=v
  refine AW.skip (rgn [] [[],[]] ?_)
  iterate 2 refine op1 tok ?_
  refine qI ?_
  refine qB.stepK [2,3,26] (qZ rfl hv (by simp [h23,htn,htd,htg])) (by conv=>lhs; simp) rfl ?_
  refine qB.run [[],[2,3,4]] ?_
  iterate 2 refine op1 tok ?_
  refine qA (AW.seq (rgn [] [[],[],[]] ?_))
  iterate 3 refine op1 tok ?_
  refine qI ?_
  refine qB.stepK [2,3,4,30] (qZ rfl (zGG ks key) (by simp)) (by conv=>lhs; simp) rfl ?_
  refine qB.run [[2,3,4,5]] ?_
  refine op1 tok ?_
  refine qA ?_
  have hidx:qZT ks key=if key∈ks then (ks.idxOf key:Int) else -1:=rfl; have hput:jQ ks vs key v=if key∈ks then (ks,vs.set (ks.idxOf key) v) else (ks++[key],vs++[v]):=rfl
  refine rgn [] [[],[2,3,4,5,32]] ?_
  iterate 2 refine op1 tok ?_
  refine qA (cnd ?_ ?_)
  ·intro h32
   try simp at h32
   have hm:key∈ks:=by false_or_by_contra; rename_i hm; rw [if_neg hm] at hidx; omega
   rw [if_pos hm] at hidx hput
   have hi:=List.idxOf_lt_length_iff.2 hm
   rw [hidx,hput]
   obtain ⟨o,ho⟩:∃ o,vs[ks.idxOf key]?=some o:=⟨vs[ks.idxOf key]'(by omega),by simp⟩
   have hio:ks.idxOf key<vs.length:=by omega
   refine rgn [o.enc,v.enc] [[],[],[],[34,35,36],[],[50]] ?_
   iterate 6 refine op1 tok ?_ (hv:=by first | with_reducible exact True.intro | (first | omega | (simp [ho]; done) | (simp [ho,Val.cells,V.fitsL]; done); done) | omega | simp | (simp +contextual; omega))
   refine qA ?_
   exact AW.ret qT
  intro h32
  try simp at h32
  have hm:key ∉ ks:=by intro hm; rw [if_pos hm] at hidx; omega
  rw [hput,if_neg hm]
  refine AW.skip ?_
  refine AW.drawS tok mixed 12 [[2],[38],[3],[40],[39,41],[2],[43],[4],[45],[44,46],[2],[48,42]] [.str key,v.enc] [] (by kernel_rfl) ?_
  iterate 12 refine d1 ?_ (h:=by intro C; conv=>lhs; simp [Value.oneCell']) (hv:=by first | with_reducible exact True.intro | (first | omega | (simp; omega); done) | omega | simp | (simp +contextual; omega))
  refine DGo.nil (by kernel_rfl) ⟨by kernel_rfl, ?_⟩
  refine qB.run [[],[50]] ?_
  iterate 2 refine op1 tok ?_ (h:=by intro C; conv=>lhs; simp [Value.oneCell'])
  refine qI ?_
  refine qB.take 942 3 (by conv=>lhs; simp) ?_
  refine qB.take 947 8 (by conv=>lhs; simp) ?_
  refine qB.nil ?_
  exact qIG
def qEG (n:Nat) (st:RS) (d:Nat):RS × List (List UInt8) × List Val:=if (tk [125] st).1=true then ((tk [125] st).2,[],[]) else wR n (tk [125] st).2 d 1 [] []
theorem qFL {ks:List (List UInt8)} {vs:List Val} (h:ks.length=vs.length) (key:List UInt8) (v:Val):(jQ ks vs key v).1.length=(jQ ks vs key v).2.length∧vs.length≤(jQ ks vs key v).2.length∧(jQ ks vs key v).2.length≤vs.length+1:=by
 unfold jQ; split
 ·simp [h]
 simp [h]
theorem qFP (n : Nat) (st : RS) (d many : Nat) (ks : List (List UInt8)) (vs : List Val) : wR (n + 1) st d many ks vs = if st.bad = true then (st, ks, vs) else if (wW 125 many (yQ (qE st) ks vs (qS n (qP (qE st).1) d)).1).1 = true then ((wW 125 many (yQ (qE st) ks vs (qS n (qP (qE st).1) d)).1).2, (yQ (qE st) ks vs (qS n (qP (qE st).1) d)).2)
  else wR n (wW 125 many (yQ (qE st) ks vs (qS n (qP (qE st).1) d)).1).2 d (many+1) (yQ (qE st) ks vs (qS n (qP (qE st).1) d)).2.1 (yQ (qE st) ks vs (qS n (qP (qE st).1) d)).2.2:=by
 rw [wR]; rfl
theorem qZY (n : Nat) (s : RS) (d : Nat) (ks : List (List UInt8)) (vs : List Val) (hl : ks.length = vs.length) : (yQ (qE s) ks vs (qS n (qP (qE s).1) d)).2.1.length = (yQ (qE s) ks vs (qS n (qP (qE s).1) d)).2.2.length ∧
  (yQ (qE s) ks vs (qS n (qP (qE s).1) d)).1.left.length≤s.left.length∧((yQ (qE s) ks vs (qS n (qP (qE s).1) d)).1.bad=false→(yQ (qE s) ks vs (qS n (qP (qE s).1) d)).1.left.length<s.left.length ∧
   (yQ (qE s) ks vs (qS n (qP (qE s).1) d)).1.nodes+(yQ (qE s) ks vs (qS n (qP (qE s).1) d)).1.left.length≤s.nodes+s.left.length∧(yQ (qE s) ks vs (qS n (qP (qE s).1) d)).2.2.length≤vs.length+1):=by
 have h1:=qAC s
 have h2:=qGF (qE s).1
 have h3:=jX s
 have h4:=uN (qE s).1
 have h5:=(zCE n).1 (qP (qE s).1) d
 have h6:=(zCD n).1 (qP (qE s).1) d
 unfold yQ
 split
 ·rename_i hb
  refine ⟨hl,by simp only; omega,fun h => ?_⟩
  simp only at h
  rw [hb] at h; cases h
 obtain ⟨p1,p2,p3⟩:=qFL hl (qE s).2 (qS n (qP (qE s).1) d).2
 refine ⟨p1,by simp only; omega,fun h => ?_⟩
 have h7:=h5.2 h
 have h8:=h6 h
 exact ⟨by simp only; omega,by simp only; omega,p3⟩
theorem zDC (hG:U8 G) (N:Nat) (st:RS) (d:Nat) (hN:2 * st.left.length+3≤N) (hl:st.left.length≤1000000000) (hk:st.nodes+st.left.length≤10000000000) (hd:d+st.left.length≤10000000000) (hv:qHL G N d):AX Tryz.prog G 111 [.ptr 2 0,.p (.str [125]),.func (.func 113) [] [.ptr 6 0,.ptr 7 0,.ptr 5 0]] [(2,.vars 85 (rdC st)),(5,.vars 42 [.p (.int .i64 7),.p (.int .u64 0),.p (.bool false),.p (.str []),.p (.int .i64 0),.p (.str []),.ms 3,.ms 8,.p (.int .i64 0)]),(6,.vars 83 [.ptr 2 0]),(7,.vars 3 [.p (.int .i64 d)]),(3,.row 9 1 (([]:List (List UInt8)).map PD.str)),(8,.row 42 9 (([]:List Val).map Val.enc))] (.tuple []) [2,5,6,7] [(2,.vars 85 (rdC (qEG N st d).1)),(5,.vars 42 [.p (.int .i64 7),.p (.int .u64 0),.p (.bool false),.p (.str []),.p (.int .i64 0),.p (.str []),.ms 3,.ms 8,.p (.int .i64 0)]),(6,.vars 83 [.ptr 2 0]),(7,.vars 3 [.p (.int .i64 d)]),(3,.row 9 1 ((qEG N st d).2.1.map PD.str)),(8,.row 42 9 ((qEG N st d).2.2.map Val.enc))]:=by
 refine AX.introU tok 900 Tryz.func111 (by kernel_rfl) rfl rfl ?_
 simp only [Tryz.f111,qL,List.map_cons,List.map_nil]
 have hM:qEG N st d=if (tk [125] st).1=true then ((tk [125] st).2,[],[]) else wR N (tk [125] st).2 d 1 [] []:=rfl
 rw [hM]
 have htl:=(uF [125] st).1
 have htn:=yK [125] st
 have htb:=qPA [125] st
 have htd:=qOZ [125] st
 have htg:=qEC [125] st
 refine AW.seq (rgn [] [[],[]] ?_)
 iterate 2 refine op1 tok ?_
 refine qI ?_
 refine qB.stepK [0,1,2,9] (qZ rfl (jU st [125]) (by simp)) (by conv=>lhs; simp) rfl ?_
 refine qB.nil ?_
 refine cnd ?_ ?_
 ·intro h9
  try simp at h9
  rw [if_pos h9]
  exact AW.ret qT
 intro h9
 try simp at h9
 rw [if_neg (by rw [h9]; simp)]
 generalize (tk [125] st).2=sa at *
 refine AW.skip (rgn [] [[]] ?_)
 refine op1 tok ?_
 refine qA (AW.block ?_)
 refine AW.pinsTo [2,5,6,7] (by simp) (by conv=>lhs; simp) ?_
 refine AW.loop (α:=Nat × RS × Nat × List (List UInt8) × List Val) (fun a=>wR N sa d 1 [] []=wR a.1 a.2.1 d a.2.2.1 a.2.2.2.1 a.2.2.2.2∧2 * a.2.1.left.length+3≤a.1∧a.1≤N∧a.2.1.left.length≤st.left.length∧(a.2.1.bad=false→a.2.1.nodes+a.2.1.left.length≤10000000000)∧a.2.2.2.2.length+a.2.1.left.length≤1000000000∧a.2.2.1+a.2.1.left.length≤1000000001∧a.2.2.2.1.length=a.2.2.2.2.length) (fun a=>⟨zD 45 [(0,.ptr 2 0),(1,.p (.str [125])),(2,.func (.func 113) [] [.ptr 6 0,.ptr 7 0,.ptr 5 0]),(6,.p (.int .i64 a.2.2.1))],[2,5,6,7],[(2,.vars 85 (rdC a.2.1)),(5,.vars 42 [.p (.int .i64 7),.p (.int .u64 0),.p (.bool false),.p (.str []),.p (.int .i64 0),.p (.str []),.ms 3,.ms 8,.p (.int .i64 0)]),(6,.vars 83 [.ptr 2 0]),(7,.vars 3 [.p (.int .i64 d)]),(3,.row 9 1 (a.2.2.2.1.map PD.str)),(8,.row 42 9 (a.2.2.2.2.map Val.enc))],900⟩) (fun a=>a.1) ((N,sa,1,[],[])) ⟨rfl,by simp only; omega,by simp,by simp only; omega,fun _=>by simp only; omega,by simp; omega,by simp only; omega,rfl⟩ ⟨qD (by simp),rfl,by simp [htn,htb,htd,htg],by simp⟩ ?_
 rintro ⟨n,s,many,ks,vs⟩ ⟨hq,hf,hfN,hsl,hnl,hvl,hml,hlen⟩
 simp only at hq hf hfN hsl hnl hvl hml hlen
 rw [hq]
 clear hq
 obtain ⟨n,rfl⟩:∃ g,n=g+1:=⟨n-1,by omega⟩
 rw [qFP]
 refine AW.seq (rgn [] [[],[],[],[],[0,1,2,6,14]] ?_)
 iterate 5 refine op1 tok ?_
 refine qA (cnd ?_ ?_)
 ·intro h14
  try simp at h14
  have hb:s.bad=false:=by simpa using h14
  rw [if_neg (by rw [hb]; simp)]
  have hcl:=Nat.le_trans (qGF (qE s).1) (qAC s)
  have hcn:(qP (qE s).1).nodes=s.nodes:=(uN _).trans (jX s)
  have hnb:=hnl hb
  have hvn:=hv n (qP (qE s).1) (by omega) (by omega) (by omega) (by omega) (by omega)
  have hent:=qZY n s d ks vs hlen
  refine AW.skip (AW.seq (AW.block (rgn [] [[]] ?_)))
  refine op1 tok ?_
  refine qI ?_
  refine qB.stepK [0,1,2,6] (qZ rfl (zFS hG s d (qS n (qP (qE s).1) d) ks vs (by omega) hlen (by omega) (fun _=>hvn)) (by simp)) (by conv=>lhs; simp) rfl ?_
  refine qB.nil ?_
  generalize yQ (qE s) ks vs (qS n (qP (qE s).1) d)=A at *; obtain ⟨⟨l,nn,b,dp,bg⟩,ks2,vs2⟩:=A
  simp only at hent ⊢
  clear hvn
  have hdm:decide ((200:Int)<(many:Int))=decide (200<many):=by rw [decide_eq_decide]; omega
  refine rgn [] [[],[],[],[],[],[0,1,2,6,19,24],[],[],[],[0,1,2,6,27,28],[],[0,1,2,6]] ?_
  iterate 6 refine op1 tok ?_
  iterate 2 refine op2 tok ?_
  iterate 4 refine op1 tok ?_
  refine qA (AW.seq ?_)
  by_cases hs6:b=true
  ·
   simp only [hdm]
   first | subst hs6 | obtain rfl:b=false:=by simpa using hs6
   refine rgn [] [[],[],[],[],[0,1,2,6,34],[],[],[],[0,1,2,6,38]] ?_
   iterate 5 refine op1 tok ?_
   iterate 3 refine op2 tok ?_
   refine op1 tok ?_
   refine qA (cnd ?_ ?_)
   ·intro h38
    try simp at h38
    rw [show wW 125 many ⟨l,nn,true,dp,bg⟩=(true,⟨l,nn,true,dp,Bool.or bg (decide (200<many))⟩) by simp [wW]]
    exact AW.ret qT
   intro h38
   try simp at h38
  ·
   simp only [hdm]
   first | subst hs6 | obtain rfl:b=false:=by simpa using hs6
   refine rgn [] [[],[],[],[],[0,1,2,6,34],[],[]] ?_
   iterate 5 refine op1 tok ?_
   iterate 2 refine op2 tok ?_
   refine qI ?_
   refine qB.stepKIf [0,1,2,6,34,37] 34 rfl rfl (qZ rfl (jU ⟨l,nn,false,dp,Bool.or bg (decide (200<many))⟩ [125]) (by simp)) (by simp) (by conv=>lhs; simp) ?_
   refine qB.run [[0,1,2,6,38]] ?_
   refine op1 tok ?_
   refine qA (cnd ?_ ?_)
   ·intro h38
    try simp at h38
    rw [show wW 125 many ⟨l,nn,false,dp,bg⟩=(true,(tk [125] ⟨l,nn,false,dp,Bool.or bg (decide (200<many))⟩).2) by simp [wW,h38]]
    exact AW.ret qT
   intro h38
   try simp at h38
   rw [show wW 125 many ⟨l,nn,false,dp,bg⟩=(false,{ (tk [44] (tk [125] ⟨l,nn,false,dp,Bool.or bg (decide (200<many))⟩).2).2 with bad := !(tk [44] (tk [125] ⟨l,nn,false,dp,Bool.or bg (decide (200<many))⟩).2).1 }) by simp [wW,h38]]
   have hx:=(uF [125] ⟨l,nn,false,dp,Bool.or bg (decide (200<many))⟩).1
   have hy:=(uF [44] (tk [125] ⟨l,nn,false,dp,Bool.or bg (decide (200<many))⟩).2).1
   simp only [Bool.false_eq_true,if_false]
   simp only at hx
   obtain ⟨hlt,hl2,hl3⟩:=hent.2.2 rfl
   refine AW.skip (rgz [] [[],[]] ?_)
   iterate 2 refine op1 tok ?_
   refine qI ?_
   refine qB.stepK [0,1,2,6,39,41] (qZ rfl (jU (tk [125] ⟨l,nn,false,dp,Bool.or bg (decide (200<many))⟩).2 [44]) (by simp)) (by conv=>lhs; simp) rfl ?_
   refine qB.run [[],[],[],[0,1,2,6]] ?_
   iterate 4 refine op1 tok ?_
   refine qA (rgz [] [[],[],[0,1,2,6]] ?_)
   iterate 3 refine op1 tok ?_
   refine qA ?_
   exact ⟨(n,{ (tk [44] (tk [125] ⟨l,nn,false,dp,Bool.or bg (decide (200<many))⟩).2).2 with bad := !(tk [44] (tk [125] ⟨l,nn,false,dp,Bool.or bg (decide (200<many))⟩).2).1 },many+1,ks2,vs2),⟨by simp,by simp only; omega,by omega,by simp only; omega,fun _=>by simp only [yK]; omega,by simp only; omega,by simp only; omega,hent.1⟩,by simp only; omega,qD (by simp),rfl,by simp,by simp⟩
 intro h14
 try simp at h14
 rw [if_pos (show s.bad=true by simpa using h14)]
 refine AW.exit ?_
 simp
 exact qIG
theorem qZF (hG:U8 G) (N:Nat) (st:RS) (d:Nat) (hN:2 * st.left.length+3≤N) (hl:st.left.length≤1000000000) (hk:st.nodes+st.left.length≤10000000000) (hd:d+st.left.length≤10000000000) (hv:qHL G N d):AX Tryz.prog G 80 [.ptr 2 0,.p (.int .i64 d)] [(2,.vars 85 (rdC st))] (.agg (Val.mk 7 0 dc0 [] (qEG N st d).2.1 (qEG N st d).2.2 0).cells) [2] [(2,.vars 85 (rdC (qEG N st d).1))]:=by
 refine AX.introU tok 900 Tryz.func80 (by kernel_rfl) rfl rfl ?_
 simp only [Tryz.f80,qL,List.map_cons,List.map_nil]
 refine rgn [] [[],[],[2,3,4]] ?_
 iterate 3 refine op1 tok ?_
 refine qA (rgn [] [[],[],[2,3,4,5]] ?_)
 iterate 3 refine op1 tok ?_
 refine qA ?_
 refine AW.renE 902 6 (by simp) (by conv=>lhs; simp) ?_
 refine AW.renE 903 7 (by simp) (by conv=>lhs; simp) ?_
 refine AW.renE 905 5 (by simp) (by conv=>lhs; simp) ?_
 refine AW.beginBox 5 3 6 9 1 (by simp; exact ⟨rfl,rfl⟩) (by simp) (by simp) (by conv=>lhs; simp) ?_
 refine AW.beginBox 5 8 7 42 9 (by simp; exact ⟨rfl,rfl⟩) (by simp) (by simp) (by conv=>lhs; simp) ?_
 refine rgn [] [[],[]] ?_
 iterate 2 refine op1 tok ?_
 refine qI ?_
 refine qB.stepK [4,5] (qZ rfl (zDC hG N st d hN hl hk hd hv) (by simp)) (by conv=>lhs; simp) rfl ?_
 refine qB.nil ?_
 refine AW.freeze 3 ?_
 refine AW.freeze 8 ?_
 refine rgn [] [[],[4]] ?_
 iterate 2 refine op1 tok ?_
 refine qA ?_
 exact AW.ret (qT (k:=by simp [dc0]))
def zIR (st:RS) (d:Nat):RS:=⟨st.left,st.nodes+1,st.bad,Bool.or st.deep (decide (12<d)),Bool.or st.big (decide (400<st.nodes+1))⟩
theorem zID (w:List UInt8) (st:RS) (d:Nat):tk w (zIR st d)=if w.isPrefixOf (qV st d).left=true then (true,zB (qV st d) w.length) else (false,qV st d):=rfl
theorem zFA (w:List UInt8) {E:RS} (h:zO E.left=E.left):tk w E=if w.isPrefixOf E.left=true then (true,zB E w.length) else (false,E):=by
 unfold tk; rw [h]; rfl
theorem qKC (w : List UInt8) (k : Nat) {S E : RS} (h : tk w S = if w.isPrefixOf E.left = true then (true, zB E w.length) else (false, E)) (hp : w.isPrefixOf E.left = true) (hk : w.length = k := by rfl) :
  AX Tryz.prog G 78 [.ptr 2 0,.p (.str w)] [(2,.vars 85 (rdC S))] (.p (.bool true)) [2] [(2,.vars 85 (rdC (zB E k)))]:=by
 have:=jU (G:=G) S w
 rw [h,if_pos hp] at this; exact hk ▸ this
theorem qKD (w : List UInt8) {S E : RS} (h : tk w S = if w.isPrefixOf E.left = true then (true, zB E w.length) else (false, E)) (hp : ¬ w.isPrefixOf E.left = true) :
  AX Tryz.prog G 78 [.ptr 2 0,.p (.str w)] [(2,.vars 85 (rdC S))] (.p (.bool false)) [2] [(2,.vars 85 (rdC E))]:=by
 have:=jU (G:=G) S w
 rw [h,if_neg hp] at this; exact this
theorem uW (n : Nat) (st : RS) (d : Nat) : qS (n + 1) st d = if ([91] : List UInt8).isPrefixOf (qV st d).left = true then ((qMO n (zB (qV st d) 1) (d + 1)).1, .mk 6 0 dc0 [] [] (qMO n (zB (qV st d) 1) (d + 1)).2 0)
  else if ([123]:List UInt8).isPrefixOf (qV st d).left=true then ((qEG n (zB (qV st d) 1) (d+1)).1,.mk 7 0 dc0 [] (qEG n (zB (qV st d) 1) (d+1)).2.1 (qEG n (zB (qV st d) 1) (d+1)).2.2 0) else yF (qV st d):=by
 rw [qS]; rfl
attribute [local simp] zB
theorem qMH (hG:U8 G) (n:Nat) (st:RS) (d:Nat) (hN:2 * st.left.length+2≤n+1) (hl:st.left.length≤1000000000) (hk:st.nodes+st.left.length≤10000000000) (hd:d+st.left.length≤10000000000) (ih:∀ e,qHL G n e):AX Tryz.prog G 47 [.ptr 2 0,.p (.int .i64 d)] [(2,.vars 85 (rdC st))] (.agg (qS (n+1) st d).2.cells) [2] [(2,.vars 85 (rdC (qS (n+1) st d).1))]:=by
 refine AX.introU tok 900 Tryz.func47 (by kernel_rfl) rfl rfl ?_
 simp only [Tryz.f47,qL,List.map_cons,List.map_nil]
 rw [uW]
 have htp:=fun w=>zID w st d
 have hEl:zO (qV st d).left=(qV st d).left:=xL _
 have hts:=fun w=>zFA w hEl
 have hle:=qLO st d
 have hen:(qV st d).nodes=st.nodes+1:=rfl
 have hd1:decide ((12:Int)<(d:Int))=decide (12<d):=by rw [decide_eq_decide]; omega
 have hd2:decide ((400:Int)<(st.nodes:Int)+1)=decide (400<st.nodes+1):=by rw [decide_eq_decide]; omega
 refine rgn [] [[]] ?_
 refine op1 tok ?_
 refine qA (rgn [] [[],[],[],[],[],[0,1,4,9,10],[],[0,1,4]] ?_)
 iterate 8 refine op1 tok ?_
 refine qA (rgn [] [[],[],[],[],[],[0,1,4,12,17],[],[],[],[0,1,4,20,21],[],[0,1,4]] ?_)
 iterate 6 refine op1 tok ?_
 iterate 2 refine op2 tok ?_
 iterate 4 refine op1 tok ?_
 refine qA (rgn [] [[],[],[],[],[],[0,1,4,23,28],[],[],[],[],[0,1,4,23,28,33],[],[],[0,1,4,34,36],[0,1,4]] ?_)
 iterate 6 refine op1 tok ?_
 iterate 5 refine op2 tok ?_
 iterate 4 refine op1 tok ?_
 refine qA (AW.seq (AW.block ?_))
 by_cases hs4:([91]:List UInt8).isPrefixOf (qV st d).left=true
 ·
  first | rw [if_pos hs4] | rw [if_neg hs4]
  generalize qV st d=E at *; obtain ⟨el,en,eb,edp,ebg⟩:=E
  simp only at hs4 hle hen hEl
  have hpl:=wD hs4
  simp at hpl
  refine rgn [] [[]] ?_
  refine op1 tok ?_
  refine qI ?_
  refine qB.stepK [0,1,4,39] (qZ rfl (qKC [91] 1 (htp _) hs4) (by simp [zIR,hd1,hd2])) (by conv=>lhs; simp) rfl ?_
  refine qB.run [[0,1,4,37]] ?_
  refine op1 tok ?_
  refine qA (cnd ?_ ?_)
  ·intro h37
   try simp at h37
   refine rgn [] [[],[],[]] ?_
   iterate 3 refine op1 tok ?_
   refine qI ?_
   refine qB.stepK [4,43] (qZ rfl (zGC n (zB ⟨el,en,eb,edp,ebg⟩ 1) (d+1) (by simp [zB]; omega) (by simp [zB]; omega) (by simp [zB]; omega) (by simp [zB]; omega) (ih _)) (by simp [zB])) (by conv=>lhs; simp) rfl ?_
   refine qB.run [[4]] ?_
   refine op1 tok ?_
   refine qA ?_
   exact AW.ret (qT (k:=by simp [dc0]))
  intro h37
  try simp at h37
 ·
  first | rw [if_pos hs4] | rw [if_neg hs4]
  generalize qV st d=E at *; obtain ⟨el,en,eb,edp,ebg⟩:=E
  simp only at hs4 hle hen hEl
  refine rgn [] [[]] ?_
  refine op1 tok ?_
  refine qI ?_
  refine qB.stepK [0,1,4,39] (qZ rfl (qKD [91] (htp _) hs4) (by simp [zIR,hd1,hd2])) (by conv=>lhs; simp) rfl ?_
  refine qB.run [[0,1,4,37]] ?_
  refine op1 tok ?_
  refine qA (cnd ?_ ?_)
  ·intro h37
   try simp at h37
  intro h37
  try simp at h37
  by_cases hs6:([123]:List UInt8).isPrefixOf el=true
  ·
   first | rw [if_pos hs6] | rw [if_neg hs6]
   have hpl:=wD hs6
   simp at hpl
   refine rgn [] [[]] ?_
   refine op1 tok ?_
   refine qI ?_
   refine qB.stepK [0,1,4,46] (qZ rfl (qKC [123] 1 (hts _) hs6) (by simp)) (by conv=>lhs; simp) rfl ?_
   refine qB.run [[0,1,4,44]] ?_
   refine op1 tok ?_
   refine qA (cnd ?_ ?_)
   ·intro h44
    try simp at h44
    refine rgn [] [[],[],[]] ?_
    iterate 3 refine op1 tok ?_
    refine qI ?_
    refine qB.stepK [4,50] (qZ rfl (qZF hG n (zB ⟨el,en,eb,edp,ebg⟩ 1) (d+1) (by simp [zB]; omega) (by simp [zB]; omega) (by simp [zB]; omega) (by simp [zB]; omega) (ih _)) (by simp [zB])) (by conv=>lhs; simp) rfl ?_
    refine qB.run [[4]] ?_
    refine op1 tok ?_
    refine qA ?_
    exact AW.ret (qT (k:=by simp [dc0]))
   intro h44
   try simp at h44
  ·
   first | rw [if_pos hs6] | rw [if_neg hs6]
   unfold yF
   simp only
   refine rgn [] [[]] ?_
   refine op1 tok ?_
   refine qI ?_
   refine qB.stepK [0,1,4,46] (qZ rfl (qKD [123] (hts _) hs6) (by simp)) (by conv=>lhs; simp) rfl ?_
   refine qB.run [[0,1,4,44]] ?_
   refine op1 tok ?_
   refine qA (cnd ?_ ?_)
   ·intro h44
    try simp at h44
   intro h44
   try simp at h44
   by_cases hs8:kX.isPrefixOf el=true
   ·
    first | rw [if_pos hs8] | rw [if_neg hs8]
    refine rgn [] [[]] ?_
    refine op1 tok ?_
    refine qI ?_
    refine qB.stepK [0,4,53] (qZ rfl (qKC kX 4 (hts _) hs8) (by simp [kX])) (by conv=>lhs; simp) rfl ?_
    refine qB.run [[0,4,51]] ?_
    refine op1 tok ?_
    refine qA (cnd ?_ ?_)
    ·intro h51
     try simp at h51
     refine rgn [] [[],[4]] ?_
     iterate 2 refine op1 tok ?_
     refine qA ?_
     refine AW.fillE 904 [none,none,none,none,none,none,some 1,some 9,none] (by conv=>lhs; simp) ?_
     exact AW.ret (qT (k:=by simp [dc0]))
    intro h51
    try simp at h51
   ·
    first | rw [if_pos hs8] | rw [if_neg hs8]
    refine rgn [] [[]] ?_
    refine op1 tok ?_
    refine qI ?_
    refine qB.stepK [0,4,53] (qZ rfl (qKD kX (hts _) hs8) (by simp [kX])) (by conv=>lhs; simp) rfl ?_
    refine qB.run [[0,4,51]] ?_
    refine op1 tok ?_
    refine qA (cnd ?_ ?_)
    ·intro h51
     try simp at h51
    intro h51
    try simp at h51
    by_cases hs10:kW.isPrefixOf el=true
    ·
     first | rw [if_pos hs10] | rw [if_neg hs10]
     refine rgn [] [[]] ?_
     refine op1 tok ?_
     refine qI ?_
     refine qB.stepK [0,4,57] (qZ rfl (qKC kW 4 (hts _) hs10) (by simp [kW])) (by conv=>lhs; simp) rfl ?_
     refine qB.run [[0,4,55]] ?_
     refine op1 tok ?_
     refine qA (cnd ?_ ?_)
     ·intro h55
      try simp at h55
      refine rgn [] [[],[4]] ?_
      iterate 2 refine op1 tok ?_
      refine qA ?_
      refine AW.fillE 904 [none,none,none,none,none,none,some 1,some 9,none] (by conv=>lhs; simp) ?_
      exact AW.ret (qT (k:=by simp [dc0]))
     intro h55
     try simp at h55
    ·
     first | rw [if_pos hs10] | rw [if_neg hs10]
     refine rgn [] [[]] ?_
     refine op1 tok ?_
     refine qI ?_
     refine qB.stepK [0,4,57] (qZ rfl (qKD kW (hts _) hs10) (by simp [kW])) (by conv=>lhs; simp) rfl ?_
     refine qB.run [[0,4,55]] ?_
     refine op1 tok ?_
     refine qA (cnd ?_ ?_)
     ·intro h55
      try simp at h55
     intro h55
     try simp at h55
     by_cases hs12:yG.isPrefixOf el=true
     ·
      first | rw [if_pos hs12] | rw [if_neg hs12]
      refine rgn [] [[]] ?_
      refine op1 tok ?_
      refine qI ?_
      refine qB.stepK [0,4,61] (qZ rfl (qKC yG 5 (hts _) hs12) (by simp [yG])) (by conv=>lhs; simp) rfl ?_
      refine qB.run [[0,4,59]] ?_
      refine op1 tok ?_
      refine qA (cnd ?_ ?_)
      ·intro h59
       try simp at h59
       refine rgn [] [[],[4]] ?_
       iterate 2 refine op1 tok ?_
       refine qA ?_
       refine AW.fillE 904 [none,none,none,none,none,none,some 1,some 9,none] (by conv=>lhs; simp) ?_
       exact AW.ret (qT (k:=by simp [dc0]))
      intro h59
      try simp at h59
     ·
      first | rw [if_pos hs12] | rw [if_neg hs12]
      refine rgn [] [[]] ?_
      refine op1 tok ?_
      refine qI ?_
      refine qB.stepK [0,4,61] (qZ rfl (qKD yG (hts _) hs12) (by simp [yG])) (by conv=>lhs; simp) rfl ?_
      refine qB.run [[0,4,59]] ?_
      refine op1 tok ?_
      refine qA (cnd ?_ ?_)
      ·intro h59
       try simp at h59
      intro h59
      try simp at h59
      refine rgn [.nilp,.bool (([34]:List UInt8).isPrefixOf el)] [[],[],[],[],[0,4,68],[0,4,63]] ?_
      iterate 6 refine op1 tok ?_ (hv:=by first | with_reducible exact True.intro | ((rw [← qER]; exact qQX _ _); done) | omega | simp | (simp +contextual; omega))
      refine qA (cnd ?_ ?_)
      ·intro h63
       rw [if_pos h63]
       refine rgn [] [[]] ?_
       refine op1 tok ?_
       refine qI ?_
       refine qB.stepK [4,70] (qZ rfl (qNI hG ⟨el,en,eb,edp,ebg⟩ (by simp only; omega)) (by simp)) (by conv=>lhs; simp) rfl ?_
       refine qB.run [[],[4]] ?_
       iterate 2 refine op1 tok ?_
       refine qA ?_
       refine AW.fillE 904 [none,none,none,none,none,none,some 1,some 9,none] (by conv=>lhs; simp) ?_
       exact AW.ret (qT (k:=by simp [dc0]))
      intro h63
      rw [if_neg (by rw [h63]; simp)]
      by_cases hs16:el=[]
      ·
       skip
       subst hs16
       refine rgn [.int .u8 0,.int .u8 0,.int .u8 0] [[],[],[],[],[0,4,77],[],[],[],[],[0,4,78,82],[],[],[],[],[0,4,78,85,87],[],[],[],[0,4,78,85,91],[],[],[],[],[0,4,78,85,92,96],[],[],[0,4,78,85,99],[],[0,4,101],[0,4,72]] ?_
       iterate 6 refine op1 tok ?_
       iterate 22 refine op2 tok ?_
       iterate 2 refine op1 tok ?_
       refine qA (cnd ?_ ?_)
       ·intro h72
        try simp at h72
       intro h72
       try simp at h72
       refine AW.skip ?_
       rw [if_neg (by simp)]
       refine rgn [] [[],[],[],[4]] ?_
       iterate 4 refine op1 tok ?_
       refine qA (rgn [] [[],[4]] ?_)
       iterate 2 refine op1 tok ?_
       refine qA ?_
       refine AW.fillE 904 [none,none,none,none,none,none,some 1,some 9,none] (by conv=>lhs; simp) ?_
       exact AW.ret (qT (k:=by simp [zK,dc0]))
      ·
       skip
       obtain ⟨c,t,rfl⟩:∃ c t,el=c::t:=by cases el with | nil=>exact (hs16 rfl).elim | cons c t=>exact ⟨c,t,rfl⟩
       refine rgn [.int .u8 c.toNat,.int .u8 c.toNat,.int .u8 c.toNat] [[],[],[],[],[0,4,77],[],[],[],[],[0,4,78,82],[],[],[],[],[0,4,78,85,87],[],[],[],[0,4,78,85,91],[],[],[],[],[0,4,78,85,92,96],[],[],[0,4,78,85,99],[],[0,4,101],[0,4,72]] ?_
       iterate 6 refine op1 tok ?_ (hv:=by first | with_reducible exact True.intro | (first | (simp; done) | (simp; omega) | (simp +contextual; done); done) | omega | simp | (simp +contextual; omega))
       iterate 22 refine op2 tok ?_ (hv:=by first | with_reducible exact True.intro | (first | (simp; done) | (simp; omega) | (simp +contextual; done); done) | omega | simp | (simp +contextual; omega))
       iterate 2 refine op1 tok ?_ (hv:=by first | with_reducible exact True.intro | (first | (simp; done) | (simp; omega) | (simp +contextual; done); done) | omega | simp | (simp +contextual; omega))
       refine qA (cnd ?_ ?_)
       ·intro h72
        have hb:qQ (List.cons c t) 0=(c.toNat:Int):=rfl
        rw [if_pos (show List.cons c t≠[]∧(qQ (List.cons c t) 0=45∨yN (qQ (List.cons c t) 0)=true) by
         refine ⟨by simp, ?_⟩
         rw [hb]; unfold yN
         simp only [Bool.or_eq_true,Bool.and_eq_true,decide_eq_true_eq] at h72 ⊢
         exact h72)]
        refine rgn [] [[]] ?_
        refine op1 tok ?_
        refine qI ?_
        refine qB.stepK [4,103] (qZ rfl (qZH ⟨List.cons c t,en,eb,edp,ebg⟩ (by simp only; omega)) (by simp)) (by conv=>lhs; simp) rfl ?_
        refine qB.run [[4]] ?_
        refine op1 tok ?_
        refine qA ?_
        exact AW.ret (qT (k:=by simp [dc0]))
       intro h72
       have hb:qQ (List.cons c t) 0=(c.toNat:Int):=rfl
       rw [if_neg (show ¬ (List.cons c t≠[]∧(qQ (List.cons c t) 0=45∨yN (qQ (List.cons c t) 0)=true)) by
        rintro ⟨_,h⟩
        rw [hb] at h; unfold yN at h
        simp only [Bool.or_eq_false_iff,Bool.and_eq_false_iff,decide_eq_false_iff_not] at h72
        simp only [Bool.and_eq_true,decide_eq_true_eq] at h
        omega)]
       refine AW.skip (rgn [] [[],[],[],[4]] ?_)
       iterate 4 refine op1 tok ?_
       refine qA (rgn [] [[],[4]] ?_)
       iterate 2 refine op1 tok ?_
       refine qA ?_
       refine AW.fillE 904 [none,none,none,none,none,none,some 1,some 9,none] (by conv=>lhs; simp) ?_
       exact AW.ret (qT (k:=by simp [zK,dc0]))
end Go.Proofs.YtlmedakhioiahaaGreatDoor
namespace Go.Proofs.YtlmedakhioiahaaGreatDoor
open Sy Go
set_option maxRecDepth 100000
set_option maxHeartbeats 4000000
set_option linter.unusedSimpArgs false
set_option linter.unusedVariables false
variable {G:qO}
theorem zAE (ks:List (List UInt8)) (hn:ks.length≤1000000):AX Tryz.prog G 119 [.p (.sl 1 (ks.map PD.str))] [] (.ms 905) [] [(905,.row 9 1 (ks.map PD.str))]:=by
 refine AX.introU tok 900 Tryz.func119 (by kernel_rfl) rfl rfl ?_
 simp only [Tryz.f119,qL,List.map_cons,List.map_nil]
 refine rgn [] [[0]] ?_
 refine op1 tok ?_
 refine qA (AW.seq (rgn [] [[]] ?_))
 refine op1 tok ?_
 refine qI ?_
 refine qB.nilEq tok [0,4] rfl rfl (by conv=>lhs; simp) trivial rfl ?_
 intro bn1 hbn1
 refine qB.same (by conv=>lhs; simp) ?_
 refine qB.nil ?_
 refine cnd ?_ ?_
 ·intro h4
  try simp at h4
  have hks:ks=[]:=by
   by_cases h:ks=[]
   ·exact h
   rw [hbn1 (by simpa using h)] at h4; cases h4
  subst hks
  refine rgn [] [[]] ?_
  refine op1 tok ?_
  refine qA ?_
  refine AW.beginE 2 905 9 1 (by simp) (by simp) (by conv=>lhs; simp) ?_
  exact AW.ret qT
 intro h4
 try simp at h4
 refine AW.skip (rgn [] [[],[],[],[2]] ?_)
 iterate 4 refine op1 tok ?_
 refine qA ?_
 exact AW.ret qT
theorem zAF (ks:List (List UInt8)) (hn:ks.length≤1000000):AR Tryz.prog G 119 [.sl 1 (ks.map PD.str)] 9 1 (ks.map PD.str):=AR.of_AX (k:=905) (by simpa using zAE ks hn)
theorem zAC (vs:List Val) (hn:vs.length≤1000000):AX Tryz.prog G 120 [.p (.sl 9 (vs.map Val.enc))] [] (.ms 905) [] [(905,.row 42 9 (vs.map Val.enc))]:=by
 refine AX.introU tok 900 Tryz.func120 (by kernel_rfl) rfl rfl ?_
 simp only [Tryz.f120,qL,List.map_cons,List.map_nil]
 refine rgn [] [[0]] ?_
 refine op1 tok ?_
 refine qA (AW.seq (rgn [] [[]] ?_))
 refine op1 tok ?_
 refine qI ?_
 refine qB.nilEq tok [0,4] rfl rfl (by conv=>lhs; simp) trivial rfl ?_
 intro bn1 hbn1
 refine qB.same (by conv=>lhs; simp) ?_
 refine qB.nil ?_
 refine cnd ?_ ?_
 ·intro h4
  try simp at h4
  have hks:vs=[]:=by
   by_cases h:vs=[]
   ·exact h
   rw [hbn1 (by simpa using h)] at h4; cases h4
  subst hks
  refine rgn [] [[]] ?_
  refine op1 tok ?_
  refine qA ?_
  refine AW.beginE 2 905 42 9 (by simp) (by simp) (by conv=>lhs; simp) ?_
  exact AW.ret qT
 intro h4
 try simp at h4
 refine AW.skip (rgn [] [[],[],[],[2]] ?_)
 iterate 4 refine op1 tok ?_
 refine qA ?_
 exact AW.ret qT
theorem zAD (vs:List Val) (hn:vs.length≤1000000):AR Tryz.prog G 120 [.sl 9 (vs.map Val.enc)] 42 9 (vs.map Val.enc):=AR.of_AX (k:=905) (by simpa using zAC vs hn)
def xQ (ch:Val→Val) (v:Val) (k:Nat):List PD:=(v.kids.take k).map (fun u=>(qAT ch u).enc)++(v.kids.drop k).map Val.enc
theorem qVL (ch:Val→Val) (v:Val) (k:Nat):(xQ ch v k).length=v.kids.length:=by
 simp only [xQ,List.length_append,List.length_map,List.length_take,List.length_drop]; omega
@[simp] theorem zHM (ch:Val→Val) (v:Val):xQ ch v 0=v.kids.map Val.enc:=by simp only [xQ,List.take_zero,List.map_nil,List.nil_append,List.drop_zero]
theorem qVM {ch:Val→Val} {v x:Val} {k:Nat} (hx:v.kids[k]?=some x):(xQ ch v k)[k]?=some x.enc:=by
 have hk:=(List.getElem?_eq_some_iff.1 hx).1
 have h0:((v.kids.take k).map (fun u=>(qAT ch u).enc)).length=k:=by simp only [List.length_map,List.length_take]; omega
 rw [xQ,List.getElem?_append_right (by omega),h0,Nat.sub_self,List.getElem?_map,List.getElem?_drop,Nat.add_zero,hx]; rfl
theorem qVK {ch:Val→Val} {v x:Val} {k:Nat} (hx:v.kids[k]?=some x):(xQ ch v k).set k (qAT ch x).enc=xQ ch v (k+1):=by
 have hk:=(List.getElem?_eq_some_iff.1 hx).1
 have hxk:=(List.getElem?_eq_some_iff.1 hx).2
 have h0:((v.kids.take k).map (fun u=>(qAT ch u).enc)).length=k:=by simp only [List.length_map,List.length_take]; omega
 rw [xQ,List.set_append_right _ _ (by omega),h0,Nat.sub_self,List.drop_eq_getElem_cons hk,xQ,List.take_succ_eq_append_getElem hk,hxk]
 simp only [List.map_cons,List.set_cons_zero,List.map_append,List.map_nil,List.append_assoc,List.cons_append,List.nil_append]
theorem qSZ (g:FuncId) (ch:Val→Val) (v:Val) (hg:∀ u:Val,AX Tryz.prog G g [.ptr 2 0] [(2,.vars 42 u.cells)] (.tuple []) [2] [(2,.vars 42 (ch u).cells)]) (hsm:v.keys.length≤1000000∧v.kids.length≤1000000) (ih:∀ k∈v.kids,AFn Tryz.prog G 84 [k.enc,.fn g] (qAT ch k).enc):AFn Tryz.prog G 84 [v.enc,.fn g] ((qAT ch v).enc):=by
 refine AFn.introU tok Tryz.func84 (by kernel_rfl) rfl rfl ?_
 simp only [Tryz.f84,qL,List.map_cons,List.map_nil]
 have hck:=zAF (G:=G) v.keys (by omega)
 have hcv:=zAD (G:=G) v.kids (by omega)
 refine rgn [] [[],[1,2,4]] ?_
 iterate 2 refine op1 tok ?_
 refine qA ?_
 refine AW.seqRunDrawK tok mixed [1,2,4] 8 [[2],[7],[8],[2],[10],[11],[2],[13,9]] [.nilf,.sl 1 (v.keys.map PD.str),.clo 9 [],.nilf,.sl 9 (v.kids.map Val.enc),.clo 42 []] [] (by kernel_rfl) (by intro C; conv=>lhs; simp) (by first | exact hck | exact hcv | ((repeat' (first | with_reducible apply And.intro | intro _)) <;> first | exact (hck) | exact (hcv) | assumption | omega | contradiction | simp_all)) (by simp [Sm.sum,Sm.foot,Sm.tch,Sm.refs]; kernel_rfl) (by intro C; conv=>lhs; simp) (by first | with_reducible exact True.intro | omega | simp | (simp +contextual; omega)) ?_
 refine AW.seq (rgn [] [[],[],[],[1,2,4,16,17,18]] ?_)
 iterate 4 refine op1 tok ?_
 refine qA (AW.block ?_)
 refine AW.loop (α:=Nat) (fun k=>k≤v.kids.length) (fun k=>⟨zD 34 [(1,.p (.fn g)),(2,.ptr 2 0),(4,.ptr 4 0),(16,.ms 12),(17,.p (.int .i64 v.kids.length)),(18,.p (.int .i64 k))],[],[(2,.vars 42 [.p (.int .i64 v.kind),.p (.int .u64 v.mask),.p (.bool v.num.neg),.p (.str v.num.digits),.p (.int .i64 v.num.scale),.p (.str v.text),.ms 9,.ms 12,.p (.int .i64 v.code)]),(4,.vars 42 [.p (.int .i64 0),.p (.int .u64 0),.p (.bool false),.p (.str []),.p (.int .i64 0),.p (.str []),.nilsl,.nilsl,.p (.int .i64 0)]),(9,.row 9 1 (v.keys.map PD.str)),(12,.row 42 9 (xQ ch v k))],0⟩) (fun k=>v.kids.length-k) (0) (by simp) ⟨qD (by simp),rfl,by simp,by simp⟩ ?_
 rintro k hk
 refine rgn [] [[]] ?_
 refine op1 tok ?_
 refine qA (AW.seq (cnd ?_ ?_))
 ·intro h19
  try simp at h19
  obtain ⟨x,hx⟩:∃ x,v.kids[k]?=some x:=⟨v.kids[k],by simp [h19]⟩
  have hx':=qVM (ch:=ch) hx
  have hkl:=qVL ch v k
  have hix:=ih x (List.mem_of_getElem? hx)
  have hset:=qVK (ch:=ch) hx
  simp only [Val.enc_def] at hx' hix hset
  refine AW.skip (AW.seq (AW.block (rgn [x.enc] [[],[],[],[],[],[1,2,4,5,6,16,17,18]] ?_)))
  iterate 6 refine oq1 tok hx' ?_
  refine qA ?_
  refine AW.runDrawK tok mixed [1,2,4,16,17,18] 6 [[2],[23],[5],[6],[1],[26,27]] [.nilp,(qAT ch x).enc] [x.enc,(qAT ch x).enc] (by kernel_rfl) (by intro C; conv=>lhs; simp) (by first | exact hix | ((repeat' (first | with_reducible apply And.intro | intro _)) <;> first | exact (hix) | exact (hx') | assumption | omega | contradiction | simp_all)) (by simp [Sm.sum,Sm.foot,Sm.tch,Sm.refs]; kernel_rfl) (by intro C; conv=>lhs; simp) (by exact ⟨by omega,hx'⟩) ?_
  refine rgz [] [[],[1,2,4,16,17,18]] ?_
  iterate 2 refine op1 tok ?_
  refine qA ?_
  exact ⟨k+1,(by omega),(by omega),qD (by simp [hset]),rfl,by simp [hset],by simp [hset]⟩
 intro h19
 try simp at h19
 obtain rfl:k=v.kids.length:=by omega
 have hfull:xQ ch v v.kids.length=(v.kids.map (qAT ch)).map Val.enc:=by simp only [xQ,List.take_length,List.drop_length,List.map_nil,List.append_nil,List.map_map]; rfl
 rw [hfull]
 refine AW.exit ?_
 simp
 refine rgn [] [[]] ?_
 refine op1 tok ?_
 refine qI ?_
 refine qB.freeze 9 (by conv=>lhs; simp) ?_
 refine qB.freeze 12 (by conv=>lhs; simp) ?_
 refine qB.stepK [2,4] (qZ rfl (hg (.mk v.kind v.mask v.num v.text v.keys (v.kids.map (qAT ch)) v.code)) (by simp)) (by conv=>lhs; simp) rfl ?_
 refine qB.nil ?_
 refine rgn [] [[],[4]] ?_
 iterate 2 refine op1 tok ?_
 refine qA ?_
 exact AW.ret (qK (k:=by simp [qXL ch v]))
inductive Few:Val→Prop
 | mk {v:Val} (h1:v.keys.length≤1000000) (h2:v.kids.length≤1000000) (h3:∀ k∈v.kids,Few k):Few v
theorem qVH (g:FuncId) (ch:Val→Val) (hg:∀ u:Val,AX Tryz.prog G g [.ptr 2 0] [(2,.vars 42 u.cells)] (.tuple []) [2] [(2,.vars 42 (ch u).cells)]) (v:Val) (hv:Few v):AFn Tryz.prog G 84 [v.enc,.fn g] (qAT ch v).enc:=by
 induction hv with
 | mk h1 h2 h3 ih=>exact qSZ g ch _ hg ⟨h1,h2⟩ ih
theorem zAH (u:Val):AX Tryz.prog G 85 [.ptr 2 0] [(2,.vars 42 u.cells)] (.tuple []) [2] [(2,.vars 42 (id u).cells)]:=by
 refine AX.introU tok 900 Tryz.func85 (by kernel_rfl) rfl rfl ?_
 simp only [Tryz.f85,qL,List.map_cons,List.map_nil]
 refine AW.skip ?_
 exact qIG
theorem zAG (v:Val) (hv:Few v):AFn Tryz.prog G 48 [v.enc] (v.enc):=by
 refine AFn.introU tok Tryz.func48 (by kernel_rfl) rfl rfl ?_
 simp only [Tryz.f48,qL,List.map_cons,List.map_nil]
 have hm:=qVH (G:=G) 85 id zAH v hv
 rw [zGB] at hm
 simp only [Val.enc_def] at hm
 refine rgn [] [[],[1,2]] ?_
 iterate 2 refine op1 tok ?_
 refine qA (rgn [.nilp,v.enc] [[],[],[2]] ?_)
 iterate 3 refine oq1 tok hm ?_
 exact qA (AW.ret qK)
theorem qQD {v:Val} (h1:v.keys=[]) (h2:v.kids=[]):Few v := .mk (by rw [h1]; simp) (by rw [h2]; simp) (by rw [h2]; simp)
theorem xX (c:UInt8) (many:Nat) (st:RS) (h:(wW c many st).2.big=false):st.big=false:=by
 unfold wW at h; simp only at h; split at h
 ·simp only [Bool.or_eq_false_iff] at h; exact h.1
 split at h
 ·rw [qEC] at h; simp only [Bool.or_eq_false_iff] at h; exact h.1
 simp only [qEC,Bool.or_eq_false_iff] at h; exact h.1
theorem qEE (st:RS) (h:(qE st).1.big=false):st.big=false:=by
 unfold qE jY at h; split at h
 ·exact h
 split at h
 ·cases h
 exact h
theorem qOL (st:RS) (h:(qP st).big=false):st.big=false:=by
 unfold qP at h; split at h
 ·exact h
 simpa using h
theorem qOH (st:RS) (d:Nat) (h:(qV st d).big=false):st.big=false∧st.nodes+1≤400:=by
 simp only [qV,Bool.or_eq_false_iff,decide_eq_false_iff_not] at h; exact ⟨h.1,by omega⟩
theorem qTZ (st:RS) (h:(yF st).1.big=false):st.big=false∧Few (yF st).2:=by
 unfold yF at h ⊢
 split
 ·rename_i c; rw [if_pos c] at h; exact ⟨h,qQD rfl rfl⟩
 rename_i c; rw [if_neg c] at h
 split
 ·rename_i c; rw [if_pos c] at h; exact ⟨h,qQD rfl rfl⟩
 rename_i c; rw [if_neg c] at h
 split
 ·rename_i c; rw [if_pos c] at h; exact ⟨h,qQD rfl rfl⟩
 rename_i c; rw [if_neg c] at h
 split
 ·rename_i c; rw [if_pos c] at h; exact ⟨qEE st h,qQD rfl rfl⟩
 rename_i c; rw [if_neg c] at h
 split
 ·rename_i c; rw [if_pos c] at h
  simp only [wS,Bool.or_eq_false_iff] at h; exact ⟨h.1,qQD rfl rfl⟩
 rename_i c; rw [if_neg c] at h; exact ⟨h,qQD rfl rfl⟩
theorem zGJ {ks:List (List UInt8)} {vs:List Val} {key:List UInt8} {v:Val} (h:∀ u∈vs,Few u) (hv:Few v):∀ u∈(jQ ks vs key v).2,Few u:=by
 unfold jQ; split
 ·intro u hu
  rcases List.mem_or_eq_of_mem_set hu with h1 | h1
  ·exact h u h1
  exact h1 ▸ hv
 intro u hu
 rcases List.mem_append.1 hu with h1 | h1
 ·exact h u h1
 exact List.mem_singleton.1 h1 ▸ hv
theorem zDU:∀ n:Nat,(∀ st d,(qS n st d).1.big=false→st.big=false∧(n≠0→(qV st d).big=false))∧(∀ st d many vs,(yP n st d many vs).1.big=false→st.big=false)∧(∀ st d many ks vs,(wR n st d many ks vs).1.big=false→st.big=false)
 | 0=>⟨fun st d h=>⟨by simpa [qS] using h,fun h=>(h rfl).elim⟩,fun st d many vs h=>by simpa [yP] using h,fun st d many ks vs h=>by simpa [wR] using h⟩
 | n+1=>by
  obtain ⟨ih1,ih2,ih3⟩:=zDU n
  refine ⟨fun st d hb => ?_,fun st d many vs hb => ?_,fun st d many ks vs hb => ?_⟩
  ·have key:(qV st d).big=false→st.big=false∧(n+1≠0→(qV st d).big=false):=fun h=>⟨(qOH st d h).1,fun _=>h⟩
   rw [uW] at hb
   split at hb
   ·refine key ?_
    unfold qMO at hb
    split at hb
    ·simpa [zB] using hb
    have:=ih2 _ _ _ _ hb; simpa [zB] using this
   split at hb
   ·refine key ?_
    unfold qEG at hb
    split at hb
    ·simpa [zB] using hb
    have:=ih3 _ _ _ _ _ hb; simpa [zB] using this
   exact key (qTZ _ hb).1
  ·rw [qCD] at hb
   split at hb
   ·exact hb
   split at hb
   ·exact (ih1 st d (xX _ _ _ hb)).1
   exact (ih1 st d (xX _ _ _ (ih2 _ _ _ _ hb))).1
  rw [qFP] at hb
  have he:(yQ (qE st) ks vs (qS n (qP (qE st).1) d)).1.big=false→st.big=false:=by
   unfold yQ
   split
   ·exact fun h=>qEE _ (qOL _ h)
   exact fun h=>qEE _ (qOL _ (ih1 _ _ h).1)
  split at hb
  ·exact hb
  split at hb
  ·exact he (xX _ _ _ hb)
  exact he (xX _ _ _ (ih3 _ _ _ _ _ hb))
theorem qTL : ∀ n : Nat, (∀ st d, st.nodes ≤ 400 → (qS n st d).1.big = false → st.nodes ≤ (qS n st d).1.nodes ∧ (qS n st d).1.nodes ≤ 400 ∧ Few (qS n st d).2 ∧ ((qS n st d).1.bad = false → st.nodes + 1 ≤ (qS n st d).1.nodes)) ∧
  (∀ st d many vs,st.nodes≤400→(∀ v∈vs,Few v)→(yP n st d many vs).1.big=false→st.nodes≤(yP n st d many vs).1.nodes∧(yP n st d many vs).1.nodes≤400∧(yP n st d many vs).2.length+st.nodes≤vs.length+(yP n st d many vs).1.nodes+1∧∀ v∈(yP n st d many vs).2,Few v) ∧
  (∀ st d many ks vs,st.nodes≤400→ks.length=vs.length→(∀ v∈vs,Few v)→(wR n st d many ks vs).1.big=false→st.nodes≤(wR n st d many ks vs).1.nodes∧(wR n st d many ks vs).1.nodes≤400∧(wR n st d many ks vs).2.1.length=(wR n st d many ks vs).2.2.length∧(wR n st d many ks vs).2.2.length+st.nodes≤vs.length+(wR n st d many ks vs).1.nodes+1∧∀ v∈(wR n st d many ks vs).2.2,Few v)
 | 0=>⟨fun st d hn h=>⟨by simp [qS],by simpa [qS] using hn,qQD (by simp [qS,zK,Val.keys]) (by simp [qS,zK,Val.kids]),fun h=>by simp [qS] at h⟩,fun st d many vs hn hf h=>⟨by simp [yP],by simpa [yP] using hn,by simp only [yP]; omega,by simpa [yP] using hf⟩,fun st d many ks vs hn hl hf h=>⟨by simp [wR],by simpa [wR] using hn,by simpa [wR] using hl,by simp only [wR]; omega,by simpa [wR] using hf⟩⟩
 | n+1=>by
  obtain ⟨ih1,ih2,ih3⟩:=qTL n
  refine ⟨fun st d hn hb => ?_,fun st d many vs hn hf hb => ?_,fun st d many ks vs hn hl hf hb => ?_⟩
  ·have hen:(qV st d).nodes=st.nodes+1:=rfl
   have heb:=((zDU (n+1)).1 st d hb).2 (by omega)
   have h4:=(qOH st d heb).2
   rw [uW] at hb ⊢
   have hdn:(zB (qV st d) 1).nodes=st.nodes+1:=rfl
   generalize zB (qV st d) 1=D at *
   split
   ·rename_i hp
    rw [if_pos hp] at hb
    unfold qMO at hb ⊢
    by_cases ht:(tk [93] D).1=true
    ·rw [if_pos ht]
     simp only [yK]
     exact ⟨by omega,by omega,qQD rfl rfl,fun _=>by omega⟩
    rw [if_neg ht] at hb ⊢
    obtain ⟨h2,h3,h5,h6⟩:=ih2 (tk [93] D).2 (d+1) 1 [] (by rw [yK]; omega) (fun v hv=>by cases hv) hb
    rw [yK] at h2 h5
    exact ⟨by simp only; omega,h3,.mk (by simp [Val.keys]) (by simp [Val.kids] at h5 ⊢; omega) (by simpa [Val.kids] using h6),fun _=>by simp only; omega⟩
   rename_i hp
   rw [if_neg hp] at hb
   split
   ·rename_i hp
    rw [if_pos hp] at hb
    unfold qEG at hb ⊢
    by_cases ht:(tk [125] D).1=true
    ·rw [if_pos ht]
     simp only [yK]
     exact ⟨by omega,by omega,qQD rfl rfl,fun _=>by omega⟩
    rw [if_neg ht] at hb ⊢
    obtain ⟨h2,h3,h7,h5,h6⟩:=ih3 (tk [125] D).2 (d+1) 1 [] [] (by rw [yK]; omega) rfl (fun v hv=>by cases hv) hb
    rw [yK] at h2 h5
    exact ⟨by simp only; omega,h3,.mk (by simp [Val.keys] at h5 h7 ⊢; omega) (by simp [Val.kids] at h5 ⊢; omega) (by simpa [Val.kids] using h6),fun _=>by simp only; omega⟩
   rename_i hp
   rw [if_neg hp] at hb
   have:=qLY (qV st d)
   exact ⟨by omega,by omega,(qTZ _ hb).2,fun _=>by omega⟩
  ·rw [qCD] at hb ⊢
   split
   ·exact ⟨Nat.le_refl _,hn,by simp only; omega,hf⟩
   rename_i hc
   rw [if_neg hc] at hb
   have hsn:=qDC 93 many (qS n st d).1
   split
   ·rename_i hs
    rw [if_pos hs] at hb
    obtain ⟨h1,h2,h3,h4⟩:=ih1 st d hn (xX _ _ _ hb)
    refine ⟨by simp only; omega,by simp only; omega,by simp only [List.length_append,List.length_cons,List.length_nil]; omega,fun v hv => ?_⟩
    rcases List.mem_append.1 hv with h | h
    ·exact hf v h
    exact List.mem_singleton.1 h ▸ h3
   rename_i hs
   rw [if_neg hs] at hb
   have hbb:=qRY 93 many (qS n st d).1 (by simpa using hs)
   obtain ⟨h1,h2,h3,h4⟩:=ih1 st d hn (xX _ _ _ ((zDU n).2.1 _ _ _ _ hb))
   have h4:=h4 hbb
   obtain ⟨h5,h6,h7,h8⟩:=ih2 (wW 93 many (qS n st d).1).2 d (many+1) (vs++[(qS n st d).2]) (by omega) (fun v hv=>by
    rcases List.mem_append.1 hv with h | h
    ·exact hf v h
    exact List.mem_singleton.1 h ▸ h3) hb
   rw [List.length_append,List.length_cons,List.length_nil] at h7
   exact ⟨by omega,h6,by omega,h8⟩
  rw [qFP] at hb ⊢
  split
  ·exact ⟨Nat.le_refl _,hn,hl,by simp only; omega,hf⟩
  rename_i hc
  rw [if_neg hc] at hb
  have hE : (yQ (qE st) ks vs (qS n (qP (qE st).1) d)).1.big = false → st.nodes ≤ (yQ (qE st) ks vs (qS n (qP (qE st).1) d)).1.nodes ∧ (yQ (qE st) ks vs (qS n (qP (qE st).1) d)).1.nodes ≤ 400 ∧
    (yQ (qE st) ks vs (qS n (qP (qE st).1) d)).2.1.length=(yQ (qE st) ks vs (qS n (qP (qE st).1) d)).2.2.length∧(yQ (qE st) ks vs (qS n (qP (qE st).1) d)).2.2.length≤vs.length+1 ∧
    (∀ v∈(yQ (qE st) ks vs (qS n (qP (qE st).1) d)).2.2,Few v)∧((yQ (qE st) ks vs (qS n (qP (qE st).1) d)).1.bad=false→st.nodes+1≤(yQ (qE st) ks vs (qS n (qP (qE st).1) d)).1.nodes):=by
   have hcn:(qP (qE st).1).nodes=st.nodes:=(uN _).trans (jX st)
   unfold yQ
   split
   ·rename_i hcb
    exact fun _=>⟨by simp only; omega,by simp only; omega,hl,by simp only; omega,hf,fun h=>by simp only at h; rw [hcb] at h; cases h⟩
   intro h
   obtain ⟨h1,h2,h3,h4⟩:=ih1 (qP (qE st).1) d (by omega) h
   obtain ⟨p1,p2,p3⟩:=qFL hl (qE st).2 (qS n (qP (qE st).1) d).2
   exact ⟨by simp only; omega,h2,p1,p3,zGJ hf h3,fun h=>by have:=h4 h; simp only; omega⟩
  generalize yQ (qE st) ks vs (qS n (qP (qE st).1) d)=A at *
  have hsn:=qDC 125 many A.1
  split
  ·rename_i hs
   rw [if_pos hs] at hb
   obtain ⟨h1,h2,h3,h4,h5,h6⟩:=hE (xX _ _ _ hb)
   exact ⟨by simp only; omega,by simp only; omega,h3,by simp only; omega,h5⟩
  rename_i hs
  rw [if_neg hs] at hb
  have hbb:=qRY 125 many A.1 (by simpa using hs)
  obtain ⟨h1,h2,h3,h4,h5,h6⟩:=hE (xX _ _ _ ((zDU n).2.2 _ _ _ _ _ hb))
  have h6:=h6 hbb
  obtain ⟨g1,g2,g3,g4,g5⟩:=ih3 (wW 125 many A.1).2 d (many+1) A.2.1 A.2.2 (by omega) h3 h5 hb
  exact ⟨by omega,g2,g3,by omega,g5⟩
theorem qGN (hG:U8 G):∀ N d,qHL G N d
 | 0,d=>fun m s h=>absurd h (by omega)
 | N+1,d=>fun m s hm h1 h2 h3 h4=>by
  by_cases h:m<N
  ·exact qGN hG N d m s h h1 h2 h3 h4
  obtain rfl:m=N:=by omega
  obtain ⟨n,rfl⟩:∃ n,m=n+1:=⟨m-1,by omega⟩
  exact qMH hG n s d h1 h2 h3 h4 fun e k t hk=>qGN hG (n+1) e k t (by omega)
theorem zIW (hG:U8 G) (s:List UInt8) (hs:s.length≤1000000000):AFn Tryz.prog G 25 [.str s] (.tup [(wA s).1.enc,.int .i64 (wA s).2.1,.int .i64 (wA s).2.2]):=by
 refine AFn.introU tok Tryz.func25 (by kernel_rfl) rfl rfl ?_
 simp only [Tryz.f25,qL,List.map_cons,List.map_nil]
 have hv:=qGN hG (2 * s.length+3) 1 (2 * s.length+2) ⟨s,0,false,false,false⟩ (by omega) (by simp only; omega) (by simp only; omega) (by simp only; omega) (by simp only; omega)
 have hfw:=(qTL (2 * s.length+2)).1 ⟨s,0,false,false,false⟩ 1 (by simp)
 have hle:=((zCE (2 * s.length+2)).1 ⟨s,0,false,false,false⟩ 1).1
 have hM:wA s=if (qS (2 * s.length+2) ⟨s,0,false,false,false⟩ 1).1.bad=true then (zK,0,10) else if (qS (2 * s.length+2) ⟨s,0,false,false,false⟩ 1).1.deep=true then (zK,0,11) else if (qS (2 * s.length+2) ⟨s,0,false,false,false⟩ 1).1.big=true then (zK,0,3) else ((qS (2 * s.length+2) ⟨s,0,false,false,false⟩ 1).2,(s.length:Int)-(qS (2 * s.length+2) ⟨s,0,false,false,false⟩ 1).1.left.length,0):=rfl
 rw [hM]
 generalize qS (2 * s.length+2) ⟨s,0,false,false,false⟩ 1=r at *
 obtain ⟨⟨l,nn,b,dp,bg⟩,v⟩:=r
 simp only at hle hfw ⊢
 refine rgn [] [[],[],[0,2]] ?_
 iterate 3 refine op1 tok ?_
 refine qA (rgn [] [[],[],[],[0,2,5]] ?_)
 iterate 4 refine op1 tok ?_
 refine qA ?_
 refine AW.renE 2 50 (by simp) (by conv=>lhs; simp) ?_
 refine AW.renE 9 2 (by simp) (by conv=>lhs; simp) ?_
 refine rgn [] [[]] ?_
 refine op1 tok ?_
 refine qI ?_
 refine qB.stepK [0,2,5,11] (qZ rfl hv (by simp)) (by conv=>lhs; simp) rfl ?_
 refine qB.run [[],[0,2,5,6]] ?_
 iterate 2 refine op1 tok ?_
 refine qA (AW.seq (AW.block (rgn [] [[],[],[],[],[0,2,5,6,12]] ?_)))
 iterate 5 refine op1 tok ?_
 refine qA (cnd ?_ ?_)
 ·intro h12
  try simp at h12
  subst h12
  rw [if_pos rfl]
  refine rgn [] [[],[],[],[2,3,4]] ?_
  iterate 4 refine op1 tok ?_
  refine qA ?_
  exact AW.ret (qK (k:=by simp [zK,dc0]))
 intro h12
 try simp at h12
 rw [if_neg (by rw [h12]; simp)]
 refine rgn [] [[],[],[],[],[0,2,5,6,18]] ?_
 iterate 5 refine op1 tok ?_
 refine qA (cnd ?_ ?_)
 ·intro h18
  try simp at h18
  subst h18
  rw [if_pos rfl]
  refine rgn [] [[],[],[],[2,3,4]] ?_
  iterate 4 refine op1 tok ?_
  refine qA ?_
  exact AW.ret (qK (k:=by simp [zK,dc0]))
 intro h18
 try simp at h18
 rw [if_neg (by rw [h18]; simp)]
 refine rgn [] [[],[],[],[],[0,2,5,6,24]] ?_
 iterate 5 refine op1 tok ?_
 refine qA (cnd ?_ ?_)
 ·intro h24
  try simp at h24
  subst h24
  rw [if_pos rfl]
  refine rgn [] [[],[],[],[2,3,4]] ?_
  iterate 4 refine op1 tok ?_
  refine qA ?_
  exact AW.ret (qK (k:=by simp [zK,dc0]))
 intro h24
 try simp at h24
 rw [if_neg (by rw [h24]; simp)]
 have hcl:=zAG (G:=G) v (hfw h24).2.2.1
 simp only [Val.enc_def] at hcl
 refine AW.skip ?_
 refine AW.seqDrawS tok mixed 11 [[6],[30],[0],[32],[5],[34],[35],[36],[37],[33,38],[2,31]] [.nilp,v.enc] [] (by kernel_rfl) ?_
 iterate 11 refine dq1 hcl ?_
 refine DGo.nil (by kernel_rfl) ⟨by kernel_rfl, ?_⟩
 refine qB.run [[],[2,3,4]] ?_
 iterate 2 refine op1 tok ?_
 exact qA (AW.ret qK)
end Go.Proofs.YtlmedakhioiahaaGreatDoor
