import Derived.Test.YtlmedakhioiahaaGreatDoorK2
import Derived.Test.YtlmedakhioiahaaGreatDoorK1
import Derived.Test.YtlmedakhioiahaaGreatDoorM3
import Derived.Shelf.Strings.OnBuilder
import Derived.Shelf.LaysC
import Derived.Shelf.Strconv.AtoiAll
import Derived.Test.YtlmedakhioiahaaGreatDoorProg
import Derived.Lib.AtoiTie
namespace Go.Proofs.YtlmedakhioiahaaGreatDoor
open Sy Go
set_option linter.unusedSimpArgs false
set_option linter.unusedVariables false
def zK:Val := .mk 0 0 dc0 [] [] [] 0
@[simp] theorem zJG:zK.kind=0:=rfl
@[simp] theorem zJF:zK.mask=0:=rfl
@[simp] theorem zLH:zK.num.neg=false:=rfl
@[simp] theorem zGB:zK.num.digits=[]:=rfl
@[simp] theorem zIT:zK.num.scale=0:=rfl
@[simp] theorem zJE:zK.text=[]:=rfl
@[simp] theorem zJI:zK.keys=[]:=rfl
@[simp] theorem zJH:zK.kids=[]:=rfl
@[simp] theorem zJJ:zK.code=0:=rfl
def qSS (v:Val) (m:Int):Val := .mk v.kind m v.num v.text v.keys v.kids v.code
@[simp] theorem zLM (u:Val) (m:Int):(qSS u m).kind=u.kind:=rfl
@[simp] theorem zLL (u:Val) (m:Int):(qSS u m).mask=m:=rfl
@[simp] theorem zNN (u:Val) (m:Int):(qSS u m).num=u.num:=rfl
@[simp] theorem zLK (u:Val) (m:Int):(qSS u m).text=u.text:=rfl
@[simp] theorem zLO (u:Val) (m:Int):(qSS u m).keys=u.keys:=rfl
@[simp] theorem zLN (u:Val) (m:Int):(qSS u m).kids=u.kids:=rfl
@[simp] theorem zLP (u:Val) (m:Int):(qSS u m).code=u.code:=rfl
def qST (v:Val) (l:List Val):Val := .mk v.kind v.mask v.num v.text v.keys l v.code
@[simp] theorem zLS (u:Val) (m:List Val):(qST u m).kind=u.kind:=rfl
@[simp] theorem zLR (u:Val) (m:List Val):(qST u m).mask=u.mask:=rfl
@[simp] theorem zNO (u:Val) (m:List Val):(qST u m).num=u.num:=rfl
@[simp] theorem zLQ (u:Val) (m:List Val):(qST u m).text=u.text:=rfl
@[simp] theorem zLU (u:Val) (m:List Val):(qST u m).keys=u.keys:=rfl
@[simp] theorem zLT (u:Val) (m:List Val):(qST u m).kids=m:=rfl
@[simp] theorem zLV (u:Val) (m:List Val):(qST u m).code=u.code:=rfl
theorem yP (v:Val):yV v=qST (qSS v 0) (v.kids.map yV):=by
 show qAH qGW v=_
 rw [qQK]; rfl
@[simp] theorem zKT (u:Val):(yV u).kind=u.kind:=by rw [yP]; rfl
@[simp] theorem zKS (u:Val):(yV u).mask=0:=by rw [yP]; rfl
@[simp] theorem zMB (u:Val):(yV u).num=u.num:=by rw [yP]; rfl
@[simp] theorem zKR (u:Val):(yV u).text=u.text:=by rw [yP]; rfl
@[simp] theorem zKV (u:Val):(yV u).keys=u.keys:=by rw [yP]; rfl
@[simp] theorem zKU (u:Val):(yV u).kids=u.kids.map yV:=by rw [yP]; rfl
@[simp] theorem zKW (u:Val):(yV u).code=u.code:=by rw [yP]; rfl
theorem zHN (v:Val):qAH id v=v:=by
 induction v using Val.induct with
 | h v ih =>
  rw [qQK]
  have:v.kids.map (qAH id)=v.kids:=by
   conv=>rhs; rw [← List.map_id v.kids]
   exact List.map_congr_left fun k hk=>ih k hk
  rw [this]; cases v; rfl
mutual
def zOF:Val→Int
 | .mk _ m _ _ _ vs _=>qZC m vs
def qZC (m:Int):List Val→Int
 | []=>m
 | v::vs=>qZC (orM m (zOF v)) vs
end
@[simp] theorem zMA (m:Int):qZC m []=m:=by simp only [qZC]
mutual
def InV:Val→Prop
 | .mk _ m _ _ _ vs _=>InM m∧zFV vs
def zFV:List Val→Prop
 | []=>True
 | v::vs=>InV v∧zFV vs
end
theorem zFU:∀ l,zFV l↔∀ v∈l,InV v
 | []=>by simp [zFV]
 | v::vs=>by simp [zFV,zFU vs]
mutual
def qCV:Val→Nat
 | .mk _ _ _ _ _ vs _=>uN 0 vs+1
def uN (d:Nat):List Val→Nat
 | []=>d
 | v::vs=>uN (max d (qCV v)) vs
end
theorem qDU (v:Val):qCV v=uN 0 v.kids+1:=by cases v; simp only [qCV,Val.kids_mk]
@[simp] theorem zOE (m:Nat):uN m []=m:=by simp only [uN]
theorem qII (v:Val):Val.sz v=1+Val.szL v.kids:=by cases v; simp only [Val.sz,Val.kids_mk]
@[simp] theorem zOK:Val.szL []=0:=by simp only [Val.szL]
@[simp] theorem zOJ (x:Val):Val.szL [x]=Val.sz x:=by simp only [Val.szL,Nat.add_zero]
theorem zJO (v:Val):1≤Val.sz v:=by rw [qII]; omega
theorem qYF:∀ l:List Val,l.length≤Val.szL l
 | []=>by simp
 | v::l=>by simp only [Val.szL,List.length_cons]; have:=qYF l; have:=zJO v; omega
theorem qWO {v:Val} {n:Nat} (h:Val.sz v≤n):v.kids.length≤n:=by rw [qII] at h; have:=qYF v.kids; omega
theorem zIB {d:Nat} {l:List Val} {b:Nat} (hd:d≤b) (h:∀ v∈l,qCV v≤b):uN d l≤b:=by
 induction l generalizing d with
 | nil=>simpa using hd
 | cons y l ih =>
  simp only [uN]
  exact ih (by have:=h y (by simp); omega) fun v hv=>h v (by simp [hv])
theorem qGN (v:Val):1≤qCV v:=by rw [qDU]; omega
set_option maxRecDepth 100000
structure RS where
 left:List UInt8
 nodes:Nat
 bad:Bool
 deep:Bool
 big:Bool
 deriving DecidableEq
def qW (st:RS) (k:Nat):RS:={ st with left:=st.left.drop k }
def wR (b:UInt8):Bool:=b == 32 || b == 9 || b == 13 || b == 10
def zO (s:List UInt8):List UInt8:=s.dropWhile wR
def zY (b:UInt8):Bool:=qJ b || b == 45 || b == 43 || b == 46 || b == 101 || b == 69
def tk (w:List UInt8) (st:RS):Bool × RS :=
 if w.isPrefixOf (zO st.left) then (true,{ st with left:=(zO st.left).drop w.length }) else (false,{ st with left:=zO st.left })
def jY:List UInt8→Nat
 | []=>0
 | b::t=>if b=34 then 1 else if b=92 then (match t with
  | []=>1
  | _::u=>2+jY u) else 1+jY t
def uS (s:List UInt8):Nat:=if s=[] then 0 else 1+jY (s.drop 1)
def jP (l:List UInt8) (st:RS) (u:List UInt8 × Nat × Int):RS × List UInt8 :=
 if u.2.2=0 then ({ st with left:=l.drop u.2.1 },u.1) else if u.2.2=3 then ({ st with left:=l.drop (uS l),big:=true },u.1) else ({ st with left:=l.drop u.2.1,bad:=true },u.1)
def qD (st:RS):RS × List UInt8:=jP (zO st.left) st (qU (zO st.left))
def wO (st:RS):RS × Val :=
 ({ st with left:=st.left.dropWhile zY,big:=st.big || decide ((zJ (st.left.takeWhile zY)).2=3),bad:=st.bad || decide ((zJ (st.left.takeWhile zY)).2=4) },.mk 4 0 (zJ (st.left.takeWhile zY)).1 [] [] [] 0)
def wJ (c:UInt8) (many:Nat) (st:RS):Bool × RS :=
 let st1:RS:={ st with big:=st.big || decide (200<many) }
 if st1.bad=true then (true,st1) else
 let a:=tk [c] st1
 if a.1=true then (true,a.2) else let b:=tk [44] a.2
  (false,{ b.2 with bad := !b.1 })
def kW (ks:List (List UInt8)) (vs:List Val) (key:List UInt8) (v:Val):List (List UInt8) × List Val:=if key∈ks then (ks,vs.set (ks.idxOf key) v) else (ks++[key],vs++[v])
def qQ (st:RS):RS:=if st.bad=true then st else { (tk [58] st).2 with bad := !(tk [58] st).1 }
def yY:List UInt8:=[110,117,108,108]
def kE:List UInt8:=[116,114,117,101]
def wZ:List UInt8:=[102,97,108,115,101]
def qT (st:RS) (d:Nat):RS:=⟨zO st.left,st.nodes+1,st.bad,st.deep || decide (12<d),st.big || decide (400<st.nodes+1)⟩
def wT (st:RS):RS × Val :=
 if yY.isPrefixOf st.left then (qW st 4,.mk 1 0 dc0 [] [] [] 0)
 else if kE.isPrefixOf st.left then (qW st 4,.mk 3 0 dc0 [] [] [] 0)
 else if wZ.isPrefixOf st.left then (qW st 5,.mk 2 0 dc0 [] [] [] 0)
 else if ([34]:List UInt8).isPrefixOf st.left then ((qD st).1,.mk 5 0 dc0 (qD st).2 [] [] 0)
 else if st.left≠[]∧(qN st.left 0=45∨yO (qN st.left 0)=true) then wO st
 else ({ st with bad:=true },zK)
mutual
def qS:Nat→RS→Nat→RS × Val
 | 0,st,_=>({ st with bad:=true },zK)
 | n+1,st,d =>
  if ([91]:List UInt8).isPrefixOf (qT st d).left then
   (let a:=tk [93] (qW (qT st d) 1)
    let r:=if a.1=true then (a.2,[]) else yN n a.2 (d+1) 1 []
    (r.1,.mk 6 0 dc0 [] [] r.2 0))
  else if ([123]:List UInt8).isPrefixOf (qT st d).left then
   (let a:=tk [125] (qW (qT st d) 1)
    let r:=if a.1=true then (a.2,[],[]) else wN n a.2 (d+1) 1 [] []
    (r.1,.mk 7 0 dc0 [] r.2.1 r.2.2 0))
  else wT (qT st d)
def yN:Nat→RS→Nat→Nat→List Val→RS × List Val
 | 0,st,_,_,vs=>({ st with bad:=true },vs)
 | n+1,st,d,many,vs =>
  if st.bad=true then (st,vs) else
  let a:=qS n st d
  let b:=wJ 93 many a.1
  if b.1=true then (b.2,vs++[a.2]) else yN n b.2 d (many+1) (vs++[a.2])
def wN:Nat→RS→Nat→Nat→List (List UInt8)→List Val→RS × List (List UInt8) × List Val
 | 0,st,_,_,ks,vs=>({ st with bad:=true },ks,vs)
 | n+1,st,d,many,ks,vs =>
  if st.bad=true then (st,ks,vs) else
  let q:=qD st
  let c:=qQ q.1
  let a:=if c.bad=true then (c,ks,vs) else let v:=qS n c d
   (v.1,kW ks vs q.2 v.2)
  let b:=wJ 125 many a.1
  if b.1=true then (b.2,a.2) else wN n b.2 d (many+1) a.2.1 a.2.2
end
def kF (s:List UInt8):Val × Int × Int :=
 let r:=qS (2 * s.length+2) ⟨s,0,false,false,false⟩ 1
 if r.1.bad=true then (zK,0,10) else if r.1.deep=true then (zK,0,11) else if r.1.big=true then (zK,0,3) else (r.2,(s.length:Int)-r.1.left.length,0)
theorem qCF (s:List UInt8):(zO s).length≤s.length:=(List.dropWhile_sublist _).length_le
theorem uP (w:List UInt8) (st:RS):(tk w st).2.left.length≤st.left.length∧((tk w st).1=true→(tk w st).2.left.length+w.length≤st.left.length):=by
 have h:=qCF st.left
 unfold tk
 split
 ·rename_i hp
  have:=(List.isPrefixOf_iff_prefix.1 hp).length_le
  simp only [List.length_drop]
  exact ⟨by omega,fun _=>by omega⟩
 exact ⟨h,fun h=>by cases h⟩
@[simp] theorem qPT (w:List UInt8) (st:RS):(tk w st).2.bad=st.bad:=by unfold tk; split <;> rfl
@[simp] theorem yR (w:List UInt8) (st:RS):(tk w st).2.nodes=st.nodes:=by unfold tk; split <;> rfl
@[simp] theorem qPS (w:List UInt8) (st:RS):(tk w st).2.deep=st.deep:=by unfold tk; split <;> rfl
@[simp] theorem qEM (w:List UInt8) (st:RS):(tk w st).2.big=st.big:=by unfold tk; split <;> rfl
theorem qAS (st:RS):(qD st).1.left.length≤st.left.length:=by
 have h:=qCF st.left
 unfold qD jP
 split
 ·simp only [List.length_drop]; omega
 split <;> (simp only [List.length_drop]; omega)
theorem qPX (c:UInt8) (many:Nat) (st:RS):(wJ c many st).2.left.length≤st.left.length:=by
 unfold wJ
 simp only
 split
 ·exact Nat.le_refl _
 split
 ·exact (uP _ _).1
 exact Nat.le_trans (uP _ _).1 (uP _ _).1
theorem qGR (st:RS):(qQ st).left.length≤st.left.length:=by
 unfold qQ; split
 ·exact Nat.le_refl _
 exact (uP _ _).1
theorem qME (st:RS) (d:Nat):(qT st d).left.length≤st.left.length:=qCF _
theorem qRB (p:UInt8→Bool) (l:List UInt8):(l.dropWhile p).length≤l.length:=(List.dropWhile_sublist _).length_le
theorem qKJ:∀ (f:Nat) (s:List UInt8) (k:Nat) (out:List UInt8),(wU f s k out).2.2=0→k+1≤(wU f s k out).2.1
 | 0,s,k,out,h=>by simp [wU] at h
 | f+1,s,k,out,h=>by
  simp only [wU] at h ⊢
  split at h
  ·simp at h
  rename_i h1
  rw [if_neg h1]
  split at h
  ·rename_i h2
   rw [if_pos h2]
   split at h
   ·simp at h
   rename_i h3; rw [if_neg h3]; exact Nat.le_refl _
  rename_i h2
  rw [if_neg h2]
  split at h
  ·simp at h
  rename_i h3
  rw [if_neg h3]
  split at h
  ·rename_i h4
   rw [if_pos h4]
   cases he:qHV s with
   | none=>rw [he] at h; simp at h
   | some cn =>
    obtain ⟨c,n⟩:=cn
    rw [he] at h
    simp only at h ⊢
    have:=qKJ f _ _ _ h
    omega
  rename_i h4
  rw [if_neg h4]
  have:=qKJ f _ _ _ h
  omega
theorem zAC {st:RS} (h:([34]:List UInt8).isPrefixOf (zO st.left)=true):(qD st).1.bad=false→(qD st).1.left.length<st.left.length:=by
 have h1:=qCF st.left
 obtain ⟨t,ht⟩:=List.isPrefixOf_iff_prefix.1 h
 unfold qD jP
 generalize zO st.left=l at *
 subst ht
 have hu:qU ([34]++t)=wU (t.length+1) t 1 []:=by
  unfold qU
  simp
 rw [hu]
 split
 ·rename_i h0
  intro _
  have:=qKJ _ _ _ _ h0
  simp only [List.length_drop]
  simp at h1 ⊢; omega
 split
 ·intro _
  simp only [List.length_drop,uS]
  simp at h1 ⊢; omega
 intro hb; simp at hb
theorem zAI:(zJ []).2=4:=by decide +kernel
theorem zAO {st:RS} (h:(wO st).1.bad=false):(wO st).1.left.length<st.left.length:=by
 unfold wO at h ⊢
 simp only [Bool.or_eq_false_iff,decide_eq_false_iff_not] at h
 have hs:=List.takeWhile_append_dropWhile (p:=zY) (l:=st.left)
 generalize hA:st.left.takeWhile zY=A at *
 simp only
 have hl:=congrArg List.length hs
 rw [List.length_append] at hl
 have:A≠[]:=by rintro rfl; exact h.2 zAI
 have:=List.length_pos_iff.2 this
 omega
theorem xT (s:List UInt8):zO (zO s)=zO s:=by
 unfold zO
 induction s with
 | nil=>rfl
 | cons b s ih =>
  rw [List.dropWhile_cons]
  split
  ·exact ih
  rename_i h; rw [List.dropWhile_cons,if_neg h]
theorem wA {w l:List UInt8} (h:w.isPrefixOf l=true):w.length≤l.length:=(List.isPrefixOf_iff_prefix.1 h).length_le
theorem qZI (st:RS) (ht:zO st.left=st.left):(wT st).1.left.length≤st.left.length∧((wT st).1.bad=false→(wT st).1.left.length<st.left.length):=by
 unfold wT
 split
 ·rename_i h; have:=wA h; simp [yY,qW] at this ⊢; omega
 split
 ·rename_i h; have:=wA h; simp [kE,qW] at this ⊢; omega
 split
 ·rename_i h; have:=wA h; simp [wZ,qW] at this ⊢; omega
 split
 ·rename_i h; exact ⟨qAS st,zAC (by rw [ht]; exact h)⟩
 split
 ·exact ⟨qRB _ _,zAO⟩
 exact ⟨Nat.le_refl _,fun h=>by simp at h⟩
theorem zDT : ∀ n : Nat, (∀ st d, (qS n st d).1.left.length ≤ st.left.length ∧ ((qS n st d).1.bad = false → (qS n st d).1.left.length < st.left.length)) ∧
  (∀ st d many vs,(yN n st d many vs).1.left.length≤st.left.length)∧(∀ st d many ks vs,(wN n st d many ks vs).1.left.length≤st.left.length)
 | 0=>⟨fun st d=>⟨by simp [qS],fun h=>by simp [qS] at h⟩,fun st d many vs=>by simp [yN],fun st d many ks vs=>by simp [wN]⟩
 | n+1=>by
  obtain ⟨ih1,ih2,ih3⟩:=zDT n
  refine ⟨fun st d => ?_,fun st d many vs => ?_,fun st d many ks vs => ?_⟩
  ·have he:=qME st d
   have ht:zO (qT st d).left=(qT st d).left:=xT _
   simp only [qS]
   split
   ·rename_i h
    have h1:=wA h
    have h2:=uP [93] (qW (qT st d) 1)
    simp only [qW,List.length_drop,List.length_cons,List.length_nil] at h1 h2
    split
    ·simp only [qW]; exact ⟨by omega,fun _=>by omega⟩
    have h3:=ih2 (tk [93] (qW (qT st d) 1)).2 (d+1) 1 []
    simp only [qW] at h3 ⊢
    exact ⟨by omega,fun _=>by omega⟩
   split
   ·rename_i h
    have h1:=wA h
    have h2:=uP [125] (qW (qT st d) 1)
    simp only [qW,List.length_drop,List.length_cons,List.length_nil] at h1 h2
    split
    ·simp only [qW]; exact ⟨by omega,fun _=>by omega⟩
    have h3:=ih3 (tk [125] (qW (qT st d) 1)).2 (d+1) 1 [] []
    simp only [qW] at h3 ⊢
    exact ⟨by omega,fun _=>by omega⟩
   have h1:=qZI (qT st d) ht
   exact ⟨by omega,fun hb=>by have:=h1.2 hb; omega⟩
  ·simp only [yN]
   split
   ·exact Nat.le_refl _
   have h1:=(ih1 st d).1
   have h2:=qPX 93 many (qS n st d).1
   split
   ·simp only; omega
   have:=ih2 (wJ 93 many (qS n st d).1).2 d (many+1) (vs++[(qS n st d).2]); omega
  simp only [wN]
  split
  ·exact Nat.le_refl _
  have h1:=qAS st
  have h2:=qGR (qD st).1
  have h3:=(ih1 (qQ (qD st).1) d).1
  generalize hA:(if (qQ (qD st).1).bad=true then (qQ (qD st).1,ks,vs) else ((qS n (qQ (qD st).1) d).1,kW ks vs (qD st).2 (qS n (qQ (qD st).1) d).2))=A
  have h4:A.1.left.length≤st.left.length:=by
   rw [← hA]; split
   ·simp only; omega
   simp only; omega
  have h5:=qPX 125 many A.1
  split
  ·simp only; omega
  have:=ih3 (wJ 125 many A.1).2 d (many+1) A.2.1 A.2.2; omega
set_option maxHeartbeats 4000000
variable {G:qR}
@[simp] def rdC (st:RS):List V:=[.p (.str st.left),.p (.int .i64 st.nodes),.p (.bool st.bad),.p (.bool st.deep),.p (.bool st.big)]
theorem qYB (s:List UInt8):uO (asF [32,9,10,13]) s=zO s:=by
 unfold uO zO
 congr 1
 funext b
 have key:∀ k:Fin 256,asF [32,9,10,13] k.val=wR (UInt8.ofNat k.val):=by decide +kernel
 have:=key ⟨b.toNat,b.toNat_lt⟩
 simpa using this
def zKC:List UInt8:=[48,49,50,51,52,53,54,55,56,57,45,43,46,101,69]
theorem zHI (s:List UInt8):uO (asF zKC) s=s.dropWhile zY:=by
 unfold uO
 congr 1
 funext b
 have key:∀ k:Fin 256,asF zKC k.val=zY (UInt8.ofNat k.val):=by decide +kernel
 have:=key ⟨b.toNat,b.toNat_lt⟩
 simpa using this
theorem qFC (s w:List UInt8):yF s w=w.isPrefixOf s:=by
 rw [Bool.eq_iff_iff]
 simp only [yF,Bool.and_eq_true,decide_eq_true_eq,List.isPrefixOf_iff_prefix]
 constructor
 ·rintro ⟨h1,h2⟩; exact ⟨s.drop w.length,by have:=List.take_append_drop w.length s; rw [h2] at this; exact this⟩
 rintro ⟨t,rfl⟩; simp
theorem qYC (st:RS):AX Tryz.prog G 109 [.ptr 2 0] [(2,.vars 85 (rdC st))] (.tuple []) [2] [(2,.vars 85 (rdC { st with left:=zO st.left }))]:=by
 refine AX.introU tok 900 Tryz.func109 (by kernel_rfl) rfl rfl ?_
 simp only [Tryz.f109,qO,List.map_cons,List.map_nil]
 have ht:=qJC (G:=G) st.left [32,9,10,13] (by simp) (by decide)
 rw [qYB] at ht
 refine rgz [.nilp,.str (zO st.left)] [[],[],[],[],[2,6],[],[],[],[10]] ?_
 iterate 9 refine oq1 tok ht ?_
 refine qA ?_
 exact qIW
theorem xG (st:RS) (w:List UInt8):AX Tryz.prog G 78 [.ptr 2 0,.p (.str w)] [(2,.vars 85 (rdC st))] (.p (.bool (tk w st).1)) [2] [(2,.vars 85 (rdC (tk w st).2))]:=by
 refine AX.introU tok 900 Tryz.func78 (by kernel_rfl) rfl rfl ?_
 simp only [Tryz.f78,qO,List.map_cons,List.map_nil]
 have hc:=qBU (G:=G) (zO st.left) w
 rw [qFC] at hc
 have ht:tk w st=if w.isPrefixOf (zO st.left) then (true,{ st with left:=(zO st.left).drop w.length }) else (false,{ st with left:=zO st.left }):=rfl
 rw [ht]
 have hcp:xY (zO st.left) w=if w.isPrefixOf (zO st.left) then (zO st.left).drop w.length else zO st.left:=by unfold xY; rw [qFC]
 generalize hb:w.isPrefixOf (zO st.left)=b at *
 refine rgn [] [[0,1]] ?_
 refine op1 tok ?_
 refine qA (rgn [] [[]] ?_)
 refine op1 tok ?_
 refine qK ?_
 refine qB.stepK [0,1] (zA rfl (qYC st) (by simp)) (by conv=>lhs; simp) rfl ?_
 refine qB.nil ?_
 refine rgn [.nilp,.tup [.str (xY (zO st.left) w),.bool b]] [[],[],[],[],[0,13,14],[],[],[],[0,16,17],[],[0,5,6]] ?_
 iterate 11 refine oq1 tok hc ?_
 refine qA (AW.seq (rgn [] [[]] ?_))
 refine op1 tok ?_
 refine qA (cnd ?_ ?_)
 ·intro h18
  try simp at h18
  subst h18
  simp only [if_true] at hcp ⊢
  rw [← hcp]
  refine rgz [] [[],[],[],[6,20,22],[6]] ?_
  iterate 5 refine op1 tok ?_ (hv:=by first | with_reducible exact True.intro | ((simp [hcp]); done) | omega | simp | (simp +contextual; omega))
  refine qA (rgn [] [[],[4]] ?_)
  iterate 2 refine op1 tok ?_
  refine qA ?_
  exact AW.ret qV
 intro h18
 try simp at h18
 subst h18
 refine AW.skip (rgn [] [[],[4]] ?_)
 iterate 2 refine op1 tok ?_
 refine qA ?_
 exact AW.ret qV
theorem qKV:∀ l:List UInt8,jY l≤l.length
 | []=>Nat.le_refl _
 | [b]=>by simp only [jY]; split <;> (try split) <;> simp
 | b::c::u=>by
  have h1:=qKV u
  have h2:=qKV (c::u)
  simp only [jY,List.length_cons] at h2 ⊢
  split
  ·omega
  split
  ·omega
  omega
theorem qFR (l:List UInt8):uS l≤l.length:=by
 unfold uS
 split
 ·omega
 rename_i h
 have h1:=qKV (l.drop 1)
 have h2:=List.length_pos_iff.2 h
 rw [List.length_drop] at h1; omega
theorem zGT (t:List UInt8):jY (34::t)=1:=by unfold jY; simp
theorem zGV:jY [92]=1:=by unfold jY; simp
theorem zGW (d:UInt8) (u:List UInt8):jY (92::d::u)=2+jY u:=by rw [jY]; simp
theorem zGU {c:UInt8} (h1:c≠34) (h2:c≠92) (t:List UInt8):jY (c::t)=1+jY t:=by
 cases t <;> (rw [jY]; simp [h1,h2,jY])
def vM (s:List UInt8) (i:Nat):Nat:=if i≤s.length then i+jY (s.drop i) else s.length
theorem qIJ {s:List UInt8} {i:Nat} {c:UInt8} (h:s[i]?=some c):vM s i=if c=34 then i+1 else if c=92 then vM s (i+2) else vM s (i+1):=by
 have hi:=(List.getElem?_eq_some_iff.1 h).1
 have hd:s.drop i=c::s.drop (i+1):=by
  rw [List.drop_eq_getElem_cons hi]; congr 1
  have:=List.getElem?_eq_getElem hi
  rw [h] at this; exact (Option.some.inj this).symm
 unfold vM
 rw [if_pos (by omega),hd]
 by_cases h1:c=34
 ·rw [if_pos h1,h1,zGT]
 rw [if_neg h1]
 by_cases h2:c=92
 ·rw [if_pos h2]
  by_cases h3:i+2≤s.length
  ·obtain ⟨d,u,hu⟩:∃ d u,s.drop (i+1)=d::u:=by
    cases h4:s.drop (i+1) with
    | nil=>have:=congrArg List.length h4; simp at this; omega
    | cons d u=>exact ⟨d,u,rfl⟩
   have hu2:s.drop (i+2)=u:=by rw [show i+2=(i+1)+1 by omega,← List.drop_drop,hu]; rfl
   rw [if_pos h3,hu2,hu,h2,zGW]; omega
  have hu:s.drop (i+1)=[]:=List.drop_of_length_le (by omega)
  rw [if_neg h3,hu,h2,zGV]
  have:s.length=i+1:=by have:=congrArg List.length hu; simp at this; omega
  omega
 rw [if_neg h2,if_pos (by omega),zGU h1 h2]; omega
theorem qKU (s:List UInt8):uS s=vM s 1:=by
 unfold uS vM
 split
 ·rename_i h; subst h; rfl
 rename_i h; have:=List.length_pos_iff.2 h; rw [if_pos (by omega)]
theorem qVS (s:List UInt8) (hs:s.length≤1000000000000):AFn Tryz.prog G 117 [.str s] (.int .i64 (uS s)):=by
 refine AFn.introU tok Tryz.func117 (by kernel_rfl) rfl rfl ?_
 simp only [Tryz.f117,qO,List.map_cons,List.map_nil]
 refine rgn [] [[0]] ?_
 refine op1 tok ?_
 refine qA (AW.seq (rgn [] [[]] ?_))
 refine op1 tok ?_
 refine qA (AW.block ?_)
 refine AW.loop (α:=Nat) (fun i=>uS s=vM s i∧i≤s.length+2) (fun i=>⟨zI 23 [(0,.p (.str s)),(3,.p (.int .i64 i))],[],[],0⟩) (fun i=>s.length+2-i) (1) ⟨qKU s,by omega⟩ ⟨qE (by simp),rfl,by simp,by simp⟩ ?_
 rintro i ⟨hi,hil⟩
 rw [hi]
 refine AW.seq (rgn [] [[],[],[],[0,3,7]] ?_)
 iterate 4 refine op1 tok ?_
 refine qA (cnd ?_ ?_)
 ·intro h7
  try simp at h7
  obtain ⟨c,hc⟩:∃ c,s[i]?=some c:=⟨s[i],by simp [show i<s.length by omega]⟩
  have hst:=qIJ hc
  rw [hst]
  have hcl:=c.toNat_lt
  refine AW.skip (AW.seq (AW.block (rgn [.int .u8 c.toNat] [[],[],[0,3,12]] ?_)))
  iterate 3 refine op1 tok ?_ (hv:=by first | with_reducible exact True.intro | (first | exact ⟨by omega,_,hc,rfl⟩ | simp [hc]; done) | omega | simp | (simp +contextual; omega))
  refine qA (AW.block (rgn [] [[],[0,3,12,13]] ?_))
  iterate 2 refine op1 tok ?_
  refine qA (cnd ?_ ?_)
  ·intro h13
   try simp at h13
   rw [if_pos (show c=34 from UInt8.toNat_inj.1 (by show c.toNat=34; omega))]
   refine rgn [] [[],[],[2]] ?_
   iterate 3 refine op1 tok ?_
   exact qA (AW.ret qP)
  intro h13
  try simp at h13
  rw [if_neg (show ¬ c=34 by rintro rfl; exact h13 rfl)]
  rw [if_neg (show ¬ c=34 by rintro rfl; exact h13 rfl)] at hst
  refine rgn [] [[],[0,3,17]] ?_
  iterate 2 refine op1 tok ?_
  refine qA (cnd ?_ ?_)
  ·intro h17
   try simp at h17
   rw [if_pos (show c=92 from UInt8.toNat_inj.1 (by show c.toNat=92; omega))]
   rw [if_pos (show c=92 from UInt8.toNat_inj.1 (by show c.toNat=92; omega))] at hst
   refine rgz [] [[],[],[0,3]] ?_
   iterate 3 refine op1 tok ?_
   refine qA (rgz [] [[],[],[0,3]] ?_)
   iterate 3 refine op1 tok ?_
   refine qA ?_
   exact ⟨i+2,⟨rfl,by omega⟩,by omega,qE (by simp [(show (i:Int)+1+1=i+2 by omega)]),rfl,by simp [(show (i:Int)+1+1=i+2 by omega)],by simp [(show (i:Int)+1+1=i+2 by omega)]⟩
  intro h17
  try simp at h17
  rw [if_neg (show ¬ c=92 by rintro rfl; exact h17 rfl)]
  rw [if_neg (show ¬ c=92 by rintro rfl; exact h17 rfl)] at hst
  refine AW.skip (rgz [] [[],[],[0,3]] ?_)
  iterate 3 refine op1 tok ?_
  refine qA ?_
  exact ⟨i+1,⟨rfl,by omega⟩,by omega,qE (by simp),rfl,by simp,by simp⟩
 intro h7
 try simp at h7
 have hend:vM s i=s.length:=by
  unfold vM; split
  ·rw [show i=s.length by omega]; simp [jY]
  rfl
 refine AW.exit ?_
 simp
 refine rgn [] [[],[],[2]] ?_
 iterate 3 refine op1 tok ?_
 refine qA ?_
 exact AW.ret (qP (k:=by simp [hend]))
theorem qNO {s:List UInt8} (h:(wQ s).isSome=true):6≤s.length:=by
 unfold wQ at h
 split at h
 ·cases h
 omega
theorem zEL {s:List UInt8} (h:(yJ s).2.2=true):(yJ s).2.1≤s.length:=by
 match s with
 | []=>simp [yJ] at h
 | [a]=>simp [yJ] at h
 | a::c::t =>
  have h1:=qNO (s:=a::c::t)
  have h2:=qNO (s:=(a::c::t).drop 6)
  unfold yJ at h ⊢
  cases hv:xS c with
  | some v=>simp only [hv]; simp
  | none =>
   simp only [hv] at h ⊢
   unfold qHU at h ⊢
   generalize wQ (a::c::t)=A at *
   generalize wQ ((a::c::t).drop 6)=B at *
   split at h
   ·rename_i hc
    rw [if_pos hc]
    simp only [Bool.and_eq_true] at h
    exact h1 h.1
   rename_i hc
   rw [if_neg hc]
   simp only [Bool.and_eq_true] at h
   have:=h2 h.1
   rw [List.length_drop] at this
   simp only; omega
theorem qHC:∀ (f:Nat) (s:List UInt8) (k:Nat) (out:List UInt8),((wU f s k out).2.2=0∧(wU f s k out).2.1≤k+s.length)∨(((wU f s k out).2.2=3∨(wU f s k out).2.2=6)∧(wU f s k out).2.1=0)
 | 0,s,k,out => .inr (by simp [wU])
 | f+1,s,k,out=>by
  simp only [wU]
  split
  ·exact .inr (by simp)
  rename_i hne
  split
  ·split
   ·exact .inr (by simp)
   exact .inl ⟨rfl,by have:=List.length_pos_iff.2 hne; simp only; omega⟩
  split
  ·exact .inr (by simp)
  split
  ·cases he:qHV s with
   | none=>exact .inr (by simp)
   | some cn =>
    obtain ⟨c,n⟩:=cn
    simp only
    have hn:n≤s.length:=by
     unfold qHV at he
     split at he
     ·rename_i h; cases he; exact zEL h
     cases he
    have:=qHC f (s.drop n) (k+n) (out++Lib.encodeRune c)
    rw [List.length_drop] at this
    omega
  have hn:=Lib.decodeL_le s hne
  have:=qHC f (s.drop (Lib.decodeL s).2) (k+(Lib.decodeL s).2) (out++Lib.encodeRune (Lib.decodeL s).1)
  rw [List.length_drop] at this
  omega
theorem vB (s:List UInt8):((qU s).2.2=0∧(qU s).2.1≤s.length)∨(((qU s).2.2=3∨(qU s).2.2=6)∧(qU s).2.1=0):=by
 unfold qU
 split
 ·rename_i h
  have:=qHC s.length (s.drop 1) 1 []
  rw [List.length_drop] at this
  have:1≤s.length:=by cases s with
   | nil=>simp at h
   | cons=>simp
  omega
 exact .inr (by simp)
theorem qNZ (hG:U8 G) (st:RS) (hl:st.left.length≤1000000000):AX Tryz.prog G 82 [.ptr 2 0] [(2,.vars 85 (rdC st))] (.p (.str (qD st).2)) [2] [(2,.vars 85 (rdC (qD st).1))]:=by
 refine AX.introU tok 900 Tryz.func82 (by kernel_rfl) rfl rfl ?_
 simp only [Tryz.f82,qO,List.map_cons,List.map_nil]
 have hle:=qCF st.left
 have hu:=qXN (G:=G) hG (zO st.left) (by omega)
 have hp:=vB (zO st.left)
 have hsk:=qVS (G:=G) (zO st.left) (by omega)
 have hsl:=qFR (zO st.left)
 have hq:qD st=jP (zO st.left) st (qU (zO st.left)):=rfl
 rw [hq]
 unfold jP
 refine rgn [] [[0]] ?_
 refine op1 tok ?_
 refine qA (rgn [] [[]] ?_)
 refine op1 tok ?_
 refine qK ?_
 refine qB.stepK [0] (zA rfl (qYC st) (by simp)) (by conv=>lhs; simp) rfl ?_
 refine qB.nil ?_
 generalize zO st.left=l at *
 generalize qU l=u at *
 obtain ⟨us,un,ue⟩:=u
 simp only at hu hp ⊢
 refine rgn [.nilp,.tup [.str us,.int .i64 un,.int .i64 ue]] [[],[],[],[],[0,13],[],[],[],[],[],[0,3,4,16],[0,3,4,5]] ?_
 iterate 12 refine oq1 tok hu ?_
 refine qA (AW.seq (rgn [] [[0,3,4,17]] ?_))
 refine op1 tok ?_
 refine qA (AW.block (rgn [] [[],[0,3,4,17,21]] ?_))
 iterate 2 refine op1 tok ?_
 refine qA (cnd ?_ ?_)
 ·intro h21
  try simp at h21
  subst h21
  have h0:un≤l.length:=by omega
  refine AW.skip (rgn [] [[],[],[],[],[3,4,33,37],[],[],[3,39,40],[],[3]] ?_)
  iterate 10 refine op1 tok ?_ (hv:=by first | with_reducible exact True.intro | (omega; done) | omega | simp | (simp +contextual; omega))
  refine qA (rgn [] [[],[2]] ?_)
  iterate 2 refine op1 tok ?_
  refine qA ?_
  exact AW.ret qV
 intro h21
 try simp at h21
 rw [if_neg h21]
 refine rgn [] [[],[0,3,4,23]] ?_
 iterate 2 refine op1 tok ?_
 refine qA (cnd ?_ ?_)
 ·intro h23
  try simp at h23
  rw [if_pos h23]
  refine rgz [.nilp,.int .i64 (uS l)] [[],[],[],[],[],[0,3,25,30],[],[],[],[0,3,4]] ?_
  iterate 10 refine oq1 tok hsk ?_
  refine qA (rgn [] [[],[],[],[],[3,4,33,37],[],[],[3,39,40],[],[3]] ?_)
  iterate 10 refine op1 tok ?_ (hv:=by first | with_reducible exact True.intro | (omega; done) | omega | simp | (simp +contextual; omega))
  refine qA (rgn [] [[],[2]] ?_)
  iterate 2 refine op1 tok ?_
  refine qA ?_
  exact AW.ret qV
 intro h23
 try simp at h23
 rw [if_neg h23]
 refine rgz [] [[],[],[],[0,3,4]] ?_
 iterate 4 refine op1 tok ?_
 refine qA (rgn [] [[],[],[],[],[3,4,33,37],[],[],[3,39,40],[],[3]] ?_)
 iterate 10 refine op1 tok ?_ (hv:=by first | with_reducible exact True.intro | (omega; done) | omega | simp | (simp +contextual; omega))
 refine qA (rgn [] [[],[2]] ?_)
 iterate 2 refine op1 tok ?_
 refine qA ?_
 exact AW.ret qV
theorem qWI (l:List UInt8):l.take (l.length-(l.dropWhile zY).length)=l.takeWhile zY∧(l.dropWhile zY).length≤l.length:=by
 have h:=List.takeWhile_append_dropWhile (p:=zY) (l:=l)
 generalize l.takeWhile zY=A at *
 generalize l.dropWhile zY=B at *
 subst h
 simp
theorem zAP (st:RS) (hl:st.left.length≤1000000000):AX Tryz.prog G 83 [.ptr 2 0] [(2,.vars 85 (rdC st))] (.agg (wO st).2.cells) [2] [(2,.vars 85 (rdC (wO st).1))]:=by
 refine AX.introU tok 900 Tryz.func83 (by kernel_rfl) rfl rfl ?_
 simp only [Tryz.f83,qO,List.map_cons,List.map_nil]
 have ht:=qJC (G:=G) st.left zKC (by decide) (by decide)
 rw [zHI] at ht
 obtain ⟨hs1,hs2⟩:=qWI st.left
 have hpl:(st.left.takeWhile zY).length≤1000000000:=Nat.le_trans (List.takeWhile_sublist _).length_le hl
 have hp:=qVJ (G:=G) (st.left.takeWhile zY) hpl
 have hn:wO st=({ st with left:=st.left.dropWhile zY,big:=st.big || decide ((zJ (st.left.takeWhile zY)).2=3),bad:=st.bad || decide ((zJ (st.left.takeWhile zY)).2=4) },.mk 4 0 (zJ (st.left.takeWhile zY)).1 [] [] [] 0):=rfl
 rw [hn]
 generalize st.left.dropWhile zY=rest at *
 generalize st.left.takeWhile zY=A at *
 generalize zJ A=p at *
 obtain ⟨dc,e⟩:=p
 simp only at *
 refine rgn [] [[]] ?_
 refine op1 tok ?_
 refine qA (rgn [.nilp,.str rest] [[],[],[],[],[0,2,10],[0,2,3]] ?_)
 iterate 6 refine oq1 tok ht ?_
 refine qA ?_
 refine AW.seqDrawS tok mixed 19 [[0],[12],[13],[14],[0],[16],[17],[18],[19],[3],[21],[20,22],[15,23],[24],[25],[11],[11],[],[4,26]] [.nilp,.tup [dc.enc,.int .i64 e]] [] (by kernel_rfl) ?_
 iterate 19 refine d1 ?_ (hv:=by first | with_reducible exact True.intro | (first | omega | exact ⟨by omega,by omega⟩ | (rw [hs1]; exact hp); done) | omega | simp | (simp +contextual; omega))
 refine DGo.nil (by kernel_rfl) ⟨by kernel_rfl, ?_⟩
 refine qB.run [[0,2,3,4,5]] ?_
 refine op1 tok ?_
 refine qA (rgn [] [[],[],[],[],[],[0,2,3,4,5,28,33],[],[],[],[0,2,3,4,5,36,37],[],[0,2,3,4,5]] ?_)
 iterate 6 refine op1 tok ?_
 iterate 2 refine op2 tok ?_
 iterate 4 refine op1 tok ?_
 refine qA (rgn [] [[],[],[],[],[],[0,2,3,4,5,39,44],[],[],[0,2,3,4,39,47],[],[],[0,2,3,4]] ?_)
 iterate 6 refine op1 tok ?_
 iterate 2 refine op2 tok ?_
 iterate 4 refine op1 tok ?_
 refine qA (rgn [] [[],[],[],[2,4,51,53],[2,4]] ?_)
 iterate 5 refine op1 tok ?_
 refine qA (rgn [] [[],[],[2]] ?_)
 iterate 3 refine op1 tok ?_
 refine qA ?_
 refine AW.fillE 902 [none,none,none,none,none,none,some 1,some 9,none] (by conv=>lhs; simp) ?_
 exact AW.ret qV
theorem qDO (c:UInt8) (many:Nat) (st:RS):(wJ c many st).2.nodes=st.nodes:=by
 unfold wJ; simp only; split
 ·rfl
 split <;> simp
theorem qJT (c:UInt8) (many:Nat) (st:RS) (h:(wJ c many st).2.bad=false):st.bad=false:=by
 unfold wJ at h; simp only at h; split at h
 ·rename_i hb; rw [hb] at h; cases h
 rename_i hb; simpa using hb
theorem qSW (c:UInt8) (many:Nat) (st:RS) (h:(wJ c many st).1=false):st.bad=false:=by
 unfold wJ at h; simp only at h; split at h
 ·cases h
 rename_i hb; simpa using hb
theorem xJ (st:RS):(qD st).1.nodes=st.nodes:=by
 unfold qD jP; split
 ·rfl
 split <;> rfl
theorem qVZ (st:RS) (h:(qD st).1.bad=false):st.bad=false:=by
 unfold qD jP at h; split at h
 ·exact h
 split at h
 ·exact h
 cases h
theorem uY (st:RS):(qQ st).nodes=st.nodes:=by
 unfold qQ; split
 ·rfl
 simp
theorem qMP (st:RS):(wT st).1.nodes=st.nodes:=by
 unfold wT
 split
 ·rfl
 split
 ·rfl
 split
 ·rfl
 split
 ·exact xJ st
 split <;> rfl
theorem zFL (st:RS) (h:(wT st).1.bad=false):st.bad=false:=by
 unfold wT at h
 split at h
 ·exact h
 split at h
 ·exact h
 split at h
 ·exact h
 split at h
 ·exact qVZ st h
 split at h
 ·simp only [wO,Bool.or_eq_false_iff] at h; exact h.1
 cases h
theorem zDS : ∀ n : Nat, (∀ st d, (qS n st d).1.bad = false → st.bad = false ∧ (qS n st d).1.nodes + (qS n st d).1.left.length ≤ st.nodes + st.left.length) ∧
  (∀ st d many vs,(yN n st d many vs).1.bad=false→st.bad=false∧(yN n st d many vs).1.nodes+(yN n st d many vs).1.left.length≤st.nodes+st.left.length) ∧
  (∀ st d many ks vs,(wN n st d many ks vs).1.bad=false→st.bad=false∧(wN n st d many ks vs).1.nodes+(wN n st d many ks vs).1.left.length≤st.nodes+st.left.length)
 | 0=>⟨fun st d h=>by simp [qS] at h,fun st d many vs h=>by simp [yN] at h,fun st d many ks vs h=>by simp [wN] at h⟩
 | n+1=>by
  obtain ⟨ih1,ih2,ih3⟩:=zDS n
  refine ⟨fun st d => ?_,fun st d many vs => ?_,fun st d many ks vs => ?_⟩
  ·have he:=qME st d
   have hen:(qT st d).nodes=st.nodes+1:=rfl
   have heb:(qT st d).bad=st.bad:=rfl
   have ht:zO (qT st d).left=(qT st d).left:=xT _
   simp only [qS]
   split
   ·rename_i h
    have h1:=wA h
    have h2:=uP [93] (qW (qT st d) 1)
    have h5:=yR [93] (qW (qT st d) 1)
    have h6:=qPT [93] (qW (qT st d) 1)
    simp only [qW,List.length_drop,List.length_cons,List.length_nil] at h1 h2 h5 h6
    split
    ·simp only [qW]; intro hb; exact ⟨by rw [← heb,← h6]; exact hb,by omega⟩
    have h3:=ih2 (tk [93] (qW (qT st d) 1)).2 (d+1) 1 []
    simp only [qW] at h3 ⊢
    intro hb
    obtain ⟨h7,h8⟩:=h3 hb
    exact ⟨by rw [← heb,← h6]; exact h7,by omega⟩
   split
   ·rename_i h
    have h1:=wA h
    have h2:=uP [125] (qW (qT st d) 1)
    have h5:=yR [125] (qW (qT st d) 1)
    have h6:=qPT [125] (qW (qT st d) 1)
    simp only [qW,List.length_drop,List.length_cons,List.length_nil] at h1 h2 h5 h6
    split
    ·simp only [qW]; intro hb; exact ⟨by rw [← heb,← h6]; exact hb,by omega⟩
    have h3:=ih3 (tk [125] (qW (qT st d) 1)).2 (d+1) 1 [] []
    simp only [qW] at h3 ⊢
    intro hb
    obtain ⟨h7,h8⟩:=h3 hb
    exact ⟨by rw [← heb,← h6]; exact h7,by omega⟩
   have h1:=qZI (qT st d) ht
   have h2:=qMP (qT st d)
   intro hb
   have:=h1.2 hb
   exact ⟨heb ▸ zFL _ hb,by omega⟩
  ·simp only [yN]
   split
   ·rename_i hb; intro h; simp only at h; rw [h] at hb; cases hb
   rename_i hb
   have hb':st.bad=false:=by simpa using hb
   have h1:=ih1 st d
   have h2:=qPX 93 many (qS n st d).1
   have h3:=qDO 93 many (qS n st d).1
   have h4:=qJT 93 many (qS n st d).1
   split
   ·simp only; intro h; have:=h1 (h4 h); exact ⟨hb',by omega⟩
   intro h
   obtain ⟨h5,h6⟩:=ih2 (wJ 93 many (qS n st d).1).2 d (many+1) (vs++[(qS n st d).2]) h
   have:=h1 (h4 h5); exact ⟨hb',by omega⟩
  simp only [wN]
  split
  ·rename_i hb; intro h; simp only at h; rw [h] at hb; cases hb
  rename_i hb
  have hb':st.bad=false:=by simpa using hb
  have h1:=qAS st
  have h1':=xJ st
  have h2:=qGR (qD st).1
  have h2':=uY (qD st).1
  have h3:=ih1 (qQ (qD st).1) d
  generalize hA:(if (qQ (qD st).1).bad=true then (qQ (qD st).1,ks,vs) else ((qS n (qQ (qD st).1) d).1,kW ks vs (qD st).2 (qS n (qQ (qD st).1) d).2))=A
  have h4:A.1.bad=false→A.1.nodes+A.1.left.length≤st.nodes+st.left.length:=by
   rw [← hA]; split
   ·rename_i h; intro h'; simp only at h'; rw [h] at h'; cases h'
   intro h'; have:=(h3 h').2; simp only; omega
  have h5:=qPX 125 many A.1
  have h6:=qDO 125 many A.1
  have h7:=qJT 125 many A.1
  split
  ·simp only; intro h; have:=h4 (h7 h); exact ⟨hb',by omega⟩
  intro h
  obtain ⟨h8,h9⟩:=ih3 (wJ 125 many A.1).2 d (many+1) A.2.1 A.2.2 h
  have:=h4 (h7 h8); exact ⟨hb',by omega⟩
def qIB (G:qR) (N d:Nat):Prop:=∀ (m:Nat) (s:RS),m<N→2 * s.left.length+2≤m→s.left.length≤1000000000→s.nodes+s.left.length≤10000000000→d+s.left.length≤10000000000 →
 AX Tryz.prog G 47 [.ptr 2 0,.p (.int .i64 d)] [(2,.vars 85 (rdC s))] (.agg (qS m s d).2.cells) [2] [(2,.vars 85 (rdC (qS m s d).1))]
theorem zDQ (st st':RS) (d:Nat) (v:Val) (vs:List Val) (hl:vs.length≤1000000000) (hv:AX Tryz.prog G 47 [.ptr 2 0,.p (.int .i64 d)] [(2,.vars 85 (rdC st))] (.agg v.cells) [2] [(2,.vars 85 (rdC st'))]):AX Tryz.prog G 112 [.ptr 5 0,.ptr 6 0,.ptr 7 0] [(2,.vars 85 (rdC st)),(5,.vars 42 [.p (.int .i64 6),.p (.int .u64 0),.p (.bool false),.p (.str []),.p (.int .i64 0),.p (.str []),.nilsl,.ms 8,.p (.int .i64 0)]),(6,.vars 83 [.ptr 2 0]),(7,.vars 3 [.p (.int .i64 d)]),(8,.row 42 9 (vs.map Val.enc))] (.tuple []) [2,5,6,7] [(2,.vars 85 (rdC st')),(5,.vars 42 [.p (.int .i64 6),.p (.int .u64 0),.p (.bool false),.p (.str []),.p (.int .i64 0),.p (.str []),.nilsl,.ms 8,.p (.int .i64 0)]),(6,.vars 83 [.ptr 2 0]),(7,.vars 3 [.p (.int .i64 d)]),(8,.row 42 9 ((vs++[v]).map Val.enc))]:=by
 refine AX.introU tok 900 Tryz.func112 (by kernel_rfl) rfl rfl ?_
 simp only [Tryz.f112,qO,List.map_cons,List.map_nil]
 simp only [rdC,Val.cells] at hv
 refine AW.drawS tok mixed 12 [[0],[3],[1],[2],[5,6],[4],[],[4,9],[10,8],[11,7],[0],[12,10]] [.ref [.str st'.left,.int .i64 st'.nodes,.bool st'.bad,.bool st'.deep,.bool st'.big],v.enc,zK.enc,zK.enc,v.enc] [] (by kernel_rfl) ?_
 iterate 12 refine d1 ?_ (h:=by intro C; conv=>lhs; simp [Value.oneCell']) (hv:=by first | with_reducible exact True.intro | (first | omega | (simpa [qL] using hv) | (simp; omega) | (trace_state; fail); done) | omega | simp | (simp +contextual; omega))
 refine DGo.nil (by kernel_rfl) ⟨by kernel_rfl, ?_⟩
 refine qB.take 910 8 (by conv=>lhs; simp) ?_
 refine qB.nil ?_
 exact qIW
def qNE (n:Nat) (st:RS) (d:Nat):RS × List Val:=if (tk [93] st).1=true then ((tk [93] st).2,[]) else yN n (tk [93] st).2 d 1 []
theorem qCM (n:Nat) (st:RS) (d many:Nat) (vs:List Val):yN (n+1) st d many vs=if st.bad=true then (st,vs) else if (wJ 93 many (qS n st d).1).1=true then ((wJ 93 many (qS n st d).1).2,vs++[(qS n st d).2]) else yN n (wJ 93 many (qS n st d).1).2 d (many+1) (vs++[(qS n st d).2]):=by
 simp only [yN]
theorem zEP (N:Nat) (st:RS) (d:Nat) (hN:2 * st.left.length+3≤N) (hl:st.left.length≤1000000000) (hk:st.nodes+st.left.length≤10000000000) (hd:d+st.left.length≤10000000000) (hv:qIB G N d):AX Tryz.prog G 111 [.ptr 2 0,.p (.str [93]),.func (.func 112) [] [.ptr 5 0,.ptr 6 0,.ptr 7 0]] [(2,.vars 85 (rdC st)),(5,.vars 42 [.p (.int .i64 6),.p (.int .u64 0),.p (.bool false),.p (.str []),.p (.int .i64 0),.p (.str []),.nilsl,.ms 8,.p (.int .i64 0)]),(6,.vars 83 [.ptr 2 0]),(7,.vars 3 [.p (.int .i64 d)]),(8,.row 42 9 (([]:List Val).map Val.enc))] (.tuple []) [2,5,6,7] [(2,.vars 85 (rdC (qNE N st d).1)),(5,.vars 42 [.p (.int .i64 6),.p (.int .u64 0),.p (.bool false),.p (.str []),.p (.int .i64 0),.p (.str []),.nilsl,.ms 8,.p (.int .i64 0)]),(6,.vars 83 [.ptr 2 0]),(7,.vars 3 [.p (.int .i64 d)]),(8,.row 42 9 ((qNE N st d).2.map Val.enc))]:=by
 refine AX.introU tok 900 Tryz.func111 (by kernel_rfl) rfl rfl ?_
 simp only [Tryz.f111,qO,List.map_cons,List.map_nil]
 have hM:qNE N st d=if (tk [93] st).1=true then ((tk [93] st).2,[]) else yN N (tk [93] st).2 d 1 []:=rfl
 rw [hM]
 have htl:=(uP [93] st).1
 have htn:=yR [93] st
 have htb:=qPT [93] st
 have htd:=qPS [93] st
 have htg:=qEM [93] st
 refine AW.seq (rgn [] [[],[]] ?_)
 iterate 2 refine op1 tok ?_
 refine qK ?_
 refine qB.stepK [0,1,2,9] (zA rfl (xG st [93]) (by simp)) (by conv=>lhs; simp) rfl ?_
 refine qB.nil ?_
 refine cnd ?_ ?_
 ·intro h9
  try simp at h9
  rw [if_pos h9]
  exact AW.ret qV
 intro h9
 try simp at h9
 rw [if_neg (by rw [h9]; simp)]
 generalize (tk [93] st).2=sa at *
 refine AW.skip (rgn [] [[]] ?_)
 refine op1 tok ?_
 refine qA (AW.block ?_)
 refine AW.pinsTo [2,5,6,7] (by simp) (by conv=>lhs; simp) ?_
 refine AW.loop (α:=Nat × RS × Nat × List Val) (fun a=>yN N sa d 1 []=yN a.1 a.2.1 d a.2.2.1 a.2.2.2∧2 * a.2.1.left.length+3≤a.1∧a.1≤N∧a.2.1.left.length≤st.left.length∧(a.2.1.bad=false→a.2.1.nodes+a.2.1.left.length≤10000000000)∧a.2.2.2.length+a.2.1.left.length≤1000000000∧a.2.2.1+a.2.1.left.length≤1000000001) (fun a=>⟨zI 45 [(0,.ptr 2 0),(1,.p (.str [93])),(2,.func (.func 112) [] [.ptr 5 0,.ptr 6 0,.ptr 7 0]),(6,.p (.int .i64 a.2.2.1))],[2,5,6,7],[(2,.vars 85 (rdC a.2.1)),(5,.vars 42 [.p (.int .i64 6),.p (.int .u64 0),.p (.bool false),.p (.str []),.p (.int .i64 0),.p (.str []),.nilsl,.ms 8,.p (.int .i64 0)]),(6,.vars 83 [.ptr 2 0]),(7,.vars 3 [.p (.int .i64 d)]),(8,.row 42 9 (a.2.2.2.map Val.enc))],900⟩) (fun a=>a.1) ((N,sa,1,[])) ⟨rfl,by simp only; omega,by simp,by simp only; omega,fun _=>by simp only; omega,by simp; omega,by simp only; omega⟩ ⟨qE (by simp),rfl,by simp [htn,htb,htd,htg],by simp⟩ ?_
 rintro ⟨n,s,many,vs⟩ ⟨hq,hf,hfN,hsl,hnl,hvl,hml⟩
 simp only at hq hf hfN hsl hnl hvl hml
 rw [hq]
 clear hq
 obtain ⟨n,rfl⟩:∃ g,n=g+1:=⟨n-1,by omega⟩
 rw [qCM]
 refine AW.seq (rgn [] [[],[],[],[],[0,1,2,6,14]] ?_)
 iterate 5 refine op1 tok ?_
 refine qA (cnd ?_ ?_)
 ·intro h14
  try simp at h14
  have hb:s.bad=false:=by simpa using h14
  rw [if_neg (by rw [hb]; simp)]
  have hnb:=hnl hb
  have hvn:=hv n s (by omega) (by omega) (by omega) (hnl hb) (by omega)
  have hle:=((zDT n).1 s d)
  have hln:=((zDS n).1 s d)
  refine AW.skip (AW.seq (AW.block (rgn [] [[]] ?_)))
  refine op1 tok ?_
  refine qK ?_
  refine qB.stepK [0,1,2,6] (zA rfl (zDQ s (qS n s d).1 d (qS n s d).2 vs (by omega) hvn) (by simp)) (by conv=>lhs; simp) rfl ?_
  refine qB.nil ?_
  generalize qS n s d=A at *; obtain ⟨⟨l,nn,b,dp,bg⟩,v⟩:=A
  simp only at hle hln ⊢
  clear hvn
  have hdm:decide ((200:Int)<(many:Int))=decide (200<many):=by rw [decide_eq_decide]; omega
  refine rgn [] [[],[],[],[],[],[0,1,2,6,19,24],[],[],[],[0,1,2,6,27,28],[],[0,1,2,6]] ?_
  iterate 6 refine op1 tok ?_
  iterate 2 refine op2 tok ?_
  iterate 4 refine op1 tok ?_
  refine qA (AW.seq ?_)
  by_cases hs6:b=true
  ·
   simp only [hdm]
   first | subst hs6 | obtain rfl:b=false:=by simpa using hs6
   refine rgn [] [[],[],[],[],[0,1,2,6,34],[],[],[],[0,1,2,6,38]] ?_
   iterate 5 refine op1 tok ?_
   iterate 3 refine op2 tok ?_
   refine op1 tok ?_
   refine qA (cnd ?_ ?_)
   ·intro h38
    try simp at h38
    rw [show wJ 93 many ⟨l,nn,true,dp,bg⟩=(true,⟨l,nn,true,dp,Bool.or bg (decide (200<many))⟩) by simp [wJ]]
    exact AW.ret qV
   intro h38
   try simp at h38
  ·
   simp only [hdm]
   first | subst hs6 | obtain rfl:b=false:=by simpa using hs6
   refine rgn [] [[],[],[],[],[0,1,2,6,34],[],[]] ?_
   iterate 5 refine op1 tok ?_
   iterate 2 refine op2 tok ?_
   refine qK ?_
   refine qB.stepKIf [0,1,2,6,34,37] 34 rfl rfl (zA rfl (xG ⟨l,nn,false,dp,Bool.or bg (decide (200<many))⟩ [93]) (by simp)) (by simp) (by conv=>lhs; simp) ?_
   refine qB.run [[0,1,2,6,38]] ?_
   refine op1 tok ?_
   refine qA (cnd ?_ ?_)
   ·intro h38
    try simp at h38
    rw [show wJ 93 many ⟨l,nn,false,dp,bg⟩=(true,(tk [93] ⟨l,nn,false,dp,Bool.or bg (decide (200<many))⟩).2) by simp [wJ,h38]]
    exact AW.ret qV
   intro h38
   try simp at h38
   rw [show wJ 93 many ⟨l,nn,false,dp,bg⟩=(false,{ (tk [44] (tk [93] ⟨l,nn,false,dp,Bool.or bg (decide (200<many))⟩).2).2 with bad := !(tk [44] (tk [93] ⟨l,nn,false,dp,Bool.or bg (decide (200<many))⟩).2).1 }) by simp [wJ,h38]]
   have hx:=(uP [93] ⟨l,nn,false,dp,Bool.or bg (decide (200<many))⟩).1
   have hy:=(uP [44] (tk [93] ⟨l,nn,false,dp,Bool.or bg (decide (200<many))⟩).2).1
   simp only [Bool.false_eq_true,if_false]
   simp only at hx
   have hlt:=hle.2 rfl
   have hl2:=(hln rfl).2
   refine AW.skip (rgz [] [[],[]] ?_)
   iterate 2 refine op1 tok ?_
   refine qK ?_
   refine qB.stepK [0,1,2,6,39,41] (zA rfl (xG (tk [93] ⟨l,nn,false,dp,Bool.or bg (decide (200<many))⟩).2 [44]) (by simp)) (by conv=>lhs; simp) rfl ?_
   refine qB.run [[],[],[],[0,1,2,6]] ?_
   iterate 4 refine op1 tok ?_
   refine qA (rgz [] [[],[],[0,1,2,6]] ?_)
   iterate 3 refine op1 tok ?_
   refine qA ?_
   exact ⟨(n,{ (tk [44] (tk [93] ⟨l,nn,false,dp,Bool.or bg (decide (200<many))⟩).2).2 with bad := !(tk [44] (tk [93] ⟨l,nn,false,dp,Bool.or bg (decide (200<many))⟩).2).1 },many+1,vs++[v]),⟨by simp,by simp only; omega,by omega,by simp only; omega,fun _=>by simp only [yR]; omega,by simp; omega,by simp only; omega⟩,by simp only; omega,qE (by simp),rfl,by simp,by simp⟩
 intro h14
 try simp at h14
 rw [if_pos (show s.bad=true by simpa using h14)]
 refine AW.exit ?_
 simp
 exact qIW
theorem zHO (N:Nat) (st:RS) (d:Nat) (hN:2 * st.left.length+3≤N) (hl:st.left.length≤1000000000) (hk:st.nodes+st.left.length≤10000000000) (hd:d+st.left.length≤10000000000) (hv:qIB G N d):AX Tryz.prog G 79 [.ptr 2 0,.p (.int .i64 d)] [(2,.vars 85 (rdC st))] (.agg (Val.mk 6 0 dc0 [] [] (qNE N st d).2 0).cells) [2] [(2,.vars 85 (rdC (qNE N st d).1))]:=by
 refine AX.introU tok 900 Tryz.func79 (by kernel_rfl) rfl rfl ?_
 simp only [Tryz.f79,qO,List.map_cons,List.map_nil]
 refine rgn [] [[],[],[2,3,4]] ?_
 iterate 3 refine op1 tok ?_
 refine qA (rgn [] [[],[],[2,3,4,5]] ?_)
 iterate 3 refine op1 tok ?_
 refine qA ?_
 refine AW.renE 902 6 (by simp) (by conv=>lhs; simp) ?_
 refine AW.renE 903 7 (by simp) (by conv=>lhs; simp) ?_
 refine AW.renE 905 5 (by simp) (by conv=>lhs; simp) ?_
 refine AW.beginBox 5 8 7 42 9 (by simp; exact ⟨rfl,rfl⟩) (by simp) (by simp) (by conv=>lhs; simp) ?_
 refine rgn [] [[],[]] ?_
 iterate 2 refine op1 tok ?_
 refine qK ?_
 refine qB.stepK [4,5] (zA rfl (zEP N st d hN hl hk hd hv) (by simp)) (by conv=>lhs; simp) rfl ?_
 refine qB.nil ?_
 refine AW.fillE 5 [none,none,none,none,none,none,some 1] (by conv=>lhs; simp) ?_
 refine AW.freeze 8 ?_
 refine rgn [] [[],[4]] ?_
 iterate 2 refine op1 tok ?_
 refine qA ?_
 exact AW.ret (qV (k:=by simp [dc0]))
def zBB (ks:List (List UInt8)) (s:List UInt8):Int:=if s∈ks then (ks.idxOf s:Int) else -1
theorem zHT (l:List (List UInt8)) (s:List UInt8):AX Tryz.prog G 114 [.ms 3,.p (.str s)] [(3,.row 9 1 (l.map PD.str))] (.p (.int .i64 (zBB l s))) [3] [(3,.row 9 1 (l.map PD.str))]:=by
 refine AX.introU tok 900 Tryz.func114 (by kernel_rfl) rfl rfl ?_
 simp only [Tryz.f114,qO,List.map_cons,List.map_nil]
 refine rgn [] [[0,1]] ?_
 refine op1 tok ?_
 refine qA (AW.seq (rgn [] [[],[],[0,1,7,8]] ?_))
 iterate 3 refine op1 tok ?_
 refine qA (AW.block ?_)
 refine AW.intFactU (i:=7) rfl (by decide) ?_; intro hlen; simp at hlen
 refine AW.loop (α:=Nat) (fun k=>k≤l.length∧s ∉ l.take k) (fun k=>⟨zI 19 [(0,.ms 3),(1,.p (.str s)),(7,.p (.int .i64 l.length)),(8,.p (.int .i64 k))],[3],[(3,.row 9 1 (l.map PD.str))],900⟩) (fun k=>l.length-k) (0) ⟨by omega,by simp⟩ ⟨qE (by simp),rfl,by simp,by simp⟩ ?_
 rintro k ⟨hk,hno⟩
 refine rgn [] [[]] ?_
 refine op1 tok ?_
 refine qA (AW.seq (cnd ?_ ?_))
 ·intro h9
  try simp at h9
  obtain ⟨x,hx⟩:∃ x,l[k]?=some x:=⟨l[k],by simp [h9]⟩
  refine AW.skip (AW.seq (AW.block (rgn [] [[],[0,1,5,7,8]] ?_)))
  iterate 2 refine op1 tok ?_
  refine qA (rgn [.str x] [[],[],[],[],[],[0,1,5,7,8,16]] ?_)
  iterate 6 refine op1 tok ?_ (hv:=by first | with_reducible exact True.intro | (simp [hx]; done) | omega | simp | (simp +contextual; omega))
  refine qA (cnd ?_ ?_)
  ·intro h16
   try simp at h16
   have hR:zBB l s=k:=by
    have hm:s∈l:=by rw [h16]; exact List.mem_of_getElem? hx
    unfold zBB; rw [if_pos hm]
    have:l.idxOf s=k:=by
     obtain ⟨h1,h2⟩:=List.getElem?_eq_some_iff.1 hx
     have h3:=List.take_append_drop k l
     rw [← h3,List.idxOf_append,if_neg hno,List.drop_eq_getElem_cons h1,h2,h16,List.idxOf_cons_self]
     simp; omega
    rw [this]
   refine rgn [] [[],[4]] ?_
   iterate 2 refine op1 tok ?_
   refine qA ?_
   exact AW.ret (qV (k:=by simp [hR]))
  intro h16
  try simp at h16
  refine AW.skip (rgz [] [[],[0,1,7,8]] ?_)
  iterate 2 refine op1 tok ?_
  refine qA ?_
  exact ⟨k+1,⟨by omega,by rw [List.take_add_one,hx]; simp; exact ⟨hno,h16⟩⟩,by omega,qE (by simp),rfl,by simp,by simp⟩
 intro h9
 try simp at h9
 have hR:zBB l s = -1:=by rw [List.take_of_length_le h9] at hno; unfold zBB; rw [if_neg hno]
 refine AW.exit ?_
 simp
 refine rgn [] [[]] ?_
 refine op1 tok ?_
 refine qA ?_
 exact AW.ret (qV (k:=by simp [hR]))
def yX (q:RS × List UInt8) (ks:List (List UInt8)) (vs:List Val) (v:RS × Val):RS × List (List UInt8) × List Val:=if (qQ q.1).bad=true then (qQ q.1,ks,vs) else (v.1,kW ks vs q.2 v.2)
theorem zHH (hG:U8 G) (st:RS) (d:Nat) (v:RS × Val) (ks:List (List UInt8)) (vs:List Val) (hl:st.left.length≤1000000000) (hlen:ks.length=vs.length) (hvl:vs.length≤1000000000) (hv:(qQ (qD st).1).bad=false→AX Tryz.prog G 47 [.ptr 2 0,.p (.int .i64 d)] [(2,.vars 85 (rdC (qQ (qD st).1)))] (.agg v.2.cells) [2] [(2,.vars 85 (rdC v.1))]):AX Tryz.prog G 113 [.ptr 6 0,.ptr 7 0,.ptr 5 0] [(2,.vars 85 (rdC st)),(5,.vars 42 [.p (.int .i64 7),.p (.int .u64 0),.p (.bool false),.p (.str []),.p (.int .i64 0),.p (.str []),.ms 3,.ms 8,.p (.int .i64 0)]),(6,.vars 83 [.ptr 2 0]),(7,.vars 3 [.p (.int .i64 d)]),(3,.row 9 1 (ks.map PD.str)),(8,.row 42 9 (vs.map Val.enc))] (.tuple []) [2,5,6,7] [(2,.vars 85 (rdC (yX (qD st) ks vs v).1)),(5,.vars 42 [.p (.int .i64 7),.p (.int .u64 0),.p (.bool false),.p (.str []),.p (.int .i64 0),.p (.str []),.ms 3,.ms 8,.p (.int .i64 0)]),(6,.vars 83 [.ptr 2 0]),(7,.vars 3 [.p (.int .i64 d)]),(3,.row 9 1 ((yX (qD st) ks vs v).2.1.map PD.str)),(8,.row 42 9 ((yX (qD st) ks vs v).2.2.map Val.enc))]:=by
 refine AX.introU tok 900 Tryz.func113 (by kernel_rfl) rfl rfl ?_
 simp only [Tryz.f113,qO,List.map_cons,List.map_nil]
 refine rgn [] [[]] ?_
 refine op1 tok ?_
 refine qK ?_
 refine qB.stepK [0,1,2,7] (zA rfl (qNZ hG st hl) (by simp)) (by conv=>lhs; simp) rfl ?_
 refine qB.run [[0,1,2,3]] ?_
 refine op1 tok ?_
 refine qA (AW.seq ?_)
 by_cases hs1:(qD st).1.bad=true
 ·
  generalize qD st=q at *; obtain ⟨⟨l,nn,b,dp,bg⟩,key⟩:=q
  simp only at hs1 hv ⊢
  first | subst hs1 | obtain rfl:b=false:=by simpa using hs1
  refine AW.seqDrawS tok mixed 13 [[0],[0],[9],[10],[11],[12],[0,13],[14,13],[15,13],[13,16],[8],[18],[19,17]] [] [] (by kernel_rfl) ?_
  iterate 6 refine d1 ?_
  iterate 3 refine d2 13 rfl rfl ?_
  iterate 4 refine d1 ?_
  refine DGo.nil (by kernel_rfl) ⟨by kernel_rfl, ?_⟩
  refine qB.nil ?_
  refine rgn [] [[],[],[],[0,1,2,3,23]] ?_
  iterate 4 refine op1 tok ?_
  refine qA (cnd ?_ ?_)
  ·intro h23
   try simp at h23
   rw [show yX (⟨l,nn,true,dp,bg⟩,key) ks vs v=(⟨l,nn,true,dp,bg⟩,ks,vs) by simp [yX,qQ]]
   exact AW.ret qV
  intro h23
  try simp at h23
 ·
  generalize qD st=q at *; obtain ⟨⟨l,nn,b,dp,bg⟩,key⟩:=q
  simp only at hs1 hv ⊢
  first | subst hs1 | obtain rfl:b=false:=by simpa using hs1
  have htk:=xG (G:=G) ⟨l,nn,false,dp,bg⟩ [58]
  simp only [rdC] at htk
  have hcl:qQ ⟨l,nn,false,dp,bg⟩={ (tk [58] ⟨l,nn,false,dp,bg⟩).2 with bad := !(tk [58] ⟨l,nn,false,dp,bg⟩).1 }:=rfl
  rw [hcl] at hv
  simp only [yX,hcl]
  have htn:=yR [58] ⟨l,nn,false,dp,bg⟩
  have htd:=qPS [58] ⟨l,nn,false,dp,bg⟩
  have htg:=qEM [58] ⟨l,nn,false,dp,bg⟩
  refine AW.seqDrawS tok mixed 13 [[0],[0],[9],[10],[11],[12],[0,13],[14,13],[15,13],[13,16],[8],[18],[19,17]] [.ref [.str (tk [58] ⟨l,nn,false,dp,bg⟩).2.left,.int .i64 (tk [58] ⟨l,nn,false,dp,bg⟩).2.nodes,.bool (tk [58] ⟨l,nn,false,dp,bg⟩).2.bad,.bool (tk [58] ⟨l,nn,false,dp,bg⟩).2.deep,.bool (tk [58] ⟨l,nn,false,dp,bg⟩).2.big],.bool (tk [58] ⟨l,nn,false,dp,bg⟩).1] [] (by kernel_rfl) ?_
  iterate 6 refine d1 ?_ (hv:=by first | with_reducible exact True.intro | (simpa [qL] using htk; done) | omega | simp | (simp +contextual; omega))
  iterate 3 refine d2 13 rfl rfl ?_ (hv:=by first | with_reducible exact True.intro | (simpa [qL] using htk; done) | omega | simp | (simp +contextual; omega))
  iterate 4 refine d1 ?_ (hv:=by first | with_reducible exact True.intro | (simpa [qL] using htk; done) | omega | simp | (simp +contextual; omega))
  refine DGo.nil (by kernel_rfl) ⟨by kernel_rfl, ?_⟩
  refine qB.nil ?_
  refine rgn [] [[],[],[],[0,1,2,3,23]] ?_
  iterate 4 refine op1 tok ?_
  refine qA (cnd ?_ ?_)
  ·intro h23
   try simp at h23
   rw [if_pos (by simpa using h23)]
   exact AW.ret qV
  intro h23
  try simp at h23
  rw [if_neg (by simpa using h23)]
  have hv:=hv (by simpa using h23)
  obtain ⟨sv,v⟩:=v
  refine AW.skip (rgn [] [[],[]] ?_)
  iterate 2 refine op1 tok ?_
  refine qK ?_
  refine qB.stepK [2,3,26] (zA rfl hv (by simp [h23,htn,htd,htg])) (by conv=>lhs; simp) rfl ?_
  refine qB.run [[],[2,3,4]] ?_
  iterate 2 refine op1 tok ?_
  refine qA (AW.seq (rgn [] [[],[],[]] ?_))
  iterate 3 refine op1 tok ?_
  refine qK ?_
  refine qB.stepK [2,3,4,30] (zA rfl (zHT ks key) (by simp)) (by conv=>lhs; simp) rfl ?_
  refine qB.run [[2,3,4,5]] ?_
  refine op1 tok ?_
  refine qA ?_
  have hidx:zBB ks key=if key∈ks then (ks.idxOf key:Int) else -1:=rfl; have hput:kW ks vs key v=if key∈ks then (ks,vs.set (ks.idxOf key) v) else (ks++[key],vs++[v]):=rfl
  refine rgn [] [[],[2,3,4,5,32]] ?_
  iterate 2 refine op1 tok ?_
  refine qA (cnd ?_ ?_)
  ·intro h32
   try simp at h32
   have hm:key∈ks:=by false_or_by_contra; rename_i hm; rw [if_neg hm] at hidx; omega
   rw [if_pos hm] at hidx hput
   have hi:=List.idxOf_lt_length_iff.2 hm
   rw [hidx,hput]
   obtain ⟨o,ho⟩:∃ o,vs[ks.idxOf key]?=some o:=⟨vs[ks.idxOf key]'(by omega),by simp⟩
   have hio:ks.idxOf key<vs.length:=by omega
   refine rgn [o.enc,v.enc] [[],[],[],[34,35,36],[],[50]] ?_
   iterate 6 refine op1 tok ?_ (hv:=by first | with_reducible exact True.intro | (first | omega | (simp [ho]; done) | (simp [ho,Val.cells,V.fitsL]; done); done) | omega | simp | (simp +contextual; omega))
   refine qA ?_
   exact AW.ret qV
  intro h32
  try simp at h32
  have hm:key ∉ ks:=by intro hm; rw [if_pos hm] at hidx; omega
  rw [hput,if_neg hm]
  refine AW.skip ?_
  refine AW.drawS tok mixed 12 [[2],[38],[3],[40],[39,41],[2],[43],[4],[45],[44,46],[2],[48,42]] [.str key,v.enc] [] (by kernel_rfl) ?_
  iterate 12 refine d1 ?_ (h:=by intro C; conv=>lhs; simp [Value.oneCell']) (hv:=by first | with_reducible exact True.intro | (first | omega | (simp; omega); done) | omega | simp | (simp +contextual; omega))
  refine DGo.nil (by kernel_rfl) ⟨by kernel_rfl, ?_⟩
  refine qB.run [[],[50]] ?_
  iterate 2 refine op1 tok ?_ (h:=by intro C; conv=>lhs; simp [Value.oneCell'])
  refine qK ?_
  refine qB.take 942 3 (by conv=>lhs; simp) ?_
  refine qB.take 947 8 (by conv=>lhs; simp) ?_
  refine qB.nil ?_
  exact qIW
def qER (n:Nat) (st:RS) (d:Nat):RS × List (List UInt8) × List Val:=if (tk [125] st).1=true then ((tk [125] st).2,[],[]) else wN n (tk [125] st).2 d 1 [] []
theorem qFW {ks:List (List UInt8)} {vs:List Val} (h:ks.length=vs.length) (key:List UInt8) (v:Val):(kW ks vs key v).1.length=(kW ks vs key v).2.length∧vs.length≤(kW ks vs key v).2.length∧(kW ks vs key v).2.length≤vs.length+1:=by
 unfold kW; split
 ·simp [h]
 simp [h]
theorem qGB (n : Nat) (st : RS) (d many : Nat) (ks : List (List UInt8)) (vs : List Val) : wN (n + 1) st d many ks vs = if st.bad = true then (st, ks, vs) else if (wJ 125 many (yX (qD st) ks vs (qS n (qQ (qD st).1) d)).1).1 = true then ((wJ 125 many (yX (qD st) ks vs (qS n (qQ (qD st).1) d)).1).2, (yX (qD st) ks vs (qS n (qQ (qD st).1) d)).2)
  else wN n (wJ 125 many (yX (qD st) ks vs (qS n (qQ (qD st).1) d)).1).2 d (many+1) (yX (qD st) ks vs (qS n (qQ (qD st).1) d)).2.1 (yX (qD st) ks vs (qS n (qQ (qD st).1) d)).2.2:=by
 rw [wN]; rfl
theorem zBF (n : Nat) (s : RS) (d : Nat) (ks : List (List UInt8)) (vs : List Val) (hl : ks.length = vs.length) : (yX (qD s) ks vs (qS n (qQ (qD s).1) d)).2.1.length = (yX (qD s) ks vs (qS n (qQ (qD s).1) d)).2.2.length ∧
  (yX (qD s) ks vs (qS n (qQ (qD s).1) d)).1.left.length≤s.left.length∧((yX (qD s) ks vs (qS n (qQ (qD s).1) d)).1.bad=false→(yX (qD s) ks vs (qS n (qQ (qD s).1) d)).1.left.length<s.left.length ∧
   (yX (qD s) ks vs (qS n (qQ (qD s).1) d)).1.nodes+(yX (qD s) ks vs (qS n (qQ (qD s).1) d)).1.left.length≤s.nodes+s.left.length∧(yX (qD s) ks vs (qS n (qQ (qD s).1) d)).2.2.length≤vs.length+1):=by
 have h1:=qAS s
 have h2:=qGR (qD s).1
 have h3:=xJ s
 have h4:=uY (qD s).1
 have h5:=(zDT n).1 (qQ (qD s).1) d
 have h6:=(zDS n).1 (qQ (qD s).1) d
 unfold yX
 split
 ·rename_i hb
  refine ⟨hl,by simp only; omega,fun h => ?_⟩
  simp only at h
  rw [hb] at h; cases h
 obtain ⟨p1,p2,p3⟩:=qFW hl (qD s).2 (qS n (qQ (qD s).1) d).2
 refine ⟨p1,by simp only; omega,fun h => ?_⟩
 have h7:=h5.2 h
 have h8:=h6 h
 exact ⟨by simp only; omega,by simp only; omega,p3⟩
theorem zEO (hG:U8 G) (N:Nat) (st:RS) (d:Nat) (hN:2 * st.left.length+3≤N) (hl:st.left.length≤1000000000) (hk:st.nodes+st.left.length≤10000000000) (hd:d+st.left.length≤10000000000) (hv:qIB G N d):AX Tryz.prog G 111 [.ptr 2 0,.p (.str [125]),.func (.func 113) [] [.ptr 6 0,.ptr 7 0,.ptr 5 0]] [(2,.vars 85 (rdC st)),(5,.vars 42 [.p (.int .i64 7),.p (.int .u64 0),.p (.bool false),.p (.str []),.p (.int .i64 0),.p (.str []),.ms 3,.ms 8,.p (.int .i64 0)]),(6,.vars 83 [.ptr 2 0]),(7,.vars 3 [.p (.int .i64 d)]),(3,.row 9 1 (([]:List (List UInt8)).map PD.str)),(8,.row 42 9 (([]:List Val).map Val.enc))] (.tuple []) [2,5,6,7] [(2,.vars 85 (rdC (qER N st d).1)),(5,.vars 42 [.p (.int .i64 7),.p (.int .u64 0),.p (.bool false),.p (.str []),.p (.int .i64 0),.p (.str []),.ms 3,.ms 8,.p (.int .i64 0)]),(6,.vars 83 [.ptr 2 0]),(7,.vars 3 [.p (.int .i64 d)]),(3,.row 9 1 ((qER N st d).2.1.map PD.str)),(8,.row 42 9 ((qER N st d).2.2.map Val.enc))]:=by
 refine AX.introU tok 900 Tryz.func111 (by kernel_rfl) rfl rfl ?_
 simp only [Tryz.f111,qO,List.map_cons,List.map_nil]
 have hM:qER N st d=if (tk [125] st).1=true then ((tk [125] st).2,[],[]) else wN N (tk [125] st).2 d 1 [] []:=rfl
 rw [hM]
 have htl:=(uP [125] st).1
 have htn:=yR [125] st
 have htb:=qPT [125] st
 have htd:=qPS [125] st
 have htg:=qEM [125] st
 refine AW.seq (rgn [] [[],[]] ?_)
 iterate 2 refine op1 tok ?_
 refine qK ?_
 refine qB.stepK [0,1,2,9] (zA rfl (xG st [125]) (by simp)) (by conv=>lhs; simp) rfl ?_
 refine qB.nil ?_
 refine cnd ?_ ?_
 ·intro h9
  try simp at h9
  rw [if_pos h9]
  exact AW.ret qV
 intro h9
 try simp at h9
 rw [if_neg (by rw [h9]; simp)]
 generalize (tk [125] st).2=sa at *
 refine AW.skip (rgn [] [[]] ?_)
 refine op1 tok ?_
 refine qA (AW.block ?_)
 refine AW.pinsTo [2,5,6,7] (by simp) (by conv=>lhs; simp) ?_
 refine AW.loop (α:=Nat × RS × Nat × List (List UInt8) × List Val) (fun a=>wN N sa d 1 [] []=wN a.1 a.2.1 d a.2.2.1 a.2.2.2.1 a.2.2.2.2∧2 * a.2.1.left.length+3≤a.1∧a.1≤N∧a.2.1.left.length≤st.left.length∧(a.2.1.bad=false→a.2.1.nodes+a.2.1.left.length≤10000000000)∧a.2.2.2.2.length+a.2.1.left.length≤1000000000∧a.2.2.1+a.2.1.left.length≤1000000001∧a.2.2.2.1.length=a.2.2.2.2.length) (fun a=>⟨zI 45 [(0,.ptr 2 0),(1,.p (.str [125])),(2,.func (.func 113) [] [.ptr 6 0,.ptr 7 0,.ptr 5 0]),(6,.p (.int .i64 a.2.2.1))],[2,5,6,7],[(2,.vars 85 (rdC a.2.1)),(5,.vars 42 [.p (.int .i64 7),.p (.int .u64 0),.p (.bool false),.p (.str []),.p (.int .i64 0),.p (.str []),.ms 3,.ms 8,.p (.int .i64 0)]),(6,.vars 83 [.ptr 2 0]),(7,.vars 3 [.p (.int .i64 d)]),(3,.row 9 1 (a.2.2.2.1.map PD.str)),(8,.row 42 9 (a.2.2.2.2.map Val.enc))],900⟩) (fun a=>a.1) ((N,sa,1,[],[])) ⟨rfl,by simp only; omega,by simp,by simp only; omega,fun _=>by simp only; omega,by simp; omega,by simp only; omega,rfl⟩ ⟨qE (by simp),rfl,by simp [htn,htb,htd,htg],by simp⟩ ?_
 rintro ⟨n,s,many,ks,vs⟩ ⟨hq,hf,hfN,hsl,hnl,hvl,hml,hlen⟩
 simp only at hq hf hfN hsl hnl hvl hml hlen
 rw [hq]
 clear hq
 obtain ⟨n,rfl⟩:∃ g,n=g+1:=⟨n-1,by omega⟩
 rw [qGB]
 refine AW.seq (rgn [] [[],[],[],[],[0,1,2,6,14]] ?_)
 iterate 5 refine op1 tok ?_
 refine qA (cnd ?_ ?_)
 ·intro h14
  try simp at h14
  have hb:s.bad=false:=by simpa using h14
  rw [if_neg (by rw [hb]; simp)]
  have hcl:=Nat.le_trans (qGR (qD s).1) (qAS s)
  have hcn:(qQ (qD s).1).nodes=s.nodes:=(uY _).trans (xJ s)
  have hnb:=hnl hb
  have hvn:=hv n (qQ (qD s).1) (by omega) (by omega) (by omega) (by omega) (by omega)
  have hent:=zBF n s d ks vs hlen
  refine AW.skip (AW.seq (AW.block (rgn [] [[]] ?_)))
  refine op1 tok ?_
  refine qK ?_
  refine qB.stepK [0,1,2,6] (zA rfl (zHH hG s d (qS n (qQ (qD s).1) d) ks vs (by omega) hlen (by omega) (fun _=>hvn)) (by simp)) (by conv=>lhs; simp) rfl ?_
  refine qB.nil ?_
  generalize yX (qD s) ks vs (qS n (qQ (qD s).1) d)=A at *; obtain ⟨⟨l,nn,b,dp,bg⟩,ks2,vs2⟩:=A
  simp only at hent ⊢
  clear hvn
  have hdm:decide ((200:Int)<(many:Int))=decide (200<many):=by rw [decide_eq_decide]; omega
  refine rgn [] [[],[],[],[],[],[0,1,2,6,19,24],[],[],[],[0,1,2,6,27,28],[],[0,1,2,6]] ?_
  iterate 6 refine op1 tok ?_
  iterate 2 refine op2 tok ?_
  iterate 4 refine op1 tok ?_
  refine qA (AW.seq ?_)
  by_cases hs6:b=true
  ·
   simp only [hdm]
   first | subst hs6 | obtain rfl:b=false:=by simpa using hs6
   refine rgn [] [[],[],[],[],[0,1,2,6,34],[],[],[],[0,1,2,6,38]] ?_
   iterate 5 refine op1 tok ?_
   iterate 3 refine op2 tok ?_
   refine op1 tok ?_
   refine qA (cnd ?_ ?_)
   ·intro h38
    try simp at h38
    rw [show wJ 125 many ⟨l,nn,true,dp,bg⟩=(true,⟨l,nn,true,dp,Bool.or bg (decide (200<many))⟩) by simp [wJ]]
    exact AW.ret qV
   intro h38
   try simp at h38
  ·
   simp only [hdm]
   first | subst hs6 | obtain rfl:b=false:=by simpa using hs6
   refine rgn [] [[],[],[],[],[0,1,2,6,34],[],[]] ?_
   iterate 5 refine op1 tok ?_
   iterate 2 refine op2 tok ?_
   refine qK ?_
   refine qB.stepKIf [0,1,2,6,34,37] 34 rfl rfl (zA rfl (xG ⟨l,nn,false,dp,Bool.or bg (decide (200<many))⟩ [125]) (by simp)) (by simp) (by conv=>lhs; simp) ?_
   refine qB.run [[0,1,2,6,38]] ?_
   refine op1 tok ?_
   refine qA (cnd ?_ ?_)
   ·intro h38
    try simp at h38
    rw [show wJ 125 many ⟨l,nn,false,dp,bg⟩=(true,(tk [125] ⟨l,nn,false,dp,Bool.or bg (decide (200<many))⟩).2) by simp [wJ,h38]]
    exact AW.ret qV
   intro h38
   try simp at h38
   rw [show wJ 125 many ⟨l,nn,false,dp,bg⟩=(false,{ (tk [44] (tk [125] ⟨l,nn,false,dp,Bool.or bg (decide (200<many))⟩).2).2 with bad := !(tk [44] (tk [125] ⟨l,nn,false,dp,Bool.or bg (decide (200<many))⟩).2).1 }) by simp [wJ,h38]]
   have hx:=(uP [125] ⟨l,nn,false,dp,Bool.or bg (decide (200<many))⟩).1
   have hy:=(uP [44] (tk [125] ⟨l,nn,false,dp,Bool.or bg (decide (200<many))⟩).2).1
   simp only [Bool.false_eq_true,if_false]
   simp only at hx
   obtain ⟨hlt,hl2,hl3⟩:=hent.2.2 rfl
   refine AW.skip (rgz [] [[],[]] ?_)
   iterate 2 refine op1 tok ?_
   refine qK ?_
   refine qB.stepK [0,1,2,6,39,41] (zA rfl (xG (tk [125] ⟨l,nn,false,dp,Bool.or bg (decide (200<many))⟩).2 [44]) (by simp)) (by conv=>lhs; simp) rfl ?_
   refine qB.run [[],[],[],[0,1,2,6]] ?_
   iterate 4 refine op1 tok ?_
   refine qA (rgz [] [[],[],[0,1,2,6]] ?_)
   iterate 3 refine op1 tok ?_
   refine qA ?_
   exact ⟨(n,{ (tk [44] (tk [125] ⟨l,nn,false,dp,Bool.or bg (decide (200<many))⟩).2).2 with bad := !(tk [44] (tk [125] ⟨l,nn,false,dp,Bool.or bg (decide (200<many))⟩).2).1 },many+1,ks2,vs2),⟨by simp,by simp only; omega,by omega,by simp only; omega,fun _=>by simp only [yR]; omega,by simp only; omega,by simp only; omega,hent.1⟩,by simp only; omega,qE (by simp),rfl,by simp,by simp⟩
 intro h14
 try simp at h14
 rw [if_pos (show s.bad=true by simpa using h14)]
 refine AW.exit ?_
 simp
 exact qIW
theorem zAN (hG:U8 G) (N:Nat) (st:RS) (d:Nat) (hN:2 * st.left.length+3≤N) (hl:st.left.length≤1000000000) (hk:st.nodes+st.left.length≤10000000000) (hd:d+st.left.length≤10000000000) (hv:qIB G N d):AX Tryz.prog G 80 [.ptr 2 0,.p (.int .i64 d)] [(2,.vars 85 (rdC st))] (.agg (Val.mk 7 0 dc0 [] (qER N st d).2.1 (qER N st d).2.2 0).cells) [2] [(2,.vars 85 (rdC (qER N st d).1))]:=by
 refine AX.introU tok 900 Tryz.func80 (by kernel_rfl) rfl rfl ?_
 simp only [Tryz.f80,qO,List.map_cons,List.map_nil]
 refine rgn [] [[],[],[2,3,4]] ?_
 iterate 3 refine op1 tok ?_
 refine qA (rgn [] [[],[],[2,3,4,5]] ?_)
 iterate 3 refine op1 tok ?_
 refine qA ?_
 refine AW.renE 902 6 (by simp) (by conv=>lhs; simp) ?_
 refine AW.renE 903 7 (by simp) (by conv=>lhs; simp) ?_
 refine AW.renE 905 5 (by simp) (by conv=>lhs; simp) ?_
 refine AW.beginBox 5 3 6 9 1 (by simp; exact ⟨rfl,rfl⟩) (by simp) (by simp) (by conv=>lhs; simp) ?_
 refine AW.beginBox 5 8 7 42 9 (by simp; exact ⟨rfl,rfl⟩) (by simp) (by simp) (by conv=>lhs; simp) ?_
 refine rgn [] [[],[]] ?_
 iterate 2 refine op1 tok ?_
 refine qK ?_
 refine qB.stepK [4,5] (zA rfl (zEO hG N st d hN hl hk hd hv) (by simp)) (by conv=>lhs; simp) rfl ?_
 refine qB.nil ?_
 refine AW.freeze 3 ?_
 refine AW.freeze 8 ?_
 refine rgn [] [[],[4]] ?_
 iterate 2 refine op1 tok ?_
 refine qA ?_
 exact AW.ret (qV (k:=by simp [dc0]))
def zJU (st:RS) (d:Nat):RS:=⟨st.left,st.nodes+1,st.bad,Bool.or st.deep (decide (12<d)),Bool.or st.big (decide (400<st.nodes+1))⟩
theorem zJM (w:List UInt8) (st:RS) (d:Nat):tk w (zJU st d)=if w.isPrefixOf (qT st d).left=true then (true,qW (qT st d) w.length) else (false,qT st d):=rfl
theorem zGP (w:List UInt8) {E:RS} (h:zO E.left=E.left):tk w E=if w.isPrefixOf E.left=true then (true,qW E w.length) else (false,E):=by
 unfold tk; rw [h]; rfl
theorem qKP (w : List UInt8) (k : Nat) {S E : RS} (h : tk w S = if w.isPrefixOf E.left = true then (true, qW E w.length) else (false, E)) (hp : w.isPrefixOf E.left = true) (hk : w.length = k := by rfl) :
  AX Tryz.prog G 78 [.ptr 2 0,.p (.str w)] [(2,.vars 85 (rdC S))] (.p (.bool true)) [2] [(2,.vars 85 (rdC (qW E k)))]:=by
 have:=xG (G:=G) S w
 rw [h,if_pos hp] at this; exact hk ▸ this
theorem qKQ (w : List UInt8) {S E : RS} (h : tk w S = if w.isPrefixOf E.left = true then (true, qW E w.length) else (false, E)) (hp : ¬ w.isPrefixOf E.left = true) :
  AX Tryz.prog G 78 [.ptr 2 0,.p (.str w)] [(2,.vars 85 (rdC S))] (.p (.bool false)) [2] [(2,.vars 85 (rdC E))]:=by
 have:=xG (G:=G) S w
 rw [h,if_neg hp] at this; exact this
theorem qAL (n : Nat) (st : RS) (d : Nat) : qS (n + 1) st d = if ([91] : List UInt8).isPrefixOf (qT st d).left = true then ((qNE n (qW (qT st d) 1) (d + 1)).1, .mk 6 0 dc0 [] [] (qNE n (qW (qT st d) 1) (d + 1)).2 0)
  else if ([123]:List UInt8).isPrefixOf (qT st d).left=true then ((qER n (qW (qT st d) 1) (d+1)).1,.mk 7 0 dc0 [] (qER n (qW (qT st d) 1) (d+1)).2.1 (qER n (qW (qT st d) 1) (d+1)).2.2 0) else wT (qT st d):=by
 rw [qS]; rfl
attribute [local simp] qW
theorem qMX (hG:U8 G) (n:Nat) (st:RS) (d:Nat) (hN:2 * st.left.length+2≤n+1) (hl:st.left.length≤1000000000) (hk:st.nodes+st.left.length≤10000000000) (hd:d+st.left.length≤10000000000) (ih:∀ e,qIB G n e):AX Tryz.prog G 47 [.ptr 2 0,.p (.int .i64 d)] [(2,.vars 85 (rdC st))] (.agg (qS (n+1) st d).2.cells) [2] [(2,.vars 85 (rdC (qS (n+1) st d).1))]:=by
 refine AX.introU tok 900 Tryz.func47 (by kernel_rfl) rfl rfl ?_
 simp only [Tryz.f47,qO,List.map_cons,List.map_nil]
 rw [qAL]
 have htp:=fun w=>zJM w st d
 have hEl:zO (qT st d).left=(qT st d).left:=xT _
 have hts:=fun w=>zGP w hEl
 have hle:=qME st d
 have hen:(qT st d).nodes=st.nodes+1:=rfl
 have hd1:decide ((12:Int)<(d:Int))=decide (12<d):=by rw [decide_eq_decide]; omega
 have hd2:decide ((400:Int)<(st.nodes:Int)+1)=decide (400<st.nodes+1):=by rw [decide_eq_decide]; omega
 refine rgn [] [[]] ?_
 refine op1 tok ?_
 refine qA (rgn [] [[],[],[],[],[],[0,1,4,9,10],[],[0,1,4]] ?_)
 iterate 8 refine op1 tok ?_
 refine qA (rgn [] [[],[],[],[],[],[0,1,4,12,17],[],[],[],[0,1,4,20,21],[],[0,1,4]] ?_)
 iterate 6 refine op1 tok ?_
 iterate 2 refine op2 tok ?_
 iterate 4 refine op1 tok ?_
 refine qA (rgn [] [[],[],[],[],[],[0,1,4,23,28],[],[],[],[],[0,1,4,23,28,33],[],[],[0,1,4,34,36],[0,1,4]] ?_)
 iterate 6 refine op1 tok ?_
 iterate 5 refine op2 tok ?_
 iterate 4 refine op1 tok ?_
 refine qA (AW.seq (AW.block ?_))
 by_cases hs4:([91]:List UInt8).isPrefixOf (qT st d).left=true
 ·
  first | rw [if_pos hs4] | rw [if_neg hs4]
  generalize qT st d=E at *; obtain ⟨el,en,eb,edp,ebg⟩:=E
  simp only at hs4 hle hen hEl
  have hpl:=wA hs4
  simp at hpl
  refine rgn [] [[]] ?_
  refine op1 tok ?_
  refine qK ?_
  refine qB.stepK [0,1,4,39] (zA rfl (qKP [91] 1 (htp _) hs4) (by simp [zJU,hd1,hd2])) (by conv=>lhs; simp) rfl ?_
  refine qB.run [[0,1,4,37]] ?_
  refine op1 tok ?_
  refine qA (cnd ?_ ?_)
  ·intro h37
   try simp at h37
   refine rgn [] [[],[],[]] ?_
   iterate 3 refine op1 tok ?_
   refine qK ?_
   refine qB.stepK [4,43] (zA rfl (zHO n (qW ⟨el,en,eb,edp,ebg⟩ 1) (d+1) (by simp [qW]; omega) (by simp [qW]; omega) (by simp [qW]; omega) (by simp [qW]; omega) (ih _)) (by simp [qW])) (by conv=>lhs; simp) rfl ?_
   refine qB.run [[4]] ?_
   refine op1 tok ?_
   refine qA ?_
   exact AW.ret (qV (k:=by simp [dc0]))
  intro h37
  try simp at h37
 ·
  first | rw [if_pos hs4] | rw [if_neg hs4]
  generalize qT st d=E at *; obtain ⟨el,en,eb,edp,ebg⟩:=E
  simp only at hs4 hle hen hEl
  refine rgn [] [[]] ?_
  refine op1 tok ?_
  refine qK ?_
  refine qB.stepK [0,1,4,39] (zA rfl (qKQ [91] (htp _) hs4) (by simp [zJU,hd1,hd2])) (by conv=>lhs; simp) rfl ?_
  refine qB.run [[0,1,4,37]] ?_
  refine op1 tok ?_
  refine qA (cnd ?_ ?_)
  ·intro h37
   try simp at h37
  intro h37
  try simp at h37
  by_cases hs6:([123]:List UInt8).isPrefixOf el=true
  ·
   first | rw [if_pos hs6] | rw [if_neg hs6]
   have hpl:=wA hs6
   simp at hpl
   refine rgn [] [[]] ?_
   refine op1 tok ?_
   refine qK ?_
   refine qB.stepK [0,1,4,46] (zA rfl (qKP [123] 1 (hts _) hs6) (by simp)) (by conv=>lhs; simp) rfl ?_
   refine qB.run [[0,1,4,44]] ?_
   refine op1 tok ?_
   refine qA (cnd ?_ ?_)
   ·intro h44
    try simp at h44
    refine rgn [] [[],[],[]] ?_
    iterate 3 refine op1 tok ?_
    refine qK ?_
    refine qB.stepK [4,50] (zA rfl (zAN hG n (qW ⟨el,en,eb,edp,ebg⟩ 1) (d+1) (by simp [qW]; omega) (by simp [qW]; omega) (by simp [qW]; omega) (by simp [qW]; omega) (ih _)) (by simp [qW])) (by conv=>lhs; simp) rfl ?_
    refine qB.run [[4]] ?_
    refine op1 tok ?_
    refine qA ?_
    exact AW.ret (qV (k:=by simp [dc0]))
   intro h44
   try simp at h44
  ·
   first | rw [if_pos hs6] | rw [if_neg hs6]
   unfold wT
   simp only
   refine rgn [] [[]] ?_
   refine op1 tok ?_
   refine qK ?_
   refine qB.stepK [0,1,4,46] (zA rfl (qKQ [123] (hts _) hs6) (by simp)) (by conv=>lhs; simp) rfl ?_
   refine qB.run [[0,1,4,44]] ?_
   refine op1 tok ?_
   refine qA (cnd ?_ ?_)
   ·intro h44
    try simp at h44
   intro h44
   try simp at h44
   by_cases hs8:yY.isPrefixOf el=true
   ·
    first | rw [if_pos hs8] | rw [if_neg hs8]
    refine rgn [] [[]] ?_
    refine op1 tok ?_
    refine qK ?_
    refine qB.stepK [0,4,53] (zA rfl (qKP yY 4 (hts _) hs8) (by simp [yY])) (by conv=>lhs; simp) rfl ?_
    refine qB.run [[0,4,51]] ?_
    refine op1 tok ?_
    refine qA (cnd ?_ ?_)
    ·intro h51
     try simp at h51
     refine rgn [] [[],[4]] ?_
     iterate 2 refine op1 tok ?_
     refine qA ?_
     refine AW.fillE 904 [none,none,none,none,none,none,some 1,some 9,none] (by conv=>lhs; simp) ?_
     exact AW.ret (qV (k:=by simp [dc0]))
    intro h51
    try simp at h51
   ·
    first | rw [if_pos hs8] | rw [if_neg hs8]
    refine rgn [] [[]] ?_
    refine op1 tok ?_
    refine qK ?_
    refine qB.stepK [0,4,53] (zA rfl (qKQ yY (hts _) hs8) (by simp [yY])) (by conv=>lhs; simp) rfl ?_
    refine qB.run [[0,4,51]] ?_
    refine op1 tok ?_
    refine qA (cnd ?_ ?_)
    ·intro h51
     try simp at h51
    intro h51
    try simp at h51
    by_cases hs10:kE.isPrefixOf el=true
    ·
     first | rw [if_pos hs10] | rw [if_neg hs10]
     refine rgn [] [[]] ?_
     refine op1 tok ?_
     refine qK ?_
     refine qB.stepK [0,4,57] (zA rfl (qKP kE 4 (hts _) hs10) (by simp [kE])) (by conv=>lhs; simp) rfl ?_
     refine qB.run [[0,4,55]] ?_
     refine op1 tok ?_
     refine qA (cnd ?_ ?_)
     ·intro h55
      try simp at h55
      refine rgn [] [[],[4]] ?_
      iterate 2 refine op1 tok ?_
      refine qA ?_
      refine AW.fillE 904 [none,none,none,none,none,none,some 1,some 9,none] (by conv=>lhs; simp) ?_
      exact AW.ret (qV (k:=by simp [dc0]))
     intro h55
     try simp at h55
    ·
     first | rw [if_pos hs10] | rw [if_neg hs10]
     refine rgn [] [[]] ?_
     refine op1 tok ?_
     refine qK ?_
     refine qB.stepK [0,4,57] (zA rfl (qKQ kE (hts _) hs10) (by simp [kE])) (by conv=>lhs; simp) rfl ?_
     refine qB.run [[0,4,55]] ?_
     refine op1 tok ?_
     refine qA (cnd ?_ ?_)
     ·intro h55
      try simp at h55
     intro h55
     try simp at h55
     by_cases hs12:wZ.isPrefixOf el=true
     ·
      first | rw [if_pos hs12] | rw [if_neg hs12]
      refine rgn [] [[]] ?_
      refine op1 tok ?_
      refine qK ?_
      refine qB.stepK [0,4,61] (zA rfl (qKP wZ 5 (hts _) hs12) (by simp [wZ])) (by conv=>lhs; simp) rfl ?_
      refine qB.run [[0,4,59]] ?_
      refine op1 tok ?_
      refine qA (cnd ?_ ?_)
      ·intro h59
       try simp at h59
       refine rgn [] [[],[4]] ?_
       iterate 2 refine op1 tok ?_
       refine qA ?_
       refine AW.fillE 904 [none,none,none,none,none,none,some 1,some 9,none] (by conv=>lhs; simp) ?_
       exact AW.ret (qV (k:=by simp [dc0]))
      intro h59
      try simp at h59
     ·
      first | rw [if_pos hs12] | rw [if_neg hs12]
      refine rgn [] [[]] ?_
      refine op1 tok ?_
      refine qK ?_
      refine qB.stepK [0,4,61] (zA rfl (qKQ wZ (hts _) hs12) (by simp [wZ])) (by conv=>lhs; simp) rfl ?_
      refine qB.run [[0,4,59]] ?_
      refine op1 tok ?_
      refine qA (cnd ?_ ?_)
      ·intro h59
       try simp at h59
      intro h59
      try simp at h59
      refine rgn [.nilp,.bool (([34]:List UInt8).isPrefixOf el)] [[],[],[],[],[0,4,68],[0,4,63]] ?_
      iterate 6 refine op1 tok ?_ (hv:=by first | with_reducible exact True.intro | ((rw [← qFC]; exact qRS _ _); done) | omega | simp | (simp +contextual; omega))
      refine qA (cnd ?_ ?_)
      ·intro h63
       rw [if_pos h63]
       refine rgn [] [[]] ?_
       refine op1 tok ?_
       refine qK ?_
       refine qB.stepK [4,70] (zA rfl (qNZ hG ⟨el,en,eb,edp,ebg⟩ (by simp only; omega)) (by simp)) (by conv=>lhs; simp) rfl ?_
       refine qB.run [[],[4]] ?_
       iterate 2 refine op1 tok ?_
       refine qA ?_
       refine AW.fillE 904 [none,none,none,none,none,none,some 1,some 9,none] (by conv=>lhs; simp) ?_
       exact AW.ret (qV (k:=by simp [dc0]))
      intro h63
      rw [if_neg (by rw [h63]; simp)]
      by_cases hs16:el=[]
      ·
       skip
       subst hs16
       refine rgn [.int .u8 0,.int .u8 0,.int .u8 0] [[],[],[],[],[0,4,77],[],[],[],[],[0,4,78,82],[],[],[],[],[0,4,78,85,87],[],[],[],[0,4,78,85,91],[],[],[],[],[0,4,78,85,92,96],[],[],[0,4,78,85,99],[],[0,4,101],[0,4,72]] ?_
       iterate 6 refine op1 tok ?_
       iterate 22 refine op2 tok ?_
       iterate 2 refine op1 tok ?_
       refine qA (cnd ?_ ?_)
       ·intro h72
        try simp at h72
       intro h72
       try simp at h72
       refine AW.skip ?_
       rw [if_neg (by simp)]
       refine rgn [] [[],[],[],[4]] ?_
       iterate 4 refine op1 tok ?_
       refine qA (rgn [] [[],[4]] ?_)
       iterate 2 refine op1 tok ?_
       refine qA ?_
       refine AW.fillE 904 [none,none,none,none,none,none,some 1,some 9,none] (by conv=>lhs; simp) ?_
       exact AW.ret (qV (k:=by simp [zK,dc0]))
      ·
       skip
       obtain ⟨c,t,rfl⟩:∃ c t,el=c::t:=by cases el with | nil=>exact (hs16 rfl).elim | cons c t=>exact ⟨c,t,rfl⟩
       refine rgn [.int .u8 c.toNat,.int .u8 c.toNat,.int .u8 c.toNat] [[],[],[],[],[0,4,77],[],[],[],[],[0,4,78,82],[],[],[],[],[0,4,78,85,87],[],[],[],[0,4,78,85,91],[],[],[],[],[0,4,78,85,92,96],[],[],[0,4,78,85,99],[],[0,4,101],[0,4,72]] ?_
       iterate 6 refine op1 tok ?_ (hv:=by first | with_reducible exact True.intro | (first | (simp; done) | (simp; omega) | (simp +contextual; done); done) | omega | simp | (simp +contextual; omega))
       iterate 22 refine op2 tok ?_ (hv:=by first | with_reducible exact True.intro | (first | (simp; done) | (simp; omega) | (simp +contextual; done); done) | omega | simp | (simp +contextual; omega))
       iterate 2 refine op1 tok ?_ (hv:=by first | with_reducible exact True.intro | (first | (simp; done) | (simp; omega) | (simp +contextual; done); done) | omega | simp | (simp +contextual; omega))
       refine qA (cnd ?_ ?_)
       ·intro h72
        have hb:qN (List.cons c t) 0=(c.toNat:Int):=rfl
        rw [if_pos (show List.cons c t≠[]∧(qN (List.cons c t) 0=45∨yO (qN (List.cons c t) 0)=true) by
         refine ⟨by simp, ?_⟩
         rw [hb]; unfold yO
         simp only [Bool.or_eq_true,Bool.and_eq_true,decide_eq_true_eq] at h72 ⊢
         exact h72)]
        refine rgn [] [[]] ?_
        refine op1 tok ?_
        refine qK ?_
        refine qB.stepK [4,103] (zA rfl (zAP ⟨List.cons c t,en,eb,edp,ebg⟩ (by simp only; omega)) (by simp)) (by conv=>lhs; simp) rfl ?_
        refine qB.run [[4]] ?_
        refine op1 tok ?_
        refine qA ?_
        exact AW.ret (qV (k:=by simp [dc0]))
       intro h72
       have hb:qN (List.cons c t) 0=(c.toNat:Int):=rfl
       rw [if_neg (show ¬ (List.cons c t≠[]∧(qN (List.cons c t) 0=45∨yO (qN (List.cons c t) 0)=true)) by
        rintro ⟨_,h⟩
        rw [hb] at h; unfold yO at h
        simp only [Bool.or_eq_false_iff,Bool.and_eq_false_iff,decide_eq_false_iff_not] at h72
        simp only [Bool.and_eq_true,decide_eq_true_eq] at h
        omega)]
       refine AW.skip (rgn [] [[],[],[],[4]] ?_)
       iterate 4 refine op1 tok ?_
       refine qA (rgn [] [[],[4]] ?_)
       iterate 2 refine op1 tok ?_
       refine qA ?_
       refine AW.fillE 904 [none,none,none,none,none,none,some 1,some 9,none] (by conv=>lhs; simp) ?_
       exact AW.ret (qV (k:=by simp [zK,dc0]))
end Go.Proofs.YtlmedakhioiahaaGreatDoor
namespace Go.Proofs.YtlmedakhioiahaaGreatDoor
open Sy Go
set_option maxRecDepth 100000
set_option maxHeartbeats 4000000
set_option linter.unusedSimpArgs false
set_option linter.unusedVariables false
variable {G:qR}
theorem zBM (ks:List (List UInt8)) (hn:ks.length≤1000000):AX Tryz.prog G 119 [.p (.sl 1 (ks.map PD.str))] [] (.ms 905) [] [(905,.row 9 1 (ks.map PD.str))]:=by
 refine AX.introU tok 900 Tryz.func119 (by kernel_rfl) rfl rfl ?_
 simp only [Tryz.f119,qO,List.map_cons,List.map_nil]
 refine rgn [] [[0]] ?_
 refine op1 tok ?_
 refine qA (AW.seq (rgn [] [[]] ?_))
 refine op1 tok ?_
 refine qK ?_
 refine qB.nilEq tok [0,4] rfl rfl (by conv=>lhs; simp) trivial rfl ?_
 intro bn1 hbn1
 refine qB.same (by conv=>lhs; simp) ?_
 refine qB.nil ?_
 refine cnd ?_ ?_
 ·intro h4
  try simp at h4
  have hks:ks=[]:=by
   by_cases h:ks=[]
   ·exact h
   rw [hbn1 (by simpa using h)] at h4; cases h4
  subst hks
  refine rgn [] [[]] ?_
  refine op1 tok ?_
  refine qA ?_
  refine AW.beginE 2 905 9 1 (by simp) (by simp) (by conv=>lhs; simp) ?_
  exact AW.ret qV
 intro h4
 try simp at h4
 refine AW.skip (rgn [] [[],[],[],[2]] ?_)
 iterate 4 refine op1 tok ?_
 refine qA ?_
 exact AW.ret qV
theorem zBN (ks:List (List UInt8)) (hn:ks.length≤1000000):AR Tryz.prog G 119 [.sl 1 (ks.map PD.str)] 9 1 (ks.map PD.str):=AR.of_AX (k:=905) (by simpa using zBM ks hn)
theorem zBK (vs:List Val) (hn:vs.length≤1000000):AX Tryz.prog G 120 [.p (.sl 9 (vs.map Val.enc))] [] (.ms 905) [] [(905,.row 42 9 (vs.map Val.enc))]:=by
 refine AX.introU tok 900 Tryz.func120 (by kernel_rfl) rfl rfl ?_
 simp only [Tryz.f120,qO,List.map_cons,List.map_nil]
 refine rgn [] [[0]] ?_
 refine op1 tok ?_
 refine qA (AW.seq (rgn [] [[]] ?_))
 refine op1 tok ?_
 refine qK ?_
 refine qB.nilEq tok [0,4] rfl rfl (by conv=>lhs; simp) trivial rfl ?_
 intro bn1 hbn1
 refine qB.same (by conv=>lhs; simp) ?_
 refine qB.nil ?_
 refine cnd ?_ ?_
 ·intro h4
  try simp at h4
  have hks:vs=[]:=by
   by_cases h:vs=[]
   ·exact h
   rw [hbn1 (by simpa using h)] at h4; cases h4
  subst hks
  refine rgn [] [[]] ?_
  refine op1 tok ?_
  refine qA ?_
  refine AW.beginE 2 905 42 9 (by simp) (by simp) (by conv=>lhs; simp) ?_
  exact AW.ret qV
 intro h4
 try simp at h4
 refine AW.skip (rgn [] [[],[],[],[2]] ?_)
 iterate 4 refine op1 tok ?_
 refine qA ?_
 exact AW.ret qV
theorem zBL (vs:List Val) (hn:vs.length≤1000000):AR Tryz.prog G 120 [.sl 9 (vs.map Val.enc)] 42 9 (vs.map Val.enc):=AR.of_AX (k:=905) (by simpa using zBK vs hn)
@[simp] theorem zKZ (u:Val):(qGW u).kind=u.kind:=rfl
@[simp] theorem zKY (u:Val):(qGW u).mask=0:=rfl
@[simp] theorem zMC (u:Val):(qGW u).num=u.num:=rfl
@[simp] theorem zKX (u:Val):(qGW u).text=u.text:=rfl
@[simp] theorem zLB (u:Val):(qGW u).keys=u.keys:=rfl
@[simp] theorem zLA (u:Val):(qGW u).kids=u.kids:=rfl
@[simp] theorem zLC (u:Val):(qGW u).code=u.code:=rfl
def xW (ch:Val→Val) (v:Val) (k:Nat):List PD:=(v.kids.take k).map (fun u=>(qAH ch u).enc)++(v.kids.drop k).map Val.enc
theorem qWQ (ch:Val→Val) (v:Val) (k:Nat):(xW ch v k).length=v.kids.length:=by
 simp only [xW,List.length_append,List.length_map,List.length_take,List.length_drop]; omega
@[simp] theorem zJA (ch:Val→Val) (v:Val):xW ch v 0=v.kids.map Val.enc:=by simp only [xW,List.take_zero,List.map_nil,List.nil_append,List.drop_zero]
theorem qWR {ch:Val→Val} {v x:Val} {k:Nat} (hx:v.kids[k]?=some x):(xW ch v k)[k]?=some x.enc:=by
 have hk:=(List.getElem?_eq_some_iff.1 hx).1
 have h0:((v.kids.take k).map (fun u=>(qAH ch u).enc)).length=k:=by simp only [List.length_map,List.length_take]; omega
 rw [xW,List.getElem?_append_right (by omega),h0,Nat.sub_self,List.getElem?_map,List.getElem?_drop,Nat.add_zero,hx]; rfl
theorem qWP {ch:Val→Val} {v x:Val} {k:Nat} (hx:v.kids[k]?=some x):(xW ch v k).set k (qAH ch x).enc=xW ch v (k+1):=by
 have hk:=(List.getElem?_eq_some_iff.1 hx).1
 have hxk:=(List.getElem?_eq_some_iff.1 hx).2
 have h0:((v.kids.take k).map (fun u=>(qAH ch u).enc)).length=k:=by simp only [List.length_map,List.length_take]; omega
 rw [xW,List.set_append_right _ _ (by omega),h0,Nat.sub_self,List.drop_eq_getElem_cons hk,xW,List.take_succ_eq_append_getElem hk,hxk]
 simp only [List.map_cons,List.set_cons_zero,List.map_append,List.map_nil,List.append_assoc,List.cons_append,List.nil_append]
theorem qUA (g:FuncId) (ch:Val→Val) (v:Val) (hg:∀ u:Val,AX Tryz.prog G g [.ptr 2 0] [(2,.vars 42 u.cells)] (.tuple []) [2] [(2,.vars 42 (ch u).cells)]) (hsm:v.keys.length≤1000000∧v.kids.length≤1000000) (ih:∀ k∈v.kids,AFn Tryz.prog G 84 [k.enc,.fn g] (qAH ch k).enc):AFn Tryz.prog G 84 [v.enc,.fn g] ((qAH ch v).enc):=by
 refine AFn.introU tok Tryz.func84 (by kernel_rfl) rfl rfl ?_
 simp only [Tryz.f84,qO,List.map_cons,List.map_nil]
 have hck:=zBN (G:=G) v.keys (by omega)
 have hcv:=zBL (G:=G) v.kids (by omega)
 refine rgn [] [[],[1,2,4]] ?_
 iterate 2 refine op1 tok ?_
 refine qA ?_
 refine AW.seqRunDrawK tok mixed [1,2,4] 8 [[2],[7],[8],[2],[10],[11],[2],[13,9]] [.nilf,.sl 1 (v.keys.map PD.str),.clo 9 [],.nilf,.sl 9 (v.kids.map Val.enc),.clo 42 []] [] (by kernel_rfl) (by intro C; conv=>lhs; simp) (by first | exact hck | exact hcv | ((repeat' (first | with_reducible apply And.intro | intro _)) <;> first | exact (hck) | exact (hcv) | assumption | omega | contradiction | simp_all)) (by simp [Sm.sum,Sm.foot,Sm.tch,Sm.refs]; kernel_rfl) (by intro C; conv=>lhs; simp) (by first | with_reducible exact True.intro | omega | simp | (simp +contextual; omega)) ?_
 refine AW.seq (rgn [] [[],[],[],[1,2,4,16,17,18]] ?_)
 iterate 4 refine op1 tok ?_
 refine qA (AW.block ?_)
 refine AW.loop (α:=Nat) (fun k=>k≤v.kids.length) (fun k=>⟨zI 34 [(1,.p (.fn g)),(2,.ptr 2 0),(4,.ptr 4 0),(16,.ms 12),(17,.p (.int .i64 v.kids.length)),(18,.p (.int .i64 k))],[],[(2,.vars 42 [.p (.int .i64 v.kind),.p (.int .u64 v.mask),.p (.bool v.num.neg),.p (.str v.num.digits),.p (.int .i64 v.num.scale),.p (.str v.text),.ms 9,.ms 12,.p (.int .i64 v.code)]),(4,.vars 42 [.p (.int .i64 0),.p (.int .u64 0),.p (.bool false),.p (.str []),.p (.int .i64 0),.p (.str []),.nilsl,.nilsl,.p (.int .i64 0)]),(9,.row 9 1 (v.keys.map PD.str)),(12,.row 42 9 (xW ch v k))],0⟩) (fun k=>v.kids.length-k) (0) (by simp) ⟨qE (by simp),rfl,by simp,by simp⟩ ?_
 rintro k hk
 refine rgn [] [[]] ?_
 refine op1 tok ?_
 refine qA (AW.seq (cnd ?_ ?_))
 ·intro h19
  try simp at h19
  obtain ⟨x,hx⟩:∃ x,v.kids[k]?=some x:=⟨v.kids[k],by simp [h19]⟩
  have hx':=qWR (ch:=ch) hx
  have hkl:=qWQ ch v k
  have hix:=ih x (List.mem_of_getElem? hx)
  have hset:=qWP (ch:=ch) hx
  simp only [Val.enc_def] at hx' hix hset
  refine AW.skip (AW.seq (AW.block (rgn [x.enc] [[],[],[],[],[],[1,2,4,5,6,16,17,18]] ?_)))
  iterate 6 refine oq1 tok hx' ?_
  refine qA ?_
  refine AW.runDrawK tok mixed [1,2,4,16,17,18] 6 [[2],[23],[5],[6],[1],[26,27]] [.nilp,(qAH ch x).enc] [x.enc,(qAH ch x).enc] (by kernel_rfl) (by intro C; conv=>lhs; simp) (by first | exact hix | ((repeat' (first | with_reducible apply And.intro | intro _)) <;> first | exact (hix) | exact (hx') | assumption | omega | contradiction | simp_all)) (by simp [Sm.sum,Sm.foot,Sm.tch,Sm.refs]; kernel_rfl) (by intro C; conv=>lhs; simp) (by exact ⟨by omega,hx'⟩) ?_
  refine rgz [] [[],[1,2,4,16,17,18]] ?_
  iterate 2 refine op1 tok ?_
  refine qA ?_
  exact ⟨k+1,(by omega),(by omega),qE (by simp [hset]),rfl,by simp [hset],by simp [hset]⟩
 intro h19
 try simp at h19
 obtain rfl:k=v.kids.length:=by omega
 have hfull:xW ch v v.kids.length=(v.kids.map (qAH ch)).map Val.enc:=by simp only [xW,List.take_length,List.drop_length,List.map_nil,List.append_nil,List.map_map]; rfl
 rw [hfull]
 refine AW.exit ?_
 simp
 refine rgn [] [[]] ?_
 refine op1 tok ?_
 refine qK ?_
 refine qB.freeze 9 (by conv=>lhs; simp) ?_
 refine qB.freeze 12 (by conv=>lhs; simp) ?_
 refine qB.stepK [2,4] (zA rfl (hg (.mk v.kind v.mask v.num v.text v.keys (v.kids.map (qAH ch)) v.code)) (by simp)) (by conv=>lhs; simp) rfl ?_
 refine qB.nil ?_
 refine rgn [] [[],[4]] ?_
 iterate 2 refine op1 tok ?_
 refine qA ?_
 exact AW.ret (qP (k:=by simp [qQK ch v]))
inductive Few:Val→Prop
 | mk {v:Val} (h1:v.keys.length≤1000000) (h2:v.kids.length≤1000000) (h3:∀ k∈v.kids,Few k):Few v
theorem qWM (g:FuncId) (ch:Val→Val) (hg:∀ u:Val,AX Tryz.prog G g [.ptr 2 0] [(2,.vars 42 u.cells)] (.tuple []) [2] [(2,.vars 42 (ch u).cells)]) (v:Val) (hv:Few v):AFn Tryz.prog G 84 [v.enc,.fn g] (qAH ch v).enc:=by
 induction hv with
 | mk h1 h2 h3 ih=>exact qUA g ch _ hg ⟨h1,h2⟩ ih
theorem zBP (u:Val):AX Tryz.prog G 85 [.ptr 2 0] [(2,.vars 42 u.cells)] (.tuple []) [2] [(2,.vars 42 (id u).cells)]:=by
 refine AX.introU tok 900 Tryz.func85 (by kernel_rfl) rfl rfl ?_
 simp only [Tryz.f85,qO,List.map_cons,List.map_nil]
 refine AW.skip ?_
 exact qIW
theorem zBO (v:Val) (hv:Few v):AFn Tryz.prog G 48 [v.enc] (v.enc):=by
 refine AFn.introU tok Tryz.func48 (by kernel_rfl) rfl rfl ?_
 simp only [Tryz.f48,qO,List.map_cons,List.map_nil]
 have hm:=qWM (G:=G) 85 id zBP v hv
 rw [zHN] at hm
 simp only [Val.enc_def] at hm
 refine rgn [] [[],[1,2]] ?_
 iterate 2 refine op1 tok ?_
 refine qA (rgn [.nilp,v.enc] [[],[],[2]] ?_)
 iterate 3 refine oq1 tok hm ?_
 exact qA (AW.ret qP)
theorem qQY {v:Val} (h1:v.keys=[]) (h2:v.kids=[]):Few v := .mk (by rw [h1]; simp) (by rw [h2]; simp) (by rw [h2]; simp)
theorem vC (c:UInt8) (many:Nat) (st:RS) (h:(wJ c many st).2.big=false):st.big=false:=by
 unfold wJ at h; simp only at h; split at h
 ·simp only [Bool.or_eq_false_iff] at h; exact h.1
 split at h
 ·rw [qEM] at h; simp only [Bool.or_eq_false_iff] at h; exact h.1
 simp only [qEM,Bool.or_eq_false_iff] at h; exact h.1
theorem qEO (st:RS) (h:(qD st).1.big=false):st.big=false:=by
 unfold qD jP at h; split at h
 ·exact h
 split at h
 ·cases h
 exact h
theorem qPD (st:RS) (h:(qQ st).big=false):st.big=false:=by
 unfold qQ at h; split at h
 ·exact h
 simpa using h
theorem qPA (st:RS) (d:Nat) (h:(qT st d).big=false):st.big=false∧st.nodes+1≤400:=by
 simp only [qT,Bool.or_eq_false_iff,decide_eq_false_iff_not] at h; exact ⟨h.1,by omega⟩
theorem qVC (st:RS) (h:(wT st).1.big=false):st.big=false∧Few (wT st).2:=by
 unfold wT at h ⊢
 split
 ·rename_i c; rw [if_pos c] at h; exact ⟨h,qQY rfl rfl⟩
 rename_i c; rw [if_neg c] at h
 split
 ·rename_i c; rw [if_pos c] at h; exact ⟨h,qQY rfl rfl⟩
 rename_i c; rw [if_neg c] at h
 split
 ·rename_i c; rw [if_pos c] at h; exact ⟨h,qQY rfl rfl⟩
 rename_i c; rw [if_neg c] at h
 split
 ·rename_i c; rw [if_pos c] at h; exact ⟨qEO st h,qQY rfl rfl⟩
 rename_i c; rw [if_neg c] at h
 split
 ·rename_i c; rw [if_pos c] at h
  simp only [wO,Bool.or_eq_false_iff] at h; exact ⟨h.1,qQY rfl rfl⟩
 rename_i c; rw [if_neg c] at h; exact ⟨h,qQY rfl rfl⟩
theorem zHV {ks:List (List UInt8)} {vs:List Val} {key:List UInt8} {v:Val} (h:∀ u∈vs,Few u) (hv:Few v):∀ u∈(kW ks vs key v).2,Few u:=by
 unfold kW; split
 ·intro u hu
  rcases List.mem_or_eq_of_mem_set hu with h1 | h1
  ·exact h u h1
  exact h1 ▸ hv
 intro u hu
 rcases List.mem_append.1 hu with h1 | h1
 ·exact h u h1
 exact List.mem_singleton.1 h1 ▸ hv
theorem zFI:∀ n:Nat,(∀ st d,(qS n st d).1.big=false→st.big=false∧(n≠0→(qT st d).big=false))∧(∀ st d many vs,(yN n st d many vs).1.big=false→st.big=false)∧(∀ st d many ks vs,(wN n st d many ks vs).1.big=false→st.big=false)
 | 0=>⟨fun st d h=>⟨by simpa [qS] using h,fun h=>(h rfl).elim⟩,fun st d many vs h=>by simpa [yN] using h,fun st d many ks vs h=>by simpa [wN] using h⟩
 | n+1=>by
  obtain ⟨ih1,ih2,ih3⟩:=zFI n
  refine ⟨fun st d hb => ?_,fun st d many vs hb => ?_,fun st d many ks vs hb => ?_⟩
  ·have key:(qT st d).big=false→st.big=false∧(n+1≠0→(qT st d).big=false):=fun h=>⟨(qPA st d h).1,fun _=>h⟩
   rw [qAL] at hb
   split at hb
   ·refine key ?_
    unfold qNE at hb
    split at hb
    ·simpa [qW] using hb
    have:=ih2 _ _ _ _ hb; simpa [qW] using this
   split at hb
   ·refine key ?_
    unfold qER at hb
    split at hb
    ·simpa [qW] using hb
    have:=ih3 _ _ _ _ _ hb; simpa [qW] using this
   exact key (qVC _ hb).1
  ·rw [qCM] at hb
   split at hb
   ·exact hb
   split at hb
   ·exact (ih1 st d (vC _ _ _ hb)).1
   exact (ih1 st d (vC _ _ _ (ih2 _ _ _ _ hb))).1
  rw [qGB] at hb
  have he:(yX (qD st) ks vs (qS n (qQ (qD st).1) d)).1.big=false→st.big=false:=by
   unfold yX
   split
   ·exact fun h=>qEO _ (qPD _ h)
   exact fun h=>qEO _ (qPD _ (ih1 _ _ h).1)
  split at hb
  ·exact hb
  split at hb
  ·exact he (vC _ _ _ hb)
  exact he (vC _ _ _ (ih3 _ _ _ _ _ hb))
theorem qUN : ∀ n : Nat, (∀ st d, st.nodes ≤ 400 → (qS n st d).1.big = false → st.nodes ≤ (qS n st d).1.nodes ∧ (qS n st d).1.nodes ≤ 400 ∧ Few (qS n st d).2 ∧ ((qS n st d).1.bad = false → st.nodes + 1 ≤ (qS n st d).1.nodes)) ∧
  (∀ st d many vs,st.nodes≤400→(∀ v∈vs,Few v)→(yN n st d many vs).1.big=false→st.nodes≤(yN n st d many vs).1.nodes∧(yN n st d many vs).1.nodes≤400∧(yN n st d many vs).2.length+st.nodes≤vs.length+(yN n st d many vs).1.nodes+1∧∀ v∈(yN n st d many vs).2,Few v) ∧
  (∀ st d many ks vs,st.nodes≤400→ks.length=vs.length→(∀ v∈vs,Few v)→(wN n st d many ks vs).1.big=false→st.nodes≤(wN n st d many ks vs).1.nodes∧(wN n st d many ks vs).1.nodes≤400∧(wN n st d many ks vs).2.1.length=(wN n st d many ks vs).2.2.length∧(wN n st d many ks vs).2.2.length+st.nodes≤vs.length+(wN n st d many ks vs).1.nodes+1∧∀ v∈(wN n st d many ks vs).2.2,Few v)
 | 0=>⟨fun st d hn h=>⟨by simp [qS],by simpa [qS] using hn,qQY (by simp [qS,zK,Val.keys]) (by simp [qS,zK,Val.kids]),fun h=>by simp [qS] at h⟩,fun st d many vs hn hf h=>⟨by simp [yN],by simpa [yN] using hn,by simp only [yN]; omega,by simpa [yN] using hf⟩,fun st d many ks vs hn hl hf h=>⟨by simp [wN],by simpa [wN] using hn,by simpa [wN] using hl,by simp only [wN]; omega,by simpa [wN] using hf⟩⟩
 | n+1=>by
  obtain ⟨ih1,ih2,ih3⟩:=qUN n
  refine ⟨fun st d hn hb => ?_,fun st d many vs hn hf hb => ?_,fun st d many ks vs hn hl hf hb => ?_⟩
  ·have hen:(qT st d).nodes=st.nodes+1:=rfl
   have heb:=((zFI (n+1)).1 st d hb).2 (by omega)
   have h4:=(qPA st d heb).2
   rw [qAL] at hb ⊢
   have hdn:(qW (qT st d) 1).nodes=st.nodes+1:=rfl
   generalize qW (qT st d) 1=D at *
   split
   ·rename_i hp
    rw [if_pos hp] at hb
    unfold qNE at hb ⊢
    by_cases ht:(tk [93] D).1=true
    ·rw [if_pos ht]
     simp only [yR]
     exact ⟨by omega,by omega,qQY rfl rfl,fun _=>by omega⟩
    rw [if_neg ht] at hb ⊢
    obtain ⟨h2,h3,h5,h6⟩:=ih2 (tk [93] D).2 (d+1) 1 [] (by rw [yR]; omega) (fun v hv=>by cases hv) hb
    rw [yR] at h2 h5
    exact ⟨by simp only; omega,h3,.mk (by simp [Val.keys]) (by simp [Val.kids] at h5 ⊢; omega) (by simpa [Val.kids] using h6),fun _=>by simp only; omega⟩
   rename_i hp
   rw [if_neg hp] at hb
   split
   ·rename_i hp
    rw [if_pos hp] at hb
    unfold qER at hb ⊢
    by_cases ht:(tk [125] D).1=true
    ·rw [if_pos ht]
     simp only [yR]
     exact ⟨by omega,by omega,qQY rfl rfl,fun _=>by omega⟩
    rw [if_neg ht] at hb ⊢
    obtain ⟨h2,h3,h7,h5,h6⟩:=ih3 (tk [125] D).2 (d+1) 1 [] [] (by rw [yR]; omega) rfl (fun v hv=>by cases hv) hb
    rw [yR] at h2 h5
    exact ⟨by simp only; omega,h3,.mk (by simp [Val.keys] at h5 h7 ⊢; omega) (by simp [Val.kids] at h5 ⊢; omega) (by simpa [Val.kids] using h6),fun _=>by simp only; omega⟩
   rename_i hp
   rw [if_neg hp] at hb
   have:=qMP (qT st d)
   exact ⟨by omega,by omega,(qVC _ hb).2,fun _=>by omega⟩
  ·rw [qCM] at hb ⊢
   split
   ·exact ⟨Nat.le_refl _,hn,by simp only; omega,hf⟩
   rename_i hc
   rw [if_neg hc] at hb
   have hsn:=qDO 93 many (qS n st d).1
   split
   ·rename_i hs
    rw [if_pos hs] at hb
    obtain ⟨h1,h2,h3,h4⟩:=ih1 st d hn (vC _ _ _ hb)
    refine ⟨by simp only; omega,by simp only; omega,by simp only [List.length_append,List.length_cons,List.length_nil]; omega,fun v hv => ?_⟩
    rcases List.mem_append.1 hv with h | h
    ·exact hf v h
    exact List.mem_singleton.1 h ▸ h3
   rename_i hs
   rw [if_neg hs] at hb
   have hbb:=qSW 93 many (qS n st d).1 (by simpa using hs)
   obtain ⟨h1,h2,h3,h4⟩:=ih1 st d hn (vC _ _ _ ((zFI n).2.1 _ _ _ _ hb))
   have h4:=h4 hbb
   obtain ⟨h5,h6,h7,h8⟩:=ih2 (wJ 93 many (qS n st d).1).2 d (many+1) (vs++[(qS n st d).2]) (by omega) (fun v hv=>by
    rcases List.mem_append.1 hv with h | h
    ·exact hf v h
    exact List.mem_singleton.1 h ▸ h3) hb
   rw [List.length_append,List.length_cons,List.length_nil] at h7
   exact ⟨by omega,h6,by omega,h8⟩
  rw [qGB] at hb ⊢
  split
  ·exact ⟨Nat.le_refl _,hn,hl,by simp only; omega,hf⟩
  rename_i hc
  rw [if_neg hc] at hb
  have hE : (yX (qD st) ks vs (qS n (qQ (qD st).1) d)).1.big = false → st.nodes ≤ (yX (qD st) ks vs (qS n (qQ (qD st).1) d)).1.nodes ∧ (yX (qD st) ks vs (qS n (qQ (qD st).1) d)).1.nodes ≤ 400 ∧
    (yX (qD st) ks vs (qS n (qQ (qD st).1) d)).2.1.length=(yX (qD st) ks vs (qS n (qQ (qD st).1) d)).2.2.length∧(yX (qD st) ks vs (qS n (qQ (qD st).1) d)).2.2.length≤vs.length+1 ∧
    (∀ v∈(yX (qD st) ks vs (qS n (qQ (qD st).1) d)).2.2,Few v)∧((yX (qD st) ks vs (qS n (qQ (qD st).1) d)).1.bad=false→st.nodes+1≤(yX (qD st) ks vs (qS n (qQ (qD st).1) d)).1.nodes):=by
   have hcn:(qQ (qD st).1).nodes=st.nodes:=(uY _).trans (xJ st)
   unfold yX
   split
   ·rename_i hcb
    exact fun _=>⟨by simp only; omega,by simp only; omega,hl,by simp only; omega,hf,fun h=>by simp only at h; rw [hcb] at h; cases h⟩
   intro h
   obtain ⟨h1,h2,h3,h4⟩:=ih1 (qQ (qD st).1) d (by omega) h
   obtain ⟨p1,p2,p3⟩:=qFW hl (qD st).2 (qS n (qQ (qD st).1) d).2
   exact ⟨by simp only; omega,h2,p1,p3,zHV hf h3,fun h=>by have:=h4 h; simp only; omega⟩
  generalize yX (qD st) ks vs (qS n (qQ (qD st).1) d)=A at *
  have hsn:=qDO 125 many A.1
  split
  ·rename_i hs
   rw [if_pos hs] at hb
   obtain ⟨h1,h2,h3,h4,h5,h6⟩:=hE (vC _ _ _ hb)
   exact ⟨by simp only; omega,by simp only; omega,h3,by simp only; omega,h5⟩
  rename_i hs
  rw [if_neg hs] at hb
  have hbb:=qSW 125 many A.1 (by simpa using hs)
  obtain ⟨h1,h2,h3,h4,h5,h6⟩:=hE (vC _ _ _ ((zFI n).2.2 _ _ _ _ _ hb))
  have h6:=h6 hbb
  obtain ⟨g1,g2,g3,g4,g5⟩:=ih3 (wJ 125 many A.1).2 d (many+1) A.2.1 A.2.2 (by omega) h3 h5 hb
  exact ⟨by omega,g2,g3,by omega,g5⟩
theorem qHA (hG:U8 G):∀ N d,qIB G N d
 | 0,d=>fun m s h=>absurd h (by omega)
 | N+1,d=>fun m s hm h1 h2 h3 h4=>by
  by_cases h:m<N
  ·exact qHA hG N d m s h h1 h2 h3 h4
  obtain rfl:m=N:=by omega
  obtain ⟨n,rfl⟩:∃ n,m=n+1:=⟨m-1,by omega⟩
  exact qMX hG n s d h1 h2 h3 h4 fun e k t hk=>qHA hG (n+1) e k t (by omega)
theorem zJZ (hG:U8 G) (s:List UInt8) (hs:s.length≤1000000000):AFn Tryz.prog G 25 [.str s] (.tup [(kF s).1.enc,.int .i64 (kF s).2.1,.int .i64 (kF s).2.2]):=by
 refine AFn.introU tok Tryz.func25 (by kernel_rfl) rfl rfl ?_
 simp only [Tryz.f25,qO,List.map_cons,List.map_nil]
 have hv:=qHA hG (2 * s.length+3) 1 (2 * s.length+2) ⟨s,0,false,false,false⟩ (by omega) (by simp only; omega) (by simp only; omega) (by simp only; omega) (by simp only; omega)
 have hfw:=(qUN (2 * s.length+2)).1 ⟨s,0,false,false,false⟩ 1 (by simp)
 have hle:=((zDT (2 * s.length+2)).1 ⟨s,0,false,false,false⟩ 1).1
 have hM:kF s=if (qS (2 * s.length+2) ⟨s,0,false,false,false⟩ 1).1.bad=true then (zK,0,10) else if (qS (2 * s.length+2) ⟨s,0,false,false,false⟩ 1).1.deep=true then (zK,0,11) else if (qS (2 * s.length+2) ⟨s,0,false,false,false⟩ 1).1.big=true then (zK,0,3) else ((qS (2 * s.length+2) ⟨s,0,false,false,false⟩ 1).2,(s.length:Int)-(qS (2 * s.length+2) ⟨s,0,false,false,false⟩ 1).1.left.length,0):=rfl
 rw [hM]
 generalize qS (2 * s.length+2) ⟨s,0,false,false,false⟩ 1=r at *
 obtain ⟨⟨l,nn,b,dp,bg⟩,v⟩:=r
 simp only at hle hfw ⊢
 refine rgn [] [[],[],[0,2]] ?_
 iterate 3 refine op1 tok ?_
 refine qA (rgn [] [[],[],[],[0,2,5]] ?_)
 iterate 4 refine op1 tok ?_
 refine qA ?_
 refine AW.renE 2 50 (by simp) (by conv=>lhs; simp) ?_
 refine AW.renE 9 2 (by simp) (by conv=>lhs; simp) ?_
 refine rgn [] [[]] ?_
 refine op1 tok ?_
 refine qK ?_
 refine qB.stepK [0,2,5,11] (zA rfl hv (by simp)) (by conv=>lhs; simp) rfl ?_
 refine qB.run [[],[0,2,5,6]] ?_
 iterate 2 refine op1 tok ?_
 refine qA (AW.seq (AW.block (rgn [] [[],[],[],[],[0,2,5,6,12]] ?_)))
 iterate 5 refine op1 tok ?_
 refine qA (cnd ?_ ?_)
 ·intro h12
  try simp at h12
  subst h12
  rw [if_pos rfl]
  refine rgn [] [[],[],[],[2,3,4]] ?_
  iterate 4 refine op1 tok ?_
  refine qA ?_
  exact AW.ret (qP (k:=by simp [zK,dc0]))
 intro h12
 try simp at h12
 rw [if_neg (by rw [h12]; simp)]
 refine rgn [] [[],[],[],[],[0,2,5,6,18]] ?_
 iterate 5 refine op1 tok ?_
 refine qA (cnd ?_ ?_)
 ·intro h18
  try simp at h18
  subst h18
  rw [if_pos rfl]
  refine rgn [] [[],[],[],[2,3,4]] ?_
  iterate 4 refine op1 tok ?_
  refine qA ?_
  exact AW.ret (qP (k:=by simp [zK,dc0]))
 intro h18
 try simp at h18
 rw [if_neg (by rw [h18]; simp)]
 refine rgn [] [[],[],[],[],[0,2,5,6,24]] ?_
 iterate 5 refine op1 tok ?_
 refine qA (cnd ?_ ?_)
 ·intro h24
  try simp at h24
  subst h24
  rw [if_pos rfl]
  refine rgn [] [[],[],[],[2,3,4]] ?_
  iterate 4 refine op1 tok ?_
  refine qA ?_
  exact AW.ret (qP (k:=by simp [zK,dc0]))
 intro h24
 try simp at h24
 rw [if_neg (by rw [h24]; simp)]
 have hcl:=zBO (G:=G) v (hfw h24).2.2.1
 simp only [Val.enc_def] at hcl
 refine AW.skip ?_
 refine AW.seqDrawS tok mixed 11 [[6],[30],[0],[32],[5],[34],[35],[36],[37],[33,38],[2,31]] [.nilp,v.enc] [] (by kernel_rfl) ?_
 iterate 11 refine dq1 hcl ?_
 refine DGo.nil (by kernel_rfl) ⟨by kernel_rfl, ?_⟩
 refine qB.run [[],[2,3,4]] ?_
 iterate 2 refine op1 tok ?_
 exact qA (AW.ret qP)
theorem qLY:Builder.Extra Tryz.prog Tryz.lays156_ren where
 sizeBuilder:=by kernel_rfl
 liesBuilder:=by kernel_rfl
 t5:=Tryz.underlying5
 a5:=Tryz.isAgg5
 z5:=Tryz.sizeOf5
 v5:=Tryz.zeroValue5
 infoByte:=by kernel_rfl
 cellsByte:=by kernel_rfl
 sizeByte:=by kernel_rfl
 neB5:=by decide
def zBQ (s:List UInt8):ByteArray:=⟨s.toArray⟩
theorem zIK {ba:ByteArray} {s:List UInt8} (h:ba.data.toList=s):ba=zBQ s:=by
 subst h; rfl
theorem qVB (l:List (List UInt8)):(l.map zBQ).map (·.data.toList)=l:=by
 rw [List.map_map]; conv=>rhs; rw [← List.map_id l]
 exact List.map_congr_left fun s _=>by simp [zBQ]
theorem zIO (l:List (List UInt8)) (sep:List UInt8) (hN:l.length≤140737488355328) (h:(Lib.join l sep).length≤140737488355328):AFn Tryz.prog G 77 [.sl 1 (l.map PD.str),.str sep] (.str (Lib.join l sep)):=by
 refine AFn.of_calls (jB Tryz.func77 (by kernel_rfl) rfl) fun M w vs hg hmem hsz hrd => ?_
 obtain ⟨vl⟩:=vs
 match vl,hsz with
 | [u,v],_ =>
 have h1:=hrd 0 u _ rfl rfl
 have h2:=hrd 1 v _ rfl rfl
 cases h2 with
 | @str sb _ hsb hsl =>
 subst hsb
 cases h1 with
 | @sl a n c _ _ b o hn hnc hcm ha h5 h6 h7 =>
 rw [List.length_map] at hn
 have hml:(Lib.join l sb.data.toList).length≤maxLen:=by simp only [maxLen]; omega
 by_cases hk:l=[]
 ·subst hk; simp at hn; subst hn
  refine (Any.strings_Join_none Tryz.lays156 qLY a c sb w).mono ?_
  rintro e w' ⟨rfl,rfl⟩
  exact ⟨_,rfl,.str (by simp [Lib.join_nil]) (by simpa using hml),RowKit.Below.refl _ _⟩
 have hpos:0<l.length:=List.length_pos_iff.2 hk
 obtain rfl:=ha (by omega)
 have hcell:∀ j x,(l.map zBQ)[j]?=some x→w.cell? ⟨b,o+j,none⟩=some (.string x):=fun j x hx=>by
  rw [List.getElem?_map,Option.map_eq_some_iff] at hx
  obtain ⟨s,hs,rfl⟩:=hx
  have hgt:(l.map PD.str)[j]?=some (.str s):=by rw [List.getElem?_map,hs]; rfl
  obtain ⟨u,hu,_⟩:=h6 j _ 0 hgt (by omega)
  have h8:=h7 j _ 0 _ u hgt rfl hu
  cases h8 with
  | @str ba _ hba hl =>
  have:=hmem _ _ _ hu
  simp only [Nat.mul_one,Nat.add_zero] at this
  rw [this,zIK hba]
 have hlt:b<w.heap.size:=by
  obtain ⟨x,r,rfl⟩:∃ x r,l=x::r:=by
   cases l with
   | nil=>exact (hk rfl).elim
   | cons x r=>exact ⟨x,r,rfl⟩
  exact xV (hcell 0 (zBQ x) rfl)
 have hc:=Any.strings_Join Tryz.lays156 qLY b o c (l.map zBQ) sb w hcell hlt (by rw [List.length_map]; exact hN) (by rw [List.length_map]; omega) (by rw [qVB]; exact h)
 rw [List.length_map,← hn] at hc
 refine hc.mono ?_
 rintro e w' ⟨rfl,hb⟩
 rw [qVB]
 exact ⟨_,rfl,.str (by simp) (by simpa using hml),hb⟩
theorem qON (f:FuncId) (v:Val) (ps:List (List UInt8)) (hl:ps.length=v.kids.length) (hn:ps.length≤1000000) (hj:(Lib.join ps [44]).length≤100000000000) (hf:∀ (i:Nat) (s:List UInt8),ps[i]?=some s→AX Tryz.prog G f [.p (.int .i64 i),.ptr 2 0] [(2,.vars 42 v.cells)] (.p (.str s)) [2] [(2,.vars 42 v.cells)]):AX Tryz.prog G 42 [.p v.enc,.func (.func f) [] [.ptr 2 0]] [(2,.vars 42 v.cells)] (.p (.str (Lib.join ps [44]))) [2] [(2,.vars 42 v.cells)]:=by
 refine AX.introU tok 900 Tryz.func42 (by kernel_rfl) rfl rfl ?_
 simp only [Tryz.f42,qO,List.map_cons,List.map_nil]
 refine rgn [] [[],[1,2]] ?_
 iterate 2 refine op1 tok ?_
 refine qA (rgn [] [[]] ?_)
 refine op1 tok ?_
 refine qA (AW.seq (rgn [] [[],[],[],[1,5,9,10]] ?_))
 iterate 4 refine op1 tok ?_
 refine qA (AW.block ?_)
 refine AW.beginE 5 3 9 1 (by simp) (by simp) (by conv=>lhs; simp) ?_
 refine AW.loop (α:=Nat) (fun k=>k≤ps.length) (fun k=>⟨zI 22 [(1,.func (.func f) [] [.ptr 2 0]),(5,.ms 3),(9,.p (.int .i64 ps.length)),(10,.p (.int .i64 k))],[2],[(2,.vars 42 v.cells),(3,.row 9 1 ((ps.take k).map PD.str))],900⟩) (fun k=>ps.length-k) (0) (by omega) ⟨qE (by simp [hl]),rfl,by simp,by simp⟩ ?_
 rintro k hk
 refine rgn [] [[]] ?_
 refine op1 tok ?_
 refine qA (AW.seq (cnd ?_ ?_))
 ·intro h11
  try simp at h11
  obtain ⟨x,hx⟩:∃ x,ps[k]?=some x:=⟨ps[k],by simp [h11]⟩
  have hfx:=hf k x hx
  refine AW.skip (AW.seq (AW.block (rgn [] [[],[1,5,6,9,10]] ?_)))
  iterate 2 refine op1 tok ?_
  refine qA (rgz [.str x] [[],[],[]] ?_)
  iterate 3 refine op1 tok ?_
  refine qK ?_
  refine qB.stepK [1,9,10,13,16] (zA rfl hfx (by simp)) (by conv=>lhs; simp) rfl ?_
  refine qB.run [[],[],[1,5,9,10]] ?_
  iterate 3 refine op1 tok ?_
  refine qA (rgz [] [[],[1,5,9,10]] ?_)
  iterate 2 refine op1 tok ?_
  refine qA ?_
  exact ⟨k+1,by omega,by omega,qE (by simp [hx,List.take_add_one]),rfl,by simp [hx,List.take_add_one],by simp [hx,List.take_add_one]⟩
 intro h11
 try simp at h11
 obtain rfl:k=ps.length:=by omega
 have hjn:=zIO (G:=G) ps [44] (by omega) (by omega)
 try simp only [List.take_length]
 refine AW.exit ?_
 simp
 refine rgn [.nilp,.str (Lib.join ps [44])] [[],[],[4]] ?_
 iterate 3 refine op1 tok ?_ (hv:=by first | with_reducible exact True.intro | ((rw [List.take_of_length_le (by simp)]; exact hjn); done) | omega | simp | (simp +contextual; omega))
 refine qA ?_
 exact AW.ret qV
def uV (c:Int):List UInt8:=if c<10 then [UInt8.ofNat (48+c.toNat)] else [UInt8.ofNat (48+c.toNat / 10),UInt8.ofNat (48+c.toNat % 10)]
def kM:List (List UInt8)→List (List UInt8)→List (List UInt8):=List.zipWith fun k p=>zQ k++[58]++p
mutual
def qI:Val→List UInt8
 | .mk k _ n t ks vs c=>if k=1 then yY else if k=2 then wZ else if k=3 then kE else if k=4 then yI n else if k=5 then zQ t else if k=8 then 33::uV c else if k=7 then [123]++Lib.join (kM ks (qDQ vs)) [44]++[125] else [91]++Lib.join (qDQ vs) [44]++[93]
def qDQ:List Val→List (List UInt8)
 | []=>[]
 | v::vs=>qI v::qDQ vs
end
theorem qIO:∀ l,qDQ l=l.map qI
 | []=>by simp only [qDQ,List.map_nil]
 | v::vs=>by simp only [qDQ,List.map_cons,qIO vs]
theorem yS (v:Val):qI v=if v.kind=1 then yY else if v.kind=2 then wZ else if v.kind=3 then kE else if v.kind=4 then yI v.num else if v.kind=5 then zQ v.text else if v.kind=8 then 33::uV v.code else if v.kind=7 then [123]++Lib.join (kM v.keys (v.kids.map qI)) [44]++[125] else [91]++Lib.join (v.kids.map qI) [44]++[93]:=by
 cases v; rw [qI,qIO]; rfl
theorem zNU (v x:Val) (i:Nat) (hx:v.kids[i]?=some x) (hp:AFn Tryz.prog G 22 [x.enc] (.str (qI x))):AX Tryz.prog G 44 [.p (.int .i64 i),.ptr 2 0] [(2,.vars 42 v.cells)] (.p (.str (qI x))) [2] [(2,.vars 42 v.cells)]:=by
 refine AX.introU tok 900 Tryz.func44 (by kernel_rfl) rfl rfl ?_
 simp only [Tryz.f44,qO,List.map_cons,List.map_nil]
 simp only [Val.enc_def] at hp
 have hi:=(List.getElem?_eq_some_iff.1 hx).1
 refine rgn [] [[0,1]] ?_
 refine op1 tok ?_
 refine qA (rgn [x.enc,.nilp,.str (qI x)] [[],[],[],[7],[],[],[3]] ?_)
 iterate 7 refine op1 tok ?_ (hv:=by first | with_reducible exact True.intro | (first | exact hp | (simp [hx]; done) | (simp; omega); done) | omega | simp | (simp +contextual; omega))
 refine qA ?_
 exact AW.ret qV
theorem zNV (v x:Val) (key:List UInt8) (i:Nat) (hb:(zQ key).length+(qI x).length≤100000000000) (hk:v.keys[i]?=some key) (hx:v.kids[i]?=some x) (hq:AFn Tryz.prog G 41 [.str key] (.str (zQ key))) (hp:AFn Tryz.prog G 22 [x.enc] (.str (qI x))):AX Tryz.prog G 43 [.p (.int .i64 i),.ptr 2 0] [(2,.vars 42 v.cells)] (.p (.str (zQ key++[58]++qI x))) [2] [(2,.vars 42 v.cells)]:=by
 refine AX.introU tok 900 Tryz.func43 (by kernel_rfl) rfl rfl ?_
 simp only [Tryz.f43,qO,List.map_cons,List.map_nil]
 simp only [Val.enc_def] at hp
 have hi:=(List.getElem?_eq_some_iff.1 hx).1
 have hi2:=(List.getElem?_eq_some_iff.1 hk).1
 refine rgn [] [[0,1]] ?_
 refine op1 tok ?_
 refine qA ?_
 refine AW.seqDrawS tok mixed 14 [[1],[4],[0],[5,6],[7],[8],[9],[1],[11],[0],[12,13],[14],[15],[10,16]] [.str key,.nilp,.str (zQ key),x.enc,.nilp,.str (qI x)] [] (by kernel_rfl) ?_
 iterate 14 refine d1 ?_ (hv:=by first | with_reducible exact True.intro | (first | exact hp | exact hq | (simp [hx]; done) | (simp [hk]; done) | (simp; omega); done) | omega | simp | (simp +contextual; omega))
 refine DGo.nil (by kernel_rfl) ⟨by kernel_rfl, ?_⟩
 refine qB.run [[3]] ?_
 refine op1 tok ?_
 refine qA ?_
 exact AW.ret qV
theorem kZ (x y:List UInt8) (r:List (List UInt8)) (sep:List UInt8):Lib.join (x::y::r) sep=x++sep++Lib.join (y::r) sep:=by
 simp [Lib.join,List.intercalate,List.intersperse]
theorem qUF {s:List UInt8} {sep:List UInt8}:∀ {l:List (List UInt8)},s∈l→s.length≤(Lib.join l sep).length
 | [],h=>by cases h
 | [x],h=>by rw [List.mem_singleton.1 h,Lib.join_one]; exact Nat.le_refl _
 | x::y::r,h=>by
  rw [kZ]
  rcases List.mem_cons.1 h with h | h
  ·subst h; simp only [List.length_append]; omega
  have:=qUF (sep:=sep) h; simp only [List.length_append]; omega
theorem qUS {ks ps:List (List UInt8)} {i:Nat} {k p:List UInt8} (h1:ks[i]?=some k) (h2:ps[i]?=some p):(kM ks ps)[i]?=some (zQ k++[58]++p):=by
 simp [kM,List.getElem?_zipWith,h1,h2]
theorem qWB (v:Val) (hq8:v.kind=8→AFn Tryz.prog G 34 [.int .i64 v.code] (.str (uV v.code)) ∧ -9223372036854775808≤v.code∧v.code≤9223372036854775807) (hq4:v.kind=4→AFn Tryz.prog G 40 [v.num.enc] (.str (yI v.num))) (hq5:v.kind=5→AFn Tryz.prog G 41 [.str v.text] (.str (zQ v.text))) (hq7:v.kind=7→v.keys.length=v.kids.length∧∀ key∈v.keys,AFn Tryz.prog G 41 [.str key] (.str (zQ key))) (hn:v.kids.length≤1000000) (hb:(qI v).length≤1000000000) (ih:∀ k∈v.kids,AFn Tryz.prog G 22 [k.enc] (.str (qI k))):AFn Tryz.prog G 22 [v.enc] (.str (qI v)):=by
 refine AFn.introU tok Tryz.func22 (by kernel_rfl) rfl rfl ?_
 simp only [Tryz.f22,qO,List.map_cons,List.map_nil]
 rw [yS v] at hb ⊢
 simp only [Dc.enc] at hq4
 refine rgn [] [[],[1]] ?_
 iterate 2 refine op1 tok ?_
 refine qA (AW.seq (rgn [] [[],[1,4]] ?_))
 iterate 2 refine op1 tok ?_
 refine qA (AW.block (rgn [] [[],[1,4,5]] ?_))
 iterate 2 refine op1 tok ?_
 refine qA (cnd ?_ ?_)
 ·intro h5
  try simp at h5
  rw [if_pos h5]
  refine rgn [] [[]] ?_
  refine op1 tok ?_
  refine qA ?_
  exact AW.ret (qP (k:=by simp [yY]))
 intro h5
 try simp at h5
 rw [if_neg h5] at hb ⊢
 refine rgn [] [[],[1,4,7]] ?_
 iterate 2 refine op1 tok ?_
 refine qA (cnd ?_ ?_)
 ·intro h7
  try simp at h7
  rw [if_pos h7]
  refine rgn [] [[]] ?_
  refine op1 tok ?_
  refine qA ?_
  exact AW.ret (qP (k:=by simp [wZ]))
 intro h7
 try simp at h7
 rw [if_neg h7] at hb ⊢
 refine rgn [] [[],[1,4,9]] ?_
 iterate 2 refine op1 tok ?_
 refine qA (cnd ?_ ?_)
 ·intro h9
  try simp at h9
  rw [if_pos h9]
  refine rgn [] [[]] ?_
  refine op1 tok ?_
  refine qA ?_
  exact AW.ret (qP (k:=by simp [kE]))
 intro h9
 try simp at h9
 rw [if_neg h9] at hb ⊢
 refine rgn [] [[],[1,4,11]] ?_
 iterate 2 refine op1 tok ?_
 refine qA (cnd ?_ ?_)
 ·intro h11
  try simp at h11
  rw [if_pos h11]
  have h4:=hq4 h11
  refine rgn [.nilp,.str (yI v.num)] [[],[],[],[2]] ?_
  iterate 4 refine oq1 tok h4 ?_
  exact qA (AW.ret qP)
 intro h11
 try simp at h11
 rw [if_neg h11] at hb ⊢
 refine rgn [] [[],[1,4,16]] ?_
 iterate 2 refine op1 tok ?_
 refine qA (cnd ?_ ?_)
 ·intro h16
  try simp at h16
  rw [if_pos h16]
  have h5q:=hq5 h16
  refine rgn [.nilp,.str (zQ v.text)] [[],[],[],[2]] ?_
  iterate 4 refine oq1 tok h5q ?_
  exact qA (AW.ret qP)
 intro h16
 try simp at h16
 rw [if_neg h16] at hb ⊢
 refine rgn [] [[],[1,4,21]] ?_
 iterate 2 refine op1 tok ?_
 refine qA (cnd ?_ ?_)
 ·intro h21
  try simp at h21
  rw [if_pos h21] at hb ⊢
  obtain ⟨h8,h8a,h8b⟩:=hq8 h21
  have hil:(uV v.code).length≤2:=by unfold uV; split <;> simp
  refine rgn [.nilp,.str (uV v.code)] [[],[],[],[26],[2]] ?_
  iterate 5 refine oq1 tok h8 ?_
  exact qA (AW.ret qP)
 intro h21
 try simp at h21
 rw [if_neg h21] at hb ⊢
 refine rgn [] [[],[1,27]] ?_
 iterate 2 refine op1 tok ?_
 refine qA (cnd ?_ ?_)
 ·intro h27
  try simp at h27
  rw [if_pos h27] at hb ⊢
  obtain ⟨hkl,hqk⟩:=hq7 h27
  have hel:(kM v.keys (v.kids.map qI)).length=v.kids.length:=by simp [kM,hkl]
  have hJ:=qON (G:=G) 43 v (kM v.keys (v.kids.map qI)) hel (by omega) (by simp only [List.length_append] at hb; omega) (fun i s hs=>by
   have hi:=(List.getElem?_eq_some_iff.1 hs).1
   have hk:v.keys[i]?=some (v.keys[i]'(by omega)):=by simp
   have hx:v.kids[i]?=some (v.kids[i]'(by omega)):=by simp
   have hg:=qUS (ks:=v.keys) (ps:=v.kids.map qI) hk (by rw [List.getElem?_map,hx]; rfl)
   rw [hs] at hg
   cases hg
   have hm:=qUF (sep:=[44]) (List.mem_of_getElem? hs)
   exact zNV v _ _ i (by simp only [List.length_append] at hb hm; omega) hk hx (hqk _ (List.getElem_mem _)) (ih _ (List.getElem_mem _)))
  have hjl:(Lib.join (kM v.keys (v.kids.map qI)) [44]).length≤1000000000:=by simp only [List.length_append] at hb; omega
  refine AW.renE 1 2 (by simp) (by conv=>lhs; simp) ?_
  refine rgn [] [[],[]] ?_
  iterate 2 refine op1 tok ?_ (hv:=by first | with_reducible exact True.intro | (first | omega | (simp; omega); done) | omega | simp | (simp +contextual; omega))
  refine qK ?_
  refine qB.stepK [31] (zA rfl hJ (by simp)) (by conv=>lhs; simp) rfl ?_
  refine qB.run [[],[],[2]] ?_
  iterate 3 refine op1 tok ?_ (hv:=by first | with_reducible exact True.intro | (first | omega | (simp; omega); done) | omega | simp | (simp +contextual; omega))
  exact qA (AW.ret qP)
 intro h27
 try simp at h27
 rw [if_neg h27] at hb ⊢
 have hJ:=qON (G:=G) 44 v (v.kids.map qI) (by simp) (by simpa using hn) (by simp only [List.length_append] at hb; omega) (fun i s hs=>by
  rw [List.getElem?_map,Option.map_eq_some_iff] at hs
  obtain ⟨x,hx,rfl⟩:=hs
  exact zNU v x i hx (ih x (List.mem_of_getElem? hx)))
 have hjl:(Lib.join (v.kids.map qI) [44]).length≤1000000000:=by simp only [List.length_append] at hb; omega
 refine AW.skip ?_
 refine AW.renE 1 2 (by simp) (by conv=>lhs; simp) ?_
 refine rgn [] [[],[]] ?_
 iterate 2 refine op1 tok ?_ (hv:=by first | with_reducible exact True.intro | (first | omega | (simp; omega); done) | omega | simp | (simp +contextual; omega))
 refine qK ?_
 refine qB.stepK [36] (zA rfl hJ (by simp)) (by conv=>lhs; simp) rfl ?_
 refine qB.run [[],[],[2]] ?_
 iterate 3 refine op1 tok ?_ (hv:=by first | with_reducible exact True.intro | (first | omega | (simp; omega); done) | omega | simp | (simp +contextual; omega))
 exact qA (AW.ret qP)
def qFJ (G:qR) (c:Int):Prop:=AFn Tryz.prog G 34 [.int .i64 c] (.str (uV c))∧0≤c∧c≤99
inductive Prn (G:qR):Val→Prop
 | mk {v : Val} (h8 : v.kind = 8 → qFJ G v.code) (h4 : v.kind = 4 → wH v.num = true) (h5 : v.kind = 5 → Lib.validD v.text = true ∧ v.text.length ≤ 1000000000) (h7 : v.kind = 7 → v.keys.length = v.kids.length ∧ ∀ key ∈ v.keys, Lib.validD key = true ∧ key.length ≤ 1000000000)
   (hn:v.kids.length≤1000000) (hb:(qI v).length≤1000000000) (ih:∀ k∈v.kids,Prn G k):Prn G v
theorem zAD (v:Val) (h:Prn G v):AFn Tryz.prog G 22 [v.enc] (.str (qI v)):=by
 induction h with
 | mk h8 h4 h5 h7 hn hb _ ih=>exact qWB _ (fun h=>⟨(h8 h).1,by have:=h8 h; unfold qFJ at this; omega,by have:=h8 h; unfold qFJ at this; omega⟩) (fun h=>qJD _ (h4 h)) (fun h=>qVG _ (h5 h).1 (h5 h).2) (fun h=>⟨(h7 h).1,fun key hk=>qVG key ((h7 h).2 key hk).1 ((h7 h).2 key hk).2⟩) hn hb ih
theorem zNS (b:UInt8):(qb b).length≤6:=by
 unfold qb; (repeat' split) <;> simp
theorem qTD (s:List UInt8):(zQ s).length≤6 * s.length+2:=by
 have:∀ s:List UInt8,(wL s).length≤6 * s.length:=by
  intro s
  induction s with
  | nil=>simp [wL]
  | cons b s ih =>
   have h:=zNS b
   show (qb b++wL s).length≤_
   rw [List.length_append,List.length_cons]; omega
 have:=this s
 unfold zQ
 simp; omega
theorem qQP:∀ l:List (List UInt8),(Lib.join l [44]).length≤(l.map List.length).sum+l.length
 | []=>by simp [Lib.join,List.intercalate]
 | [x]=>by rw [Lib.join_one]; simp
 | x::y::r=>by
  rw [kZ]
  have:=qQP (y::r)
  simp only [List.length_append,List.map_cons,List.sum_cons,List.length_cons,List.length_nil] at this ⊢
  omega
theorem zAE {d:Dc} (h:wH d=true):(yI d).length≤130:=by
 have hb:=qDV h
 unfold yI wB zH
 split <;> split <;> simp <;> omega
def qCC (s:List UInt8):Val := .mk 5 0 dc0 s [] [] 0
def uE (n:Int):Val := .mk 4 0 (uM n) [] [] [] 0
def zD (j:Jb):List Val:=[qCC j.p,qCC j.f,qCC j.i,qCC j.n,uE j.a,uE j.b,uE j.c,uE j.d]
def wV (j:Jb):Val := .mk 7 0 dc0 [] yD (zD j) 0
def zCU (j:Jb):List UInt8 × Int:=if (zD j).all wC=true then (qI (wV j),0) else ([],1)
def wY (j:Jb) (k:Nat):List UInt8:=[j.p,j.f,j.i,j.n].getD k []
def kG (j:Jb) (k:Nat):Int:=[j.a,j.b,j.c,j.d].getD k 0
theorem qXT (j:Jb) {k:Nat} (h:k<4):yD[k]?=wD[k]?∧(∃ s,wD[k]?=some s)∧j.cells[k]?=some (.p (.str (wY j k)))∧(zD j)[k]?=some (qCC (wY j k))∧∀ i,([V.ptr i 0,V.ptr i 1,V.ptr i 2,V.ptr i 3])[k]?=some (.ptr i k):=by
 match k,h with
 | 0,_=>exact ⟨rfl,⟨_,rfl⟩,rfl,rfl,fun _=>rfl⟩
 | 1,_=>exact ⟨rfl,⟨_,rfl⟩,rfl,rfl,fun _=>rfl⟩
 | 2,_=>exact ⟨rfl,⟨_,rfl⟩,rfl,rfl,fun _=>rfl⟩
 | 3,_=>exact ⟨rfl,⟨_,rfl⟩,rfl,rfl,fun _=>rfl⟩
theorem qTU (j:Jb) {k:Nat} (h:k<4):yD[k+4]?=yQ[k]?∧(∃ s,yQ[k]?=some s∧s ∉ wD)∧j.cells[k+4]?=some (.p (.int .i64 (kG j k)))∧(zD j)[k+4]?=some (uE (kG j k))∧∀ i,([V.ptr i 4,V.ptr i 5,V.ptr i 6,V.ptr i 7])[k]?=some (.ptr i (k+4)):=by
 match k,h with
 | 0,_=>exact ⟨rfl,⟨_,rfl,by decide⟩,rfl,rfl,fun _=>rfl⟩
 | 1,_=>exact ⟨rfl,⟨_,rfl,by decide⟩,rfl,rfl,fun _=>rfl⟩
 | 2,_=>exact ⟨rfl,⟨_,rfl,by decide⟩,rfl,rfl,fun _=>rfl⟩
 | 3,_=>exact ⟨rfl,⟨_,rfl,by decide⟩,rfl,rfl,fun _=>rfl⟩
def qTV (j:Jb):Prop:=∀ k,k<4 → -9223372036854775808≤kG j k∧kG j k≤9223372036854775807
theorem qYK (hG:U8 G) (j:Jb) (hb:qTV j) (hP:(zD j).all wC=true→AFn Tryz.prog G 22 [(wV j).enc] (.str (qI (wV j)))):AFn Tryz.prog G 7 [j.enc] (.tup [.str (zCU j).1,.int .i64 (zCU j).2]):=by
 refine AFn.introU tok Tryz.func7 (by kernel_rfl) rfl rfl ?_
 simp only [Tryz.f7,qO,List.map_cons,List.map_nil]
 have hkeys:=qPM (G:=G)
 have hM:zCU j=if (zD j).all wC=true then (qI (wV j),0) else ([],1):=rfl
 have hw:=qRX (G:=G) 1 j.cells (by decide) (by simp [V.noRefL,V.noRef])
 have hn:=qLO (G:=G) 1 j.cells (by decide) (by simp [V.noRefL,V.noRef])
 have hkl:(zD j).length=8:=rfl
 have hjl:yD.length=8:=rfl
 rw [hM]
 refine rgn [] [[],[],[1]] ?_
 iterate 3 refine op1 tok ?_
 refine qA (rgn [.nilp,.sl 1 (yD.map PD.str)] [[],[],[],[1,4]] ?_)
 iterate 4 refine oq1 tok hkeys ?_
 refine qA (AW.seq (rgn [] [[],[],[],[1,4,13,14,15]] ?_))
 iterate 4 refine op1 tok ?_
 refine qA (AW.block ?_)
 refine AW.beginBox 4 800 7 42 9 (by simp; exact ⟨rfl,rfl⟩) (by simp) (by simp) (by conv=>lhs; simp) ?_
 refine AW.loop (α:=Nat) (fun k=>k≤8∧((zD j).take k).all wC=true) (fun k=>⟨zI 50 [(1,.ptr 1 0),(4,.ptr 4 0),(13,.p (.sl 1 (yD.map PD.str))),(14,.p (.int .i64 8)),(15,.p (.int .i64 k))],[],[(1,.vars 23 j.cells),(4,.vars 42 [.p (.int .i64 7),.p (.int .u64 0),.p (.bool false),.p (.str []),.p (.int .i64 0),.p (.str []),.p (.sl 1 (yD.map PD.str)),.ms 800,.p (.int .i64 0)]),(800,.row 42 9 (((zD j).take k).map Val.enc))],0⟩) (fun k=>8-k) (0) ⟨by omega,by simp⟩ ⟨qE (by simp [hjl]),rfl,by simp,by simp⟩ ?_
 rintro k ⟨hk,hall⟩
 refine rgn [] [[]] ?_
 refine op1 tok ?_
 refine qA (AW.seq (cnd ?_ ?_))
 ·intro h16
  try simp at h16
  obtain ⟨key,hkey⟩:∃ s,yD[k]?=some s:=⟨yD[k]'(by omega),List.getElem?_eq_getElem _⟩
  refine AW.skip (AW.seq (AW.block (rgn [.str key] [[],[],[1,4,6,13,14,15]] ?_)))
  iterate 3 refine op1 tok ?_ (hv:=by first | with_reducible exact True.intro | (first | (simp [hkey]; done) | (simp [hkey,hjl]; omega); done) | omega | simp | (simp +contextual; omega))
  refine qA (rgn [] [[],[],[1,4,6,7,13,14,15]] ?_)
  iterate 3 refine op1 tok ?_
  refine qA (AW.seq ?_)
  by_cases hs6:k<4
  ·
   obtain ⟨w1,⟨s1,w2⟩,w3,w4,w5⟩:=qXT j hs6
   have hkw:wD[k]?=some key:=by rw [← w1]; exact hkey
   have hmay:=qYU (G:=G) hG (qCC (wY j k))
   have hen:(qCC (wY j k)).enc = .agg [.int .i64 5,.int .u64 0,.bool false,.str [],.int .i64 0,.str (wY j k),.sl 1 [],.sl 9 [],.int .i64 0]:=by rw [Val.enc_def]; rfl
   rw [hen] at hmay
   have hte:((zD j).take (k+1)).map Val.enc=((zD j).take k).map Val.enc++[.agg [.int .i64 5,.int .u64 0,.bool false,.str [],.int .i64 0,.str (wY j k),.sl 1 [],.sl 9 [],.int .i64 0]]:=by rw [List.take_add_one,w4,List.map_append]; show _++[Val.enc _]=_; rw [hen]
   have hta:((zD j).take (k+1)).all wC=(((zD j).take k).all wC && wC (qCC (wY j k))):=by rw [List.take_add_one,w4,List.all_append]; simp
   have hno:wC (qCC (wY j k))=false→¬ (zD j).all wC=true:=fun h h'=>by
    have:=List.all_eq_true.1 h' _ (List.mem_of_getElem? w4)
    rw [h] at this; cases this
   generalize wC (qCC (wY j k))=mk at *
   refine AW.seqRegionO [] ?_
   refine qB.stepK [1,4,6,7,13,14,15,21] (zA rfl hw (by simp)) (by conv=>lhs; simp) rfl ?_
   refine qB.run [[]] ?_
   refine op1 tok ?_
   refine qK ?_
   refine qB.stepK [1,4,6,7,13,14,15,23] (qDH tok rfl rfl rfl (by conv=>lhs; simp) trivial (by conv=>lhs; simp) trivial rfl (by decide) k hkw (w5 1)) (by conv=>lhs; simp) rfl ?_
   refine qB.run [[],[],[],[],[1,4,6,7,8,9,13,14,15]] ?_
   iterate 5 refine op1 tok ?_
   refine qA (rgn [] [[1,4,6,7,8,13,14,15,26]] ?_)
   refine op1 tok ?_
   refine qA (cnd ?_ ?_)
   ·intro h26
    try simp at h26
    refine rgz [] [[],[]] ?_
    iterate 2 refine op1 tok ?_
    refine qK ?_
    refine qB.stepK [1,4,7,13,14,15,29] (qKB tok rfl rfl rfl (by conv=>lhs; simp) trivial rfl w3) (by conv=>lhs; simp) rfl ?_
    refine qB.run [[],[1,4,7,13,14,15]] ?_
    iterate 2 refine op1 tok ?_
    refine qA (AW.seq (rgn [.nilp,.bool mk] [[],[],[1,4,7,13,14,15,40]] ?_))
    iterate 3 refine oq1 tok hmay ?_
    refine qA (cnd ?_ ?_)
    ·intro h40
     try simp at h40
     rw [if_neg (hno (by simpa using h40))]
     refine rgn [] [[],[]] ?_
     iterate 2 refine op1 tok ?_
     exact qA (AW.ret qP)
    intro h40
    try simp at h40
    have hmk:mk=true:=by simpa using h40
    refine AW.skip (rgz [.agg [.int .i64 5,.int .u64 0,.bool false,.str [],.int .i64 0,.str (wY j k),.sl 1 [],.sl 9 [],.int .i64 0]] [[],[],[],[],[1,4,13,14,15,45],[],[1,4,13,14,15]] ?_)
    iterate 7 refine op1 tok ?_ (hv:=by first | with_reducible exact True.intro | (first | (simp; done) | (simp; omega); done) | omega | simp | (simp +contextual; omega))
    refine qA (rgz [] [[],[1,4,13,14,15]] ?_)
    iterate 2 refine op1 tok ?_
    refine qA ?_
    exact ⟨k+1,⟨by omega,by rw [hta,hall,hmk]; rfl⟩,by omega,qE (by simp [hte]),rfl,by simp [hte],by simp [hte]⟩
   intro h26
   try simp at h26
  ·
   obtain ⟨m,rfl⟩:∃ m,k=m+4:=⟨k-4,by omega⟩
   obtain ⟨w1,⟨s1,w2,wn⟩,w3,w4,w5⟩:=qTU j (k:=m) (by omega)
   have hkw:yQ[m]?=some key:=by rw [← w1]; exact hkey
   have hnw:key ∉ wD:=by rw [w2] at hkw; cases hkw; exact wn
   obtain ⟨nb1,nb2⟩:=hb m (by omega)
   have hdi:=zBW (G:=G) (kG j m) nb1 nb2
   have hmay:=qYU (G:=G) hG (uE (kG j m))
   have hen:(uE (kG j m)).enc = .agg [.int .i64 4,.int .u64 0,.bool (uM (kG j m)).neg,.str (uM (kG j m)).digits,.int .i64 (uM (kG j m)).scale,.str [],.sl 1 [],.sl 9 [],.int .i64 0]:=by rw [Val.enc_def]; rfl
   rw [hen] at hmay
   have hte:((zD j).take (m+4+1)).map Val.enc=((zD j).take (m+4)).map Val.enc++[.agg [.int .i64 4,.int .u64 0,.bool (uM (kG j m)).neg,.str (uM (kG j m)).digits,.int .i64 (uM (kG j m)).scale,.str [],.sl 1 [],.sl 9 [],.int .i64 0]]:=by rw [List.take_add_one,w4,List.map_append]; show _++[Val.enc _]=_; rw [hen]
   have hta:((zD j).take (m+4+1)).all wC=(((zD j).take (m+4)).all wC && wC (uE (kG j m))):=by rw [List.take_add_one,w4,List.all_append]; simp
   have hno:wC (uE (kG j m))=false→¬ (zD j).all wC=true:=fun h h'=>by
    have:=List.all_eq_true.1 h' _ (List.mem_of_getElem? w4)
    rw [h] at this; cases this
   generalize wC (uE (kG j m))=mk at *
   generalize uM (kG j m)=q at *
   simp only [Dc.enc] at hdi
   refine AW.seqRegionO [] ?_
   refine qB.stepK [1,4,6,7,13,14,15,21] (zA rfl hw (by simp)) (by conv=>lhs; simp) rfl ?_
   refine qB.run [[]] ?_
   refine op1 tok ?_
   refine qK ?_
   refine qB.stepK [1,4,6,7,13,14,15,23] (qDI tok rfl rfl rfl rfl rfl (by conv=>lhs; simp) trivial (by conv=>lhs; simp) trivial rfl hnw) (by conv=>lhs; simp) rfl ?_
   refine qB.run [[],[],[],[],[1,4,6,7,8,9,13,14,15]] ?_
   iterate 5 refine op1 tok ?_
   refine qA (rgn [] [[1,4,6,7,8,13,14,15,26]] ?_)
   refine op1 tok ?_
   refine qA (cnd ?_ ?_)
   ·intro h26
    try simp at h26
   intro h26
   try simp at h26
   refine AW.regionO [.nilp,.agg [.bool q.neg,.str q.digits,.int .i64 q.scale]] ?_
   refine qB.stepK [1,4,6,7,13,14,15,31] (zA rfl hn (by simp)) (by conv=>lhs; simp) rfl ?_
   refine qB.run [[]] ?_
   refine oq1 tok hdi ?_
   refine qK ?_
   refine qB.stepK [1,4,7,13,14,15,33] (qDH tok rfl rfl rfl (by conv=>lhs; simp) trivial (by conv=>lhs; simp) trivial rfl (by decide) m hkw (w5 1)) (by conv=>lhs; simp) rfl ?_
   refine qB.run [[]] ?_
   refine oq1 tok hdi ?_
   refine qK ?_
   refine qB.stepK [1,4,7,13,14,15,35] (qKB tok rfl rfl rfl (by conv=>lhs; simp) trivial rfl w3) (by conv=>lhs; simp) rfl ?_
   refine qB.run [[],[],[1,4,7,13,14,15]] ?_
   iterate 3 refine oq1 tok hdi ?_
   refine qA (AW.seq (rgn [.nilp,.bool mk] [[],[],[1,4,7,13,14,15,40]] ?_))
   iterate 3 refine oq1 tok hmay ?_
   refine qA (cnd ?_ ?_)
   ·intro h40
    try simp at h40
    rw [if_neg (hno (by simpa using h40))]
    refine rgn [] [[],[]] ?_
    iterate 2 refine op1 tok ?_
    exact qA (AW.ret qP)
   intro h40
   try simp at h40
   have hmk:mk=true:=by simpa using h40
   refine AW.skip (rgz [.agg [.int .i64 4,.int .u64 0,.bool q.neg,.str q.digits,.int .i64 q.scale,.str [],.sl 1 [],.sl 9 [],.int .i64 0]] [[],[],[],[],[1,4,13,14,15,45],[],[1,4,13,14,15]] ?_)
   iterate 7 refine op1 tok ?_ (hv:=by first | with_reducible exact True.intro | (first | (simp; done) | (simp; omega); done) | omega | simp | (simp +contextual; omega))
   refine qA (rgz [] [[],[1,4,13,14,15]] ?_)
   iterate 2 refine op1 tok ?_
   refine qA ?_
   exact ⟨m+4+1,⟨by omega,by rw [hta,hall,hmk]; rfl⟩,by omega,qE (by simp [hte]),rfl,by simp [hte],by simp [hte]⟩
 intro h16
 try simp at h16
 obtain rfl:k=8:=by omega
 have ht8:(zD j).take 8=zD j:=rfl
 rw [ht8] at hall
 rw [if_pos hall]
 have ht9:List.take 8 ((zD j).map Val.enc)=(zD j).map Val.enc:=rfl
 try rw [ht8]
 try rw [ht9]
 have hP:=hP hall
 have hen:(wV j).enc = .agg [.int .i64 7,.int .u64 0,.bool false,.str [],.int .i64 0,.str [],.sl 1 (yD.map PD.str),.sl 9 ((zD j).map Val.enc),.int .i64 0]:=by rw [Val.enc_def]; rfl
 rw [hen] at hP
 generalize qI (wV j)=out at *
 generalize (zD j).map Val.enc=kk at *
 refine AW.exit ?_
 simp
 refine AW.freezeE 800 (by conv=>lhs; simp) ?_
 refine rgn [.nilp,.str out] [[],[],[],[2,3]] ?_
 iterate 4 refine oq1 tok hP ?_
 exact qA (AW.ret qP)
end Go.Proofs.YtlmedakhioiahaaGreatDoor
namespace Go.Proofs
open Go.Shelf
def Tryz.laysC172_ren:Go.Shelf.Ren:=⟨fun | 172=>56 | 244=>90 | 245=>91 | 247=>124 | 279=>125 | 280=>126 | 281=>127 | 282=>128 | 287=>150 | 316=>151 | 171=>34 | 205=>152 | 321=>166 | 322=>167 | 243=>65 | 246=>99 | 283=>131 | 284=>132 | 285=>133 | 286=>134 | 129=>157 | 317=>156 | 318=>158 | 319=>159 | 320=>160 | 337=>168 | 338=>169 | n=>n,fun | 9=>9 | 3=>3 | 75=>95 | 76=>96 | 4=>4 | 5=>5 | 167=>146 | 37=>75 | 0=>0 | 85=>147 | 2=>2 | 168=>149 | 53=>37 | 175=>180 | 46=>114 | 210=>183 | 127=>139 | 145=>197 | 143=>195 | 21=>21 | 171=>155 | 173=>158 | 212=>186 | 51=>161 | 20=>20 | 213=>187 | 232=>199 | 233=>200 | 80=>101 | n=>n,fun | 15=>2 | 16=>3 | 17=>4 | 18=>6 | 19=>7 | n=>n⟩
theorem Tryz.laysC172:Go.Proofs.LaysC.n172 Tryz.prog Tryz.laysC172_ren:={
 mixed:=by kernel_rfl
 f129:=Tryz.func157.trans (congrArg some (by kernel_rfl))
 f171:=Tryz.func34.trans (congrArg some (by kernel_rfl))
 f172:=Tryz.func56.trans (congrArg some (by kernel_rfl))
 f205:=Tryz.func152.trans (congrArg some (by kernel_rfl))
 f243:=Tryz.func65.trans (congrArg some (by kernel_rfl))
 f244:=Tryz.func90.trans (congrArg some (by kernel_rfl))
 f245:=Tryz.func91.trans (congrArg some (by kernel_rfl))
 f246:=Tryz.func99.trans (congrArg some (by kernel_rfl))
 f247:=Tryz.func124.trans (congrArg some (by kernel_rfl))
 f279:=Tryz.func125.trans (congrArg some (by kernel_rfl))
 f280:=Tryz.func126.trans (congrArg some (by kernel_rfl))
 f281:=Tryz.func127.trans (congrArg some (by kernel_rfl))
 f282:=Tryz.func128.trans (congrArg some (by kernel_rfl))
 f283:=Tryz.func131.trans (congrArg some (by kernel_rfl))
 f284:=Tryz.func132.trans (congrArg some (by kernel_rfl))
 f285:=Tryz.func133.trans (congrArg some (by kernel_rfl))
 f286:=Tryz.func134.trans (congrArg some (by kernel_rfl))
 f287:=Tryz.func150.trans (congrArg some (by kernel_rfl))
 f316:=Tryz.func151.trans (congrArg some (by kernel_rfl))
 f317:=Tryz.func156.trans (congrArg some (by kernel_rfl))
 f318:=Tryz.func158.trans (congrArg some (by kernel_rfl))
 f319:=Tryz.func159.trans (congrArg some (by kernel_rfl))
 f320:=Tryz.func160.trans (congrArg some (by kernel_rfl))
 f321:=Tryz.func166.trans (congrArg some (by kernel_rfl))
 f322:=Tryz.func167.trans (congrArg some (by kernel_rfl))
 f337:=Tryz.func168.trans (congrArg some (by kernel_rfl))
 f338:=Tryz.func169.trans (congrArg some (by kernel_rfl))
 t0:=Tryz.underlying0
 a0:=Tryz.isAgg0
 z0:=Tryz.sizeOf0
 v0:=Tryz.zeroValue0
 t2:=Tryz.underlying2
 a2:=Tryz.isAgg2
 z2:=Tryz.sizeOf2
 v2:=Tryz.zeroValue2
 t3:=Tryz.underlying3
 a3:=Tryz.isAgg3
 z3:=Tryz.sizeOf3
 v3:=Tryz.zeroValue3
 t4:=Tryz.underlying4
 a4:=Tryz.isAgg4
 z4:=Tryz.sizeOf4
 v4:=Tryz.zeroValue4
 t5:=Tryz.underlying5
 a5:=Tryz.isAgg5
 z5:=Tryz.sizeOf5
 v5:=Tryz.zeroValue5
 t9:=Tryz.underlying9
 a9:=Tryz.isAgg9
 z9:=Tryz.sizeOf9
 v9:=Tryz.zeroValue9
 t20:=Tryz.underlying20
 a20:=Tryz.isAgg20
 z20:=Tryz.sizeOf20
 v20:=Tryz.zeroValue20
 t21:=Tryz.underlying21
 a21:=Tryz.isAgg21
 z21:=Tryz.sizeOf21
 v21:=Tryz.zeroValue21
 t37:=Tryz.underlying75
 a37:=Tryz.isAgg75
 z37:=Tryz.sizeOf75
 v37:=Tryz.zeroValue75
 t46:=Tryz.underlying114
 a46:=Tryz.isAgg114
 z46:=Tryz.sizeOf114
 v46:=Tryz.zeroValue114
 t51:=Tryz.underlying161
 a51:=Tryz.isAgg161
 z51:=Tryz.sizeOf161
 v51:=Tryz.zeroValue161
 t53:=Tryz.underlying37
 a53:=Tryz.isAgg37
 z53:=Tryz.sizeOf37
 v53:=Tryz.zeroValue37
 t75:=Tryz.underlying95
 a75:=Tryz.isAgg95
 z75:=Tryz.sizeOf95
 v75:=Tryz.zeroValue95
 t76:=Tryz.underlying96
 a76:=Tryz.isAgg96
 z76:=Tryz.sizeOf96
 v76:=Tryz.zeroValue96
 t85:=Tryz.underlying147
 a85:=Tryz.isAgg147
 z85:=Tryz.sizeOf147
 v85:=Tryz.zeroValue147
 t127:=Tryz.underlying139
 a127:=Tryz.isAgg139
 z127:=Tryz.sizeOf139
 v127:=Tryz.zeroValue139
 t143:=Tryz.underlying195
 a143:=Tryz.isAgg195
 z143:=Tryz.sizeOf195
 v143:=Tryz.zeroValue195
 t145:=Tryz.underlying197
 a145:=Tryz.isAgg197
 z145:=Tryz.sizeOf197
 v145:=Tryz.zeroValue197
 t167:=Tryz.underlying146
 a167:=Tryz.isAgg146
 z167:=Tryz.sizeOf146
 v167:=Tryz.zeroValue146
 t168:=Tryz.underlying149
 a168:=Tryz.isAgg149
 z168:=Tryz.sizeOf149
 v168:=Tryz.zeroValue149
 t171:=Tryz.underlying155
 a171:=Tryz.isAgg155
 z171:=Tryz.sizeOf155
 v171:=Tryz.zeroValue155
 t173:=Tryz.underlying158
 a173:=Tryz.isAgg158
 z173:=Tryz.sizeOf158
 v173:=Tryz.zeroValue158
 t175:=Tryz.underlying180
 a175:=Tryz.isAgg180
 z175:=Tryz.sizeOf180
 v175:=Tryz.zeroValue180
 t210:=Tryz.underlying183
 a210:=Tryz.isAgg183
 z210:=Tryz.sizeOf183
 v210:=Tryz.zeroValue183
 t212:=Tryz.underlying186
 a212:=Tryz.isAgg186
 z212:=Tryz.sizeOf186
 v212:=Tryz.zeroValue186
 t213:=Tryz.underlying187
 a213:=Tryz.isAgg187
 z213:=Tryz.sizeOf187
 t232:=Tryz.underlying199
 a232:=Tryz.isAgg199
 z232:=Tryz.sizeOf199
 v232:=Tryz.zeroValue199
 t233:=Tryz.underlying200
 a233:=Tryz.isAgg200
 z233:=Tryz.sizeOf200
 v233:=Tryz.zeroValue200
 g15:=by kernel_rfl
 g16:=by kernel_rfl
 g17:=by kernel_rfl
 g18:=by kernel_rfl
 g19:=by kernel_rfl
 t80:=Tryz.underlying101
 a80:=Tryz.isAgg101
 z80:=Tryz.sizeOf101
 v80:=Tryz.zeroValue101
 i0:=by kernel_rfl
 i2:=by kernel_rfl
 i3:=by kernel_rfl
 i4:=by kernel_rfl
 i5:=by kernel_rfl
 i9:=by kernel_rfl
 i20:=by kernel_rfl
 i21:=by kernel_rfl
 i37:=by kernel_rfl
 i46:=by kernel_rfl
 i51:=by kernel_rfl
 i53:=by kernel_rfl
 i75:=by kernel_rfl
 i76:=by kernel_rfl
 i80:=by kernel_rfl
 i85:=by kernel_rfl
 i127:=by kernel_rfl
 i143:=by kernel_rfl
 i145:=by kernel_rfl
 i167:=by kernel_rfl
 i168:=by kernel_rfl
 i171:=by kernel_rfl
 i173:=by kernel_rfl
 i175:=by kernel_rfl
 i210:=by kernel_rfl
 i212:=by kernel_rfl
 i232:=by kernel_rfl
 i233:=by kernel_rfl
 m15:=by kernel_rfl
 m16:=by kernel_rfl
 m17:=by kernel_rfl
 m18:=by kernel_rfl
 m19:=by kernel_rfl
 c0:=by kernel_rfl
 c2:=by kernel_rfl
 c3:=by kernel_rfl
 c4:=by kernel_rfl
 c5:=by kernel_rfl
 c9:=by kernel_rfl
 c20:=by kernel_rfl
 c21:=by kernel_rfl
 c37:=by kernel_rfl
 c46:=by kernel_rfl
 c51:=by kernel_rfl
 c53:=by kernel_rfl
 c75:=by kernel_rfl
 c76:=by kernel_rfl
 c80:=by kernel_rfl
 c85:=by kernel_rfl
 c127:=by kernel_rfl
 c143:=by kernel_rfl
 c145:=by kernel_rfl
 c167:=by kernel_rfl
 c168:=by kernel_rfl
 c171:=by kernel_rfl
 c173:=by kernel_rfl
 c175:=by kernel_rfl
 c210:=by kernel_rfl
 c212:=by kernel_rfl
 c213:=by kernel_rfl
 c232:=by kernel_rfl
 c233:=by kernel_rfl }
end Go.Proofs
namespace Go.Proofs.YtlmedakhioiahaaGreatDoor
open Sy Go
set_option linter.unusedVariables false
variable {G:qR}
def qXQ (g1 g2:Nat) (G:qR):Prop:=G g1=some [.err]∧G g2=some [.err]
abbrev PE (G:qR):Prop:=qXQ 2 3 G
def qAE (s:List UInt8):Int × PD:=match Lib.atoiAll s with
 | .ok v=>(v,.noerr)
 | .range=>(Lib.atoiSat s,.err)
 | _=>(0,.err)
theorem qUQ {g:Nat} {M:qY} {w:World} (hG:G g=some [.err]) (hg:GOK G M w) (hmem:∀ b o v,M b o=some v→w.cell? ⟨b,o,none⟩=some v):∃ t p,w.cell? ⟨g,0,none⟩=some (.iface t p):=by
 obtain ⟨h1,h2⟩:=hg.1 g _ hG
 obtain ⟨u,hu,_⟩:=h1 0 .err rfl
 have:=h2 0 .err u rfl hu
 cases this
 exact ⟨_,_,hmem _ _ _ hu⟩
theorem zIS (hE:PE G) (s:List UInt8) (hs:s.length≤281474976710656):AFn Tryz.prog G 56 [.str s] (.tup [.int .i64 (qAE s).1,(qAE s).2]):=by
 refine AFn.of_calls (jB Tryz.func56 (by kernel_rfl) rfl) fun M w vs hg hmem hsz hrd => ?_
 obtain ⟨b,rfl,hb,hm⟩:=qRM hsz hrd
 have hbs:b.size=s.length:=kU hb
 obtain ⟨t1,p1,hc1⟩:=qUQ hE.1 hg hmem
 obtain ⟨t2,p2,hc2⟩:=qUQ hE.2 hg hmem
 have two:∀ (u:Value) (v:Int) (d:PD),Rd M (.int .i64 v) (.int .i64 v)→Rd M u d→Rd M (.tuple #[.int .i64 v,u]) (.tup [.int .i64 v,d]):=by
  intro u v d h1 h2
  refine .tup rfl fun i x y hx hy => ?_
  match i with
  | 0=>simp at hx hy; subst hx; subst hy; exact h1
  | 1=>simp at hx hy; subst hx; subst hy; exact h2
  | i+2=>simp at hx
 have hsat:=Lib.atoiSat_bounds s
 rcases h:Lib.atoiAll s with v | _ | _
 ·have hv:=Lib.atoiAll_bounds h
  have ht:qAE s=(v,.noerr):=by unfold qAE; rw [h]
  rw [ht]
  refine (Any.strconv_Atoi_ok Tryz.laysC172 b (by omega) v (by rw [hb]; exact h) w).mono ?_
  rintro e w' ⟨rfl,hW⟩
  refine ⟨_,rfl,two _ _ _ (Rd.intOf (by simp only [kH]; omega) (by simp only [kI]; omega)) .noerr, ?_⟩
  rcases hW with rfl | ⟨t,rfl⟩
  ·exact RowKit.Below.refl _ _
  exact Lib.bytesWorld_below _ _ _
 ·have ht:qAE s=(0,.err):=by unfold qAE; rw [h]
  rw [ht]
  refine (Any.strconv_Atoi_syntax Tryz.laysC172 b (by omega) (by rw [hb]; exact h) _ w hc1 (.inr ⟨_,_,rfl⟩)).mono ?_
  rintro e w' ⟨N,rfl,_,_,hB⟩
  exact ⟨_,rfl,two _ _ _ (Rd.intOf (by simp [kH]) (by simp [kI])) .err,hB⟩
 have ht:qAE s=(Lib.atoiSat s,.err):=by unfold qAE; rw [h]
 rw [ht]
 refine (Any.strconv_Atoi_range Tryz.laysC172 b (by omega) (by rw [hb]; exact h) _ w hc2 (.inr ⟨_,_,rfl⟩)).mono ?_
 rintro e w' ⟨N,rfl,_,_,hB⟩
 rw [hb]
 exact ⟨_,rfl,two _ _ _ (Rd.intOf (by simp only [kH]; omega) (by simp only [kI]; omega)) .err,hB⟩
set_option maxRecDepth 100000
set_option linter.unusedSimpArgs false
theorem zBJ {d:Dc} (h:wH d=true):d.digits.all qJ=true:=by unfold wH at h; simp only [Bool.and_eq_true] at h; exact h.1.1
theorem qRD {b:UInt8} (h:qJ b=true):Lib.digitVal b=some (b.toNat-48):=by
 rw [qAW] at h
 cases hd:Lib.digitVal b with
 | none=>rcases Lib.digitVal_none hd with h1 | h1 <;> omega
 | some d=>rw [(Lib.digitVal_eq hd).2.2]
theorem qIZ:∀ (s:List UInt8) (acc:Nat),s.all qJ=true→Lib.decFrom acc s=some (acc * 10 ^ s.length+jG s)
 | [],acc,_=>by simp [Lib.decFrom,jG]
 | b::s,acc,h=>by
  simp only [List.all_cons,Bool.and_eq_true] at h
  simp only [Lib.decFrom,qRD h.1]
  rw [qIZ s _ h.2,qDL,List.length_cons,Nat.pow_succ,Nat.add_mul]
  congr 1
  rw [Nat.mul_comm (10 ^ s.length) 10,Nat.mul_assoc]; omega
theorem zFM {s:List UInt8} (h:s.all qJ=true) (h0:s≠[]) (hl:s.length≤17):qAE s=(((jG s:Nat):Int),.noerr)∧qAE (45::s)=(-((jG s:Nat):Int),.noerr):=by
 have hd:Lib.decNat s=some (jG s):=by
  unfold Lib.decNat
  rw [if_neg (by simpa using h0),qIZ s 0 h]; simp
 constructor
 ·obtain ⟨b,r,rfl⟩:∃ b r,s=b::r:=by cases s with
   | nil=>exact absurd rfl h0
   | cons b r=>exact ⟨b,r,rfl⟩
  have hb:qJ b=true:=by simp only [List.all_cons,Bool.and_eq_true] at h; exact h.1
  rw [qAW] at hb
  have e:Lib.atoiAll (b::r) = .ok ((jG (b::r):Nat):Int):=by
   rw [Lib.atoiAll_short _ (by omega)]
   unfold Lib.atoi
   have h1:(b == 45)=false:=by rw [beq_eq_false_iff_ne]; rintro rfl; revert hb; decide
   have h2:(b == 43)=false:=by rw [beq_eq_false_iff_ne]; rintro rfl; revert hb; decide
   simp only [h1,h2,hd]; rfl
  unfold qAE; rw [e]
 have e:Lib.atoiAll (45::s) = .ok (-((jG s:Nat):Int)):=by
  rw [Lib.atoiAll_short _ (by simp; omega)]
  unfold Lib.atoi
  simp only [beq_self_eq_true,if_true,hd]; rfl
 unfold qAE; rw [e]
def kT (d:Dc):Int:=if d.neg=true then -((jG d.digits:Nat):Int) else (jG d.digits:Nat)
theorem qZO {d:Dc} (h:d.digits.all qJ=true) (hl:d.digits.length≤15) : -1000000000000000<kT d∧kT d<1000000000000000:=by
 have h1:=zGJ h
 have h2:=Nat.pow_le_pow_right (n:=10) (by decide) hl
 unfold kT
 split <;> omega
def inB (n:Int):Bool:=decide (-1099511627776≤n) && decide (n≤1099511627776)
def kA (v:Val):Int × Bool:=if v.kind=4∧v.num.scale=0∧v.num.digits.length≤15 then (kT v.num,inB (kT v.num)) else (0,false)
theorem qXJ {d:Dc} (h:wH d=true) (hs:d.scale=0) (hl:d.digits.length≤15):qAE (yI d)=(kT d,.noerr)∧qAE d.digits=(((jG d.digits:Nat):Int),.noerr):=by
 have hm:=h
 unfold wH at hm
 simp only [Bool.and_eq_true,decide_eq_true_eq] at hm
 obtain ⟨⟨h1,h2⟩,_⟩:=hm
 have h0:d.digits≠[]:=fun e=>by rw [e] at h2; simp at h2
 have hpos:0<d.digits.length:=List.length_pos_iff.2 h0
 obtain ⟨a1,a2⟩:=zFM h1 h0 (by omega)
 refine ⟨?_,a1⟩
 have hp:yI d=(if d.neg=true then [45] else [])++d.digits:=by
  unfold yI wB zH
  rw [hs,show (0:Int).toNat+1-d.digits.length=0 by simp; omega]
  simp
 rw [hp]
 unfold kT
 split
 ·exact a2
 exact a1
end Go.Proofs.YtlmedakhioiahaaGreatDoor
