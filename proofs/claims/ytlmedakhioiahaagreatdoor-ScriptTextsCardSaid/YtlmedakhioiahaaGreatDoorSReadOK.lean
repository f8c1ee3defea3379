import Derived.Test.YtlmedakhioiahaaGreatDoorSRefS
import Derived.Test.YtlmedakhioiahaaGreatDoorK3
import Derived.Test.YtlmedakhioiahaaGreatDoorSNormMay
import Derived.Test.YtlmedakhioiahaaGreatDoorSParseEq
import Derived.Test.YtlmedakhioiahaaGreatDoorSReadQL
namespace Go.Proofs.YtlmedakhioiahaaGreatDoor
open Sy Go
set_option maxRecDepth 100000
set_option linter.unusedSimpArgs false
set_option linter.unusedVariables false
variable {G:qO}
theorem qNM {α:Type} {l:List α} (h:l.Nodup) {i j:Nat} {hi:i<l.length} {hj:j<l.length} (e:l[i]'hi=l[j]'hj):i=j:=by
 have hp:=List.pairwise_iff_getElem.1 h
 rcases Nat.lt_trichotomy i j with h1 | h1 | h1
 ·exact absurd e (hp i j hi hj h1)
 ·exact h1
 exact absurd e.symm (hp j i hj hi h1)
theorem qVA {s:List UInt8} (h:(zW s).2=0):wM (zW s).1=true:=by
 rw [← qSL] at h ⊢; exact qWK h
def qKY (v:Val):Prop:=v.kind=4→wM v.num=true
theorem xO {v:Val} (h:v.kind≠4):qKY v:=fun e=>absurd e h
theorem zDW (st:RS) (hb:(yF st).1.bad=false) (hg:(yF st).1.big=false):qKY (yF st).2:=by
 unfold yF at hb hg ⊢
 split
 ·exact xO (show ¬ (1:Int)=4 by decide)
 rename_i c; rw [if_neg c] at hb hg
 split
 ·exact xO (show ¬ (3:Int)=4 by decide)
 rename_i c; rw [if_neg c] at hb hg
 split
 ·exact xO (show ¬ (2:Int)=4 by decide)
 rename_i c; rw [if_neg c] at hb hg
 split
 ·exact xO (by show ¬ (5:Int)=4; decide)
 rename_i c; rw [if_neg c] at hb hg
 split
 ·rename_i c; rw [if_pos c] at hb hg
  simp only [wS,Bool.or_eq_false_iff,decide_eq_false_iff_not] at hb hg
  intro _
  show wM (zW (st.left.takeWhile wI)).1=true
  rcases qIA (st.left.takeWhile wI) with h | h | h
  ·exact qVA h
  ·exact absurd h hg.2
  exact absurd h hb.2
 exact xO (show ¬ (0:Int)=4 by decide)
theorem zEU:∀ (n:Nat) (st:RS) (d:Nat),(qS n st d).1.bad=false→(qS n st d).1.big=false→qKY (qS n st d).2
 | 0,st,d,hb,_=>by simp [qS] at hb
 | n+1,st,d,hb,hg=>by
  rw [uW] at hb hg ⊢
  split
  ·exact xO (by show ¬ (6:Int)=4; decide)
  rename_i c; rw [if_neg c] at hb hg
  split
  ·exact xO (by show ¬ (7:Int)=4; decide)
  rename_i c; rw [if_neg c] at hb hg
  exact zDW _ hb hg
def xA (p:List (List UInt8) × List Val):Prop:=p.1.length=p.2.length∧p.1.Nodup∧∀ v∈p.2,qKY v
theorem zBS {ks:List (List UInt8)} {vs:List Val} (h:xA (ks,vs)) (key:List UInt8) {v:Val} (hv:qKY v):xA (jQ ks vs key v):=by
 obtain ⟨h1,h2,h3⟩:=h
 simp only at h1 h2 h3
 unfold jQ
 split
 ·refine ⟨by simpa using h1,h2,fun u hu => ?_⟩
  rcases List.mem_or_eq_of_mem_set hu with h4 | h4
  ·exact h3 u h4
  exact h4 ▸ hv
 rename_i hk
 refine ⟨by simpa using h1, ?_,fun u hu => ?_⟩
 ·show (ks++[key]).Nodup
  rw [List.nodup_append]
  exact ⟨h2,by simp,by intro a ha b hb; simp at hb; subst hb; rintro rfl; exact hk ha⟩
 rcases List.mem_append.1 hu with h4 | h4
 ·exact h3 u h4
 exact List.mem_singleton.1 h4 ▸ hv
theorem qSQ:∀ (n:Nat) (st:RS) (d many:Nat) (ks:List (List UInt8)) (vs:List Val),xA (ks,vs)→(wR n st d many ks vs).1.bad=false→(wR n st d many ks vs).1.big=false→xA (wR n st d many ks vs).2
 | 0,st,d,many,ks,vs,_,hb,_=>by simp [wR] at hb
 | n+1,st,d,many,ks,vs,hm,hb,hg=>by
  rw [qFP] at hb hg ⊢
  split
  ·exact hm
  rename_i c; rw [if_neg c] at hb hg
  have hE:(yQ (qE st) ks vs (qS n (qP (qE st).1) d)).1.bad=false→(yQ (qE st) ks vs (qS n (qP (qE st).1) d)).1.big=false→xA (yQ (qE st) ks vs (qS n (qP (qE st).1) d)).2:=by
   unfold yQ
   split
   ·exact fun _ _=>hm
   exact fun h1 h2=>zBS hm _ (zEU _ _ _ h1 h2)
  generalize yQ (qE st) ks vs (qS n (qP (qE st).1) d)=A at *
  split
  ·rename_i c; rw [if_pos c] at hb hg
   exact hE (qJF _ _ _ hb) (xX _ _ _ hg)
  rename_i c; rw [if_neg c] at hb hg
  have h1:(wW 125 many A.1).2.bad=false:=by
   rw [← Bool.not_eq_true]; intro h
   rw [qJJ h] at hb; cases hb
  exact qSQ n _ _ _ _ _ (hE (qJF _ _ _ h1) (xX _ _ _ ((zDU n).2.2 _ _ _ _ _ hg))) hb hg
theorem qBZ {s:List UInt8} (h:(wA s).2.2=0) (h7:(wA s).1.kind=7):xA ((wA s).1.keys,(wA s).1.kids):=by
 have hE:wA s=if (qS (2 * s.length+2) ⟨s,0,false,false,false⟩ 1).1.bad=true then (zK,0,10) else if (qS (2 * s.length+2) ⟨s,0,false,false,false⟩ 1).1.deep=true then (zK,0,11) else if (qS (2 * s.length+2) ⟨s,0,false,false,false⟩ 1).1.big=true then (zK,0,3) else ((qS (2 * s.length+2) ⟨s,0,false,false,false⟩ 1).2,(s.length:Int)-(qS (2 * s.length+2) ⟨s,0,false,false,false⟩ 1).1.left.length,0):=rfl
 rw [hE] at h h7 ⊢
 rw [show 2 * s.length+2=(2 * s.length+1)+1 from rfl] at h h7 ⊢
 split at h
 ·cases h
 rename_i c1
 rw [if_neg c1] at h7 ⊢
 split at h
 ·cases h
 rename_i c2
 rw [if_neg c2] at h7 ⊢
 split at h
 ·cases h
 rename_i c3
 rw [if_neg c3] at h7 ⊢
 simp only at h7 ⊢
 have c1:(qS (2 * s.length+1+1) ⟨s,0,false,false,false⟩ 1).1.bad=false:=by simpa using c1
 have c3:(qS (2 * s.length+1+1) ⟨s,0,false,false,false⟩ 1).1.big=false:=by simpa using c3
 clear h c2
 generalize 2 * s.length+1=n at *
 generalize (⟨s,0,false,false,false⟩:RS)=st at *
 rw [uW] at h7 c1 c3 ⊢
 split at h7
 ·exact absurd h7 (show ¬ (6:Int)=7 by decide)
 rename_i c; rw [if_neg c] at c1 c3 ⊢
 split at h7
 ·rename_i c; rw [if_pos c] at c1 c3 ⊢
  show xA (qEG n (zB (qV st 1) 1) (1+1)).2
  simp only at c1 c3
  have h0:xA (([],[]):List (List UInt8) × List Val):=⟨rfl,by simp,fun v hv=>by cases hv⟩
  unfold qEG at c1 c3 ⊢
  split
  ·exact h0
  rename_i c; rw [if_neg c] at c1 c3
  exact qSQ _ _ _ _ _ _ h0 c1 c3
 rename_i c; rw [if_neg c] at c1 c3 ⊢
 exfalso
 unfold yF at h7
 split at h7
 ·exact absurd h7 (show ¬ (1:Int)=7 by decide)
 split at h7
 ·exact absurd h7 (show ¬ (3:Int)=7 by decide)
 split at h7
 ·exact absurd h7 (show ¬ (2:Int)=7 by decide)
 split at h7
 ·exact absurd h7 (show ¬ (5:Int)=7 by decide)
 split at h7
 ·exact absurd h7 (show ¬ (4:Int)=7 by decide)
 exact absurd h7 (show ¬ (0:Int)=7 by decide)
theorem zGI {v:Val} (h:xA (v.keys,v.kids)) (key:List UInt8):(jG v key).2=true→(jG v key).1.kind=4→wM (jG v key).1.num=true:=by
 intro h1
 unfold jG at h1 ⊢
 split
 ·rename_i c
  exact h.2.2 (qDU v key) (List.mem_of_getElem? (qGZ (Nat.le_of_eq h.1) c.2))
 rename_i c; rw [if_neg c] at h1; cases h1
def okJ (key:List UInt8) (x:Val):Prop:=(key∈zF∧x.kind=5)∨(key∈zY∧(kC x).2=true)
theorem zCR {v:Val} (h:xA (v.keys,v.kids)) (h7:v.kind=7) {i:Nat} {key:List UInt8} {x:Val} (hk:v.keys[i]?=some key) (hx:v.kids[i]?=some x):jG v key=(qBG x v.mask,true):=by
 have hm:key∈v.keys:=List.mem_of_getElem? hk
 have hi:=(List.getElem?_eq_some_iff.1 hk)
 have hid:v.keys.idxOf key=i:=by
  have h1:=List.idxOf_lt_length_iff.2 hm
  have h2:v.keys[v.keys.idxOf key]'h1=v.keys[i]'hi.1:=by rw [List.getElem_idxOf,hi.2]
  exact qNM h.2.1 h2
 have h2:=qGZ (Nat.le_of_eq h.1) hm
 rw [hid,hx] at h2
 unfold jG
 rw [if_pos ⟨h7,hm⟩,← Option.some.inj h2]
theorem qRF {v:Val} (h:xA (v.keys,v.kids)) (h7:v.kind=7) {i:Nat} {key:List UInt8} {x:Val} (hk:v.keys[i]?=some key) (hx:v.kids[i]?=some x):vG v key=(x.text,decide (x.kind=5)):=by
 unfold vG; rw [zCR h h7 hk hx]; rfl
theorem qXG {v:Val} (h:xA (v.keys,v.kids)) (h7:v.kind=7) {i:Nat} {key:List UInt8} {x:Val} (hk:v.keys[i]?=some key) (hx:v.kids[i]?=some x):kV v key=kC x:=by
 unfold kV; rw [zCR h h7 hk hx,if_pos rfl]; rfl
theorem zAT {v:Val} {key:List UInt8} (h:key ∉ v.keys):(vG v key).2=false:=by
 unfold vG jG; rw [if_neg fun c=>h c.2]; rfl
theorem zFV {v:Val} {key:List UInt8} (h:key ∉ v.keys):(kV v key).2=false:=by
 unfold kV jG; rw [if_neg (by rw [if_neg fun c=>h c.2]; simp)]
theorem zBR (j:Jb) (key:List UInt8) (x:Val):(∃ q,qKU j key x=some q)↔okJ key x:=by
 unfold qKU okJ
 by_cases h1:key∈zF
 ·have h2:=uU key h1
  rw [if_pos h1]
  by_cases h3:x.kind=5
  ·rw [if_pos h3]; simp [h1,h3]
  rw [if_neg h3]; simp [h2,h3]
 rw [if_neg h1]
 by_cases h2:key∈zY
 ·rw [if_pos h2]
  by_cases h3:(kC x).2=true
  ·rw [if_pos h3]; simp [h2,h3]
  rw [if_neg h3]; simp [h1,h3]
 rw [if_neg h2]; simp [h1,h2]
theorem qTK {v:Val}:∀ k:Nat,xK v k=none→∃ i,i<k∧¬ okJ (v.keys.getD i []) (v.kids.getD i zK)
 | 0,h=>by simp [xK] at h
 | k+1,h=>by
  simp only [xK] at h
  cases hq:xK v k with
  | none =>
   obtain ⟨i,h1,h2⟩:=qTK k hq
   exact ⟨i,by omega,h2⟩
  | some j =>
   rw [hq] at h
   refine ⟨k,by omega,fun hok => ?_⟩
   obtain ⟨q,hq2⟩:=(zBR j _ _).2 hok
   simp only [Option.bind_some] at h
   rw [hq2] at h; cases h
theorem qNB (j:Jb) {i f:Nat} (hi:i<4) (hf:f<4) (s:List UInt8):wC (j.setW i s) f=if f=i then s else wC j f:=by
 match i,hi,f,hf with
 | 0,_,0,_=>rfl
 | 0,_,1,_=>rfl
 | 0,_,2,_=>rfl
 | 0,_,3,_=>rfl
 | 1,_,0,_=>rfl
 | 1,_,1,_=>rfl
 | 1,_,2,_=>rfl
 | 1,_,3,_=>rfl
 | 2,_,0,_=>rfl
 | 2,_,1,_=>rfl
 | 2,_,2,_=>rfl
 | 2,_,3,_=>rfl
 | 3,_,0,_=>rfl
 | 3,_,1,_=>rfl
 | 3,_,2,_=>rfl
 | 3,_,3,_=>rfl
theorem qRV (j:Jb) {i f:Nat} (hi:i<4) (hf:f<4) (s:Int):yT (j.setN i s) f=if f=i then s else yT j f:=by
 match i,hi,f,hf with
 | 0,_,0,_=>rfl
 | 0,_,1,_=>rfl
 | 0,_,2,_=>rfl
 | 0,_,3,_=>rfl
 | 1,_,0,_=>rfl
 | 1,_,1,_=>rfl
 | 1,_,2,_=>rfl
 | 1,_,3,_=>rfl
 | 2,_,0,_=>rfl
 | 2,_,1,_=>rfl
 | 2,_,2,_=>rfl
 | 2,_,3,_=>rfl
 | 3,_,0,_=>rfl
 | 3,_,1,_=>rfl
 | 3,_,2,_=>rfl
 | 3,_,3,_=>rfl
theorem zBM (j:Jb) {i f:Nat} (hi:i<4) (hf:f<4) (s:List UInt8):yT (j.setW i s) f=yT j f:=by
 match i,hi with
 | 0,_=>rfl
 | 1,_=>rfl
 | 2,_=>rfl
 | 3,_=>rfl
theorem qYN (j:Jb) {i f:Nat} (hi:i<4) (hf:f<4) (s:Int):wC (j.setN i s) f=wC j f:=by
 match i,hi with
 | 0,_=>rfl
 | 1,_=>rfl
 | 2,_=>rfl
 | 3,_=>rfl
theorem qZS {f:Nat} (hf:f<4):zF.idxOf (zF.getD f [])=f:=by
 match f,hf with
 | 0,_=>decide
 | 1,_=>decide
 | 2,_=>decide
 | 3,_=>decide
theorem zCO {f:Nat} (hf:f<4):zY.idxOf (zY.getD f [])=f:=by
 match f,hf with
 | 0,_=>decide
 | 1,_=>decide
 | 2,_=>decide
 | 3,_=>decide
theorem qGM {f:Nat} (hf:f<4):zF.getD f []∈zF:=by
 match f,hf with
 | 0,_=>decide
 | 1,_=>decide
 | 2,_=>decide
 | 3,_=>decide
theorem qKW {f:Nat} (hf:f<4):zY.getD f []∈zY:=by
 match f,hf with
 | 0,_=>decide
 | 1,_=>decide
 | 2,_=>decide
 | 3,_=>decide
theorem qSR (key:List UInt8) (h:key∈zY):key ∉ zF:=fun h1=>uU key h1 h
theorem qRC {key:List UInt8} (h:key∈zF):∃ f,f<4∧key=zF.getD f []:=by
 have h1:zF.idxOf key<4:=List.idxOf_lt_length_iff.2 h
 refine ⟨_,h1, ?_⟩
 rw [List.getD_eq_getElem?_getD,qDI h]; rfl
theorem qXF {key:List UInt8} (h:key∈zY):∃ f,f<4∧key=zY.getD f []:=by
 have h1:zY.idxOf key<4:=List.idxOf_lt_length_iff.2 h
 refine ⟨_,h1, ?_⟩
 rw [List.getD_eq_getElem?_getD,qDI h]; rfl
theorem qOE {v:Val} (hm:xA (v.keys,v.kids)):∀ (k:Nat) (j:Jb),k≤v.keys.length→xK v k=some j→∀ i,i<k→okJ (v.keys.getD i []) (v.kids.getD i zK)∧∀ f,f<4→(v.keys.getD i []=zF.getD f []→wC j f=(v.kids.getD i zK).text)∧(v.keys.getD i []=zY.getD f []→yT j f=(kC (v.kids.getD i zK)).1)
 | 0,j,_,_,i,hi=>by omega
 | k+1,j,hk,h,i,hi=>by
  simp only [xK] at h
  cases hq:xK v k with
  | none=>rw [hq] at h; cases h
  | some q =>
   rw [hq] at h
   simp only [Option.bind_some] at h
   have hok:=(zBR q _ _).1 ⟨j,h⟩
   have ih:=qOE hm k q (by omega) hq
   have hne:i≠k→v.keys.getD i []≠v.keys.getD k []:=fun hne e=>by
    rw [List.getD_eq_getElem?_getD,List.getD_eq_getElem?_getD,List.getElem?_eq_getElem (by omega),List.getElem?_eq_getElem (by omega)] at e
    exact hne (qNM hm.2.1 e)
   generalize hkey:v.keys.getD k []=key at *
   generalize hx:v.kids.getD k zK=x at *
   have hput:qKU q key x=if key∈zF then (if x.kind=5 then some (q.setW (zF.idxOf key) x.text) else none)
    else if key∈zY then (if (kC x).2=true then some (q.setN (zY.idxOf key) (kC x).1) else none) else none:=rfl
   rw [hput] at h
   rcases hok with ⟨hw,h5⟩ | ⟨hn,hn2⟩
   ·rw [if_pos hw,if_pos h5] at h
    obtain rfl:=Option.some.inj h
    have hi4:zF.idxOf key<4:=List.idxOf_lt_length_iff.2 hw
    by_cases e:i=k
    ·subst e
     rw [hkey,hx]
     refine ⟨.inl ⟨hw,h5⟩,fun f hf=>⟨fun hkf => ?_,fun hkf=>absurd (hkf ▸ qKW hf) (uU key hw)⟩⟩
     rw [qNB q hi4 hf,if_pos (by rw [hkf,qZS hf])]
    obtain ⟨g1,g2⟩:=ih i (by omega)
    refine ⟨g1,fun f hf=>⟨fun hkf => ?_,fun hkf => ?_⟩⟩
    ·rw [qNB q hi4 hf,if_neg (fun he=>hne e (by rw [hkf,he,List.getD_eq_getElem?_getD,qDI hw]; rfl))]
     exact (g2 f hf).1 hkf
    rw [zBM q hi4 hf]; exact (g2 f hf).2 hkf
   have hw:=qSR key hn
   rw [if_neg hw,if_pos hn,if_pos hn2] at h
   obtain rfl:=Option.some.inj h
   have hi4:zY.idxOf key<4:=List.idxOf_lt_length_iff.2 hn
   by_cases e:i=k
   ·subst e
    rw [hkey,hx]
    refine ⟨.inr ⟨hn,hn2⟩,fun f hf=>⟨fun hkf=>absurd (hkf ▸ qGM hf) hw,fun hkf => ?_⟩⟩
    rw [qRV q hi4 hf,if_pos (by rw [hkf,zCO hf])]
   obtain ⟨g1,g2⟩:=ih i (by omega)
   refine ⟨g1,fun f hf=>⟨fun hkf => ?_,fun hkf => ?_⟩⟩
   ·rw [qYN q hi4 hf]; exact (g2 f hf).1 hkf
   rw [qRV q hi4 hf,if_neg (fun he=>hne e (by rw [hkf,he,List.getD_eq_getElem?_getD,qDI hn]; rfl))]
   exact (g2 f hf).2 hkf
theorem qET {v:Val}:∀ (k:Nat) (p:List (List UInt8) × List Int),k≤4→kT v k=some p→∀ f,f<k→(vG v (zF.getD f [])).2=true∧(kV v (zY.getD f [])).2=true∧p.1.getD f []=(vG v (zF.getD f [])).1∧p.2.getD f 0=(kV v (zY.getD f [])).1
 | 0,p,_,_,f,hf=>by omega
 | k+1,p,hk,h,f,hf=>by
  simp only [kT] at h
  cases hq:kT v k with
  | none=>rw [hq] at h; cases h
  | some q =>
   rw [hq] at h
   simp only [Option.bind_some] at h
   split at h
   ·rename_i c
    obtain rfl:=Option.some.inj h
    obtain ⟨l1,l2⟩:=qHE hq
    by_cases e:f=k
    ·subst e
     refine ⟨c.1,c.2, ?_, ?_⟩
     ·rw [List.getD_eq_getElem?_getD,List.getElem?_set_self (by omega)]; rfl
     rw [List.getD_eq_getElem?_getD,List.getElem?_set_self (by omega)]; rfl
    obtain ⟨g1,g2,g3,g4⟩:=qET k q (by omega) hq f (by omega)
    refine ⟨g1,g2, ?_, ?_⟩
    ·rw [List.getD_eq_getElem?_getD,List.getElem?_set_ne (by omega),← List.getD_eq_getElem?_getD]; exact g3
    rw [List.getD_eq_getElem?_getD,List.getElem?_set_ne (by omega),← List.getD_eq_getElem?_getD]; exact g4
   cases h
theorem qOF {v:Val}:∀ k:Nat,(∀ f,f<k→(vG v (zF.getD f [])).2=true∧(kV v (zY.getD f [])).2=true)→∃ p,kT v k=some p
 | 0,_=>⟨_,rfl⟩
 | k+1,h=>by
  obtain ⟨q,hq⟩:=qOF k fun f hf=>h f (by omega)
  exact ⟨_,by simp only [kT,hq,Option.bind_some]; rw [if_pos (h k (by omega))]⟩
theorem qEW {α:Type} [DecidableEq α]:∀ (l m:List α),l.Nodup→(∀ x∈l,x∈m)→m.length≤l.length→∀ x∈m,x∈l
 | [],m,_,_,hl,x,hx=>by
  have:m=[]:=List.length_eq_zero_iff.1 (Nat.le_zero.1 hl)
  subst this; cases hx
 | a::l,m,hn,hs,hl,x,hx=>by
  have ha:a∈m:=hs a (by simp)
  by_cases e:x=a
  ·subst e; simp
  have hn':=List.nodup_cons.1 hn
  have h1:x∈m.erase a:=(List.mem_erase_of_ne e).2 hx
  have h2:(m.erase a).length=m.length-1:=List.length_erase_of_mem ha
  exact List.mem_cons_of_mem _ (qEW l (m.erase a) hn'.2 (fun y hy=>(List.mem_erase_of_ne (by rintro rfl; exact hn'.1 hy)).2 (hs y (by simp [hy]))) (by simp at hl; omega) x h1)
theorem qFT {key:List UInt8}:key∈yU↔key∈zF∨key∈zY:=List.mem_append
theorem qZP:yU.Nodup:=by decide
theorem qZV {v:Val} (hm:xA (v.keys,v.kids)) (h7:v.kind=7) (h8:v.keys.length=8):xK v 8=(kT v 4).map zCM:=by
 have hkl:v.kids.length=8:=hm.1 ▸ h8
 have key_at:∀ {i:Nat},i<8→v.keys[i]?=some (v.keys.getD i []):=fun {i} hi=>by
  rw [List.getD_eq_getElem?_getD,List.getElem?_eq_getElem (by omega)]; rfl
 have kid_at:∀ {i:Nat},i<8→v.kids[i]?=some (v.kids.getD i zK):=fun {i} hi=>by
  rw [List.getD_eq_getElem?_getD,List.getElem?_eq_getElem (by omega)]; rfl
 have mem_ex:∀ {key:List UInt8},key∈v.keys→∃ i,i<8∧v.keys.getD i []=key:=fun {key} hk=>by
  obtain ⟨i,hi,e⟩:=List.mem_iff_getElem.1 hk
  exact ⟨i,by omega,by rw [List.getD_eq_getElem?_getD,List.getElem?_eq_getElem hi,e]; rfl⟩
 have at_mem:∀ {i:Nat},i<8→v.keys.getD i []∈v.keys:=fun {i} hi=>List.mem_of_getElem? (key_at hi)
 cases hj:xK v 8 with
 | some j =>
  have hs:=qOE hm 8 j (by omega) hj
  have hsub:∀ x∈v.keys,x∈yU:=fun x hx=>by
   obtain ⟨i,hi,e⟩:=mem_ex hx
   rw [qFT,← e]
   exact (hs i hi).1.imp (fun h=>h.1) (fun h=>h.1)
  have hall:=qEW v.keys yU hm.2.1 hsub (by rw [h8]; decide)
  have hW:∀ f,f<4→vG v (zF.getD f [])=(wC j f,true):=fun f hf=>by
   obtain ⟨i,hi,e⟩:=mem_ex (hall _ (qFT.2 (.inl (qGM hf))))
   obtain ⟨g1,g2⟩:=hs i hi
   rw [← e,qRF hm h7 (key_at hi) (kid_at hi),(g2 f hf).1 e]
   rcases g1 with g1 | g1
   ·rw [decide_eq_true g1.2]
   exact absurd (e ▸ qGM hf) (qSR _ g1.1)
  have hN:∀ f,f<4→kV v (zY.getD f [])=(yT j f,true):=fun f hf=>by
   obtain ⟨i,hi,e⟩:=mem_ex (hall _ (qFT.2 (.inr (qKW hf))))
   obtain ⟨g1,g2⟩:=hs i hi
   rw [← e,qXG hm h7 (key_at hi) (kid_at hi),(g2 f hf).2 e]
   rcases g1 with g1 | g1
   ·exact absurd (e ▸ qKW hf) (uU _ g1.1)
   rw [← g1.2]
  obtain ⟨p,hp⟩:=qOF (v:=v) 4 fun f hf=>⟨by rw [hW f hf],by rw [hN f hf]⟩
  rw [hp,Option.map_some]
  have hP:=qET 4 p (by omega) hp
  obtain ⟨p1,p2⟩:=p
  have w0:=(hP 0 (by omega)).2.2
  have w1:=(hP 1 (by omega)).2.2
  have w2:=(hP 2 (by omega)).2.2
  have w3:=(hP 3 (by omega)).2.2
  rw [hW 0 (by omega),hN 0 (by omega)] at w0
  rw [hW 1 (by omega),hN 1 (by omega)] at w1
  rw [hW 2 (by omega),hN 2 (by omega)] at w2
  rw [hW 3 (by omega),hN 3 (by omega)] at w3
  simp only at w0 w1 w2 w3
  unfold zCM
  simp only
  rw [w0.1,w1.1,w2.1,w3.1,w0.2,w1.2,w2.2,w3.2]
  rfl
 | none =>
  cases hp:kT v 4 with
  | none=>rfl
  | some p =>
   exfalso
   have hP:=qET 4 p (by omega) hp
   have hsub:∀ x∈yU,x∈v.keys:=fun x hx=>by
    by_cases hin:x∈v.keys
    ·exact hin
    exfalso
    rcases qFT.1 hx with h | h
    ·obtain ⟨f,hf,rfl⟩:=qRC h
     have:=(hP f hf).1
     rw [zAT hin] at this; cases this
    obtain ⟨f,hf,rfl⟩:=qXF h
    have:=(hP f hf).2.1
    rw [zFV hin] at this; cases this
   have hall:=qEW yU v.keys qZP hsub (by rw [h8]; decide)
   obtain ⟨i,hi,hbad⟩:=qTK 8 hj
   apply hbad
   rcases qFT.1 (hall _ (at_mem hi)) with h | h
   ·obtain ⟨f,hf,e⟩:=qRC h
    have:=(hP f hf).1
    rw [← e,qRF hm h7 (key_at hi) (kid_at hi)] at this
    exact .inl ⟨h,by simpa using this⟩
   obtain ⟨f,hf,e⟩:=qXF h
   have:=(hP f hf).2.1
   rw [← e,qXG hm h7 (key_at hi) (kid_at hi)] at this
   exact .inr ⟨h,this⟩
theorem qSD (s:List UInt8):qSE s=qDS s:=by
 unfold qSE qDS
 have ht:=zBH (s.drop (wA s).2.1.toNat)
 rw [show zGT=[32,9,10,13] from rfl]
 by_cases h:(wA s).2.2≠0∨(s.drop (wA s).2.1.toNat).all jF=false∨(wA s).1.kind≠7∨(wA s).1.keys.length≠8
 ·rw [if_pos h,if_pos (h.imp_right (Or.imp_left fun h1 h2=>by rw [ht.1 h2] at h1; cases h1))]
 rw [if_neg h,if_neg (fun h2=>h (h2.imp_right (Or.imp_left fun h1=>by rw [← Bool.not_eq_true]; exact fun h3=>h1 (ht.2 h3))))]
 simp only [not_or,Decidable.not_not] at h
 obtain ⟨h0, -, h7,h8⟩:=h
 rw [qZV (qBZ h0 h7) h7 h8]
 cases kT (wA s).1 4 with
 | none=>rfl
 | some p=>rfl
theorem zBN (hG:U8 G) (hE:PE G) (s:List UInt8) (hs:s.length≤1000000):AFn Tryz.prog G 10 [.str s] (.tup [(qDS s).1.enc,.int .i64 (qDS s).2]) :=
 zFJ hG hE s hs fun h h7=>⟨(qBZ h h7).1,(qBZ h h7).2.2⟩
theorem zBQ (hE:PE G) (s:List UInt8) (hs:s.length≤100000) (ho:AFn Tryz.prog G 16 [.str s] (.tup [(wA s).1.enc,.int .i64 (wA s).2.1,.int .i64 (wA s).2.2])):AFn Tryz.prog G 11 [.str s] (.tup [(qDS s).1.enc,.int .i64 (qDS s).2]):=by
 rw [← qSD]
 exact qYS hE s hs ho fun h h7=>⟨(qBZ h h7).1,zGI (qBZ h h7)⟩
end Go.Proofs.YtlmedakhioiahaaGreatDoor
