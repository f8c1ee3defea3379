import Derived.Test.YtlmedakhioiahaaGreatDoorSRefS
import Derived.Test.YtlmedakhioiahaaGreatDoorK3
import Derived.Test.YtlmedakhioiahaaGreatDoorSNormMay
import Derived.Test.YtlmedakhioiahaaGreatDoorSParseEq
import Derived.Test.YtlmedakhioiahaaGreatDoorSReadQL
namespace Go.Proofs.YtlmedakhioiahaaGreatDoor
open Sy Go
set_option maxRecDepth 100000
set_option linter.unusedSimpArgs false
set_option linter.unusedVariables false
variable {G:qR}
theorem zAR {α:Type} {l:List α} (h:l.Nodup) {i j:Nat} {hi:i<l.length} {hj:j<l.length} (e:l[i]'hi=l[j]'hj):i=j:=by
 have hp:=List.pairwise_iff_getElem.1 h
 rcases Nat.lt_trichotomy i j with h1 | h1 | h1
 ·exact absurd e (hp i j hi hj h1)
 ·exact h1
 exact absurd e.symm (hp j i hj hi h1)
theorem qWG {s:List UInt8} (h:(zJ s).2=0):wH (zJ s).1=true:=by
 rw [← qTK] at h ⊢; exact qXP h
def qES (v:Val):Prop:=v.kind=4→wH v.num=true
theorem jZ {v:Val} (h:v.kind≠4):qES v:=fun e=>absurd e h
theorem zFK (st:RS) (hb:(wT st).1.bad=false) (hg:(wT st).1.big=false):qES (wT st).2:=by
 unfold wT at hb hg ⊢
 split
 ·exact jZ (show ¬ (1:Int)=4 by decide)
 rename_i c; rw [if_neg c] at hb hg
 split
 ·exact jZ (show ¬ (3:Int)=4 by decide)
 rename_i c; rw [if_neg c] at hb hg
 split
 ·exact jZ (show ¬ (2:Int)=4 by decide)
 rename_i c; rw [if_neg c] at hb hg
 split
 ·exact jZ (by show ¬ (5:Int)=4; decide)
 rename_i c; rw [if_neg c] at hb hg
 split
 ·rename_i c; rw [if_pos c] at hb hg
  simp only [wO,Bool.or_eq_false_iff,decide_eq_false_iff_not] at hb hg
  intro _
  show wH (zJ (st.left.takeWhile zY)).1=true
  rcases qIP (st.left.takeWhile zY) with h | h | h
  ·exact qWG h
  ·exact absurd h hg.2
  exact absurd h hb.2
 exact jZ (show ¬ (0:Int)=4 by decide)
theorem zGI:∀ (n:Nat) (st:RS) (d:Nat),(qS n st d).1.bad=false→(qS n st d).1.big=false→qES (qS n st d).2
 | 0,st,d,hb,_=>by simp [qS] at hb
 | n+1,st,d,hb,hg=>by
  rw [qAL] at hb hg ⊢
  split
  ·exact jZ (by show ¬ (6:Int)=4; decide)
  rename_i c; rw [if_neg c] at hb hg
  split
  ·exact jZ (by show ¬ (7:Int)=4; decide)
  rename_i c; rw [if_neg c] at hb hg
  exact zFK _ hb hg
def qAG (p:List (List UInt8) × List Val):Prop:=p.1.length=p.2.length∧p.1.Nodup∧∀ v∈p.2,qES v
theorem zDB {ks:List (List UInt8)} {vs:List Val} (h:qAG (ks,vs)) (key:List UInt8) {v:Val} (hv:qES v):qAG (kW ks vs key v):=by
 obtain ⟨h1,h2,h3⟩:=h
 simp only at h1 h2 h3
 unfold kW
 split
 ·refine ⟨by simpa using h1,h2,fun u hu => ?_⟩
  rcases List.mem_or_eq_of_mem_set hu with h4 | h4
  ·exact h3 u h4
  exact h4 ▸ hv
 rename_i hk
 refine ⟨by simpa using h1, ?_,fun u hu => ?_⟩
 ·show (ks++[key]).Nodup
  rw [List.nodup_append]
  exact ⟨h2,by simp,by intro a ha b hb; simp at hb; subst hb; rintro rfl; exact hk ha⟩
 rcases List.mem_append.1 hu with h4 | h4
 ·exact h3 u h4
 exact List.mem_singleton.1 h4 ▸ hv
theorem qTS:∀ (n:Nat) (st:RS) (d many:Nat) (ks:List (List UInt8)) (vs:List Val),qAG (ks,vs)→(wN n st d many ks vs).1.bad=false→(wN n st d many ks vs).1.big=false→qAG (wN n st d many ks vs).2
 | 0,st,d,many,ks,vs,_,hb,_=>by simp [wN] at hb
 | n+1,st,d,many,ks,vs,hm,hb,hg=>by
  rw [qGB] at hb hg ⊢
  split
  ·exact hm
  rename_i c; rw [if_neg c] at hb hg
  have hE:(yX (qD st) ks vs (qS n (qQ (qD st).1) d)).1.bad=false→(yX (qD st) ks vs (qS n (qQ (qD st).1) d)).1.big=false→qAG (yX (qD st) ks vs (qS n (qQ (qD st).1) d)).2:=by
   unfold yX
   split
   ·exact fun _ _=>hm
   exact fun h1 h2=>zDB hm _ (zGI _ _ _ h1 h2)
  generalize yX (qD st) ks vs (qS n (qQ (qD st).1) d)=A at *
  split
  ·rename_i c; rw [if_pos c] at hb hg
   exact hE (qJT _ _ _ hb) (vC _ _ _ hg)
  rename_i c; rw [if_neg c] at hb hg
  have h1:(wJ 125 many A.1).2.bad=false:=by
   rw [← Bool.not_eq_true]; intro h
   rw [qJV h] at hb; cases hb
  exact qTS n _ _ _ _ _ (hE (qJT _ _ _ h1) (vC _ _ _ ((zFI n).2.2 _ _ _ _ _ hg))) hb hg
theorem qTQ {s:List UInt8} (h:(kF s).2.2=0) (h7:(kF s).1.kind=7):qAG ((kF s).1.keys,(kF s).1.kids):=by
 have hE:kF s=if (qS (2 * s.length+2) ⟨s,0,false,false,false⟩ 1).1.bad=true then (zK,0,10) else if (qS (2 * s.length+2) ⟨s,0,false,false,false⟩ 1).1.deep=true then (zK,0,11) else if (qS (2 * s.length+2) ⟨s,0,false,false,false⟩ 1).1.big=true then (zK,0,3) else ((qS (2 * s.length+2) ⟨s,0,false,false,false⟩ 1).2,(s.length:Int)-(qS (2 * s.length+2) ⟨s,0,false,false,false⟩ 1).1.left.length,0):=rfl
 rw [hE] at h h7 ⊢
 rw [show 2 * s.length+2=(2 * s.length+1)+1 from rfl] at h h7 ⊢
 split at h
 ·cases h
 rename_i c1
 rw [if_neg c1] at h7 ⊢
 split at h
 ·cases h
 rename_i c2
 rw [if_neg c2] at h7 ⊢
 split at h
 ·cases h
 rename_i c3
 rw [if_neg c3] at h7 ⊢
 simp only at h7 ⊢
 have c1:(qS (2 * s.length+1+1) ⟨s,0,false,false,false⟩ 1).1.bad=false:=by simpa using c1
 have c3:(qS (2 * s.length+1+1) ⟨s,0,false,false,false⟩ 1).1.big=false:=by simpa using c3
 clear h c2
 generalize 2 * s.length+1=n at *
 generalize (⟨s,0,false,false,false⟩:RS)=st at *
 rw [qAL] at h7 c1 c3 ⊢
 split at h7
 ·exact absurd h7 (show ¬ (6:Int)=7 by decide)
 rename_i c; rw [if_neg c] at c1 c3 ⊢
 split at h7
 ·rename_i c; rw [if_pos c] at c1 c3 ⊢
  show qAG (qER n (qW (qT st 1) 1) (1+1)).2
  simp only at c1 c3
  have h0:qAG (([],[]):List (List UInt8) × List Val):=⟨rfl,by simp,fun v hv=>by cases hv⟩
  unfold qER at c1 c3 ⊢
  split
  ·exact h0
  rename_i c; rw [if_neg c] at c1 c3
  exact qTS _ _ _ _ _ _ h0 c1 c3
 rename_i c; rw [if_neg c] at c1 c3 ⊢
 exfalso
 unfold wT at h7
 split at h7
 ·exact absurd h7 (show ¬ (1:Int)=7 by decide)
 split at h7
 ·exact absurd h7 (show ¬ (3:Int)=7 by decide)
 split at h7
 ·exact absurd h7 (show ¬ (2:Int)=7 by decide)
 split at h7
 ·exact absurd h7 (show ¬ (5:Int)=7 by decide)
 split at h7
 ·exact absurd h7 (show ¬ (4:Int)=7 by decide)
 exact absurd h7 (show ¬ (0:Int)=7 by decide)
def okJ (key:List UInt8) (x:Val):Prop:=(key∈wD∧x.kind=5)∨(key∈yQ∧(kA x).2=true)
theorem zDA (j:Jb) (key:List UInt8) (x:Val):(∃ q,qLI j key x=some q)↔okJ key x:=by
 unfold qLI okJ
 by_cases h1:key∈wD
 ·have h2:=qAJ key h1
  rw [if_pos h1]
  by_cases h3:x.kind=5
  ·rw [if_pos h3]; simp [h1,h3]
  rw [if_neg h3]; simp [h2,h3]
 rw [if_neg h1]
 by_cases h2:key∈yQ
 ·rw [if_pos h2]
  by_cases h3:(kA x).2=true
  ·rw [if_pos h3]; simp [h2,h3]
  rw [if_neg h3]; simp [h1,h3]
 rw [if_neg h2]; simp [h1,h2]
theorem qUM {v:Val}:∀ k:Nat,xA v k=none→∃ i,i<k∧¬ okJ (v.keys.getD i []) (v.kids.getD i zK)
 | 0,h=>by simp [xA] at h
 | k+1,h=>by
  simp only [xA] at h
  cases hq:xA v k with
  | none =>
   obtain ⟨i,h1,h2⟩:=qUM k hq
   exact ⟨i,by omega,h2⟩
  | some j =>
   rw [hq] at h
   refine ⟨k,by omega,fun hok => ?_⟩
   obtain ⟨q,hq2⟩:=(zDA j _ _).2 hok
   simp only [Option.bind_some] at h
   rw [hq2] at h; cases h
theorem qNR (j:Jb) {i f:Nat} (hi:i<4) (hf:f<4) (s:List UInt8):wY (j.setW i s) f=if f=i then s else wY j f:=by
 match i,hi,f,hf with
 | 0,_,0,_=>rfl
 | 0,_,1,_=>rfl
 | 0,_,2,_=>rfl
 | 0,_,3,_=>rfl
 | 1,_,0,_=>rfl
 | 1,_,1,_=>rfl
 | 1,_,2,_=>rfl
 | 1,_,3,_=>rfl
 | 2,_,0,_=>rfl
 | 2,_,1,_=>rfl
 | 2,_,2,_=>rfl
 | 2,_,3,_=>rfl
 | 3,_,0,_=>rfl
 | 3,_,1,_=>rfl
 | 3,_,2,_=>rfl
 | 3,_,3,_=>rfl
theorem qSR (j:Jb) {i f:Nat} (hi:i<4) (hf:f<4) (s:Int):kG (j.setN i s) f=if f=i then s else kG j f:=by
 match i,hi,f,hf with
 | 0,_,0,_=>rfl
 | 0,_,1,_=>rfl
 | 0,_,2,_=>rfl
 | 0,_,3,_=>rfl
 | 1,_,0,_=>rfl
 | 1,_,1,_=>rfl
 | 1,_,2,_=>rfl
 | 1,_,3,_=>rfl
 | 2,_,0,_=>rfl
 | 2,_,1,_=>rfl
 | 2,_,2,_=>rfl
 | 2,_,3,_=>rfl
 | 3,_,0,_=>rfl
 | 3,_,1,_=>rfl
 | 3,_,2,_=>rfl
 | 3,_,3,_=>rfl
theorem zCS (j:Jb) {i f:Nat} (hi:i<4) (hf:f<4) (s:List UInt8):kG (j.setW i s) f=kG j f:=by
 match i,hi with
 | 0,_=>rfl
 | 1,_=>rfl
 | 2,_=>rfl
 | 3,_=>rfl
theorem qZV (j:Jb) {i f:Nat} (hi:i<4) (hf:f<4) (s:Int):wY (j.setN i s) f=wY j f:=by
 match i,hi with
 | 0,_=>rfl
 | 1,_=>rfl
 | 2,_=>rfl
 | 3,_=>rfl
theorem zBA {f:Nat} (hf:f<4):wD.idxOf (wD.getD f [])=f:=by
 match f,hf with
 | 0,_=>decide
 | 1,_=>decide
 | 2,_=>decide
 | 3,_=>decide
theorem zEC {f:Nat} (hf:f<4):yQ.idxOf (yQ.getD f [])=f:=by
 match f,hf with
 | 0,_=>decide
 | 1,_=>decide
 | 2,_=>decide
 | 3,_=>decide
theorem qNK {f:Nat} (hf:f<4):wD.getD f []∈wD:=by
 match f,hf with
 | 0,_=>decide
 | 1,_=>decide
 | 2,_=>decide
 | 3,_=>decide
theorem qLN {f:Nat} (hf:f<4):yQ.getD f []∈yQ:=by
 match f,hf with
 | 0,_=>decide
 | 1,_=>decide
 | 2,_=>decide
 | 3,_=>decide
theorem zDO (key:List UInt8) (h:key∈yQ):key ∉ wD:=fun h1=>qAJ key h1 h
theorem qOY {v:Val} (hm:qAG (v.keys,v.kids)):∀ (k:Nat) (j:Jb),k≤v.keys.length→xA v k=some j→∀ i,i<k→okJ (v.keys.getD i []) (v.kids.getD i zK)∧∀ f,f<4→(v.keys.getD i []=wD.getD f []→wY j f=(v.kids.getD i zK).text)∧(v.keys.getD i []=yQ.getD f []→kG j f=(kA (v.kids.getD i zK)).1)
 | 0,j,_,_,i,hi=>by omega
 | k+1,j,hk,h,i,hi=>by
  simp only [xA] at h
  cases hq:xA v k with
  | none=>rw [hq] at h; cases h
  | some q =>
   rw [hq] at h
   simp only [Option.bind_some] at h
   have hok:=(zDA q _ _).1 ⟨j,h⟩
   have ih:=qOY hm k q (by omega) hq
   have hne:i≠k→v.keys.getD i []≠v.keys.getD k []:=fun hne e=>by
    rw [List.getD_eq_getElem?_getD,List.getD_eq_getElem?_getD,List.getElem?_eq_getElem (by omega),List.getElem?_eq_getElem (by omega)] at e
    exact hne (zAR hm.2.1 e)
   generalize hkey:v.keys.getD k []=key at *
   generalize hx:v.kids.getD k zK=x at *
   have hput:qLI q key x=if key∈wD then (if x.kind=5 then some (q.setW (wD.idxOf key) x.text) else none)
    else if key∈yQ then (if (kA x).2=true then some (q.setN (yQ.idxOf key) (kA x).1) else none) else none:=rfl
   rw [hput] at h
   rcases hok with ⟨hw,h5⟩ | ⟨hn,hn2⟩
   ·rw [if_pos hw,if_pos h5] at h
    obtain rfl:=Option.some.inj h
    have hi4:wD.idxOf key<4:=List.idxOf_lt_length_iff.2 hw
    by_cases e:i=k
    ·subst e
     rw [hkey,hx]
     refine ⟨.inl ⟨hw,h5⟩,fun f hf=>⟨fun hkf => ?_,fun hkf=>absurd (hkf ▸ qLN hf) (qAJ key hw)⟩⟩
     rw [qNR q hi4 hf,if_pos (by rw [hkf,zBA hf])]
    obtain ⟨g1,g2⟩:=ih i (by omega)
    refine ⟨g1,fun f hf=>⟨fun hkf => ?_,fun hkf => ?_⟩⟩
    ·rw [qNR q hi4 hf,if_neg (fun he=>hne e (by rw [hkf,he,List.getD_eq_getElem?_getD,qJX hw]; rfl))]
     exact (g2 f hf).1 hkf
    rw [zCS q hi4 hf]; exact (g2 f hf).2 hkf
   have hw:=zDO key hn
   rw [if_neg hw,if_pos hn,if_pos hn2] at h
   obtain rfl:=Option.some.inj h
   have hi4:yQ.idxOf key<4:=List.idxOf_lt_length_iff.2 hn
   by_cases e:i=k
   ·subst e
    rw [hkey,hx]
    refine ⟨.inr ⟨hn,hn2⟩,fun f hf=>⟨fun hkf=>absurd (hkf ▸ qNK hf) hw,fun hkf => ?_⟩⟩
    rw [qSR q hi4 hf,if_pos (by rw [hkf,zEC hf])]
   obtain ⟨g1,g2⟩:=ih i (by omega)
   refine ⟨g1,fun f hf=>⟨fun hkf => ?_,fun hkf => ?_⟩⟩
   ·rw [qZV q hi4 hf]; exact (g2 f hf).1 hkf
   rw [qSR q hi4 hf,if_neg (fun he=>hne e (by rw [hkf,he,List.getD_eq_getElem?_getD,qJX hn]; rfl))]
   exact (g2 f hf).2 hkf
theorem zCT (hG:U8 G) (hE:PE G) (s:List UInt8) (hs:s.length≤1000000):AFn Tryz.prog G 10 [.str s] (.tup [(qCG s).1.enc,.int .i64 (qCG s).2]) :=
 zGY hG hE s hs fun h h7=>⟨(qTQ h h7).1,(qTQ h h7).2.2⟩
end Go.Proofs.YtlmedakhioiahaaGreatDoor
