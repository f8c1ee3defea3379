import Derived.Test.YtlmedakhioiahaaGreatDoorSRefS
import Derived.Test.YtlmedakhioiahaaGreatDoorK3
import Derived.Test.YtlmedakhioiahaaGreatDoorSNormMay
import Derived.Test.YtlmedakhioiahaaGreatDoorSParseEq
import Derived.Test.YtlmedakhioiahaaGreatDoorSReadQL
namespace Go.Proofs.YtlmedakhioiahaaGreatDoor
open Sy Go
set_option maxRecDepth 100000
set_option linter.unusedSimpArgs false
set_option linter.unusedVariables false
variable {G:qO}
theorem qXL {α:Type} {l:List α} (h:l.Nodup) {i j:Nat} {hi:i<l.length} {hj:j<l.length} (e:l[i]'hi=l[j]'hj):i=j:=by
 have hp:=List.pairwise_iff_getElem.1 h
 rcases Nat.lt_trichotomy i j with h1 | h1 | h1
 ·exact absurd e (hp i j hi hj h1)
 ·exact h1
 exact absurd e.symm (hp j i hj hi h1)
theorem qTK {s:List UInt8} (h:(zW s).2=0):zY (zW s).1=true:=by
 rw [← qZX] at h ⊢; exact qUS h
def qCW (v:Val):Prop:=v.kind=4→zY v.num=true
theorem kY {v:Val} (h:v.kind≠4):qCW v:=fun e=>absurd e h
theorem zBS (st:RS) (hb:(wK st).1.bad=false) (hg:(wK st).1.big=false):qCW (wK st).2:=by
 unfold wK at hb hg ⊢
 split
 ·exact kY (show ¬ (1:Int)=4 by decide)
 rename_i c; rw [if_neg c] at hb hg
 split
 ·exact kY (show ¬ (3:Int)=4 by decide)
 rename_i c; rw [if_neg c] at hb hg
 split
 ·exact kY (show ¬ (2:Int)=4 by decide)
 rename_i c; rw [if_neg c] at hb hg
 split
 ·exact kY (by show ¬ (5:Int)=4; decide)
 rename_i c; rw [if_neg c] at hb hg
 split
 ·rename_i c; rw [if_pos c] at hb hg
  simp only [wZ,Bool.or_eq_false_iff,decide_eq_false_iff_not] at hb hg
  intro _
  show zY (zW (st.left.takeWhile kO)).1=true
  rcases qQW (st.left.takeWhile kO) with h | h | h
  ·exact qTK h
  ·exact absurd h hg.2
  exact absurd h hb.2
 exact kY (show ¬ (0:Int)=4 by decide)
theorem zCO:∀ (n:Nat) (st:RS) (d:Nat),(qN n st d).1.bad=false→(qN n st d).1.big=false→qCW (qN n st d).2
 | 0,st,d,hb,_=>by simp [qN] at hb
 | n+1,st,d,hb,hg=>by
  rw [qAP] at hb hg ⊢
  split
  ·exact kY (by show ¬ (6:Int)=4; decide)
  rename_i c; rw [if_neg c] at hb hg
  split
  ·exact kY (by show ¬ (7:Int)=4; decide)
  rename_i c; rw [if_neg c] at hb hg
  exact zBS _ hb hg
def vS (p:List (List UInt8) × List Val):Prop:=p.1.length=p.2.length∧p.1.Nodup∧∀ v∈p.2,qCW v
theorem qZU {ks:List (List UInt8)} {vs:List Val} (h:vS (ks,vs)) (key:List UInt8) {v:Val} (hv:qCW v):vS (uQ ks vs key v):=by
 obtain ⟨h1,h2,h3⟩:=h
 simp only at h1 h2 h3
 unfold uQ
 split
 ·refine ⟨by simpa using h1,h2,fun u hu => ?_⟩
  rcases List.mem_or_eq_of_mem_set hu with h4 | h4
  ·exact h3 u h4
  exact h4 ▸ hv
 rename_i hk
 refine ⟨by simpa using h1, ?_,fun u hu => ?_⟩
 ·show (ks++[key]).Nodup
  rw [List.nodup_append]
  exact ⟨h2,by simp,by intro a ha b hb; simp at hb; subst hb; rintro rfl; exact hk ha⟩
 rcases List.mem_append.1 hu with h4 | h4
 ·exact h3 u h4
 exact List.mem_singleton.1 h4 ▸ hv
theorem qRC:∀ (n:Nat) (st:RS) (d many:Nat) (ks:List (List UInt8)) (vs:List Val),vS (ks,vs)→(zZ n st d many ks vs).1.bad=false→(zZ n st d many ks vs).1.big=false→vS (zZ n st d many ks vs).2
 | 0,st,d,many,ks,vs,_,hb,_=>by simp [zZ] at hb
 | n+1,st,d,many,ks,vs,hm,hb,hg=>by
  rw [qEH] at hb hg ⊢
  split
  ·exact hm
  rename_i c; rw [if_neg c] at hb hg
  have hE:(yI (qB st) ks vs (qN n (qK (qB st).1) d)).1.bad=false→(yI (qB st) ks vs (qN n (qK (qB st).1) d)).1.big=false→vS (yI (qB st) ks vs (qN n (qK (qB st).1) d)).2:=by
   unfold yI
   split
   ·exact fun _ _=>hm
   exact fun h1 h2=>qZU hm _ (zCO _ _ _ h1 h2)
  generalize yI (qB st) ks vs (qN n (qK (qB st).1) d)=A at *
  split
  ·rename_i c; rw [if_pos c] at hb hg
   exact hE (qHL _ _ _ hb) (jT _ _ _ hg)
  rename_i c; rw [if_neg c] at hb hg
  have h1:(wF 125 many A.1).2.bad=false:=by
   rw [← Bool.not_eq_true]; intro h
   rw [qBX h] at hb; cases hb
  exact qRC n _ _ _ _ _ (hE (qHL _ _ _ h1) (jT _ _ _ ((zBQ n).2.2 _ _ _ _ _ hg))) hb hg
theorem qRA {s:List UInt8} (h:(kI s).2.2=0) (h7:(kI s).1.kind=7):vS ((kI s).1.keys,(kI s).1.kids):=by
 have hE:kI s=if (qN (2 * s.length+2) ⟨s,0,false,false,false⟩ 1).1.bad=true then (zM,0,10) else if (qN (2 * s.length+2) ⟨s,0,false,false,false⟩ 1).1.deep=true then (zM,0,11) else if (qN (2 * s.length+2) ⟨s,0,false,false,false⟩ 1).1.big=true then (zM,0,3) else ((qN (2 * s.length+2) ⟨s,0,false,false,false⟩ 1).2,(s.length:Int)-(qN (2 * s.length+2) ⟨s,0,false,false,false⟩ 1).1.left.length,0):=rfl
 rw [hE] at h h7 ⊢
 rw [show 2 * s.length+2=(2 * s.length+1)+1 from rfl] at h h7 ⊢
 split at h
 ·cases h
 rename_i c1
 rw [if_neg c1] at h7 ⊢
 split at h
 ·cases h
 rename_i c2
 rw [if_neg c2] at h7 ⊢
 split at h
 ·cases h
 rename_i c3
 rw [if_neg c3] at h7 ⊢
 simp only at h7 ⊢
 have c1:(qN (2 * s.length+1+1) ⟨s,0,false,false,false⟩ 1).1.bad=false:=by simpa using c1
 have c3:(qN (2 * s.length+1+1) ⟨s,0,false,false,false⟩ 1).1.big=false:=by simpa using c3
 clear h c2
 generalize 2 * s.length+1=n at *
 generalize (⟨s,0,false,false,false⟩:RS)=st at *
 rw [qAP] at h7 c1 c3 ⊢
 split at h7
 ·exact absurd h7 (show ¬ (6:Int)=7 by decide)
 rename_i c; rw [if_neg c] at c1 c3 ⊢
 split at h7
 ·rename_i c; rw [if_pos c] at c1 c3 ⊢
  show vS (qEI n (qT (qQ st 1) 1) (1+1)).2
  simp only at c1 c3
  have h0:vS (([],[]):List (List UInt8) × List Val):=⟨rfl,by simp,fun v hv=>by cases hv⟩
  unfold qEI at c1 c3 ⊢
  split
  ·exact h0
  rename_i c; rw [if_neg c] at c1 c3
  exact qRC _ _ _ _ _ _ h0 c1 c3
 rename_i c; rw [if_neg c] at c1 c3 ⊢
 exfalso
 unfold wK at h7
 split at h7
 ·exact absurd h7 (show ¬ (1:Int)=7 by decide)
 split at h7
 ·exact absurd h7 (show ¬ (3:Int)=7 by decide)
 split at h7
 ·exact absurd h7 (show ¬ (2:Int)=7 by decide)
 split at h7
 ·exact absurd h7 (show ¬ (5:Int)=7 by decide)
 split at h7
 ·exact absurd h7 (show ¬ (4:Int)=7 by decide)
 exact absurd h7 (show ¬ (0:Int)=7 by decide)
def okJ (key:List UInt8) (x:Val):Prop:=(key∈zS∧x.kind=5)∨(key∈wX∧(yK x).2=true)
theorem qZT (j:Jb) (key:List UInt8) (x:Val):(∃ q,qJB j key x=some q)↔okJ key x:=by
 unfold qJB okJ
 by_cases h1:key∈zS
 ·have h2:=vV key h1
  rw [if_pos h1]
  by_cases h3:x.kind=5
  ·rw [if_pos h3]; simp [h1,h3]
  rw [if_neg h3]; simp [h2,h3]
 rw [if_neg h1]
 by_cases h2:key∈wX
 ·rw [if_pos h2]
  by_cases h3:(yK x).2=true
  ·rw [if_pos h3]; simp [h2,h3]
  rw [if_neg h3]; simp [h1,h3]
 rw [if_neg h2]; simp [h1,h2]
theorem qRT {v:Val}:∀ k:Nat,kZ v k=none→∃ i,i<k∧¬ okJ (v.keys.getD i []) (v.kids.getD i zM)
 | 0,h=>by simp [kZ] at h
 | k+1,h=>by
  simp only [kZ] at h
  cases hq:kZ v k with
  | none =>
   obtain ⟨i,h1,h2⟩:=qRT k hq
   exact ⟨i,by omega,h2⟩
  | some j =>
   rw [hq] at h
   refine ⟨k,by omega,fun hok => ?_⟩
   obtain ⟨q,hq2⟩:=(qZT j _ _).2 hok
   simp only [Option.bind_some] at h
   rw [hq2] at h; cases h
theorem qLM (j:Jb) {i f:Nat} (hi:i<4) (hf:f<4) (s:List UInt8):wG (j.setW i s) f=if f=i then s else wG j f:=by
 match i,hi,f,hf with
 | 0,_,0,_=>rfl
 | 0,_,1,_=>rfl
 | 0,_,2,_=>rfl
 | 0,_,3,_=>rfl
 | 1,_,0,_=>rfl
 | 1,_,1,_=>rfl
 | 1,_,2,_=>rfl
 | 1,_,3,_=>rfl
 | 2,_,0,_=>rfl
 | 2,_,1,_=>rfl
 | 2,_,2,_=>rfl
 | 2,_,3,_=>rfl
 | 3,_,0,_=>rfl
 | 3,_,1,_=>rfl
 | 3,_,2,_=>rfl
 | 3,_,3,_=>rfl
theorem qQI (j:Jb) {i f:Nat} (hi:i<4) (hf:f<4) (s:Int):yP (j.setN i s) f=if f=i then s else yP j f:=by
 match i,hi,f,hf with
 | 0,_,0,_=>rfl
 | 0,_,1,_=>rfl
 | 0,_,2,_=>rfl
 | 0,_,3,_=>rfl
 | 1,_,0,_=>rfl
 | 1,_,1,_=>rfl
 | 1,_,2,_=>rfl
 | 1,_,3,_=>rfl
 | 2,_,0,_=>rfl
 | 2,_,1,_=>rfl
 | 2,_,2,_=>rfl
 | 2,_,3,_=>rfl
 | 3,_,0,_=>rfl
 | 3,_,1,_=>rfl
 | 3,_,2,_=>rfl
 | 3,_,3,_=>rfl
theorem qZJ (j:Jb) {i f:Nat} (hi:i<4) (hf:f<4) (s:List UInt8):yP (j.setW i s) f=yP j f:=by
 match i,hi with
 | 0,_=>rfl
 | 1,_=>rfl
 | 2,_=>rfl
 | 3,_=>rfl
theorem qWS (j:Jb) {i f:Nat} (hi:i<4) (hf:f<4) (s:Int):wG (j.setN i s) f=wG j f:=by
 match i,hi with
 | 0,_=>rfl
 | 1,_=>rfl
 | 2,_=>rfl
 | 3,_=>rfl
theorem qXT {f:Nat} (hf:f<4):zS.idxOf (zS.getD f [])=f:=by
 match f,hf with
 | 0,_=>decide
 | 1,_=>decide
 | 2,_=>decide
 | 3,_=>decide
theorem zAL {f:Nat} (hf:f<4):wX.idxOf (wX.getD f [])=f:=by
 match f,hf with
 | 0,_=>decide
 | 1,_=>decide
 | 2,_=>decide
 | 3,_=>decide
theorem qLF {f:Nat} (hf:f<4):zS.getD f []∈zS:=by
 match f,hf with
 | 0,_=>decide
 | 1,_=>decide
 | 2,_=>decide
 | 3,_=>decide
theorem qJE {f:Nat} (hf:f<4):wX.getD f []∈wX:=by
 match f,hf with
 | 0,_=>decide
 | 1,_=>decide
 | 2,_=>decide
 | 3,_=>decide
theorem qZZ (key:List UInt8) (h:key∈wX):key ∉ zS:=fun h1=>vV key h1 h
theorem qMR {v:Val} (hm:vS (v.keys,v.kids)):∀ (k:Nat) (j:Jb),k≤v.keys.length→kZ v k=some j→∀ i,i<k→okJ (v.keys.getD i []) (v.kids.getD i zM)∧∀ f,f<4→(v.keys.getD i []=zS.getD f []→wG j f=(v.kids.getD i zM).text)∧(v.keys.getD i []=wX.getD f []→yP j f=(yK (v.kids.getD i zM)).1)
 | 0,j,_,_,i,hi=>by omega
 | k+1,j,hk,h,i,hi=>by
  simp only [kZ] at h
  cases hq:kZ v k with
  | none=>rw [hq] at h; cases h
  | some q =>
   rw [hq] at h
   simp only [Option.bind_some] at h
   have hok:=(qZT q _ _).1 ⟨j,h⟩
   have ih:=qMR hm k q (by omega) hq
   have hne:i≠k→v.keys.getD i []≠v.keys.getD k []:=fun hne e=>by
    rw [List.getD_eq_getElem?_getD,List.getD_eq_getElem?_getD,List.getElem?_eq_getElem (by omega),List.getElem?_eq_getElem (by omega)] at e
    exact hne (qXL hm.2.1 e)
   generalize hkey:v.keys.getD k []=key at *
   generalize hx:v.kids.getD k zM=x at *
   have hput:qJB q key x=if key∈zS then (if x.kind=5 then some (q.setW (zS.idxOf key) x.text) else none)
    else if key∈wX then (if (yK x).2=true then some (q.setN (wX.idxOf key) (yK x).1) else none) else none:=rfl
   rw [hput] at h
   rcases hok with ⟨hw,h5⟩ | ⟨hn,hn2⟩
   ·rw [if_pos hw,if_pos h5] at h
    obtain rfl:=Option.some.inj h
    have hi4:zS.idxOf key<4:=List.idxOf_lt_length_iff.2 hw
    by_cases e:i=k
    ·subst e
     rw [hkey,hx]
     refine ⟨.inl ⟨hw,h5⟩,fun f hf=>⟨fun hkf => ?_,fun hkf=>absurd (hkf ▸ qJE hf) (vV key hw)⟩⟩
     rw [qLM q hi4 hf,if_pos (by rw [hkf,qXT hf])]
    obtain ⟨g1,g2⟩:=ih i (by omega)
    refine ⟨g1,fun f hf=>⟨fun hkf => ?_,fun hkf => ?_⟩⟩
    ·rw [qLM q hi4 hf,if_neg (fun he=>hne e (by rw [hkf,he,List.getD_eq_getElem?_getD,qHP hw]; rfl))]
     exact (g2 f hf).1 hkf
    rw [qZJ q hi4 hf]; exact (g2 f hf).2 hkf
   have hw:=qZZ key hn
   rw [if_neg hw,if_pos hn,if_pos hn2] at h
   obtain rfl:=Option.some.inj h
   have hi4:wX.idxOf key<4:=List.idxOf_lt_length_iff.2 hn
   by_cases e:i=k
   ·subst e
    rw [hkey,hx]
    refine ⟨.inr ⟨hn,hn2⟩,fun f hf=>⟨fun hkf=>absurd (hkf ▸ qLF hf) hw,fun hkf => ?_⟩⟩
    rw [qQI q hi4 hf,if_pos (by rw [hkf,zAL hf])]
   obtain ⟨g1,g2⟩:=ih i (by omega)
   refine ⟨g1,fun f hf=>⟨fun hkf => ?_,fun hkf => ?_⟩⟩
   ·rw [qWS q hi4 hf]; exact (g2 f hf).1 hkf
   rw [qQI q hi4 hf,if_neg (fun he=>hne e (by rw [hkf,he,List.getD_eq_getElem?_getD,qHP hn]; rfl))]
   exact (g2 f hf).2 hkf
theorem qZK (hG:U8 G) (hE:PE G) (s:List UInt8) (hs:s.length≤1000000):AFn Tryz.prog G 10 [.str s] (.tup [(uB s).1.enc,.int .i64 (uB s).2]) :=
 zDF hG hE s hs fun h h7=>⟨(qRA h h7).1,(qRA h h7).2.2⟩
end Go.Proofs.YtlmedakhioiahaaGreatDoor
