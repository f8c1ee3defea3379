import Derived.Test.YtgcbapchinideaaGreatDoorSUnU
import Derived.Test.YtgcbapchinideaaGreatDoorSUnS
import Derived.Test.YtgcbapchinideaaGreatDoorSRevV
import Derived.Test.YtgcbapchinideaaGreatDoorSKeysL
import Derived.Test.YtgcbapchinideaaGreatDoorSRefCmp4
import Derived.Test.YtgcbapchinideaaGreatDoorSBuiltL
namespace Go.Proofs.YtgcbapchinideaaGreatDoor
open Sy Go
set_option maxRecDepth 100000
set_option maxHeartbeats 4000000
set_option linter.unusedSimpArgs false
set_option linter.unusedVariables false
variable {G:qK}
theorem qHH {y:Val}:∀ {l:List Val} {x:Val},y∈uqF x l→y∈l
 | [],_,h=>by simp [uqF] at h
 | z::l,x,h=>by
  simp only [uqF] at h
  split at h
  ·exact List.mem_cons_of_mem _ (qHH h)
  rcases List.mem_cons.1 h with rfl | h
  ·simp
  exact List.mem_cons_of_mem _ (qHH h)
theorem qTW:∀ (l:List Val) (x:Val),(uqF x l).length≤l.length
 | [],_=>by simp [uqF]
 | z::l,x=>by
  have:=qTW l z
  simp only [uqF]
  split <;> simp <;> omega
theorem qYJ {y:Val} {l:List Val} (h:y∈uqV l):y∈l:=by
 cases l with
 | nil=>simp [uqV] at h
 | cons x l =>
  rcases List.mem_cons.1 h with rfl | h
  ·simp
  exact List.mem_cons_of_mem _ (qHH h)
theorem zEX (l:List Val):(uqV l).length≤l.length:=by
 cases l with
 | nil=>simp [uqV]
 | cons x l=>have:=qTW l x; simp [uqV]; omega
theorem zEW {l:List Val} (h:0<l.length):1≤(uqV l).length:=by
 cases l with
 | nil=>simp at h
 | cons x l=>simp [uqV]
theorem qYK:∀ (l:List Val) (x:Val),Sor leV (x::l)→yZ (x::l)→(uqF x l).Pairwise (fun a b=>zD a b<0)∧∀ y∈uqF x l,zD x y<0
 | [],x,_,_=>⟨List.Pairwise.nil,by simp [uqF]⟩
 | z::l,x,hs,hm=>by
  obtain ⟨s1,s2⟩:=List.pairwise_cons.1 hs
  have mx:=hm x (by simp)
  have mz:=hm z (by simp)
  have hm2:yZ (z::l):=fun y hy=>hm y (List.mem_cons_of_mem _ hy)
  obtain ⟨i1,i2⟩:=qYK l z s2 hm2
  have hxz:zD x z≤0:=by have:=s1 z (by simp); simpa [leV] using this
  have ha:=qZ.anti x z mx mz
  have htr:∀ y∈uqF z l,zD x y<0:=fun y hy=>qZ.le_lt mx mz (hm y (by simp [qHH hy])) hxz (i2 y hy)
  simp only [uqF]
  split
  ·exact ⟨i1,htr⟩
  rename_i hne
  refine ⟨List.pairwise_cons.2 ⟨i2,i1⟩,fun y hy => ?_⟩
  rcases List.mem_cons.1 hy with rfl | hy
  ·omega
  exact htr y hy
theorem zHH {l:List Val} (hs:Sor leV l) (hm:yZ l):(uqV l).Pairwise (fun a b=>zD a b<0):=by
 cases l with
 | nil=>exact List.Pairwise.nil
 | cons x l=>obtain ⟨h1,h2⟩:=qYK l x hs hm; exact List.pairwise_cons.2 ⟨h2,h1⟩
theorem uZ (b:Val→Val→Bool):∀ (l:List Val) (x:Val),vZ b x l∈x::l
 | [],x=>by simp [vZ]
 | z::l,x=>by
  simp only [vZ]
  rcases List.mem_cons.1 (uZ b l (if b z x=true then z else x)) with h | h
  ·rw [h]; split <;> simp
  simp [h]
theorem qRD:∀ (l:List Val) (x:Val),yZ (x::l)→∀ y∈x::l,zD (vZ (fun a b=>decide (zD a b<0)) x l) y≤0
 | [],x,hm,y,hy=>by
  obtain rfl:=List.mem_singleton.1 hy
  show zD y y≤0
  rw [qZ.refl (hm y (by simp))]; omega
 | z::l,x,hm,y,hy=>by
  have mx:=hm x (by simp)
  have mz:=hm z (by simp)
  have an:=qZ.anti x z mx mz
  simp only [vZ]
  obtain ⟨w,hw⟩:∃ w,(if (decide (zD z x<0))=true then z else x)=w:=⟨_,rfl⟩
  rw [hw]
  have mw:zC w=true:=by rw [← hw]; split <;> assumption
  have hx:zD w x≤0∧zD w z≤0:=by
   rw [← hw]
   split
   ·rename_i h; simp at h; exact ⟨by omega,by rw [qZ.refl mz]; omega⟩
   rename_i h; simp at h; exact ⟨by rw [qZ.refl mx]; omega,by omega⟩
  have hmw:yZ (w::l):=fun v hv=>by
   rcases List.mem_cons.1 hv with rfl | hv
   ·exact mw
   exact hm v (by simp [hv])
  have ih:=qRD l w hmw
  have mb:=hmw _ (uZ (fun a b=>decide (zD a b<0)) l w)
  have hbw:=ih w (by simp)
  rcases List.mem_cons.1 hy with rfl | hy
  ·exact qZ.tr _ _ _ mb mw mx hbw hx.1
  rcases List.mem_cons.1 hy with rfl | hy
  ·exact qZ.tr _ _ _ mb mw mz hbw hx.2
  exact ih y (by simp [hy])
theorem qRE:∀ (l:List Val) (x:Val),yZ (x::l)→∀ y∈x::l,zD y (vZ (fun a b=>decide (0<zD a b)) x l)≤0
 | [],x,hm,y,hy=>by
  obtain rfl:=List.mem_singleton.1 hy
  show zD y y≤0
  rw [qZ.refl (hm y (by simp))]; omega
 | z::l,x,hm,y,hy=>by
  have mx:=hm x (by simp)
  have mz:=hm z (by simp)
  have an:=qZ.anti x z mx mz
  simp only [vZ]
  obtain ⟨w,hw⟩:∃ w,(if (decide (0<zD z x))=true then z else x)=w:=⟨_,rfl⟩
  rw [hw]
  have mw:zC w=true:=by rw [← hw]; split <;> assumption
  have hx:zD x w≤0∧zD z w≤0:=by
   rw [← hw]
   split
   ·rename_i h; simp at h; exact ⟨by omega,by rw [qZ.refl mz]; omega⟩
   rename_i h; simp at h; exact ⟨by rw [qZ.refl mx]; omega,by omega⟩
  have hmw:yZ (w::l):=fun v hv=>by
   rcases List.mem_cons.1 hv with rfl | hv
   ·exact mw
   exact hm v (by simp [hv])
  have ih:=qRE l w hmw
  have mb:=hmw _ (uZ (fun a b=>decide (0<zD a b)) l w)
  have hbw:=ih w (by simp)
  rcases List.mem_cons.1 hy with rfl | hy
  ·exact qZ.tr _ _ _ mx mw mb hx.1 hbw
  rcases List.mem_cons.1 hy with rfl | hy
  ·exact qZ.tr _ _ _ mz mw mb hx.2 hbw
  exact ih y (by simp [hy])
theorem qTG {m:Int} (hm:InM m) (l:List Val) (h:∀ k∈l,LeM (zV k) m):yR m l=m:=by
 have h1:orM (yR m l) m=m:=qHC (.refl hm) h
 have h2:orM m (yR m l)=yR m l:=qET l (.refl hm)
 exact h2.symm.trans ((or_comm _ _).trans h1)
theorem qYR {l m:List Val} (h:l.Perm m):Val.szL l=Val.szL m:=by
 induction h with
 | nil=>rfl
 | cons x _ ih=>simp only [Val.szL,ih]
 | swap x y l=>simp only [Val.szL]; omega
 | trans _ _ ih1 ih2=>exact ih1.trans ih2
theorem qQT {a b:Val} (m:Int) (ha:zC a=true) (hb:zC b=true):zD (xB a m) b=zD a b:=by
 have hm:zC (xB a m)=true:=by rw [qHV]; exact ha
 rw [jT hm hb (n:=Val.sz a+1) (by rw [zCC]; omega),jT ha hb (n:=Val.sz a+1) (by omega)]
 rw [← qJV _ (xB a m) b,← qJV _ a b]
 rw [show zZ (xB a m)=zZ a from qXT a _]
theorem zBH {r:Val→Val→Prop} {l:List Val} (h:l.Pairwise r) {i:Nat} {a b:Val} (h1:l[i]?=some a) (h2:l[i+1]?=some b):r a b:=by
 obtain ⟨i1,e1⟩:=List.getElem?_eq_some_iff.1 h1
 obtain ⟨i2,e2⟩:=List.getElem?_eq_some_iff.1 h2
 have:=List.pairwise_iff_getElem.1 h i (i+1) i1 i2 (by omega)
 rwa [e1,e2] at this
theorem zCQ {l:List Val} (hs:Sor leV l) (hm:yZ l) {z:Val} (hz:l[l.length-1]?=some z):∀ y∈l,zD y z≤0:=by
 intro y hy
 obtain ⟨i,hi,rfl⟩:=List.mem_iff_getElem.1 hy
 obtain ⟨h2,rfl⟩:=List.getElem?_eq_some_iff.1 hz
 rcases Nat.lt_or_ge i (l.length-1) with h | h
 ·have:=List.pairwise_iff_getElem.1 hs i (l.length-1) hi h2 h
  simpa [leV] using this
 have:i=l.length-1:=by omega
 subst this
 rw [qZ.refl (hm _ hy)]; omega
theorem qZC {l:List Val} (hs:Sor leV l) (hm:yZ l) {z:Val} (hz:l[0]?=some z):∀ y∈l,zD z y≤0:=by
 cases l with
 | nil=>simp at hz
 | cons x l =>
  simp at hz
  subst hz
  obtain ⟨s1,_⟩:=List.pairwise_cons.1 hs
  intro y hy
  rcases List.mem_cons.1 hy with rfl | hy
  ·rw [qZ.refl (hm y (by simp))]; omega
  have:=s1 y hy; simpa [leV] using this
theorem zCW {v:Val} (h:zC v=true) (h6:v.kind=6):v.num=dc0∧v.text=[]∧v.code=0∧v.keys=[]:=by
 obtain ⟨h1, -, hc⟩:=qWR h (by omega)
 rcases hc with h | h | h | h | h | h | h
 ·omega
 ·omega
 ·omega
 ·omega
 ·omega
 ·exact ⟨h.2.1,h.2.2.1,h1,h.2.2.2⟩
 omega
theorem qBY (c:List UInt8) (hc:c ∉ [[108,101,110,103,116,104],[107,101,121,115],[110,111,116],[116,121,112,101],[114,101,118,101,114,115,101],[116,111,110,117,109,98,101,114],[102,108,111,111,114],[99,101,105,108],[114,111,117,110,100],[101,110,116,114,105,101,115],[104,97,115],[116,101,115,116],[115,116,97,114,116,115],[101,110,100,115],[115,112,108,105,116],[116,111,115,116,114,105,110,103],[116,111,106,115,111,110]]) (v r:Val) (h:AFn Tryz.prog G 46 [.agg [.int .u64 (zV v)],.str c,.str [],v.enc] r.enc):AFn Tryz.prog G 11 [.str c,.str [],v.enc] r.enc :=
 qHS _ [] v r ⟨fun h=>absurd (by simp [h]) hc,fun h=>absurd (by simp [h]) hc,fun h=>absurd (by simp [h]) hc,fun h=>absurd (by simp [h]) hc,fun h=>absurd (by simp [h]) hc,fun h=>absurd (by simp [h]) hc,fun h=>absurd (by rcases h with h | h | h <;> simp [h]) hc,fun h=>absurd (by rcases h with h | h <;> simp [h]) hc,fun h=>absurd (by rcases h with h | h | h | h <;> simp [h]) hc,fun h=>absurd (by simp [h]) hc,fun h=>absurd (by simp [h]) hc,fun _=>h⟩
theorem qQY (v:Val) (h6:v.kind=6) (hn:v.kids.length≤200) (hf:∀ k∈v.kids,Few k):AFn Tryz.prog G 11 [.str [114,101,118,101,114,115,101],.str [],v.enc] (Val.mk 6 v.mask dc0 [] [] v.kids.reverse 0).enc:=by
 have hl:=qEH (G:=G) v.kids.reverse v.mask (fun k hk=>hf k (List.mem_reverse.1 hk)) (by rw [List.length_reverse]; omega)
 rw [qAJ (by rw [List.length_reverse]; exact hn)] at hl
 exact qHS _ [] v _ ⟨fun h=>absurd h (by decide),fun h=>absurd h (by decide),fun h=>absurd h (by decide),fun h=>absurd h (by decide),fun _=>⟨fun h=>absurd h6 h,fun _=>⟨zCO v.kids (by omega),by omega,hl⟩⟩,fun h=>absurd h (by decide),fun h=>absurd h (by decide),fun h=>absurd h (by decide),fun h=>absurd h (by decide),fun h=>absurd h (by decide),fun h=>absurd h (by decide),fun h=>absurd (by decide) h⟩
structure ListsOK (G:qK) (v s u r lo hi:Val):Prop where
 cs:AFn Tryz.prog G 11 [.str [115,111,114,116],.str [],v.enc] s.enc
 cu:AFn Tryz.prog G 11 [.str [117,110,105,113,117,101],.str [],v.enc] u.enc
 cr:AFn Tryz.prog G 11 [.str [114,101,118,101,114,115,101],.str [],v.enc] r.enc
 cr2:AFn Tryz.prog G 11 [.str [114,101,118,101,114,115,101],.str [],r.enc] v.enc
 cl:AFn Tryz.prog G 11 [.str [109,105,110],.str [],v.enc] lo.enc
 ch:AFn Tryz.prog G 11 [.str [109,97,120],.str [],v.enc] hi.enc
 css:AFn Tryz.prog G 11 [.str [115,111,114,116],.str [],s.enc] s.enc
 ss:AFn Tryz.prog G 15 [s.enc,s.enc] (.bool true)
 sl:s.kids.length=v.kids.length
 ul:u.kids.length≤v.kids.length
 up:0<v.kids.length→1≤u.kids.length
 sm:yZ s.kids
 um:yZ u.kids
 sa:∀ (i:Nat) a b,s.kids[i]?=some a→s.kids[i+1]?=some b→zD a b≤0
 ua:∀ (i:Nat) a b,u.kids[i]?=some a→u.kids[i+1]?=some b→zD a b<0
 no:v.kids.length=0→lo.kind=1∧hi.kind=1
 lm:∀ a,s.kids[0]?=some a→zC lo=true∧zD lo a=0
 hm:∀ a,s.kids[s.kids.length-1]?=some a→zC hi=true∧zD hi a=0
theorem qQA (v:Val) (mv:zC v=true) (iv:InV v) (hz:Val.sz v≤80) (h6:v.kind=6):∃ s u r lo hi,ListsOK G v s u r lo hi:=by
 have hsm:=(xZ mv).2
 have hmk:yZ v.kids:=fun k hk=>kO mv hk
 have hf:∀ k∈v.kids,Few k:=fun k hk=>qUY k (kO mv hk)
 have hS:=qAE xL v.kids hmk
 have hSm:=qCG hmk
 have hSl:(srt leV v.kids).length=v.kids.length:=jD _
 have hSM:∀ k,k∈srt leV v.kids↔k∈v.kids:=fun k=>qDY
 have hid:=qYV hS
 have hin:=zDI iv
 have hdk:∀ k∈v.kids,LeM (zV k) (zV v):=fun k hk=>by rw [qBU v]; exact qME v.mask hk
 have hszL:Val.szL (srt leV v.kids)=Val.szL v.kids:=qYR (qDX _)
 have hds:zV (Val.mk 6 (zV v) dc0 [] [] (srt leV v.kids) 0)=zV v:=by
  rw [qBU]; exact qTG hin _ fun k hk=>hdk k ((hSM k).1 hk)
 have hul:=zEX (srt leV v.kids)
 obtain ⟨n1,n2,n3,n4⟩:=zCW mv h6
 have hve:v = .mk 6 v.mask dc0 [] [] v.kids 0:=by cases v; simp at h6 n1 n2 n3 n4 ⊢; exact ⟨h6,n1,n2,n4,n3⟩
 have c1:=qBY (G:=G) [115,111,114,116] (by decide) v _ (qPR [] v (zV v) (by omega) hmk hf)
 rw [if_pos h6,qAJ (by omega)] at c1
 have c2:=qBY (G:=G) [117,110,105,113,117,101] (by decide) v _ (qZL [] v (zV v) (by omega) hmk (fun k hk=>hf k ((hSM k).1 (qYJ hk))) (by omega))
 rw [if_pos h6,qAJ (by omega)] at c2
 have c3:=qQY (G:=G) v h6 hsm hf
 have c4:=qQY (G:=G) (Val.mk 6 v.mask dc0 [] [] v.kids.reverse 0) rfl (by simpa using hsm) (fun k hk=>hf k (by simpa using hk))
 rw [show (Val.mk 6 (Val.mk 6 v.mask dc0 [] [] v.kids.reverse 0).mask dc0 [] [] (Val.mk 6 v.mask dc0 [] [] v.kids.reverse 0).kids.reverse 0)=v by rw [hve]; simp] at c4
 have c5:=qBY (G:=G) [109,105,110] (by decide) v _ (zCU [] v (zV v) (by omega) hmk)
 have c6:=qBY (G:=G) [109,97,120] (by decide) v _ (zCV [] v (zV v) (by omega) hmk)
 rw [if_pos h6] at c5 c6
 have c7:=qBY (G:=G) [115,111,114,116] (by decide) (Val.mk 6 (zV v) dc0 [] [] (srt leV v.kids) 0) _ (qPR [] _ (zV (Val.mk 6 (zV v) dc0 [] [] (srt leV v.kids) 0)) (by show (srt leV v.kids).length≤_; omega) hSm (fun k hk=>hf k ((hSM k).1 hk)))
 rw [hds,if_pos (show (Val.mk 6 (zV v) dc0 [] [] (srt leV v.kids) 0).kind=6 from rfl),show (Val.mk 6 (zV v) dc0 [] [] (srt leV v.kids) 0).kids=srt leV v.kids from rfl,hid,qAJ (by omega)] at c7
 have c8:=qRY (G:=G) (Val.mk 6 (zV v) dc0 [] [] (srt leV v.kids) 0) (by rw [qKY] at hz ⊢; show 1+Val.szL (srt leV v.kids)≤_; omega) (Val.mk 6 (zV v) dc0 [] [] (srt leV v.kids) 0)
 rw [qLD] at c8
 refine ⟨_,_,_,_,_,c1,c2,c3,c4,c5,c6,c7,c8,hSl,by show (uqV (srt leV v.kids)).length≤_; omega,fun h=>zEW (by omega),hSm,fun k hk=>hSm k (qYJ hk),fun i a b h1 h2 => ?_,fun i a b h1 h2=>zBH (zHH hS hSm) h1 h2,fun h => ?_,fun a ha => ?_,fun a ha => ?_⟩
 ·have:=zBH hS h1 h2; simpa [leV] using this
 ·unfold qEX; rw [if_pos h,if_pos h]; exact ⟨rfl,rfl⟩
 ·have ham:a∈v.kids:=(hSM a).1 (List.mem_of_getElem? ha)
  have haf:=qZC hS hSm ha
  unfold qEX
  rw [if_neg (by have:=List.length_pos_of_mem ham; omega)]
  obtain ⟨x,l,hx⟩:∃ x l,v.kids=x::l:=by
   cases hk:v.kids with
   | nil=>rw [hk] at ham; simp at ham
   | cons x l=>exact ⟨x,l,rfl⟩
  rw [hx] at hmk ham hSM ⊢
  simp only [List.getD_cons_zero,List.drop_succ_cons,List.drop_zero]
  have hb:=uZ (fun a b=>decide (zD a b<0)) l x
  have h1:=qRD l x hmk a ham
  have mb:=hmk _ hb
  have ma:=hmk _ ham
  rw [qHV,qQT _ mb ma]
  rw [hx] at haf
  have h2:=haf _ ((hSM _).2 hb)
  have h3:=qZ.anti _ _ mb ma
  exact ⟨mb,by omega⟩
 have ham:a∈v.kids:=(hSM a).1 (List.mem_of_getElem? ha)
 have haf:=zCQ hS hSm ha
 unfold qEX
 rw [if_neg (by have:=List.length_pos_of_mem ham; omega)]
 obtain ⟨x,l,hx⟩:∃ x l,v.kids=x::l:=by
  cases hk:v.kids with
  | nil=>rw [hk] at ham; simp at ham
  | cons x l=>exact ⟨x,l,rfl⟩
 rw [hx] at hmk ham hSM ⊢
 simp only [List.getD_cons_zero,List.drop_succ_cons,List.drop_zero]
 have hb:=uZ (fun a b=>decide (0<zD a b)) l x
 have h1:=qRE l x hmk a ham
 have mb:=hmk _ hb
 have ma:=hmk _ ham
 rw [qHV,qQT _ mb ma]
 rw [hx] at haf
 have h2:=haf _ ((hSM _).2 hb)
 have h3:=qZ.anti _ _ mb ma
 exact ⟨mb,by omega⟩
end Go.Proofs.YtgcbapchinideaaGreatDoor
