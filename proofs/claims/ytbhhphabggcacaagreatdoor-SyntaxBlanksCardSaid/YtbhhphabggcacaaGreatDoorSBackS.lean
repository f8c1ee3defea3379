import Derived.Test.YtbhhphabggcacaaGreatDoorSBackR
import Derived.Test.YtbhhphabggcacaaGreatDoorSBlk11
import Derived.Test.YtbhhphabggcacaaGreatDoorSTreeP
namespace Go.Proofs.YtbhhphabggcacaaGreatDoor
open Sy Go
set_option maxRecDepth 100000
set_option maxHeartbeats 2000000
set_option linter.unusedSimpArgs false
set_option linter.unusedVariables false
theorem zAY {x:Nd} (h:NdOK x) (l:List Int):NdOK { x with kids:=l }:=by
 cases h with
 | lit n _ h=>exact .lit n l h
 | num d _ h=>exact .num d l h
 | txt s _ h=>exact .txt s l h
 | plain o _ h=>exact .plain o l h
 | name o w _ h hw=>exact .name o w l h hw
 | key s _ h=>exact .key s l h
 | at_ n _ h1 h2=>exact .at_ n l h1 h2
 | obj ks _ h hn=>exact .obj ks l h hn
 | two i w _ hi h=>exact .two i w l hi h
 | lim n _ h1 h2=>exact .lim n l h1 h2
 | call1 w _ h=>exact .call1 w l h
 | call2 w k _ h hk=>exact .call2 w k l h hk
theorem zEC:∀ ts:List Tr,Tr.okL ts=true→∀ t∈ts,t.ok=true
 | [],_,t,ht=>by cases ht
 | u::us,h,t,ht=>by
  simp only [Tr.okL,Bool.and_eq_true] at h
  rcases List.mem_cons.1 ht with rfl | ht
  ·exact h.1
  exact zEC us h.2 t ht
theorem qVC:∀ (ts:List Tr) (b:Nat), ∀ t∈ts, ∃ c, ∀ x∈t.flat c,x∈Tr.flatL b ts
 | [],b,t,ht=>by cases ht
 | u::us,b,t,ht=>by
  rcases List.mem_cons.1 ht with rfl | ht
  ·exact ⟨b,fun x hx=>by simp only [Tr.flatL]; exact List.mem_append.2 (.inl hx)⟩
  obtain ⟨c,h⟩:=qVC us (b+u.size) t ht
  exact ⟨c,fun x hx=>by simp only [Tr.flatL]; exact List.mem_append.2 (.inr (h x hx))⟩
theorem zDA:∀ t:Tr,t.ok=true→∀ b,(∀ x∈t.flat b,NdOK x)→t.may:=by
 refine Tr.ind fun x ts ih h b hx => ?_
 simp only [Tr.ok,Bool.and_eq_true] at h
 simp only [Tr.flat] at hx
 refine .mk x ts ?_ h.1 fun t ht => ?_
 ·have:=zAY (hx _ (List.mem_append.2 (.inr (List.mem_singleton.2 rfl)))) x.kids
  exact this
 obtain ⟨c,hc⟩:=qVC ts b t ht
 exact ih t ht (zEC ts h.2 t ht) c fun y hy=>hx y (List.mem_append.2 (.inl (hc y hy)))
theorem zAA (x:Nd) (l:List Int) (ks:List (List UInt8)):wP { x with kids:=l } ks=wP x ks:=rfl
theorem qTI:∀ (ts:List Tr), ∀ t∈ts,t.size≤Tr.sizeL ts
 | [],t,ht=>by cases ht
 | u::us,t,ht=>by
  simp only [Tr.sizeL]
  rcases List.mem_cons.1 ht with rfl | ht
  ·omega
  have:=qTI us t ht; omega
theorem qUM:∀ (ks:List (List UInt8)) (ts:List Tr),(∀ t∈ts,t.toks.length+3≤16 * t.size)→(jZ ks (Tr.toksL ts)).length≤16 * Tr.sizeL ts
 | [],ts,_=>by cases ts <;> simp [jZ,Tr.toksL]
 | k::ks,[],_=>by simp [jZ,Tr.toksL]
 | k::ks,t::ts,h=>by
  have h1:=h t (by simp)
  have h2:=qUM ks ts fun u hu=>h u (by simp [hu])
  have e:jZ (k::ks) (Tr.toksL (t::ts))=tx k::sg [58]::(t.toks++(if ks=[] then [] else sg [44]::jZ ks (Tr.toksL ts))):=by
   conv=>lhs; unfold jZ
   simp [Tr.toksL]
  rw [e]
  simp only [Tr.sizeL,List.length_cons,List.length_append]
  split
  ·simp; omega
  simp only [List.length_cons]; omega
theorem zHU (d:Dc):(qDI d).length≤2:=by unfold qDI; split <;> simp
theorem zDC:∀ t:Tr,t.may→t.toks.length+3≤16 * t.size:=by
 refine Tr.ind fun x ts ih hm => ?_
 cases hm with
 | mk _ _ hx ho hk =>
 have ih:∀ t∈ts,t.toks.length+3≤16 * t.size:=fun t ht=>ih t ht (hk t ht)
 simp only [Tr.toks,Tr.size]
 have h0:∀ L:List Tok,L.length≤13→ts=[]→L.length+3≤16 * (Tr.sizeL ts+1):=fun L hL _=>by omega
 have one:∀ t,ts=[t]→t.toks.length+3≤16 * Tr.sizeL ts:=fun t h=>by subst h; have:=ih t (by simp); simp [Tr.sizeL]; omega
 cases hx with
 | lit n l h=>rcases h with rfl | rfl | rfl <;> (simp [wR]; omega)
 | num d l h=>have:=zHU d; simp [wR]; omega
 | txt s l h=>simp [wR]; omega
 | name o w l h hw =>
  rcases h with rfl | rfl | rfl
  ·simp [wR]; omega
  ·obtain ⟨t,u,v,rfl⟩:=zBF (l:=ts) (by simpa [zC] using ho)
   have:=ih t (by simp); have:=ih u (by simp); have:=ih v (by simp)
   simp [wR,Tr.toksL,Tr.sizeL]; omega
  obtain ⟨t,u,rfl⟩:=qKB (l:=ts) (by simpa [zC] using ho)
  have:=ih t (by simp); have:=ih u (by simp)
  simp [wR,Tr.toksL,Tr.sizeL]; omega
 | key s l h =>
  obtain ⟨t,rfl⟩:=qAX (l:=ts) (by simpa [zC] using ho)
  have:=ih t (by simp)
  simp [wR,Tr.toksL,Tr.sizeL]; omega
 | at_ n l h1 h2 =>
  obtain ⟨t,rfl⟩:=qAX (l:=ts) (by simpa [zC] using ho)
  have:=ih t (by simp); have:=qZE n
  simp [wR,Tr.toksL,Tr.sizeL]; omega
 | obj ks l h hn =>
  have:=qUM ks ts ih
  simp [wR]; omega
 | two i w l hi h =>
  obtain ⟨t,u,rfl⟩:=qKB (l:=ts) (by simpa [zC] using ho)
  have:=ih t (by simp); have:=ih u (by simp)
  simp [wR,Tr.toksL,Tr.sizeL]; omega
 | lim n l h1 h2 =>
  obtain ⟨t,rfl⟩:=qAX (l:=ts) (by simpa [zC] using ho)
  have:=ih t (by simp); have:=qZE n
  simp [wR,Tr.toksL,Tr.sizeL]; omega
 | call1 w l h=>simp [wR]; omega
 | call2 w k l h hk2=>simp [wR]; omega
 | plain o l h =>
  rcases h with rfl | rfl | rfl | rfl | rfl | rfl | rfl | rfl | rfl | rfl
  ·simp [wR]; omega
  ·obtain ⟨t,rfl⟩:=qAX (l:=ts) (by simpa [zC] using ho)
   have:=ih t (by simp)
   simp [wR,Tr.toksL,Tr.sizeL]; omega
  ·obtain ⟨t,u,rfl⟩:=qKB (l:=ts) (by simpa [zC] using ho)
   have:=ih t (by simp); have:=ih u (by simp)
   simp [wR,Tr.toksL,Tr.sizeL]; omega
  ·obtain ⟨t,u,rfl⟩:=qKB (l:=ts) (by simpa [zC] using ho)
   have:=ih t (by simp); have:=ih u (by simp)
   simp [wR,Tr.toksL,Tr.sizeL]; omega
  ·have h0:ts.length≤1:=by simpa [zC] using ho
   match ts,h0 with
   | [],_=>simp [wR,Tr.toksL,Tr.sizeL]
   | [t],_ =>
    have:=ih t (by simp)
    simp [wR,Tr.toksL,Tr.sizeL]; omega
  ·obtain ⟨t,u,v,rfl⟩:=zBF (l:=ts) (by simpa [zC] using ho)
   have:=ih t (by simp); have:=ih u (by simp); have:=ih v (by simp)
   simp [wR,Tr.toksL,Tr.sizeL]; omega
  ·obtain ⟨t,rfl⟩:=qAX (l:=ts) (by simpa [zC] using ho)
   have:=ih t (by simp)
   simp [wR,Tr.toksL,Tr.sizeL]; omega
  ·obtain ⟨t,rfl⟩:=qAX (l:=ts) (by simpa [zC] using ho)
   have:=ih t (by simp)
   simp [wR,Tr.toksL,Tr.sizeL]; omega
  ·simp [wR]; omega
  obtain ⟨t,rfl⟩:=qAX (l:=ts) (by simpa [zC] using ho)
  have:=ih t (by simp)
  simp [wR,Tr.toksL,Tr.sizeL]; omega
theorem zIB {t:Tr} (h:t.may) {n a:Nat} (hn:t.text.length<n):(wS n a t.text).map (List.map er)=some t.toks:=by
 have h1:=qFP [] (by decide) n ((t.text++[9]).length+1) a t.text hn (by omega)
 obtain ⟨n',a',h2,h3⟩:=zKT t h 9 (by decide) [] ((t.text++[9]).length+1) a (by simp)
 rw [h1] at h3
 rw [h3]
 obtain ⟨m,rfl⟩:∃ m,n'=m+1:=⟨n'-1,by omega⟩
 have hs:spn yR [9]=1:=by decide
 simp only [wS,hs]
 simp
theorem qWF (l:List Tok):vN (l.map er)=vN l:=zDQ zIK l
theorem qQG {t:Tr} (h:t.may):(t.text.length≤2000∧t.toks.length≤600∧yG t.text=vN t.toks)∨((2000<t.text.length∨600<t.toks.length)∧(yG t.text).2≠0):=by
 have hl:=zIB h (n:=t.text.length+1) (a:=0) (by omega)
 obtain ⟨l,e1,e2⟩:=Option.map_eq_some_iff.1 hl
 have e3:t.toks.length=l.length:=by rw [← e2,List.length_map]
 unfold yG qBJ
 by_cases c:2000<t.text.length
 ·refine .inr ⟨.inl c, ?_⟩
  rw [if_pos c]; simp
 rw [if_neg c,e1]
 simp only
 by_cases c2:600<l.length
 ·refine .inr ⟨.inr (by omega), ?_⟩
  rw [if_pos c2]; simp
 refine .inl ⟨by omega,by omega, ?_⟩
 rw [if_neg c2]
 simp only [if_true]
 rw [← e2,qWF]
theorem qPF {t:Tr} (h:t.may) (n:Nat) (d:Int) (hn:20 * t.toks.length+11≤n) (hd:d+2 * t.size≤60):zF n ⟨t.toks,[],d,false⟩=(rt [] t,st [] (t.flat 0) d):=by
 have:=qKI (zHL t h) (n:=n) (R:=[]) (N:=[]) (d:=d) hn hd ⟨fun u hu=>by simp at hu,fun j _ u hu=>by simp at hu,fun u hu=>by simp at hu⟩
 simpa [st] using this
theorem zBY {t:Tr} (h:t.may) (ho:(yG t.text).2=0):(yG t.text).1=t.flat 0:=by
 rcases qQG h with ⟨-, -, e⟩ | ⟨-, e⟩
 ·rw [e] at ho ⊢
  obtain ⟨g1,g2,g3,g4⟩:=qGM ho
  rw [g4]
  have hf:=(qMY (x:=[]) (fun t ht=>by cases ht) (d:=2 * (t.size:Int)) (by omega) (20 * t.toks.length+20)).pipe _ (Nat.le_refl _) ⟨t.toks,[],0,false⟩ g1
  rw [show apS [] (2 * (t.size:Int)) ⟨t.toks,[],0,false⟩=⟨t.toks,[],0-2 * (t.size:Int),false⟩ by simp [apS],qPF h _ _ (by omega) (by omega)] at hf
  have:=congrArg (fun z=>z.2.nodes) hf
  simp only [apS,st] at this
  exact this.symm
 exact absurd ho e
theorem zFW {t:Tr} (h:t.may) (hs:t.size≤25) (hl:t.text.length≤2000):(yG t.text).2=0:=by
 have h1:=zDC t h
 rcases qQG h with ⟨-, -, e⟩ | ⟨e, -⟩
 ·rw [e]
  have:=qPF h (20 * t.toks.length+20) 0 (by omega) (by omega)
  unfold vN
  simp only [this,st]
  rw [if_neg (by simp),if_neg (by rw [Tr.flat_len]; omega)]
 omega
theorem qQP {s:List UInt8} (h:(yG s).2=0):∃ l,wS (s.length+1) 0 s=some l∧yG s=vN l:=by
 unfold yG at h ⊢
 unfold qBJ at h ⊢
 by_cases c:2000<s.length
 ·rw [if_pos c] at h; simp at h
 rw [if_neg c] at h ⊢
 cases e:wS (s.length+1) 0 s with
 | none=>rw [e] at h; simp at h
 | some l =>
  rw [e] at h
  simp only at h ⊢
  by_cases c2:600<l.length
  ·rw [if_pos c2] at h; simp at h
  rw [if_neg c2]; exact ⟨l,rfl,by simp⟩
theorem zIA (m b:Nat) (h:1<m):wS m b [41]=some [⟨6,(b:Int),[41],d0⟩]:=by
 obtain ⟨m,rfl⟩:∃ k,m=k+2:=⟨m-2,by omega⟩
 rw [qMI (by decide) (by simp) zNO (by decide)]
 have h2:spn yR ([]:List UInt8)=0:=by decide
 simp only [wS,List.drop_succ_cons,List.drop_zero,h2]
 simp
theorem qXM {s:List UInt8} (h:(yG s).2=0) (hb:(yG ([40]++s++[41])).2=0):(yG ([40]++s++[41])).1=(yG s).1:=by
 obtain ⟨l,h1,h2⟩:=qQP h
 obtain ⟨l',k1,k2⟩:=qQP hb
 rw [h2] at h ⊢
 rw [k2] at hb ⊢
 have e:l'.map er=sg [40]::(l.map er++[sg [41]]):=by
  have h3:wS (s.length+1) 1 s=some (l.map (shT 1)):=by
   have:=qCF 1 (s.length+1) 0 s
   rw [h1] at this; exact this
  obtain ⟨m,b,i1,i2⟩:=qIH (c:=41) (by decide) [] (s.length+1) (([40]++s++[41]).length) 1 s (l.map (shT 1)) (by omega) (by simp) h3
  rw [zIA m b i1] at i2
  have h0:spn yR ([40]++s++[41])=0:=by simp [spn,List.takeWhile_cons,yR]
  have ho:kI ([40]++s++[41])=(⟨6,0,[40],⟨false,[],0⟩⟩,1):=by
   rw [show ([40]++s++[41]:List UInt8)=40::(s++[41]) by simp]
   exact qIB (b:=40) (by decide) (s++[41])
  rw [qMI h0 (by simp) ho (by decide),show ([40]++s++[41]:List UInt8).drop 1=s++[41] by simp,i2] at k1
  simp only [Option.map_some,Option.some.injEq] at k1
  rw [← k1]
  simp only [List.map_cons,List.map_append,List.map_map,List.map_nil]
  have e5:(er ∘ shT 1)=er:=by funext t; simp [er,shT]
  rw [e5]
  rfl
 rw [← qWF l',e] at hb ⊢
 rw [← qWF l] at h ⊢
 generalize l.map er=L at *
 obtain ⟨g1,g2,g3,g4⟩:=qGM h
 obtain ⟨f1,f2,f3,f4⟩:=qGM hb
 rw [g4,f4]
 have hlen:(sg [40]::(L++[sg [41]])).length=L.length+2:=by simp
 rw [hlen] at f1 f2 ⊢
 have hx:Rps [sg [41]]:=fun t ht=>by simp at ht; subst ht; exact ⟨rfl,rfl⟩
 have hc:(qQ (20 * L.length+49) [41] ⟨L++[sg [41]],[],0,false⟩).2.bad=false:=by
  cases hq:(qQ (20 * L.length+49) [41] ⟨L++[sg [41]],[],0,false⟩).2.bad with
  | false=>rfl
  | true =>
   have:=qTZ (p:=0) hq
   rw [show 20 * L.length+49+11=20 * (L.length+2)+20 by omega] at this
   rw [show (⟨6,0,[40],⟨false,[],0⟩⟩:Tok)=sg [40] from rfl,f1] at this
   cases this
 obtain ⟨j1,j2⟩:=qNG (n:=20 * L.length+47) hc
 obtain ⟨j3,j4⟩:=qTU hx g1 (n:=20 * L.length+47) (by omega) j1
 rw [g2,List.nil_append] at j3
 generalize zF (20 * L.length+47) ⟨L++[sg [41]],[],1,false⟩=P at *
 obtain ⟨a,pl,pn,pd,pb⟩:=P
 simp only at j1 j3 j4 j2
 subst j3
 subst j1
 have hd:yN 1 ⟨[sg [41]],pn,pd,false⟩=st (sg [41]::[]) pn (pd-1):=rfl
 rw [hd,yJ (by decide) (by decide)] at j2
 have ht:zM (20 * L.length+51) (st (sg [40]::(L++[sg [41]])) [] 0)=(a,st [] pn (pd-1)):=by
  rw [show 20 * L.length+51=(20 * L.length+49)+2 from rfl,qKZ]
  exact j2
 have hp:=qPG (by omega) ht (R:=[]) ⟨fun u hu=>by simp at hu,fun j _ u hu=>by simp at hu,fun u hu=>by simp at hu⟩
 rw [show 20 * (L.length+2)+20=20 * L.length+51+9 by omega]
 rw [show (⟨sg [40]::(L++[sg [41]]),[],0,false⟩:PS)=st (sg [40]::(L++[sg [41]])) [] 0 from rfl,hp]
 exact j4
theorem zKC {s:List UInt8} (h:(yG s).2=0):∃ t:Tr,(yG s).1=t.flat 0∧t.may∧t.size≤400:=by
 have hg:=zAB s
 obtain ⟨l, -, h2⟩:=qQP h
 rw [h2] at h hg ⊢
 obtain ⟨t,h3,h4,h5⟩:=qSZ h
 rw [h3] at hg
 exact ⟨t,h3,zDA t h4 0 hg,h5⟩
end Go.Proofs.YtbhhphabggcacaaGreatDoor
