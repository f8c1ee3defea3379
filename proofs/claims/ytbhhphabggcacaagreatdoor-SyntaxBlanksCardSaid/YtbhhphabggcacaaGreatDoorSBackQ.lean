import Derived.Test.YtbhhphabggcacaaGreatDoorSBackP
namespace Go.Proofs.YtbhhphabggcacaaGreatDoor
open Sy Go
set_option maxRecDepth 100000
set_option maxHeartbeats 2000000
set_option linter.unusedSimpArgs false
set_option linter.unusedVariables false
theorem qBG {x:Nd} {N:List Nd} {R:List Tok} {d:Int}:wF { x with kids:=[] } (st R N d)=(rt N (.mk x []),st R (N++(Tr.mk x []).flat N.length) d):=by
 rw [put0 rfl,qBO,qGR]
theorem qJH {x:Nd} {t:Tr} {N:List Nd} {R:List Tok} {d:Int}:wF { x with kids:=[rt N t] } (st R (N++t.flat N.length) d)=(rt N (.mk x [t]),st R (N++(Tr.mk x [t]).flat N.length) d):=by
 rw [zPS,qBO,qGR]
theorem zDT {x:Nd} {t u:Tr} {N:List Nd} {R:List Tok} {d:Int}:wF { x with kids:=[rt N t,rt (N++t.flat N.length) u] } (st R (N++t.flat N.length++u.flat (N++t.flat N.length).length) d)=(rt N (.mk x [t,u]),st R (N++(Tr.mk x [t,u]).flat N.length) d):=by
 rw [zPR,qBO,qGR]
theorem zJT {x:Nd} {t u v:Tr} {N:List Nd} {R:List Tok} {d:Int}:wF { x with kids:=[rt N t,rt (N++t.flat N.length) u,rt (N++t.flat N.length++u.flat (N++t.flat N.length).length) v] } (st R (N++t.flat N.length++u.flat (N++t.flat N.length).length++v.flat (N++t.flat N.length++u.flat (N++t.flat N.length).length).length) d)=(rt N (.mk x [t,u,v]),st R (N++(Tr.mk x [t,u,v]).flat N.length) d):=by
 rw [zPQ,qBO,qGR]
theorem qFK {t:Tr} (h:qCQ t) {n:Nat} {L:List Tok} {N:List Nd} {d:Int} (hn:20 * t.toks.length+16≤n) (hd:d+1+2 * t.size≤60):wQ n (st (sg [40]::(t.toks++sg [41]::L)) N d)=zW (n-1) (rt N t) (st L (N++t.flat N.length) d):=by
 obtain ⟨n,rfl⟩:=kH n 5 (by omega)
 have hp:zF n (st (t.toks++sg [41]::L) N (d+1))=(rt N t,st (sg [41]::L) (N++t.flat N.length) (d+1)):=qKI h (by omega) (by omega) (vB (by decide) L)
 have hs:=Tr.size_pos t
 simp only [wQ]
 rw [show n+4=n+4 from rfl,qDE (by omega) hp]
 rfl
theorem qNM {m:Nat} {s:PS} {a:Int} {R:List Tok} {M:List Nd} {d:Int} (hm:1≤m) (h:zM m s=(a,st R M d)) (hR:qFM R):∀ (k i:Nat),i+k=6→(∀ j,i≤j→j≤5→zAV j R)→qL (m+2+k) i s=(a,st R M d)
 | 0,i,hk,hl=>by
  obtain rfl:i=6:=by omega
  simp only [qL,if_true]
  exact qPD hm h hR
 | k+1,i,hk,hl=>by
  rw [show m+2+(k+1)=(m+2+k)+1 by omega]
  simp only [qL]
  rw [if_neg (by omega),qNM hm h hR k (i+1) (by omega) fun j h1 h2=>hl j (by omega) h2]
  simp only
  exact qEQ (by omega) (hl i (by omega) (by omega))
theorem qPG {m:Nat} {s:PS} {a:Int} {R:List Tok} {M:List Nd} {d:Int} (hm:1≤m) (h:zM m s=(a,st R M d)) (hR:qMB R):zF (m+9) s=(a,st R M d) :=
 qLX (qNM hm h hR.1 6 0 rfl fun j _ hj=>hR.2.1 j hj) hR.2.2
theorem qFJ {m:Nat} {a:Int} {L R:List Tok} {N M:List Nd} {d:Int} (hm:1≤m) (hd:d+1≤60) (h:zM m (st L N (d+1))=(a,st (sg [41]::R) M (d+1))):zM (m+13) (st (sg [40]::L) N d)=(a,st R M d) :=
 qDE hd (qPG hm h (vB (by decide) R))
theorem qJW {i:Nat} {s:PS} {a:Int} {R:List Tok} {M:List Nd} {d:Int} {n:Nat} (hn:1≤n) (h:qL n i s=(a,st R M d)) (hi:i≤6):∀ (j k:Nat),i=k+j→(∀ q,k≤q→q<i→zAV q R)→qL (n+j) k s=(a,st R M d)
 | 0, k, e, hl => by obtain rfl : k = i := by omega
                     exact h
 | j+1,k,e,hl=>by
  rw [show n+(j+1)=(n+j)+1 by omega]
  simp only [qL]
  rw [if_neg (by omega),qJW hn h hi j (k+1) (by omega) fun q h1 h2=>hl q (by omega) h2]
  simp only
  exact qEQ (by omega) (hl k (by omega) (by omega))
theorem zJB {n i:Nat} (s:PS) (hi:i≠6):qL (n+1) i s=wO n i (qL n (i+1) s).1 (qL n (i+1) s).2:=by
 simp only [qL]; rw [if_neg hi]
theorem zBX {n i : Nat} {a b : Int} {v : Tok} {L R : List Tok} {N M : List Nd} {d : Int} (hk : v.kind ≠ 0) (hit : wH (lvK i) (zI i) v = true) (hb : qL n (i + 1) (st L N d) = (b, st R M d)) :
  wO (n+1) i a (st (v::L) N d)=if uD i=true then opP (yU i) (if yU i=8 then [] else v.text) [a,b] (st R M d) else wO n i (opP (yU i) (if yU i=8 then [] else v.text) [a,b] (st R M d)).1 (opP (yU i) (if yU i=8 then [] else v.text) [a,b] (st R M d)).2:=by
 simp only [wO]
 rw [if_neg (by simp [st]),jF hk hit]
 simp only [Bool.true_eq_false,if_false]
 rw [hb]
theorem zBW {t u : Tr} (ht : qCQ t) (hu : qCQ u) {i : Nat} {v : Tok} (hi : i ≤ 5) (hk : v.kind ≠ 0) (hit : wH (lvK i) (zI i) v = true) (hno : ∀ j, i < j → j ≤ 5 → wH (lvK j) (zI j) v = false) (hp : v.kind ≠ 3 ∧ wH 6 [[91]] v = false) {n : Nat} {R : List Tok} {N : List Nd} {d : Int} (hn : 20 * t.toks.length + 20 * u.toks.length + 20 ≤ n) (hd : d + 2 * t.size + 2 * u.size ≤ 60) (hR : qMB R) :
  qL n i (st (t.toks++v::(u.toks++R)) N d)=opP (yU i) (if yU i=8 then [] else v.text) [rt N t,rt (N++t.flat N.length) u] (st R (N++t.flat N.length++u.flat (N++t.flat N.length).length) d):=by
 obtain ⟨n,rfl⟩:=kH n 3 (by omega)
 have hs1:=Tr.size_pos t
 have hs2:=Tr.size_pos u
 have h1:qL (n+2) (i+1) (st (t.toks++v::(u.toks++R)) N d)=(rt N t,st (v::(u.toks++R)) (N++t.flat N.length) d) :=
  vY ht (5-i) (i+1) (n+2) _ N d (by omega) (by omega) (by omega) (fun w hw=>by simp at hw; subst hw; exact hp) fun j h1 h2 w hw=>by simp at hw; subst hw; exact hno j (by omega) h2
 have h2:qL (n+1) (i+1) (st (u.toks++R) (N++t.flat N.length) d)=(rt (N++t.flat N.length) u,st R (N++t.flat N.length++u.flat (N++t.flat N.length).length) d) :=
  vY hu (5-i) (i+1) (n+1) _ _ d (by omega) (by omega) (by omega) hR.1 fun j _ h2=>hR.2.1 j h2
 rw [show n+3=(n+2)+1 from rfl,zJB _ (by omega),h1]
 simp only
 rw [show n+2=(n+1)+1 from rfl,zBX hk hit h2]
 by_cases ho:uD i=true
 ·rw [if_pos ho]
 rw [if_neg ho]
 exact qEQ (by omega) (hR.2.1 i hi)
theorem qOY {t u : Tr} (ht : qCQ t) (hu : qCQ u) {i : Nat} {v : Tok} (hi : i ≤ 5) (hk : v.kind ≠ 0) (hit : wH (lvK i) (zI i) v = true) (hno : ∀ j, i < j → j ≤ 5 → wH (lvK j) (zI j) v = false) (hp : v.kind ≠ 3 ∧ wH 6 [[91]] v = false) {x : Nd} (hx : x = ⟨yU i, 0, (if yU i = 8 then [] else v.text), d0, [], x.kids⟩) {n : Nat} {R : List Tok} {N : List Nd} {d : Int} (hn : 20 * t.toks.length + 20 * u.toks.length + 40 ≤ n) (hd : d + 1 + 2 * t.size + 2 * u.size ≤ 60) :
  zM n (st (sg [40]::(t.toks++v::(u.toks++sg [41]::R))) N d)=(rt N (.mk x [t,u]),st R (N++(Tr.mk x [t,u]).flat N.length) d):=by
 obtain ⟨n,rfl⟩:=kH n (5+i) (by omega)
 have hR:=vB (u:=sg [41]) (by decide) R
 have h:=zBW ht hu hi hk hit hno hp (n:=n) (N:=N) (d:=d+1) (R:=sg [41]::R) (by omega) (by omega) hR
 have hq:opP (yU i) (if yU i=8 then [] else v.text) [rt N t,rt (N++t.flat N.length) u] (st (sg [41]::R) (N++t.flat N.length++u.flat (N++t.flat N.length).length) (d+1))=(rt N (.mk x [t,u]),st (sg [41]::R) (N++(Tr.mk x [t,u]).flat N.length) (d+1)):=by
  have:=zDT (x:=x) (t:=t) (u:=u) (N:=N) (R:=sg [41]::R) (d:=d+1)
  rw [hx] at this
  rw [hx]
  exact this
 rw [hq] at h
 have h0:=qJW (by omega) h (by omega) i 0 (by omega) fun q _ h2=>hR.2.1 q (by omega)
 have hpp:=qLX h0 hR.2.2
 have hs:=Tr.size_pos t
 rw [show n+(5+i)=(n+i+1)+4 by omega]
 exact qDE (by omega) hpp
theorem zCV:∀ i:Fin 6,1≤i.val→∀ w∈zI i.val,wH (lvK i.val) (zI i.val) (if w=[111,114]∨w=[97,110,100] then wd w else sg w)=true∧(∀ j:Fin 6,i.val<j.val→wH (lvK j.val) (zI j.val) (if w=[111,114]∨w=[97,110,100] then wd w else sg w)=false)∧(if w=[111,114]∨w=[97,110,100] then wd w else sg w).kind≠0∧(if w=[111,114]∨w=[97,110,100] then wd w else sg w).kind≠3∧wH 6 [[91]] (if w=[111,114]∨w=[97,110,100] then wd w else sg w)=false∧(if w=[111,114]∨w=[97,110,100] then wd w else sg w).text=w:=by decide +kernel
theorem qXJ:∀ w∈kY++jS,w ∉ [[110,117,108,108],[116,114,117,101],[102,97,108,115,101],[101,109,112,116,121],[105,102],[116,114,121],[115,101,97,108],[101,114,114,111,114],[114,101,100,117,99,101],[108,105,109,105,116],[102,105,114,115,116],[109,97,112],[115,101,108,101,99,116]]:=by decide +kernel
theorem qNH {w:List UInt8} (h:kS w=1∨kS w=2) (n:Nat) (s:PS):zS (n+1) w s=jG w s:=by
 have hm:w∈kY++jS:=by
  unfold kS at h
  by_cases c1:w∈kY
  ·simp [c1]
  rw [if_neg c1] at h
  by_cases c2:w∈jS
  ·simp [c2]
  rw [if_neg c2] at h; omega
 have:=qXJ w hm
 simp only [List.mem_cons,List.not_mem_nil,or_false,not_or] at this
 obtain ⟨h1,h2,h3,h4,h5,h6,h7,h8,h9,h10,h11,h12,h13⟩:=this
 simp only [zS]
 rw [if_neg h1,if_neg h2,if_neg h3,if_neg h4,if_neg h5,if_neg h6,if_neg h7,if_neg h8,if_neg h9,if_neg h10,if_neg h11,if_neg h12,if_neg h13]
theorem qOR {t:Tr} (h:t.may):∃ u L,t.toks=u::L∧wH 6 [[93]] u=false:=by
 cases h with
 | mk x ts hx ho hk =>
 simp only [Tr.toks]
 cases hx with
 | lit n l h=>rcases h with rfl | rfl | rfl <;> exact ⟨_,_,rfl,by decide⟩
 | num d l h =>
  unfold wR qDI
  simp only
  by_cases c:d.neg=true
  ·simp only [c,if_true]; exact ⟨_,_,rfl,by decide⟩
  simp only [c]; exact ⟨_,_,rfl,by simp [wH,nm]⟩
 | txt s l h=>exact ⟨_,_,rfl,by simp [wH,tx]⟩
 | name o w l h hw =>
  rcases h with rfl | rfl | rfl
  ·exact ⟨_,_,rfl,by simp [wH,vr]⟩
  ·exact ⟨_,_,rfl,by decide⟩
  exact ⟨_,_,rfl,by decide⟩
 | key s l h=>exact ⟨_,_,rfl,by decide⟩
 | at_ n l h1 h2=>exact ⟨_,_,rfl,by decide⟩
 | obj ks l h hn=>exact ⟨_,_,rfl,by decide⟩
 | two i w l hi h=>exact ⟨_,_,rfl,by decide⟩
 | lim n l h1 h2=>exact ⟨_,_,rfl,by decide⟩
 | call1 w l h=>exact ⟨_,_,rfl,by simp [wH,wd]⟩
 | call2 w k l h hk2=>exact ⟨_,_,rfl,by simp [wH,wd]⟩
 | plain o l h=>rcases h with rfl | rfl | rfl | rfl | rfl | rfl | rfl | rfl | rfl | rfl <;> exact ⟨_,_,rfl,by decide⟩
theorem zIN (N:List Nd) (t:Tr) (ts:List Tr):N++t.flat N.length++Tr.flatL (N++t.flat N.length).length ts=N++Tr.flatL N.length (t::ts):=by simp [Tr.flatL,Tr.flat_len]
theorem zIR (N:List Nd) (t:Tr) (ts:List Tr):rt N t::Tr.ends (N++t.flat N.length).length ts=Tr.ends N.length (t::ts):=by simp [Tr.ends,rt,Tr.flat_len]
theorem qUB : ∀ (ks : List (List UInt8)) (ts : List Tr), ks ≠ [] → ks.length = ts.length → (∀ t ∈ ts, qCQ t) → ∀ (n : Nat) (ks0 : List (List UInt8)) (vs0 : List Int) (R : List Tok) (N : List Nd) (d : Int), (ks0 ++ ks).Nodup → 20 * (jZ ks (Tr.toksL ts)).length + 5 ≤ n → d + 2 * Tr.sizeL ts ≤ 60 →
  wG n ks0 vs0 (st (jZ ks (Tr.toksL ts)++sg [125]::R) N d)=((ks0++ks,vs0++Tr.ends N.length ts),st R (N++Tr.flatL N.length ts) d)
 | [],_,h,_,_,_,_,_,_,_,_,_,_,_=>absurd rfl h
 | k::ks,[],_,h,_,_,_,_,_,_,_,_,_,_=>by simp at h
 | k::ks,t::ts,_,hl,ht,n,ks0,vs0,R,N,d,hnd,hn,hd=>by
  obtain ⟨n,rfl⟩:∃ m,n=m+1:=⟨n-1,by omega⟩
  have hnew:k ∉ ks0:=by
   rw [List.nodup_append] at hnd
   intro hm
   exact hnd.2.2 k hm k (by simp) rfl
  have h1:=ht t (by simp)
  have hsz:Tr.sizeL (t::ts)=t.size+Tr.sizeL ts:=by simp [Tr.sizeL]
  have hmk:jZ (k::ks) (Tr.toksL (t::ts))=tx k::sg [58]::(t.toks++(if ks=[] then [] else sg [44]::jZ ks (Tr.toksL ts))):=by
   conv=>lhs; unfold jZ
   simp [Tr.toksL]
  rw [hmk] at hn ⊢
  simp only [List.length_cons,List.length_append] at hn
  have e0:tx k::sg [58]::(t.toks++(if ks=[] then [] else sg [44]::jZ ks (Tr.toksL ts)))++sg [125]::R=tx k::sg [58]::(t.toks++((if ks=[] then [] else sg [44]::jZ ks (Tr.toksL ts))++sg [125]::R)):=by simp
  rw [e0]
  simp only [wG]
  rw [if_neg (by simp [st]),qBK (by simp [tx]) (by simp [tx])]
  simp only
  rw [yJ (by simp [sg]) (by simp [wH,sg])]
  have e1:qK (decide ((tx k).text ∉ ks0)) (st (t.toks++((if ks=[] then [] else sg [44]::jZ ks (Tr.toksL ts))++sg [125]::R)) N d)=st (t.toks++((if ks=[] then [] else sg [44]::jZ ks (Tr.toksL ts))++sg [125]::R)) N d:=by
   simp [qK,st,tx,hnew]
  rw [e1,if_neg (by simp [st])]
  have hstop:∀ u L,(u=sg [44]∨u=sg [125])→qFM (u::L)∧∀ j,1≤j→j≤5→zAV j (u::L):=fun u L hu=>by
   have h9:∀ u∈[sg [44],sg [125]],(u.kind≠3∧wH 6 [[91]] u=false)∧∀ j:Fin 6,1≤j.val→wH (lvK j.val) (zI j.val) u=false:=by decide
   have h8:=h9 u (by simpa using hu)
   refine ⟨fun w hw => ?_,fun j h1 h2 w hw => ?_⟩ <;> (simp at hw; subst hw)
   ·exact h8.1
   exact h8.2 ⟨j,by omega⟩ h1
  by_cases hks:ks=[]
  ·subst hks
   have hts:ts=[]:=by cases ts with
    | nil=>rfl
    | cons u us=>simp at hl
   subst hts
   simp only [if_true,List.nil_append]
   obtain ⟨g1,g2⟩:=hstop (sg [125]) R (.inr rfl)
   rw [vY h1 5 1 n _ N d rfl (by omega) (by omega) g1 g2]
   simp only
   rw [jF (by simp [sg]) (by simp [wH,sg])]
   simp only [sg,if_true]
   simp [qK,st,tx,Tr.ends,Tr.flatL,rt]
  simp only [if_neg hks,List.cons_append] at hn ⊢
  simp only [List.length_cons] at hn
  obtain ⟨g1,g2⟩:=hstop (sg [44]) (jZ ks (Tr.toksL ts)++sg [125]::R) (.inl rfl)
  rw [vY h1 5 1 n _ N d rfl (by omega) (by omega) g1 g2]
  simp only
  rw [jF (by simp [sg]) (by simp [wH,sg])]
  have hne:¬ ([44]:List UInt8)=[125]:=by decide
  simp only [sg,hne,if_false]
  have e2:qK true (st (jZ ks (Tr.toksL ts)++⟨6,0,[125],d0⟩::R) (N++t.flat N.length) d)=st (jZ ks (Tr.toksL ts)++sg [125]::R) (N++t.flat N.length) d:=by simp [qK,st,sg]
  rw [e2,qUB ks ts hks (by simpa using hl) (fun u hu=>ht u (by simp [hu])) n _ _ R _ d (by simpa [tx] using hnd) (by omega) (by omega)]
  rw [zIN]
  have e3:=zIR N t ts
  simp only [tx,List.append_assoc,List.singleton_append]
  rw [e3]
end Go.Proofs.YtbhhphabggcacaaGreatDoor
