import Derived.Test.YtlmedakhioiahaaGreatDoorSCutL
namespace Go.Proofs.YtlmedakhioiahaaGreatDoor
open Sy Go
set_option linter.unusedSimpArgs false
set_option linter.unusedVariables false
set_option maxRecDepth 100000
def CB (v:Val):Prop:=∀ (n:Nat) (st:RS) (d:Nat) (t:List UInt8),st.left++t=qF v→2 * (qF v).length≤n→(qN n st d).1.bad=true∨((qN n st d).1.left=[]∧(t=[]∨v.kind=4))
theorem qNG {n:Nat} {st:RS} {d:Nat} (h:st.left=[]):(qN n st d).1.bad=true:=by
 cases n with
 | zero=>simp only [qN]
 | succ n =>
  have he:(qQ st d).left=[]:=by unfold qQ; rw [h]; rfl
  simp only [qN,he]
  rw [if_neg (by simp),if_neg (by simp)]
  unfold wK
  rw [he,if_neg (by simp [kC,List.isPrefixOf]),if_neg (by simp [kM,List.isPrefixOf]),if_neg (by simp [wU,List.isPrefixOf]),if_neg (by simp [List.isPrefixOf]),if_neg (by simp)]
theorem qQL {c:UInt8} {many:Nat} {st:RS} (h:st.left=[]):(wF c many st).2.bad=true:=by
 unfold wF
 simp only
 split
 ·assumption
 rw [qDV (st:={ left:=st.left,nodes:=st.nodes,bad:=st.bad,deep:=st.deep,big:=st.big || decide (200<many) }) h]
 simp only [Bool.false_eq_true,if_false]
 rw [qDV (st:={ left:=st.left,nodes:=st.nodes,bad:=st.bad,deep:=st.deep,big:=st.big || decide (200<many) }) h]
 rfl
theorem zAC {n:Nat} {st:RS} {d many:Nat} {vs:List Val} (h:(qN n st d).1.left=[]):(wM (n+1) st d many vs).1.bad=true:=by
 by_cases hb:st.bad=true
 ·exact qBY hb
 have hs:=qQL (c:=93) (many:=many) h
 simp only [wM]
 rw [if_neg hb]
 split
 ·exact hs
 exact qBY hs
theorem qMF (a b:Nat):a≤b∨b<a:=by omega
theorem qNU {s t p R:List UInt8} (h:s++t=p++R) (hc:s.length≤p.length):∃ u,s++u=p:=by
 have h1:s=p.take s.length:=by
  have:=congrArg (List.take s.length) h
  rw [List.take_left,List.take_append_of_le_length hc] at this; exact this
 refine ⟨p.drop s.length, ?_⟩
 conv=>lhs; arg 1; rw [h1]
 exact List.take_append_drop _ _
theorem qNV {s t p R:List UInt8} (h:s++t=p++R) (hc:p.length≤s.length):∃ u,s=p++u∧u++t=R:=by
 obtain ⟨u,hu⟩:=qNU (s:=p) (t:=R) (p:=s) (R:=t) h.symm hc
 refine ⟨u,hu.symm, ?_⟩
 rw [← hu,List.append_assoc] at h
 exact List.append_cancel_left h
theorem zBG (l : List Val) : l ≠ [] → (∀ k ∈ l, RB k ∧ CB k) → ∀ (n : Nat) (st : RS) (d many : Nat) (vs : List Val) (t : List UInt8), st.left ++ t = Lib.join (l.map qF) [44] ++ [93] → t ≠ [] → many + l.length ≤ 201 → 2 * (Lib.join (l.map qF) [44]).length + 2 ≤ n →
  (wM n st d many vs).1.bad=true:=by
 induction l with
 | nil=>intro h; exact absurd rfl h
 | cons v l IH =>
  intro _ ih n st d many vs t hl ht hm hn
  obtain ⟨n,rfl⟩:∃ k,n=k+1:=⟨n-1,by omega⟩
  by_cases hb:st.bad=true
  ·exact qBY hb
  have hb':st.bad=false:=by simpa using hb
  obtain ⟨hR,hC⟩:=ih v (by simp)
  obtain ⟨R,hRl,hlen⟩:∃ R,st.left++t=qF v++R∧2 * (qF v).length≤n:=by
   cases l with
   | nil =>
    simp only [List.map_cons,List.map_nil,Lib.join_one] at hl hn
    exact ⟨_,hl,by omega⟩
   | cons w l =>
    simp only [List.map_cons,kE] at hl hn
    rw [List.append_assoc,List.append_assoc] at hl
    exact ⟨_,hl,by simp at hn; omega⟩
  rcases (qMF st.left.length (qF v).length) with hc | hc
  ·obtain ⟨u,hu⟩:=qNU hRl hc
   rcases hC n st d u hu hlen with h | ⟨h,_⟩
   ·exact qMB h
   exact zAC h
  obtain ⟨u,hu,_⟩:=qNV hRl (Nat.le_of_lt hc)
  have hun:u≠[]:=by rintro rfl; rw [hu] at hc; simp at hc
  cases l with
  | nil =>
   simp only [List.map_cons,List.map_nil,Lib.join_one] at hl
   rw [hu,List.append_assoc] at hl
   have:=List.append_cancel_left hl
   have:=congrArg List.length this
   have:=List.length_pos_iff.2 hun
   have:=List.length_pos_iff.2 ht
   simp at *; omega
  | cons w l =>
   simp only [List.map_cons,kE] at hl hn
   rw [List.append_assoc,List.append_assoc,hu,List.append_assoc] at hl
   have hl2:=List.append_cancel_left hl
   cases u with
   | nil=>exact absurd rfl hun
   | cons c u =>
    simp only [List.cons_append,List.singleton_append,List.cons.injEq] at hl2
    obtain ⟨rfl,hl3⟩:=hl2
    have h1:=hR n [] st d (44::u) hu rfl hb' (by intro b hb; simp at hb; subst hb; rfl) hlen
    simp only [wM,hb',Bool.false_eq_true,if_false]
    rw [h1,qDX (ws:=[]) rfl rfl rfl (by decide) (by simp at hm; omega)]
    simp only [Bool.false_eq_true,if_false]
    exact IH (by simp) (fun k hk=>ih k (List.mem_cons_of_mem _ hk)) n _ d (many+1) _ t hl3 ht (by simp at hm ⊢; omega) (by simp only [List.map_cons]; simp at hn; omega)
theorem qIY {st:RS} {key t:List UInt8} (hk:yV key=true) (h:st.left++t=zK key) (ht:t≠[]):(qB st).1.bad=true:=by
 have htr:zG st.left=st.left:=by
  cases hs:st.left with
  | nil=>rfl
  | cons b u=>rw [hs] at h; simp [zK] at h; rw [h.1]; rfl
 have:=qPR hk h ht
 unfold qB yW
 rw [htr,this]
 rfl
theorem qBW {n:Nat} {st:RS} {d many:Nat} {ks:List (List UInt8)} {vs:List Val} (h:(qK (qB st).1).bad=true∨(qN n (qK (qB st).1) d).1.bad=true∨(qN n (qK (qB st).1) d).1.left=[]):(zZ (n+1) st d many ks vs).1.bad=true:=by
 by_cases hb:st.bad=true
 ·exact qBX hb
 simp only [zZ]
 rw [if_neg hb]
 by_cases hc:(qK (qB st).1).bad=true
 ·simp only [if_pos hc]
  rw [if_pos (yO hc).1]
  exact (yO hc).2
 simp only [if_neg hc]
 rcases h with h | h | h
 ·exact absurd h hc
 ·rw [if_pos (yO h).1]
  exact (yO h).2
 have hs:=qQL (c:=125) (many:=many) h
 split
 ·exact hs
 exact qBX hs
theorem qKF {st:RS} (h:st.bad=true):(qK st).bad=true:=by unfold qK; rw [if_pos h]; exact h
theorem qUF {st:RS} (h:st.left=[]):(qK st).bad=true:=by
 unfold qK
 split
 ·assumption
 rw [qDV h]; rfl
theorem zEH (l : List Val) : ∀ (keys : List (List UInt8)), keys.length = l.length → l ≠ [] → (∀ s ∈ keys, yV s = true) → (∀ k ∈ l, RB k ∧ CB k) → ∀ (n : Nat) (st : RS) (d many : Nat) (ks : List (List UInt8)) (vs : List Val) (t : List UInt8), st.left ++ t = Lib.join (wI keys (l.map qF)) [44] ++ [125] → t ≠ [] → many + l.length ≤ 201 → 2 * (Lib.join (wI keys (l.map qF)) [44]).length + 2 ≤ n →
  (zZ n st d many ks vs).1.bad=true:=by
 induction l with
 | nil=>intro _ _ h; exact absurd rfl h
 | cons v l IH =>
  intro keys hlen _ hkw ih n st d many ks vs t hl ht hm hn
  obtain ⟨n,rfl⟩:∃ k,n=k+1:=⟨n-1,by omega⟩
  cases keys with
  | nil=>simp at hlen
  | cons key keys =>
   by_cases hb:st.bad=true
   ·exact qBX hb
   have hb':st.bad=false:=by simpa using hb
   obtain ⟨hR,hC⟩:=ih v (by simp)
   have hkk:=hkw key (by simp)
   obtain ⟨R,hRl,hlen2,hRR⟩:∃ R,st.left++t=zK key++(58::(qF v++R))∧2 * (qF v).length≤n∧((l=[]∧R=[125])∨(l≠[]∧R=44::(Lib.join (wI keys (l.map qF)) [44]++[125])∧2 * (Lib.join (wI keys (l.map qF)) [44]).length+2≤n)):=by
    cases l with
    | nil =>
     obtain rfl:keys=[]:=by simpa using hlen
     simp only [List.map_cons,List.map_nil] at hl hn
     rw [qJY] at hl hn
     rw [show wI [] []=[] from rfl,Lib.join_one] at hl hn
     exact ⟨[125],by rw [hl]; simp,by simp at hn; omega,.inl ⟨rfl,rfl⟩⟩
    | cons w l =>
     cases keys with
     | nil=>simp at hlen
     | cons key2 keys =>
      have hE:wI (key::key2::keys) ((v::w::l).map qF)=(zK key++[58]++qF v)::(zK key2++[58]++qF w)::wI keys (l.map qF):=rfl
      have hE2:wI (key2::keys) ((w::l).map qF)=(zK key2++[58]++qF w)::wI keys (l.map qF):=rfl
      rw [hE,kE,← hE2] at hl hn
      generalize Lib.join (wI (key2::keys) ((w::l).map qF)) [44]=J at *
      exact ⟨44::(J++[125]),by rw [hl]; simp,by simp at hn; omega,.inr ⟨by simp,rfl,by simp at hn; omega⟩⟩
   rcases Nat.lt_or_ge st.left.length (zK key).length with hc | hc
   ·
    obtain ⟨u,hu⟩:=qNU hRl (Nat.le_of_lt hc)
    have hun:u≠[]:=by rintro rfl; rw [List.append_nil] at hu; rw [hu] at hc; omega
    exact qBW (.inl (qKF (qIY hkk hu hun)))
   obtain ⟨u,hu,hut⟩:=qNV hRl hc
   have hq:=qAS (st:=st) (ws:=[]) hu rfl hkk
   cases u with
   | nil=>exact qBW (.inl (by rw [hq]; exact qUF rfl))
   | cons c u =>
    simp only [List.cons_append,List.cons.injEq] at hut
    obtain ⟨rfl,hut⟩:=hut
    have hcb:qK (qB st).1={ st with left:=u }:=by rw [hq]; exact qKG (st:={ st with left:=58::u }) (ws:=[]) rfl rfl hb'
    rcases (qMF u.length (qF v).length) with hc2 | hc2
    ·obtain ⟨w,hw⟩:=qNU hut hc2
     refine qBW (.inr ?_)
     rw [hcb]
     rcases hC n { st with left:=u } d w hw hlen2 with h | ⟨h,_⟩
     ·exact .inl h
     exact .inr h
    obtain ⟨w,hw,hwt⟩:=qNV hut (Nat.le_of_lt hc2)
    have hwn:w≠[]:=by rintro rfl; rw [hw] at hc2; simp at hc2
    rcases hRR with ⟨_,rfl⟩ | ⟨hln,rfl,hn2⟩
    ·have h1:=congrArg List.length hwt
     have:=List.length_pos_iff.2 hwn
     have:=List.length_pos_iff.2 ht
     simp only [List.length_append,List.length_cons,List.length_nil] at h1
     omega
    cases w with
    | nil=>exact absurd rfl hwn
    | cons c w =>
     simp only [List.cons_append,List.cons.injEq] at hwt
     obtain ⟨rfl,hwt⟩:=hwt
     rw [qOA (ws1:=[]) (ws2:=[]) (ws3:=[]) (R:=44::w) hR hkk (by rw [hu,hw]; simp) rfl rfl rfl hb' (by intro b hb; simp at hb; subst hb; rfl) hlen2]
     simp only
     rw [qDX (ws:=[]) (rest:=w) rfl rfl rfl (by decide) (by simp at hm; omega)]
     simp only [Bool.false_eq_true,if_false]
     exact IH keys (by simpa using hlen) hln (fun s hs=>hkw s (List.mem_cons_of_mem _ hs)) (fun k hk=>ih k (List.mem_cons_of_mem _ hk)) n _ d (many+1) _ _ t hwt ht (by simp at hm ⊢; omega) hn2
theorem qHU {w:List UInt8} {n:Nat} {st:RS} {d:Nat} {t:List UInt8} (hw:w=kC∨w=kM∨w=wU) (h:st.left++t=w) (ht:t≠[]):(qN n st d).1.bad=true:=by
 have hk:st.left=w.take st.left.length∧st.left.length<w.length:=by
  constructor
  ·rw [← h]; simp
  rw [← h,List.length_append]; have:=List.length_pos_iff.2 ht; omega
 obtain ⟨hk1,hk2⟩:=hk
 generalize st.left.length=k at hk1 hk2
 by_cases h0:st.left=[]
 ·exact qNG h0
 cases n with
 | zero=>simp only [qN]
 | succ n =>
  obtain ⟨left,nodes,bad,deep,big⟩:=st
  simp only at hk1 h0
  subst hk1
  have all:∀ (w:List UInt8),(w=kC∨w=kM∨w=wU)→∀ k,k<w.length→w.take k≠[]→(qN (n+1) ⟨w.take k,nodes,bad,deep,big⟩ d).1.bad=true:=by
   intro w hw k hk hne
   have five:k=0∨k=1∨k=2∨k=3∨k=4:=by
    have:w.length≤5:=by rcases hw with rfl | rfl | rfl <;> decide
    omega
   rcases hw with rfl | rfl | rfl <;> rcases five with rfl | rfl | rfl | rfl | rfl <;> first
    | exact absurd rfl hne
    | (exfalso; revert hk; decide)
    | (simp only [qN,qQ]; simp [kC,kM,wU,zG,wC,List.isPrefixOf,wK,qS,kG])
  exact all w hw k hk2 h0
theorem zEI (v:Val):zU v=true→xU v=false→CB v:=by
 induction v using Val.induct with
 | h v ih =>
  intro hm hp n st d t hl hn
  by_cases ht:t=[]
  ·subst ht
   rw [List.append_nil] at hl
   by_cases hb:st.bad=true
   ·exact .inl (zCP hb)
   have h1:=qFN v hm hp n [] st d [] (by rw [hl]; simp) rfl (by simpa using hb) (by simp) hn
   rw [h1]; exact .inr ⟨rfl,.inl rfl⟩
  by_cases h0:st.left=[]
  ·exact .inl (qNG h0)
  obtain ⟨hcode,hkl,hc⟩:=uD hm (qED hp)
  have ihk:∀ k∈v.kids,RB k∧CB k:=fun k hk=>⟨qFN k (vJ hm hk) (qEE hp hk),ih k hk (vJ hm hk) (qEE hp hk)⟩
  obtain ⟨b0,t0,e0,hb0,hb1,hb2⟩:=xT hm
  obtain ⟨n,rfl⟩:∃ k,n=k+1:=⟨n-1,by rw [e0] at hn; simp at hn; omega⟩
  obtain ⟨u,hu⟩:∃ u,st.left=b0::u:=by
   cases hs:st.left with
   | nil=>exact absurd hs h0
   | cons b u=>rw [hs,e0] at hl; simp at hl; exact ⟨u,by rw [hl.1]⟩
  have he:=jZ (ws:=[]) d hu rfl hb0
  rcases hc with ⟨k,h1,h2,h3,h4⟩ | ⟨k,h1,h2,h3,h4⟩ | ⟨k,h1,h2,h3,h4⟩ | ⟨k,h1,h2,h3,h4⟩ | ⟨k,h1,h2,h3,h4⟩ | ⟨k,h1,h2,h3⟩ | ⟨k,h1,h2,h3,h4⟩
  ·exact .inl (qHU (.inl (qTH k)) hl ht)
  ·exact .inl (qHU (.inr (.inr (qTG k))) hl ht)
  ·exact .inl (qHU (.inr (.inl (qTF k))) hl ht)
  ·refine .inr ⟨?_,.inr k⟩
   rw [qTE k] at hl
   have hpp:=uS h1
   obtain ⟨hnl,b,t1,e1,hb⟩:=qFO (s:=yG v.num) (by rw [hpp]; simp)
   obtain ⟨g0,g1,g2,g3,g4,g5,g6,g7,g8,g9⟩:=qUE hb
   have hbb:b0=b:=by rw [hu,e1] at hl; simp at hl; exact hl.1
   subst hbb
   have hall:(b0::u).all kO=true:=by
    rw [← hl,hu,List.all_append,Bool.and_eq_true] at hnl
    exact hnl.1
   have htw:=qZD (rest:=[]) hall (by simp)
   rw [List.append_nil] at htw
   simp only [qN,he,qCU]
   rw [if_neg (by simpa using Ne.symm g1),if_neg (by simpa using Ne.symm g2)]
   have hA:wK ⟨b0::u,st.nodes+1,st.bad,st.deep || decide (12<d),st.big || decide (400<st.nodes+1)⟩=wZ ⟨b0::u,st.nodes+1,st.bad,st.deep || decide (12<d),st.big || decide (400<st.nodes+1)⟩:=by
    unfold wK
    have p:∀ (c:UInt8) (w l:List UInt8),b0≠c→(c::w).isPrefixOf (b0::l)=false:=by
     intro c w l hc; simp only [List.isPrefixOf]; rw [show (c == b0)=false by simp; exact fun e=>hc e.symm]; rfl
    rw [if_neg (by simp only [kC]; rw [p _ _ _ g3]; simp),if_neg (by simp only [kM]; rw [p _ _ _ g4]; simp),if_neg (by simp only [wU]; rw [p _ _ _ g5]; simp),if_neg (by rw [p _ _ _ g6]; simp)]
    rw [if_pos]
    refine ⟨by simp, ?_⟩
    simp only [qS,List.getD_cons_zero]
    rcases g9 with rfl | g9
    ·exact .inl rfl
    exact .inr g9
   rw [hA]
   unfold wZ
   exact htw.2
  ·refine .inl ?_
   rw [qTD k] at hl
   have hb34:b0=34:=by rw [hu] at hl; simp [zK] at hl; exact hl.1
   subst hb34
   simp only [qN,he,qCU]
   rw [if_neg (by decide),if_neg (by decide)]
   unfold wK
   rw [if_neg (by simp [kC,List.isPrefixOf]),if_neg (by simp [kM,List.isPrefixOf]),if_neg (by simp [wU,List.isPrefixOf]),if_pos (by simp [List.isPrefixOf])]
   exact qIY h2 (by rw [← hu]; exact hl) ht
  ·refine .inl ?_
   rw [qTC k] at hl hn
   have hb91:b0=91:=by rw [hu] at hl; simp at hl; exact hl.1
   subst hb91
   have hl2:u++t=Lib.join (v.kids.map qF) [44]++[93]:=by rw [hu] at hl; simpa using hl
   simp only [qN,he,qCU]
   rw [if_pos (by decide)]
   simp only [qT,List.drop_succ_cons,List.drop_zero]
   obtain ⟨n,rfl⟩:∃ k,n=k+1:=⟨n-1,by simp at hn; omega⟩
   by_cases hun:u=[]
   ·subst hun
    rw [qDV rfl]
    simp only [Bool.false_eq_true,if_false]
    exact qMB (qNG rfl)
   by_cases hk0:v.kids=[]
   ·rw [hk0] at hl2
    have:=congrArg List.length hl2
    have:=List.length_pos_iff.2 hun
    have:=List.length_pos_iff.2 ht
    simp [Lib.join,List.intercalate] at *; omega
   obtain ⟨b,s,e,p1,p2,p3⟩:=uH (l:=v.kids.map qF) (by simpa using hk0) [93] (fun b=>wC b=false∧b≠93∧b≠125) (by
    intro s hs
    obtain ⟨k,hk,rfl⟩:=List.mem_map.1 hs
    exact xT (vJ hm hk))
   obtain ⟨u',hu'⟩:∃ u',u=b::u':=by
    cases u with
    | nil=>exact absurd rfl hun
    | cons c u=>rw [e] at hl2; simp at hl2; exact ⟨u,by rw [hl2.1]⟩
   rw [qBR (ws:=[]) (w:=93) (b:=b) (rest:=u') hu' rfl p1 p2]
   simp only [Bool.false_eq_true,if_false]
   exact zBG v.kids hk0 ihk (n+1) ⟨b::u',st.nodes+1,st.bad,st.deep || decide (12<d),st.big || decide (400<st.nodes+1)⟩ (d+1) 1 [] t (by rw [← hl2,hu']) ht (by omega) (by simp at hn; omega)
  refine .inl ?_
  rw [qNT k] at hl hn
  have hb91:b0=123:=by rw [hu] at hl; simp at hl; exact hl.1
  subst hb91
  have hl2:u++t=Lib.join (wI v.keys (v.kids.map qF)) [44]++[125]:=by rw [hu] at hl; simpa using hl
  have hkw:∀ s∈v.keys,yV s=true:=by
   unfold yZ at h4
   simp only [Bool.and_eq_true,List.all_eq_true,decide_eq_true_eq] at h4
   exact h4.1
  simp only [qN,he,qCU]
  rw [if_neg (by decide),if_pos (by decide)]
  simp only [qT,List.drop_succ_cons,List.drop_zero]
  obtain ⟨n,rfl⟩:∃ k,n=k+1:=⟨n-1,by simp at hn; omega⟩
  by_cases hun:u=[]
  ·subst hun
   rw [qDV rfl]
   simp only [Bool.false_eq_true,if_false]
   refine qBW (.inl (qKF ?_))
   unfold qB yW
   rfl
  by_cases hk0:v.kids=[]
  ·have hkk:v.keys=[]:=by rw [hk0] at h3; exact List.length_eq_zero_iff.1 h3
   rw [hk0,hkk] at hl2
   have:=congrArg List.length hl2
   have:=List.length_pos_iff.2 hun
   have:=List.length_pos_iff.2 ht
   simp [Lib.join,List.intercalate,wI] at *; omega
  obtain ⟨b, s, e, p1, p2, p3⟩ := uH (l := wI v.keys (v.kids.map qF)) (by
    intro e0
    have:=congrArg List.length e0
    simp [wI,h3] at this
    exact hk0 this) [125] (fun b=>wC b=false∧b≠93∧b≠125) (by
   intro s hs
   obtain ⟨i,hi,rfl⟩:=List.mem_iff_getElem.1 hs
   simp only [wI,List.getElem_zipWith]
   exact ⟨34,_,rfl,by decide⟩)
  obtain ⟨u',hu'⟩:∃ u',u=b::u':=by
   cases u with
   | nil=>exact absurd rfl hun
   | cons c u=>rw [e] at hl2; simp at hl2; exact ⟨u,by rw [hl2.1]⟩
  rw [qBR (ws:=[]) (w:=125) (b:=b) (rest:=u') hu' rfl p1 p3]
  simp only [Bool.false_eq_true,if_false]
  exact zEH v.kids v.keys h3 hk0 hkw ihk (n+1) ⟨b::u',st.nodes+1,st.bad,st.deep || decide (12<d),st.big || decide (400<st.nodes+1)⟩ (d+1) 1 [] [] t (by rw [← hl2,hu']) ht (by omega) (by simp at hn; omega)
theorem qMM : ∀ n : Nat, (∀ st d n', n ≤ n' → (qN n st d).1.bad = false → qN n' st d = qN n st d) ∧
  (∀ st d many vs n',n≤n'→(wM n st d many vs).1.bad=false→wM n' st d many vs=wM n st d many vs) ∧
  (∀ st d many ks vs n',n≤n'→(zZ n st d many ks vs).1.bad=false→zZ n' st d many ks vs=zZ n st d many ks vs)
 | 0=>⟨fun st d n' _ h=>by simp [qN] at h,fun st d many vs n' _ h=>by simp [wM] at h,fun st d many ks vs n' _ h=>by simp [zZ] at h⟩
 | n+1=>by
  obtain ⟨i1,i2,i3⟩:=qMM n
  refine ⟨fun st d n' hn h => ?_,fun st d many vs n' hn h => ?_,fun st d many ks vs n' hn h => ?_⟩
  ·obtain ⟨m,rfl⟩:∃ m,n'=m+1:=⟨n'-1,by omega⟩
   simp only [qN] at h ⊢
   by_cases h1:([91]:List UInt8).isPrefixOf (qQ st d).left=true
   ·simp only [if_pos h1] at h ⊢
    by_cases h2:(tk [93] (qT (qQ st d) 1)).1=true
    ·simp only [if_pos h2]
    simp only [if_neg h2] at h ⊢
    rw [i2 _ _ _ _ m (by omega) h]
   simp only [if_neg h1] at h ⊢
   by_cases h3:([123]:List UInt8).isPrefixOf (qQ st d).left=true
   ·simp only [if_pos h3] at h ⊢
    by_cases h2:(tk [125] (qT (qQ st d) 1)).1=true
    ·simp only [if_pos h2]
    simp only [if_neg h2] at h ⊢
    rw [i3 _ _ _ _ _ m (by omega) h]
   simp only [if_neg h3]
  ·obtain ⟨m,rfl⟩:∃ m,n'=m+1:=⟨n'-1,by omega⟩
   simp only [wM] at h ⊢
   by_cases hb:st.bad=true
   ·simp only [if_pos hb]
   simp only [if_neg hb] at h ⊢
   have ha:(qN n st d).1.bad=false:=by
    rw [← Bool.not_eq_true]; intro hv
    rw [if_pos (yO hv).1] at h
    simp only at h
    rw [(yO hv).2] at h; cases h
   rw [i1 st d m (by omega) ha]
   by_cases hs:(wF 93 many (qN n st d).1).1=true
   ·simp only [if_pos hs]
   simp only [if_neg hs] at h ⊢
   exact i2 _ _ _ _ m (by omega) h
  obtain ⟨m,rfl⟩:∃ m,n'=m+1:=⟨n'-1,by omega⟩
  simp only [zZ] at h ⊢
  by_cases hb:st.bad=true
  ·simp only [if_pos hb]
  simp only [if_neg hb] at h ⊢
  by_cases hc:(qK (qB st).1).bad=true
  ·simp only [if_pos hc] at h
   rw [if_pos (yO hc).1] at h
   simp only at h
   rw [(yO hc).2] at h; cases h
  simp only [if_neg hc] at h ⊢
  have ha:(qN n (qK (qB st).1) d).1.bad=false:=by
   rw [← Bool.not_eq_true]; intro hv
   rw [if_pos (yO hv).1] at h
   simp only at h
   rw [(yO hv).2] at h; cases h
  rw [i1 _ d m (by omega) ha]
  by_cases hs:(wF 125 many (qN n (qK (qB st).1) d).1).1=true
  ·simp only [if_pos hs]
  simp only [if_neg hs] at h ⊢
  exact i3 _ _ _ _ _ m (by omega) h
theorem zDK {v:Val} (hm:zU v=true) (hp:xU v=false) (hk:v.kind=5∨v.kind=6∨v.kind=7) {k:Nat} (h:k<(qF v).length):kI ((qF v).take k)=(zM,0,10):=by
 have hb:(qN (2 * ((qF v).take k).length+2) ⟨(qF v).take k,0,false,false,false⟩ 1).1.bad=true:=by
  rw [← Bool.not_eq_false]
  intro hb
  have hf:=(qMM (2 * ((qF v).take k).length+2)).1 _ 1 (2 * ((qF v).take k).length+2+2 * (qF v).length) (by omega) hb
  rcases zEI v hm hp (2 * ((qF v).take k).length+2+2 * (qF v).length) ⟨(qF v).take k,0,false,false,false⟩ 1 ((qF v).drop k) (List.take_append_drop _ _) (by omega) with h1 | ⟨_,h2 | h2⟩
  ·rw [hf,hb] at h1; cases h1
  ·have:=congrArg List.length h2
   rw [List.length_drop,List.length_nil] at this; omega
  omega
 unfold kI
 simp only
 rw [if_pos hb]
end Go.Proofs.YtlmedakhioiahaaGreatDoor
