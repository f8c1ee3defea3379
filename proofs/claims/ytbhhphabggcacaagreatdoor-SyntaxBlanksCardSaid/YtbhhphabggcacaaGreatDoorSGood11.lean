import Derived.Test.YtbhhphabggcacaaGreatDoorK1
import Derived.Test.YtbhhphabggcacaaGreatDoorSSynT
import Derived.Test.YtbhhphabggcacaaGreatDoorSSynFr
import Derived.Test.YtbhhphabggcacaaGreatDoorSUnqVal
namespace Go.Proofs.YtbhhphabggcacaaGreatDoor
open Sy Go
set_option maxRecDepth 100000
set_option maxHeartbeats 1000000
set_option linter.unusedSimpArgs false
set_option linter.unusedVariables false
abbrev d0:Dc:=⟨false,[],0⟩
def jJ (s:List UInt8):Prop:=Lib.validD s=true∧s.length≤4096
def qMV (t:Tok):Prop :=
 (t.kind=1∨t.kind=2→wJ t.text=true)∧(t.kind=3∨t.kind=5→jJ t.text)∧(t.kind=4→yO t.num=true∧t.num.neg=false)
theorem qDV:∀ {s:List UInt8},(∀ b∈s,b.toNat<128)→Lib.validD s=true
 | [],h=>rfl
 | b::s,h=>by rw [Lib.validD_cons b s (h b (by simp))]; exact qDV fun c hc=>h c (by simp [hc])
theorem zCN:∀ k:Fin 256,asF xV k.val=true→k.val<128:=by decide +kernel
theorem qGY {s:List UInt8} (h:wJ s=true):jJ s:=by
 unfold wJ at h
 simp only [Bool.and_eq_true,decide_eq_true_eq,List.all_eq_true] at h
 exact ⟨qDV fun b hb=>zCN ⟨b.toNat,b.toNat_lt⟩ (h.1 b hb),by omega⟩
theorem zEE {neg:Bool} {d:List UInt8} {s:Int} (h:neg=false):(qAA neg d s).1.neg=false:=by
 subst h
 unfold qAA
 have:∀ d s,(xG false d s).1.neg=false:=fun d s=>by
  unfold xG; simp only
  split
  ·rfl
  split <;> rfl
 split <;> exact this _ _
theorem zAX {s:List UInt8} (h:s.head?≠some 45):(jL s).1.neg=false:=by
 unfold jL
 have hn:qMC s=false:=decide_eq_false h
 split
 ·rfl
 unfold qOH
 split
 ·rfl
 split
 ·rfl
 exact zEE hn
theorem zEX {s:List UInt8} (hs:s≠[]) (h0:(kI s).2≠0):qMV (kI s).1:=by
 have hk:(wM s).1=0∨(wM s).1=2∨(wM s).1=3:=by
  unfold wM
  split
  ·exact .inr (.inl rfl)
  split
  ·exact .inr (.inr rfl)
  exact .inl rfl
 rw [qRB (s:=s) (k:=(wM s).1) (d:=(wM s).2) rfl rfl] at h0 ⊢
 generalize (wM s).1=k at *
 generalize s.drop (wM s).2=r at *
 split at h0
 ·rename_i c
  rw [if_pos c]
  split at h0
  ·exact absurd rfl h0
  rename_i c2
  rw [if_neg c2]
  have:=qNU (s:=r) (by simpa using c2)
  rcases hk with rfl | rfl | rfl
  ·exact ⟨fun h=>by rcases h with h | h <;> (simp [uC] at h),fun _=>this,fun h=>by simp [uC] at h⟩
  ·exact absurd rfl c.2
  exact ⟨fun h=>by rcases h with h | h <;> (simp [uC] at h),fun _=>this,fun h=>by simp [uC] at h⟩
 rename_i c
 rw [if_neg c]
 split at h0
 ·rename_i c2
  rw [if_pos c2]
  split at h0
  ·exact absurd rfl h0
  rename_i c3
  rw [if_neg c3]
  have hm:wJ (xS r).1=true:=by
   unfold xS at c3 ⊢
   split
   ·rename_i c4; rw [if_pos c4] at c3; exact absurd rfl c3
   rename_i c4; rw [if_neg c4] at c3; simpa using c3
  exact ⟨fun _=>hm,fun _=>qGY hm,fun h=>by rcases hk with rfl | rfl | rfl <;> (simp [uC] at h)⟩
 rename_i c2
 rw [if_neg c2]
 split at h0
 ·rename_i c3
  rw [if_pos c3]
  split at h0
  ·exact absurd rfl h0
  rename_i c4
  rw [if_neg c4]
  refine ⟨fun h=>by rcases h with h | h <;> (simp at h),fun h=>by rcases h with h | h <;> (simp at h),fun _=>⟨qJJ (by simpa using c4),zAX ?_⟩⟩
  intro hh
  have h1:(r.take (qAV r)).head?=some 45:=hh
  cases r with
  | nil=>simp at h1
  | cons b r =>
   unfold spn at c3
   rw [List.takeWhile_cons] at c3
   split at c3
   ·rename_i c5
    cases hn:qAV (b::r) with
    | zero=>rw [hn] at h1; simp at h1
    | succ k=>rw [hn] at h1; simp at h1; subst h1; revert c5; decide
   simp at c3
 rename_i c3
 rw [if_neg c3]
 exact ⟨fun h=>by rcases h with h | h <;> (simp [uC] at h),fun h=>by rcases h with h | h <;> (simp [uC] at h),fun h=>by simp [uC] at h⟩
theorem qUY:∀ (n a:Nat) (r:List UInt8) (l:List Tok),wS n a r=some l→∀ t∈l,qMV t
 | 0,a,r,l,h=>by simp [wS] at h
 | n+1,a,r,l,h=>by
  simp only [wS] at h
  split at h
  ·cases h; intro t ht; cases ht
  rename_i hne
  split at h
  ·cases h
  rename_i h0
  obtain ⟨l',h1,rfl⟩:=Option.map_eq_some_iff.1 h
  intro t ht
  rcases List.mem_cons.1 ht with rfl | ht
  ·exact zEX hne h0
  exact qUY n _ _ _ h1 t ht
inductive NdOK:Nd→Prop
 | lit (n:Int) (l:List Int) (h:n=1∨n=2∨n=3):NdOK ⟨2,n,[],d0,[],l⟩
 | num (d:Dc) (l:List Int) (h:yO d=true):NdOK ⟨2,4,[],d,[],l⟩
 | txt (s:List UInt8) (l:List Int) (h:jJ s):NdOK ⟨2,5,s,d0,[],l⟩
 | plain (o:Int) (l:List Int) (h:o=1∨o=6∨o=7∨o=8∨o=9∨o=12∨o=13∨o=14∨o=19∨o=20):NdOK ⟨o,0,[],d0,[],l⟩
 | name (o:Int) (w:List UInt8) (l:List Int) (h:o=3∨o=15∨o=16) (hw:wJ w=true):NdOK ⟨o,0,w,d0,[],l⟩
 | key (s:List UInt8) (l:List Int) (h:jJ s):NdOK ⟨4,0,s,d0,[],l⟩
 | at_ (n:Int) (l:List Int) (h1 : -999≤n) (h2:n≤999):NdOK ⟨5,n,[],d0,[],l⟩
 | obj (ks:List (List UInt8)) (l:List Int) (h:∀ k∈ks,jJ k) (hn:ks.Nodup):NdOK ⟨10,0,[],d0,ks,l⟩
 | two (i:Nat) (w:List UInt8) (l:List Int) (hi:1≤i∧i≤5) (h:w∈zI i):NdOK ⟨11,0,w,d0,[],l⟩
 | lim (n:Int) (l:List Int) (h1:0≤n) (h2:n≤999):NdOK ⟨17,n,[],d0,[],l⟩
 | call1 (w:List UInt8) (l:List Int) (h:kS w=1):NdOK ⟨18,0,w,d0,[],l⟩
 | call2 (w k:List UInt8) (l:List Int) (h:kS w=2) (hk:jJ k):NdOK ⟨18,0,w,d0,[k],l⟩
structure Good (s:PS):Prop where
 toks:∀ t∈s.left,qMV t
 nds:s.bad=false→∀ x∈s.nodes,NdOK x
theorem qBM {f:Tok→Bool} {s:PS} (h:Good s):Good (qP f s).2:=by
 unfold qP
 split
 ·exact h
 exact ⟨fun t ht=>h.toks t (List.mem_of_mem_drop ht),h.nds⟩
theorem qMU {f:Tok→Bool} {s:PS} (h:Good s) (e:(qP f s).1.2=true):qMV (qP f s).1.1∧f (qP f s).1.1=true:=by
 have h1:=uI e
 exact ⟨h.toks _ (by rw [h1.2.2.2.2.2.1]; simp),h1.2.2.2.2.2.2⟩
theorem wX {k:Int} {l:List (List UInt8)} {s:PS} (h:Good s):Good (qT k l s).2:=qBM h
theorem kG {ok:Bool} {s:PS} (h:Good s):Good (qK ok s):=⟨h.toks,fun hb=>h.nds (by simp [qK] at hb; exact hb.1)⟩
theorem yF {k:Int} {w:List UInt8} {s:PS} (h:Good s):Good (zA k w s):=kG (wX h)
theorem uQ {ks:List Int} {s:PS} (h:Good s):Good (zD ks s).2:=kG (qBM h)
theorem vP {ks:List Int} {s:PS} (h:Good s) (hb:(zD ks s).2.bad=false):qMV (zD ks s).1∧(zD ks s).1.kind∈ks:=by
 have e:(qP (fun t=>decide (t.kind∈ks)) s).1.2=true:=by
  unfold zD qK at hb; simp at hb; exact hb.2
 have:=qMU h e
 exact ⟨this.1,of_decide_eq_true this.2⟩
theorem qMT {s:PS} (h:Good s):Good (wY s).2:=kG (uQ h)
theorem qXO {s:List UInt8} (hd:s.all qF=true) (hl:s.length≤3):0≤(kX s).1∧(kX s).1≤999:=by
 have h3:∀ a b c:Fin 10,(kX [UInt8.ofNat (48+a.val),UInt8.ofNat (48+b.val),UInt8.ofNat (48+c.val)]).1≤999:=by decide +kernel
 have h2:∀ a b:Fin 10,(kX [UInt8.ofNat (48+a.val),UInt8.ofNat (48+b.val)]).1≤999:=by decide +kernel
 have h1:∀ a:Fin 10,(kX [UInt8.ofNat (48+a.val)]).1≤999:=by decide +kernel
 have dg:∀ b:UInt8,qF b=true→∃ a:Fin 10,b=UInt8.ofNat (48+a.val):=fun b hb=>by
  have:=(qIK b).1 hb
  refine ⟨⟨b.toNat-48,by omega⟩, ?_⟩
  apply UInt8.toNat_inj.1
  simp
  omega
 refine ⟨(qZQ hd).1, ?_⟩
 match s,hd,hl with
 | [],_,_=>decide
 | [a],hd,_ =>
  simp only [List.all_cons,Bool.and_eq_true] at hd
  obtain ⟨x,rfl⟩:=dg a hd.1
  exact h1 x
 | [a,b],hd,_ =>
  simp only [List.all_cons,Bool.and_eq_true] at hd
  obtain ⟨x,rfl⟩:=dg a hd.1
  obtain ⟨y,rfl⟩:=dg b hd.2.1
  exact h2 x y
 | [a,b,c],hd,_ =>
  simp only [List.all_cons,Bool.and_eq_true] at hd
  obtain ⟨x,rfl⟩:=dg a hd.1
  obtain ⟨y,rfl⟩:=dg b hd.2.1
  obtain ⟨z,rfl⟩:=dg c hd.2.2.1
  exact h3 x y z
theorem qJP {s:PS} (h:Good s) (hb:(wY s).2.bad=false):0≤(wY s).1∧(wY s).1≤999:=by
 unfold wY at hb ⊢
 simp only at hb ⊢
 obtain ⟨b1,b2⟩:(zD [4] s).2.bad=false∧okD (zD [4] s).1.num=true:=by unfold qK at hb; simpa using hb
 obtain ⟨g1,g2⟩:=vP h b1
 have g3:=(g1.2.2 (by simpa using g2)).1
 unfold okD at b2
 simp only [Bool.and_eq_true,decide_eq_true_eq] at b2
 unfold yO at g3
 simp only [Bool.and_eq_true] at g3
 exact qXO g3.1.1 b2.2
theorem wU {x:Nd} {s:PS} (h:Good s) (hx:s.bad=false→NdOK x):Good (wF x s).2 :=
 ⟨h.toks,fun hb y hy=>by
  rcases List.mem_append.1 (show y∈s.nodes++[x] from hy) with hy | hy
  ·exact h.nds hb y hy
  rw [List.mem_singleton.1 hy]; exact hx hb⟩
theorem wD {o:Int} {l:List Int} {s:PS} (h:Good s) (ho:o=1∨o=6∨o=7∨o=8∨o=9∨o=12∨o=13∨o=14∨o=19∨o=20):Good (opP o [] l s).2:=wU h fun _ => .plain o l ho
theorem qRO {b:Int} {s:PS} (h:Good s):Good (upP b s):=kG ⟨h.toks,h.nds⟩
theorem qIN {b:Int} {s:PS} (h:Good s):Good (yN b s):=⟨h.toks,h.nds⟩
theorem zBK {w:List UInt8} {s:PS} (h:Good s):Good (jG w s).2:=by
 unfold jG
 split
 ·exact wU (kG h) fun hb=>by simp [qK] at hb
 split
 ·rename_i c
  refine wU (yF (uQ (yF h))) fun hb => ?_
  have b1:=nbP (qU _ _ _) hb
  obtain ⟨g1,g2⟩:=vP (yF h) b1
  exact .call2 w _ _ c (g1.2.1 (.inr (by simpa using g2)))
 rename_i c1 c2
 refine wU h fun _ => .call1 w _ ?_
 unfold kS at c1 c2 ⊢
 split
 ·rfl
 rename_i c3
 rw [if_neg c3] at c1 c2
 split
 ·rename_i c4; rw [if_pos c4] at c2; exact absurd rfl c2
 rename_i c4; rw [if_neg c4] at c1; exact absurd rfl c1
theorem zG {p:Prop} [Decidable p] {α:Type} {a b:α × PS} (ha:p→Good a.2) (hb:¬ p→Good b.2):Good (if p then a else b).2:=by split <;> simp_all
structure GoodAll (n:Nat):Prop where
 pipe:∀ s,Good s→Good (zF n s).2
 deeper:∀ b s,Good s→Good (qW n b s).2
 closed:∀ w s,Good s→Good (qQ n w s).2
 inside:∀ s,Good s→Good (zB n s).2
 bound:∀ i s,i≤6→Good s→Good (qL n i s).2
 bloop:∀ i a s,i≤5→Good s→Good (wO n i a s).2
 post:∀ s,Good s→Good (wQ n s).2
 ploop:∀ a s,Good s→Good (zW n a s).2
 term:∀ s,Good s→Good (zM n s).2
 named:∀ w s,Good s→Good (zS n w s).2
 choice:∀ s,Good s→Good (wB n s).2
 reduce:∀ s,Good s→Good (zY n s).2
 limit:∀ s,Good s→Good (wV n s).2
 maps:∀ s,Good s→Good (kC n s).2
 selects:∀ s,Good s→Good (zO n s).2
 signed:∀ w s,Good s→Good (zJ n w s).2
 object:∀ s,Good s→Good (zZ n s).2
 oloop:∀ ks vs s,Good s→(∀ k∈ks,jJ k)→ks.Nodup→Good (wG n ks vs s).2∧((wG n ks vs s).2.bad=false→(∀ k∈(wG n ks vs s).1.1,jJ k)∧(wG n ks vs s).1.1.Nodup)
theorem zDF {k:Int} {l:List (List UInt8)} {s:PS} (h:(qT k l s).1.2=true):(qT k l s).1.1∈l:=by
 have h1:=(uI (f:=wH k l) (s:=s) h).2.2.2.2.2.2
 unfold wH at h1
 simp only [Bool.and_eq_true,decide_eq_true_eq] at h1
 exact h1.2
theorem qUZ:∀ n,GoodAll n
 | 0=>by
  constructor
  all_goals try (intros; rename_i h; simp only [zF,qW,qQ,zB,qL,wO,wQ,zW,zM,zS,wB,zY,wV,kC,zO,zJ,zZ]; exact kG h)
  intro ks vs s h hk hn
  simp only [wG]
  exact ⟨kG h,fun hb=>⟨hk,hn⟩⟩
 | n+1=>by
  have ih:=qUZ n
  have mo:=zK n
  constructor
  ·intro s h
   simp only [zF]
   have h1:=ih.bound 0 s (by omega) h
   refine zG (fun _=>wD (ih.pipe _ (wX h1)) (by omega)) fun _ => ?_
   refine zG (fun _ => ?_) fun _=>wX (wX h1)
   have h2:=wX (k:=1) (l:=[[97,115]]) (wX (k:=6) (l:=[[124]]) h1)
   refine wU (ih.deeper _ _ (yF (uQ h2))) fun hb => ?_
   have b1:=nbP (qU _ _ _) (nbP (mo.deeper 0 _ (by omega)) hb)
   obtain ⟨g1,g2⟩:=vP h2 b1
   exact .name 16 _ _ (by omega) (g1.1 (.inr (by simpa using g2)))
  ·intro b s h
   simp only [qW]
   exact zG (fun _=>qRO h) fun _=>qIN (ih.pipe _ (qRO h))
  ·intro w s h
   simp only [qQ]
   exact yF (ih.deeper _ _ h)
  ·intro s h
   simp only [zB]
   exact ih.closed _ _ (yF h)
  ·intro i s hi h
   simp only [qL]
   exact zG (fun _=>ih.post _ h) fun c=>ih.bloop _ _ _ (by omega) (ih.bound _ _ (by omega) h)
  ·intro i a s hi h
   simp only [wO]
   refine zG (fun _=>h) fun _ => ?_
   refine zG (fun _=>wX h) fun c => ?_
   have hm:=zDF (k:=lvK i) (l:=zI i) (s:=s) (by simpa using c)
   have h2:Good (opP (yU i) (if yU i=8 then [] else (qT (lvK i) (zI i) s).1.1) [a,(qL n (i+1) (qT (lvK i) (zI i) s).2).1] (qL n (i+1) (qT (lvK i) (zI i) s).2).2).2:=by
    refine wU (ih.bound _ _ (by omega) (wX h)) fun _ => ?_
    by_cases h0:i=0
    ·subst h0; exact .plain 8 _ (by omega)
    have e:yU i=11:=by unfold yU; rw [if_neg h0]
    rw [e,if_neg (by decide)]
    exact .two i _ _ (by omega) hm
   exact zG (fun _=>h2) fun _=>ih.bloop _ _ _ hi h2
  ·intro s h
   simp only [wQ]
   exact ih.ploop _ _ (ih.term _ h)
  ·intro a s h
   simp only [zW]
   refine zG (fun _=>h) fun _ => ?_
   refine zG (fun c => ?_) fun _ => ?_
   ·obtain ⟨g1,g2⟩:=qMU h c
    exact ih.ploop _ _ (wU (qBM h) fun _ => .key _ _ (g1.2.1 (.inl (by simpa using g2))))
   have h1:=qBM (f:=fun t=>decide (t.kind=3)) h
   refine zG (fun _=>wX h1) fun _ => ?_
   have h2:=wX (k:=6) (l:=[[93]]) (wX (k:=6) (l:=[[91]]) h1)
   refine zG (fun _=>ih.ploop _ _ (wD h2 (by omega))) fun _ => ?_
   have h3:=wX (k:=6) (l:=[[45]]) h2
   refine ih.ploop _ _ (wU (yF (qMT h3)) fun hb => ?_)
   have b1:=nbP (qU _ _ _) hb
   have:=qJP h3 b1
   split
   ·exact .at_ _ _ (by omega) (by omega)
   exact .at_ _ _ (by omega) (by omega)
  ·intro s h
   simp only [zM]
   have h1:=kG (ok:=(qP (fun _=>true) s).1.2) (qBM (f:=fun _=>true) h)
   have hg:(qK (qP (fun _=>true) s).1.2 (qP (fun _=>true) s).2).bad=false→qMV (qP (fun _=>true) s).1.1:=fun hb=>(qMU h (qAO hb).2).1
   refine zG (fun _=>ih.named _ _ h1) fun _ => ?_
   refine zG (fun c=>wU h1 fun hb => .name 3 _ _ (by omega) ((hg hb).1 (.inr c))) fun _ => ?_
   refine zG (fun c=>wU (wD h1 (by omega)) fun hb => .key _ _ ((hg hb).2.1 (.inl c))) fun _ => ?_
   refine zG (fun c=>wU h1 fun hb => .num _ _ ((hg hb).2.2 c).1) fun _ => ?_
   refine zG (fun c=>wU h1 fun hb => .txt _ _ ((hg hb).2.1 (.inr c))) fun _ => ?_
   exact ih.signed _ _ h1
  ·intro w s h
   simp only [zS]
   refine zG (fun _=>wU h fun _ => .lit 1 _ (by omega)) fun _ => ?_
   refine zG (fun _=>wU h fun _ => .lit 3 _ (by omega)) fun _ => ?_
   refine zG (fun _=>wU h fun _ => .lit 2 _ (by omega)) fun _ => ?_
   refine zG (fun _=>wD h (by omega)) fun _ => ?_
   refine zG (fun _=>ih.choice _ h) fun _ => ?_
   refine zG (fun _=>wD (ih.post _ h) (by omega)) fun _ => ?_
   refine zG (fun _=>wD (ih.inside _ h) (by omega)) fun _ => ?_
   refine zG (fun _=>wD (ih.inside _ h) (by omega)) fun _ => ?_
   refine zG (fun _=>ih.reduce _ h) fun _ => ?_
   refine zG (fun _=>ih.limit _ h) fun _ => ?_
   refine zG (fun _=>wU (ih.inside _ h) fun _ => .lim 1 _ (by omega) (by omega)) fun _ => ?_
   refine zG (fun _=>ih.maps _ h) fun _ => ?_
   refine zG (fun _=>ih.selects _ h) fun _ => ?_
   exact zBK h
  ·intro s h
   simp only [wB]
   refine wD (qIN (yF (ih.deeper _ _ (yF (ih.deeper _ _ (yF (ih.deeper _ _ ?_))))))) (by omega)
   exact ⟨h.toks,h.nds⟩
  ·intro s h
   simp only [zY]
   have h1:=yF (k:=1) (w:=[97,115]) (ih.post _ h)
   refine wU (ih.closed _ _ (ih.closed _ _ (yF (uQ h1)))) fun hb => ?_
   have b1:=nbP (qU _ _ _) (nbP (mo.closed _ _) (nbP (mo.closed _ _) hb))
   obtain ⟨g1,g2⟩:=vP h1 b1
   exact .name 15 _ _ (by omega) (g1.1 (.inr (by simpa using g2)))
  ·intro s h
   simp only [wV]
   have h1:=yF (k:=6) (w:=[40]) h
   refine wU (ih.closed _ _ (yF (qMT h1))) fun hb => ?_
   have b1:=nbP (qU _ _ _) (nbP (mo.closed _ _) hb)
   have:=qJP h1 b1
   exact .lim _ _ (by omega) (by omega)
  ·intro s h
   simp only [kC]
   exact wD (wD (ih.inside _ (wD (wD h (by omega)) (by omega))) (by omega)) (by omega)
  ·intro s h
   simp only [zO]
   exact wD (wD (wD (ih.inside _ h) (by omega)) (by omega)) (by omega)
  ·intro w s h
   simp only [zJ]
   refine zG (fun _=>wD h (by omega)) fun _ => ?_
   refine zG (fun _=>wU (uQ h) fun hb => .num _ _ ?_) fun _ => ?_
   ·obtain ⟨g1,g2⟩:=vP h hb
    obtain ⟨g3,g4⟩:=g1.2.2 (by simpa using g2)
    unfold yO at g3 ⊢
    generalize (zD [4] s).1.num=d at *
    simp only [Bool.and_eq_true] at g3 ⊢
    refine ⟨g3.1, ?_⟩
    by_cases e:d.digits=[48]
    ·rw [if_pos e] at g3 ⊢; simp [e] at g3 ⊢; exact g3.2.1
    rw [if_neg e] at g3 ⊢; exact g3.2
   refine zG (fun _=>ih.closed _ _ h) fun _ => ?_
   refine zG (fun _ => ?_) fun _ => ?_
   ·exact zG (fun _=>wD (wX h) (by omega)) fun _=>wD (ih.closed _ _ (wX h)) (by omega)
   refine zG (fun _=>ih.object _ h) fun _=>kG h
  ·intro s h
   simp only [zZ]
   refine zG (fun _=>wU (wX h) fun _ => .obj [] _ (fun k hk=>by cases hk) List.nodup_nil) fun _ => ?_
   obtain ⟨g1,g2⟩:=ih.oloop [] [] _ (qRO (b:=1) (wX (k:=6) (l:=[[125]]) h)) (fun k hk=>by cases hk) List.nodup_nil
   exact wU (qIN g1) fun hb => .obj _ _ (g2 hb).1 (g2 hb).2
  intro ks vs s h hk hn
  simp only [wG]
  split
  ·exact ⟨h,fun _=>⟨hk,hn⟩⟩
  have h1:=kG (ok:=decide ((zD [1,5] s).1.text ∉ ks)) (yF (k:=6) (w:=[58]) (uQ (ks:=[1,5]) h))
  split
  ·exact ⟨h1,fun _=>⟨hk,hn⟩⟩
  rename_i c
  have c':=qAO (Bool.eq_false_iff.2 c)
  have b1:=nbP (qU _ _ _) c'.1
  have hnew:(zD [1,5] s).1.text ∉ ks:=by simpa using c'.2
  obtain ⟨g1,g2⟩:=vP h b1
  have hok:jJ (zD [1,5] s).1.text:=by
   simp only [List.mem_cons,List.not_mem_nil,or_false] at g2
   rcases g2 with g2 | g2
   ·exact qGY (g1.1 (.inl g2))
   exact g1.2.1 (.inr g2)
  have hk2:∀ k∈ks++[(zD [1,5] s).1.text],jJ k:=fun k hx=>by
   rcases List.mem_append.1 hx with hx | hx
   ·exact hk k hx
   rw [List.mem_singleton.1 hx]; exact hok
  have hn2:(ks++[(zD [1,5] s).1.text]).Nodup:=by
   rw [List.nodup_append]
   exact ⟨hn,by simp,fun a ha b hb=>by rw [List.mem_singleton.1 hb]; rintro rfl; exact hnew ha⟩
  have h2:=wX (k:=6) (l:=[[125],[44]]) (ih.bound 1 _ (by omega) h1)
  split
  ·exact ⟨kG h2,fun _=>⟨hk2,hn2⟩⟩
  exact ih.oloop _ _ _ (kG h2) hk2 hn2
theorem zDI {l:List Tok} (h:∀ t∈l,qMV t):∀ x∈(vN l).1,NdOK x:=by
 have hg:=(qUZ (20 * l.length+20)).pipe ⟨l,[],0,false⟩ ⟨h,fun _ x hx=>by cases hx⟩
 unfold vN
 simp only
 generalize (zF (20 * l.length+20) ⟨l,[],0,false⟩).2=s at *
 split
 ·intro x hx; cases hx
 rename_i c
 split
 ·intro x hx; cases hx
 exact hg.nds (by simp only [not_or] at c; simpa using c.1)
theorem zAB (s:List UInt8):∀ x∈(yG s).1,NdOK x:=by
 unfold yG
 split
 ·refine zDI ?_
  unfold qBJ
  split
  ·intro t ht; cases ht
  cases e:wS (s.length+1) 0 s with
  | none=>intro t ht; cases ht
  | some l =>
   simp only
   split
   ·intro t ht; cases ht
   exact qUY _ _ _ _ e
 intro x hx; cases hx
end Go.Proofs.YtbhhphabggcacaaGreatDoor
