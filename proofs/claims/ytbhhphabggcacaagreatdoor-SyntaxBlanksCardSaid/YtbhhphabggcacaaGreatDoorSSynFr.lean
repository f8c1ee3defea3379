import Derived.Test.YtbhhphabggcacaaGreatDoorK1
namespace Go.Proofs.YtbhhphabggcacaaGreatDoor
open Sy Go
set_option maxRecDepth 100000
set_option maxHeartbeats 1000000
set_option linter.unusedSimpArgs false
set_option linter.unusedVariables false
theorem nbP {c d:Nat} {s t:PS} (h:Le c d s t) (hb:t.bad=false):s.bad=false:=by
 cases e:s.bad with
 | false=>rfl
 | true=>rw [h.b0 e] at hb; exact hb
def apS (x:List Tok) (d:Int) (s:PS):PS:=⟨s.left++x,s.nodes,s.deep-d,s.bad⟩
theorem qRI {x:List Tok} {d:Int} {f:Tok→Bool} (hf:∀ t∈x,f t=false) (s:PS):qP f (apS x d s)=((qP f s).1,apS x d (qP f s).2):=by
 obtain ⟨l,ns,dp,b⟩:=s
 cases b with
 | true=>simp [qP,wZ,apS,qAG]
 | false =>
  cases l with
  | nil =>
   cases x with
   | nil=>simp [qP,wZ,apS,qAG]
   | cons t x =>
    have:=hf t (by simp)
    simp [qP,wZ,apS,this,qAG]
  | cons t l =>
   simp only [qP,wZ,apS,List.cons_append,List.headD_cons,Bool.false_eq_true,if_false,List.drop_succ_cons,List.drop_zero]
   by_cases c:t.kind=0∨f t=false
   ·rw [if_pos c,if_pos c]; rfl
   rw [if_neg c,if_neg c]
theorem qPJ {x:List Tok} {d:Int} {f:Tok→Bool} {s:PS} (h:(qP f s).1.2=true):qP f (apS x d s)=((qP f s).1,apS x d (qP f s).2):=by
 obtain ⟨l,ns,dp,b⟩:=s
 cases b with
 | true=>simp [qP,wZ,apS,qAG] at h
 | false =>
  cases l with
  | nil=>simp [qP,wZ,apS,qAG] at h
  | cons t l =>
   simp only [qP,wZ,apS,List.cons_append,List.headD_cons,Bool.false_eq_true,if_false,List.drop_succ_cons,List.drop_zero]
   by_cases c:t.kind=0∨f t=false
   ·rw [if_pos c,if_pos c]; rfl
   rw [if_neg c,if_neg c]
def Rps (x:List Tok):Prop:=∀ t∈x,t.kind=6∧t.text=[41]
theorem uG {x:List Tok} (hx:Rps x) {d:Int} {k:Int} {l:List (List UInt8)} (h:k≠6∨[41] ∉ l) (s:PS):qT k l (apS x d s)=((qT k l s).1,apS x d (qT k l s).2):=by
 have h1:∀ t∈x,wH k l t=false:=fun t ht=>by
  obtain ⟨a,b⟩:=hx t ht
  unfold wH
  rw [a,b]
  rcases h with h | h
  ·rw [decide_eq_false (fun e=>h e.symm)]; rfl
  rw [decide_eq_false h,Bool.and_false]
 unfold qT
 rw [qRI h1]
theorem zAD {x:List Tok} {d:Int} {k:Int} {l:List (List UInt8)} {s:PS} (h:(qT k l s).1.2=true):qT k l (apS x d s)=((qT k l s).1,apS x d (qT k l s).2):=by
 have h1:(qP (wH k l) s).1.2=true:=h
 unfold qT
 rw [qPJ h1]
theorem qCD (x:List Tok) (d:Int) (ok:Bool) (s:PS):qK ok (apS x d s)=apS x d (qK ok s):=rfl
theorem qAO {ok:Bool} {s:PS} (h:(qK ok s).bad=false):s.bad=false∧ok=true:=by
 unfold qK at h; simpa using h
theorem jM {x:List Tok} {d:Int} {k:Int} {w:List UInt8} {s:PS} (h:(zA k w s).bad=false):zA k w (apS x d s)=apS x d (zA k w s):=by
 have:=(qAO h).2
 unfold zA
 rw [zAD this,qCD]
theorem qEM {x:List Tok} (hx:Rps x) {d:Int} {ks:List Int} (h:(6:Int) ∉ ks) (s:PS):zD ks (apS x d s)=((zD ks s).1,apS x d (zD ks s).2):=by
 have h1:∀ t∈x,(fun t:Tok=>decide (t.kind∈ks)) t=false:=fun t ht=>by
  simp only
  rw [(hx t ht).1]; exact decide_eq_false h
 unfold zD
 rw [qRI h1,qCD]
theorem qSN {x:List Tok} (hx:Rps x) {d:Int} (s:PS):wY (apS x d s)=((wY s).1,apS x d (wY s).2):=by
 unfold wY
 rw [qEM hx (by decide),qCD]
theorem qDG (x:List Tok) (d:Int) (y:Nd) (s:PS):wF y (apS x d s)=((wF y s).1,apS x d (wF y s).2):=rfl
theorem qGV (x:List Tok) (d:Int) (o:Int) (t:List UInt8) (l:List Int) (s:PS):opP o t l (apS x d s)=((opP o t l s).1,apS x d (opP o t l s).2):=rfl
theorem zJP {x:List Tok} {d:Int} (hd:0≤d) {b:Int} {s:PS} (h:(upP b s).bad=false):upP b (apS x d s)=apS x d (upP b s):=by
 unfold upP qK at h
 simp only [Bool.or_eq_false_iff,Bool.not_eq_false',decide_eq_true_eq] at h
 unfold upP qK apS
 simp only [PS.mk.injEq,true_and,h.1,Bool.false_or]
 refine ⟨by omega, ?_⟩
 rw [decide_eq_true (by omega),decide_eq_true (by omega)]
theorem qRV (x:List Tok) (d b:Int) (s:PS):yN b (apS x d s)=apS x d (yN b s):=by
 unfold yN apS
 simp only [PS.mk.injEq,true_and,and_true]
 omega
theorem zIU (x:List Tok) (d:Int) (s:PS):({ apS x d s with deep:=(apS x d s).deep+1 }:PS)=apS x d { s with deep:=s.deep+1 }:=by
 unfold apS
 simp only [PS.mk.injEq,true_and,and_true]
 omega
theorem zIZ {x:List Tok} (hx:Rps x) {d:Int} {w:List UInt8} {s:PS} (h:(jG w s).2.bad=false):jG w (apS x d s)=((jG w s).1,apS x d (jG w s).2):=by
 unfold jG at h ⊢
 by_cases c:kS w=0
 ·rw [if_pos c] at h ⊢; rw [if_pos c,qCD,qDG]
 rw [if_neg c] at h ⊢
 rw [if_neg c]
 by_cases e:kS w=2
 ·rw [if_pos e] at h ⊢
  rw [if_pos e]
  have b1:(zA 6 [41] (zD [5] (zA 6 [40] s)).2).bad=false:=h
  have b2:=nbP (kK _ _) (nbP (qU _ _ _) b1)
  rw [jM b2,qEM hx (by decide)]
  simp only
  rw [jM b1,qDG]
 rw [if_neg e]
 rw [if_neg e,qDG]
theorem wT {α:Type} {p:Prop} [Decidable p] {x:List Tok} {d:Int} {a b a' b':α × PS} (ha:a.2.bad=false→a'=(a.1,apS x d a.2)) (hb:b.2.bad=false→b'=(b.1,apS x d b.2)):(if p then a else b).2.bad=false→(if p then a' else b')=((if p then a else b).1,apS x d (if p then a else b).2):=by split <;> assumption
structure FrAll (x:List Tok) (d:Int) (n:Nat):Prop where
 pipe:∀ m,n≤m→∀ s,(zF n s).2.bad=false→zF m (apS x d s)=((zF n s).1,apS x d (zF n s).2)
 deeper:∀ m,n≤m→∀ b s,(qW n b s).2.bad=false→qW m b (apS x d s)=((qW n b s).1,apS x d (qW n b s).2)
 closed:∀ m,n≤m→∀ w s,(qQ n w s).2.bad=false→qQ m w (apS x d s)=((qQ n w s).1,apS x d (qQ n w s).2)
 inside:∀ m,n≤m→∀ s,(zB n s).2.bad=false→zB m (apS x d s)=((zB n s).1,apS x d (zB n s).2)
 bound:∀ m,n≤m→∀ i s,(qL n i s).2.bad=false→qL m i (apS x d s)=((qL n i s).1,apS x d (qL n i s).2)
 bloop:∀ m,n≤m→∀ i a s,(wO n i a s).2.bad=false→wO m i a (apS x d s)=((wO n i a s).1,apS x d (wO n i a s).2)
 post:∀ m,n≤m→∀ s,(wQ n s).2.bad=false→wQ m (apS x d s)=((wQ n s).1,apS x d (wQ n s).2)
 ploop:∀ m,n≤m→∀ a s,(zW n a s).2.bad=false→zW m a (apS x d s)=((zW n a s).1,apS x d (zW n a s).2)
 term:∀ m,n≤m→∀ s,(zM n s).2.bad=false→zM m (apS x d s)=((zM n s).1,apS x d (zM n s).2)
 named:∀ m,n≤m→∀ w s,(zS n w s).2.bad=false→zS m w (apS x d s)=((zS n w s).1,apS x d (zS n w s).2)
 choice:∀ m,n≤m→∀ s,(wB n s).2.bad=false→wB m (apS x d s)=((wB n s).1,apS x d (wB n s).2)
 reduce:∀ m,n≤m→∀ s,(zY n s).2.bad=false→zY m (apS x d s)=((zY n s).1,apS x d (zY n s).2)
 limit:∀ m,n≤m→∀ s,(wV n s).2.bad=false→wV m (apS x d s)=((wV n s).1,apS x d (wV n s).2)
 maps:∀ m,n≤m→∀ s,(kC n s).2.bad=false→kC m (apS x d s)=((kC n s).1,apS x d (kC n s).2)
 selects:∀ m,n≤m→∀ s,(zO n s).2.bad=false→zO m (apS x d s)=((zO n s).1,apS x d (zO n s).2)
 signed:∀ m,n≤m→∀ w s,(zJ n w s).2.bad=false→zJ m w (apS x d s)=((zJ n w s).1,apS x d (zJ n w s).2)
 object:∀ m,n≤m→∀ s,(zZ n s).2.bad=false→zZ m (apS x d s)=((zZ n s).1,apS x d (zZ n s).2)
 oloop:∀ m,n≤m→∀ ks vs s,(wG n ks vs s).2.bad=false→wG m ks vs (apS x d s)=((wG n ks vs s).1,apS x d (wG n ks vs s).2)
theorem zBC (i:Nat):([41]:List UInt8) ∉ zI i:=by
 unfold zI
 split <;> decide
theorem qMY {x:List Tok} (hx:Rps x) {d:Int} (hd:0≤d):∀ n,FrAll x d n
 | 0=>by
  constructor <;> intros <;> rename_i hb <;> simp only [zF,qW,qQ,zB,qL,wO,wQ,zW,zM,zS,wB,zY,wV,kC,zO,zJ,zZ,wG,qK,Bool.not_false,Bool.or_true] at hb <;> cases hb
 | n+1=>by
  have ih:=qMY hx hd n
  have mo:=zK n
  constructor <;> intro m hm <;> (obtain ⟨m,rfl⟩:∃ m',m=m'+1:=⟨m-1,by omega⟩) <;> have hm:n≤m:=by omega
  ·intro s hb
   simp only [zF] at hb ⊢
   have b1:(qL n 0 s).2.bad=false:=by
    split at hb
    ·exact nbP (zP _ _ _) (nbP (mo.pipe _) hb)
    split at hb
    ·exact nbP (zP _ _ _) (nbP (zP _ _ _) (nbP (kK _ _) (nbP (qU _ _ _) (nbP (mo.deeper 0 _ (by omega)) hb))))
    exact nbP (zP _ _ _) (nbP (zP _ _ _) hb)
   rw [ih.bound m hm 0 s b1]
   simp only
   rw [uG hx (.inr (by decide))]
   simp only
   by_cases c:(qT 6 [[124]] (qL n 0 s).2).1.2=true
   ·rw [if_pos c] at hb ⊢
    rw [if_pos c,ih.pipe m hm _ hb]
    rfl
   rw [if_neg c] at hb ⊢
   rw [if_neg c,uG hx (.inl (by decide))]
   simp only
   by_cases e:(qT 1 [[97,115]] (qT 6 [[124]] (qL n 0 s).2).2).1.2=true
   ·rw [if_pos e] at hb ⊢
    rw [if_pos e,qEM hx (by decide)]
    simp only
    have b3:(qW n 0 (zA 6 [124] (zD [2] (qT 1 [[97,115]] (qT 6 [[124]] (qL n 0 s).2).2).2).2)).2.bad=false:=hb
    rw [jM (nbP (mo.deeper 0 _ (by omega)) b3),ih.deeper m hm _ _ b3]
    rfl
   rw [if_neg e] at hb ⊢
   rw [if_neg e]
  ·intro b s hb
   simp only [qW] at hb ⊢
   by_cases c:(upP b s).bad=true
   ·rw [if_pos c] at hb; simp only at hb; rw [c] at hb; cases hb
   rw [if_neg c] at hb ⊢
   have c':(upP b s).bad=false:=by simpa using c
   rw [zJP hd c']
   rw [if_neg (show ¬ (apS x d (upP b s)).bad=true from c),ih.pipe m hm _ hb]
   simp only
   rw [qRV]
  ·intro w s hb
   simp only [qQ] at hb ⊢
   rw [ih.deeper m hm _ _ (nbP (qU _ _ _) hb)]
   simp only
   rw [jM hb]
  ·intro s hb
   simp only [zB] at hb ⊢
   rw [jM (nbP (mo.closed _ _) hb),ih.closed m hm _ _ hb]
  ·intro i s
   simp only [qL]
   refine wT (ih.post m hm s) fun hb => ?_
   rw [ih.bound m hm _ _ (nbP (mo.bloop _ _ _) hb)]
   simp only
   exact ih.bloop m hm _ _ _ hb
  ·intro i a s hb
   simp only [wO] at hb ⊢
   by_cases c:s.bad=true
   ·rw [if_pos c] at hb; simp only at hb; rw [c] at hb; cases hb
   rw [if_neg c] at hb ⊢
   rw [if_neg (show ¬ (apS x d s).bad=true from c),uG hx (.inr (zBC i))]
   simp only
   revert hb
   refine wT (fun _=>rfl) fun hb => ?_
   have b1:(qL n (i+1) (qT (lvK i) (zI i) s).2).2.bad=false:=by
    split at hb
    ·exact hb
    exact nbP (wW _ _ _ _) (nbP (mo.bloop _ _ _) hb)
   rw [ih.bound m hm _ _ b1]
   simp only [qGV]
   revert hb
   refine wT (fun _=>rfl) fun hb => ?_
   exact ih.bloop m hm _ _ _ hb
  ·intro s hb
   simp only [wQ] at hb ⊢
   rw [ih.term m hm _ (nbP (mo.ploop _ _) hb)]
   simp only
   exact ih.ploop m hm _ _ hb
  ·intro a s hb
   simp only [zW] at hb ⊢
   by_cases c:s.bad=true
   ·rw [if_pos c] at hb; simp only at hb; rw [c] at hb; cases hb
   rw [if_neg c] at hb ⊢
   rw [if_neg (show ¬ (apS x d s).bad=true from c),qRI (f:=fun t=>decide (t.kind=3)) (fun t ht=>by rw [(hx t ht).1]; decide)]
   simp only [qGV]
   revert hb
   refine wT (fun hb=>ih.ploop m hm _ _ hb) ?_
   rw [uG hx (.inr (by decide))]
   simp only
   refine wT (fun _=>rfl) ?_
   rw [uG hx (.inr (by decide))]
   simp only [qGV]
   refine wT (fun hb=>ih.ploop m hm _ _ hb) fun hb => ?_
   rw [uG hx (.inr (by decide))]
   simp only
   rw [qSN hx]
   simp only
   rw [jM (nbP (kP _ _) (nbP (mo.ploop _ _) hb)),qDG]
   simp only
   exact ih.ploop m hm _ _ hb
  ·intro s hb
   simp only [zM] at hb ⊢
   have c:(qP (fun _=>true) s).1.2=true:=by
    refine (qAO (s:=(qP (fun _=>true) s).2) (nbP (c:=2) (d:=4) ?_ hb)).2
    refine jK (mo.named _ _) ?_
    refine jK ((wW _ _ _ _).mono (by omega) (by omega)) ?_
    refine jK (((wW _ _ _ _).trans (wW _ _ _ _)).mono (by omega) (by omega)) ?_
    refine jK ((kP _ _).mono (by omega) (by omega)) ?_
    refine jK ((kP _ _).mono (by omega) (by omega)) ?_
    exact (mo.signed _ _).mono (by omega) (by omega)
   rw [qPJ c]
   simp only [qCD,qGV,qDG]
   revert hb
   refine wT (ih.named m hm _ _) ?_
   refine wT (fun _=>rfl) ?_
   refine wT (fun _=>rfl) ?_
   refine wT (fun _=>rfl) ?_
   refine wT (fun _=>rfl) ?_
   exact ih.signed m hm _ _
  ·intro w s
   simp only [zS,qGV,qDG]
   refine wT (fun _=>rfl) ?_
   refine wT (fun _=>rfl) ?_
   refine wT (fun _=>rfl) ?_
   refine wT (fun _=>rfl) ?_
   refine wT (ih.choice m hm _) ?_
   refine wT (fun hb=>by rw [ih.post m hm _ hb]; rfl) ?_
   refine wT (fun hb=>by rw [ih.inside m hm _ hb]; rfl) ?_
   refine wT (fun hb=>by rw [ih.inside m hm _ hb]; rfl) ?_
   refine wT (ih.reduce m hm _) ?_
   refine wT (ih.limit m hm _) ?_
   refine wT (fun hb=>by rw [ih.inside m hm _ hb]; rfl) ?_
   refine wT (ih.maps m hm _) ?_
   refine wT (ih.selects m hm _) ?_
   exact zIZ hx
  ·intro s hb
   simp only [wB] at hb ⊢
   rw [zIU]
   have b5:(zA 1 [101,110,100] (qW n 0 (zA 1 [101,108,115,101] (qW n 0 (zA 1 [116,104,101,110] (qW n 0 { s with deep:=s.deep+1 }).2)).2)).2).bad=false:=hb
   have b4:=nbP (qU _ _ _) b5
   have b3:=nbP (mo.deeper 0 _ (by omega)) b4
   have b2:=nbP (qU _ _ _) b3
   have b1:=nbP (mo.deeper 0 _ (by omega)) b2
   have b0:=nbP (qU _ _ _) b1
   rw [ih.deeper m hm _ _ b0]
   simp only
   rw [jM b1,ih.deeper m hm _ _ b2]
   simp only
   rw [jM b3,ih.deeper m hm _ _ b4]
   simp only
   rw [jM b5,qRV,qGV]
  ·intro s hb
   simp only [zY] at hb ⊢
   have b6:(qQ n [41] (qQ n [59] (zA 6 [40] (zD [2] (zA 1 [97,115] (wQ n s).2)).2)).2).2.bad=false:=hb
   have b5:=nbP (mo.closed _ _) b6
   have b4:=nbP (mo.closed _ _) b5
   have b3:=nbP (qU _ _ _) b4
   have b2:=nbP (kK _ _) b3
   have b1:=nbP (qU _ _ _) b2
   rw [ih.post m hm _ b1]
   simp only
   rw [jM b2,qEM hx (by decide)]
   simp only
   rw [jM b4,ih.closed m hm _ _ b5]
   simp only
   rw [ih.closed m hm _ _ b6]
   rfl
  ·intro s hb
   simp only [wV] at hb ⊢
   have b4:(qQ n [41] (zA 6 [59] (wY (zA 6 [40] s)).2)).2.bad=false:=hb
   have b3:=nbP (mo.closed _ _) b4
   have b2:=nbP (qU _ _ _) b3
   have b1:=nbP (uS _) b2
   rw [jM b1,qSN hx]
   simp only
   rw [jM b3,ih.closed m hm _ _ b4]
   rfl
  ·intro s hb
   simp only [kC,qGV] at hb ⊢
   have b1:(zB n (opP 6 [] [(opP 1 [] [] s).1] (opP 1 [] [] s).2).2).2.bad=false:=hb
   rw [ih.inside m hm _ b1]
   rfl
  ·intro s hb
   simp only [zO] at hb ⊢
   have b1:(zB n s).2.bad=false:=hb
   rw [ih.inside m hm _ b1]
   rfl
  ·intro w s
   simp only [zJ,qGV]
   refine wT (fun _=>rfl) ?_
   refine wT (fun hb=>by rw [qEM hx (by decide)]; rfl) ?_
   refine wT (ih.closed m hm _ _) ?_
   refine wT ?_ ?_
   ·rw [uG hx (.inr (by decide))]
    simp only [qGV]
    refine wT (fun _=>rfl) fun hb => ?_
    rw [ih.closed m hm _ _ hb]
    rfl
   refine wT (ih.object m hm _) ?_
   exact fun _=>rfl
  ·intro s hb
   simp only [zZ] at hb ⊢
   rw [uG hx (.inr (by decide))]
   simp only [qDG]
   revert hb
   refine wT (fun _=>rfl) fun hb => ?_
   have b1:(wG n [] [] (upP 1 (qT 6 [[125]] s).2)).2.bad=false:=hb
   rw [zJP hd (nbP (mo.oloop _ _ _) b1),ih.oloop m hm _ _ _ b1]
   simp only
   rw [qRV,qDG]
  intro ks vs s hb
  simp only [wG] at hb ⊢
  by_cases c:s.bad=true
  ·rw [if_pos c] at hb; simp only at hb; rw [c] at hb; cases hb
  rw [if_neg c] at hb ⊢
  rw [if_neg (show ¬ (apS x d s).bad=true from c),qEM hx (by decide)]
  simp only
  by_cases e:(qK (decide ((zD [1,5] s).1.text ∉ ks)) (zA 6 [58] (zD [1,5] s).2)).bad=true
  ·rw [if_pos e] at hb; simp only at hb; rw [e] at hb; cases hb
  rw [if_neg e] at hb ⊢
  have e':(qK (decide ((zD [1,5] s).1.text ∉ ks)) (zA 6 [58] (zD [1,5] s).2)).bad=false:=by simpa using e
  rw [jM (qAO e').1,qCD,if_neg (show ¬ (apS x d (qK (decide ((zD [1,5] s).1.text ∉ ks)) (zA 6 [58] (zD [1,5] s).2))).bad=true from e)]
  have b1:(qL n 1 (qK (decide ((zD [1,5] s).1.text ∉ ks)) (zA 6 [58] (zD [1,5] s).2))).2.bad=false:=by
   split at hb
   ·exact nbP (zP _ _ _) (qAO hb).1
   exact nbP (zP _ _ _) (qAO (nbP (mo.oloop _ _ _) hb)).1
  rw [ih.bound m hm _ _ b1]
  simp only
  rw [uG hx (.inr (by decide))]
  simp only [qCD]
  revert hb
  refine wT (fun _=>rfl) fun hb => ?_
  exact ih.oloop m hm _ _ _ hb
end Go.Proofs.YtbhhphabggcacaaGreatDoor
