import Derived.Test.YtgcbapchinideaaGreatDoorSUnN
import Derived.Test.YtgcbapchinideaaGreatDoorSKeysL
import Derived.Test.YtgcbapchinideaaGreatDoorSRefAdd
import Derived.Test.YtgcbapchinideaaGreatDoorSSameL
import Derived.Test.YtgcbapchinideaaGreatDoorSTreeLaw
namespace Go.Proofs.YtgcbapchinideaaGreatDoor
open Sy Go
set_option maxRecDepth 100000
set_option maxHeartbeats 4000000
set_option linter.unusedSimpArgs false
set_option linter.unusedVariables false
variable {G:qM}
theorem qVB {a x f c:Dc} {far:Bool} (hfar:far=true→0<a.scale) (hx:zC a far=(x,0)) (hf:zC a (a.neg && decide (0<a.scale))=(f,0)) (hc:zC a (!a.neg && decide (0<a.scale))=(c,0)):x=f∨x=c:=by
 by_cases h:far=(a.neg && decide (0<a.scale))
 ·left; rw [h] at hx; exact congrArg Prod.fst (hx.symm.trans hf)
 right
 have e:far=(!a.neg && decide (0<a.scale)):=by
  by_cases hs:0<a.scale
  ·cases hn:a.neg <;> cases far <;> simp [hn,hs] at h ⊢
  cases hn:a.neg <;> cases far <;> simp [hn,hs] at h hfar ⊢
 rw [e] at hx; exact congrArg Prod.fst (hx.symm.trans hc)
@[simp] theorem zED (d:Dc):(exN d).num=d:=rfl
theorem qFA (d:Dc):vM (d,0) 0=exN d:=rfl
theorem qYD {a b:Dc} (ha:qQ a=true):qKA (vD 0) [exN a,exN b]=yK a b:=by
 show (if (yK (vD 0) a).2≠0 then yK (vD 0) a else if (yK (yK (vD 0) a).1 b).2≠0 then yK (yK (vD 0) a).1 b else ((yK (yK (vD 0) a).1 b).1,0))=_
 rw [qTT ha]
 simp only [ne_eq,not_true_eq_false,if_false]
 by_cases h:(yK a b).2=0
 ·rw [if_neg (by simp [h])]; exact Prod.ext rfl h.symm
 rw [if_pos h]
theorem qXE {a b:Dc} (ha:qQ a=true):qOF [exN a,exN b] 0=vM (yK a b) 0:=by
 unfold qOF
 rw [if_neg (by simp),if_neg (by simp [qBQ,exN]),if_neg (by simp [qBQ,exN]),qYD ha]
theorem qOY {a:Dc} {W R:List UInt8} (ha:qQ a=true) (h:WholeP a W R):(zT a).length≤200:=by
 have:=h.wl.1
 have:=h.rl
 have:=yA ha
 rw [h.form]
 split <;> split <;> simp <;> omega
theorem qDQ (call:List UInt8) (hc:call=[102,108,111,111,114]∨call=[99,101,105,108]∨call=[114,111,117,110,100]) (v r:Val) (h:AFn Tryz.prog G 43 [.agg [.int .u64 v.mask],.str call,v.enc] r.enc):AFn Tryz.prog G 11 [.str call,.str [],v.enc] r.enc:=by
 rcases hc with rfl | rfl | rfl
 all_goals exact qCQ _ [] v r ⟨fun h=>absurd h (by decide),fun h=>absurd h (by decide),fun h=>absurd h (by decide),fun h=>absurd h (by decide),fun h=>absurd h (by decide),fun h=>absurd h (by decide),fun _=>h,fun h=>absurd h (by decide),fun h=>absurd h (by decide),fun h=>absurd h (by decide),fun h=>absurd h (by decide),fun h=>absurd (by decide) h⟩
theorem qTM (v r:Val) (h:AFn Tryz.prog G 45 [.agg [.int .u64 (wQ v)],v.enc] r.enc):AFn Tryz.prog G 11 [.str [116,111,106,115,111,110],.str [],v.enc] r.enc :=
 qCQ _ [] v r ⟨fun h=>absurd h (by decide),fun h=>absurd h (by decide),fun h=>absurd h (by decide),fun h=>absurd h (by decide),fun h=>absurd h (by decide),fun h=>absurd h (by decide),fun h=>absurd h (by decide),fun h=>absurd h (by decide),fun h=>absurd h (by decide),fun h=>absurd h (by decide),fun _=>h,fun h=>absurd (by decide) h⟩
theorem qQA (v r:Val) (hk:v.kind≠4) (h:AFn Tryz.prog G 42 [.agg [.int .u64 v.mask],.str [116,111,110,117,109,98,101,114],.str [],v.enc] r.enc):AFn Tryz.prog G 11 [.str [116,111,110,117,109,98,101,114],.str [],v.enc] r.enc :=
 qCQ _ [] v r ⟨fun h=>absurd h (by decide),fun h=>absurd h (by decide),fun h=>absurd h (by decide),fun h=>absurd h (by decide),fun h=>absurd h (by decide),fun _=>⟨fun e=>absurd e hk,fun _=>h⟩,fun h=>absurd h (by decide),fun h=>absurd h (by decide),fun h=>absurd h (by decide),fun h=>absurd h (by decide),fun h=>absurd h (by decide),fun h=>absurd (by decide) h⟩
theorem qSM (d:Dc) (R:List UInt8):qMR [102,108,111,111,114] d R=zC d (d.neg && decide (0<d.scale)):=by unfold qMR; rw [if_pos rfl]
theorem qUZ (d:Dc) (R:List UInt8):qMR [99,101,105,108] d R=zC d (!d.neg && decide (0<d.scale)):=by unfold qMR; rw [if_neg (by decide),if_pos rfl]
theorem qSL (d:Dc) (R:List UInt8):qMR [114,111,117,110,100] d R=zC d (decide ((53:Int)≤(R.getD 0 48).toNat)):=by unfold qMR; rw [if_neg (by decide),if_neg (by decide)]
theorem qSP (d:Dc):wQ (exN d)=0:=by rw [uW]; rfl
theorem qPA (a b : Dc) (ha : qQ a = true) (hb : qQ b = true) : ∃ f c r : Dc, qQ f = true ∧ qQ c = true ∧ f.scale = 0 ∧ c.scale = 0 ∧ (r = f ∨ r = c) ∧ qCP f a ≤ 0 ∧ qCP a c ≤ 0 ∧
  AFn Tryz.prog G 11 [.str [102,108,111,111,114],.str [],(exN a).enc] (exN f).enc ∧
  AFn Tryz.prog G 11 [.str [99,101,105,108],.str [],(exN a).enc] (exN c).enc ∧
  AFn Tryz.prog G 11 [.str [114,111,117,110,100],.str [],(exN a).enc] (exN r).enc ∧
  AFn Tryz.prog G 11 [.str [116,111,106,115,111,110],.str [],(exN a).enc] (Val.mk 5 0 dc0 (zT a) [] [] 0).enc ∧
  AFn Tryz.prog G 11 [.str [116,111,110,117,109,98,101,114],.str [],(Val.mk 5 0 dc0 (zT a) [] [] 0).enc] (exN a).enc ∧
  AFn Tryz.prog G 11 [.str [97,100,100],.str [],(Val.mk 6 0 dc0 [] [] [exN a,exN b] 0).enc] (vM (yK a b) 0).enc:=by
 obtain ⟨W,R,hp⟩:=qFJ ha
 have hF:=qIO hp ha
 obtain ⟨f,f1,f2,f3,_⟩:=jM ha (far:=a.neg && decide (0<a.scale)) (fun h=>by simp at h; exact h.2)
 obtain ⟨c,c1,c2,c3,_⟩:=jM ha (far := !a.neg && decide (0<a.scale)) (fun h=>by simp at h; exact h.2)
 obtain ⟨r,r1,r2,r3,_⟩:=jM ha (far:=decide ((53:Int)≤(R.getD 0 48).toNat)) hF
 obtain ⟨_,_,f4⟩:=qVX ha f1
 obtain ⟨_,_,c4⟩:=qYZ ha c1
 have hm:=qCK ha
 have hmb:=qCK hb
 have pl:=qOY ha hp
 refine ⟨f,c,r,f2,c2,f3,c3,qVB hF r1 f1 c1,f4,c4, ?_, ?_, ?_, ?_, ?_, ?_⟩
 ·have:=qDE (G:=G) [102,108,111,111,114] (exN a) 0 W R (fun _=>⟨ha,hp⟩)
  rw [if_pos (show (exN a).kind=4 from rfl),qSM,show (exN a).num=a from rfl,f1,qFA] at this
  exact qDQ _ (.inl rfl) _ _ this
 ·have:=qDE (G:=G) [99,101,105,108] (exN a) 0 W R (fun _=>⟨ha,hp⟩)
  rw [if_pos (show (exN a).kind=4 from rfl),qUZ,show (exN a).num=a from rfl,c1,qFA] at this
  exact qDQ _ (.inr (.inl rfl)) _ _ this
 ·have:=qDE (G:=G) [114,111,117,110,100] (exN a) 0 W R (fun _=>⟨ha,hp⟩)
  rw [if_pos (show (exN a).kind=4 from rfl),qSL,show (exN a).num=a from rfl,r1,qFA] at this
  exact qDQ _ (.inr (.inr rfl)) _ _ this
 ·have:=qVF (G:=G) (exN a) (wQ (exN a)) hm (by simp [exN,Val.sz,Val.szL])
  have e:qRE (exN a) (wQ (exN a))=Val.mk 5 0 dc0 (zT a) [] [] 0:=by
   unfold qRE
   rw [if_neg (by unfold xZ; simp [exN,qSJ]),show wQ (exN a)=0 from (by rw [uW]; rfl),show zB (exN a)=zT a from rfl,qOL (by omega)]
  rw [e] at this
  exact qTM _ _ this
 ·have:=qSU (G:=G) [] (Val.mk 5 0 dc0 (zT a) [] [] 0) 0 (fun _=>by show (zT a).length≤_; omega)
  rw [if_pos (show (Val.mk 5 0 dc0 (zT a) [] [] 0).kind=5 from rfl),show (Val.mk 5 0 dc0 (zT a) [] [] 0).text=zT a from rfl,qKJ ha,qFA] at this
  exact qQA _ _ (by simp) this
 have:=qEG (G:=G) [] (Val.mk 6 0 dc0 [] [] [exN a,exN b] 0) 0 (by simp) (by simp [exN,Lib.join]) (fun k hk=>by
  rcases List.mem_cons.1 hk with rfl | hk
  ·exact hm
  rw [List.mem_singleton.1 hk]; exact hmb)
 rw [if_pos (show (Val.mk 6 0 dc0 [] [] [exN a,exN b] 0).kind=6 from rfl),show (Val.mk 6 0 dc0 [] [] [exN a,exN b] 0).kids=[exN a,exN b] from rfl,qXE ha] at this
 have hd:wQ (Val.mk 6 0 dc0 [] [] [exN a,exN b] 0)=0:=by rw [uW]; simp [jY,qSP]; decide
 refine qNY _ _ ?_
 rw [hd]; exact this
theorem qEW (a b:Dc):AFn Tryz.prog G 7 [a.enc,b.enc] (.bool true):=by
 refine AFn.introU tok Tryz.func7 (by kernel_rfl) rfl rfl ?_
 simp only [Tryz.f7,qO,List.map_cons,List.map_nil]
 have hsh:=qOT (G:=G)
 have hma:=qDZ (G:=G) a
 have hmb:=qDZ (G:=G) b
 refine rgn [] [[],[],[2,3]] ?_
 iterate 3 refine op1 tok ?_
 refine qA (rgn [.nilp,.bool true] [[],[2,3,5]] ?_)
 iterate 2 refine oq1 tok hsh ?_
 refine qA (rgn [.nilp,.bool (qQ a)] [[],[],[2,3,5,6]] ?_)
 iterate 3 refine oq1 tok hma ?_
 refine qA (rgn [.nilp,.bool (qQ b)] [[],[],[2,3,5,6,7]] ?_)
 iterate 3 refine oq1 tok hmb ?_
 refine qA (AW.seq (rgn [] [[],[],[],[2,3,5,26,27],[],[2,3,5,29]] ?_))
 iterate 3 refine op1 tok ?_
 iterate 2 refine op2 tok ?_
 refine op1 tok ?_
 refine qA (cnd ?_ ?_)
 ·intro h29
  try simp at h29
  refine rgn [] [[],[4]] ?_
  iterate 2 refine op1 tok ?_
  exact qA (AW.ret qK)
 intro h29
 try simp at h29
 have hab:qQ a=true∧qQ b=true:=by
  cases h1:qQ a <;> cases h2:qQ b <;> simp [h1,h2] at h29 ⊢
 obtain ⟨ha,hb⟩:=hab
 obtain ⟨f,c,r,mf,mc,sf,sc,hor,lf,lc,kf,kc,kr,kj,kt,ka⟩:=qPA (G:=G) a b ha hb
 have hsame:=qOU (G:=G) (exN a) (qCK ha) (exN a)
 rw [qRZ] at hsame
 have had:=qZI (G:=G) a b (zJ ha).1 (zJ hb).1
 have hac:=qTV ha hb
 have hcf:=qFZ (G:=G) f a mf ha
 have hcc:=qFZ (G:=G) a c ha mc
 obtain ⟨⟨sd,sk⟩,hA⟩:∃ r,r=yK a b:=⟨_,rfl⟩
 rw [← hA] at had hac ka
 clear hA
 have hnv:∀ d,(exN d).enc = .agg [.int .i64 4,.int .u64 0,.bool d.neg,.str d.digits,.int .i64 d.scale,.str [],.sl 1 [],.sl 9 [],.int .i64 0]:=fun d=>by simp [Val.enc_def,exN]
 have hfv:(zO 3 0).enc = .agg [.int .i64 8,.int .u64 0,.bool false,.str [],.int .i64 0,.str [],.sl 1 [],.sl 9 [],.int .i64 3]:=by simp [Val.enc_def,zO,dc0]
 have htv:∀ t,(Val.mk 5 0 dc0 t [] [] 0).enc = .agg [.int .i64 5,.int .u64 0,.bool false,.str [],.int .i64 0,.str t,.sl 1 [],.sl 9 [],.int .i64 0]:=fun t=>by simp [Val.enc_def,dc0]
 have hlv:(Val.mk 6 0 dc0 [] [] [exN a,exN b] 0).enc = .agg [.int .i64 6,.int .u64 0,.bool false,.str [],.int .i64 0,.str [],.sl 1 [],.sl 9 [(exN a).enc,(exN b).enc],.int .i64 0]:=by simp [Val.enc_def (Val.mk 6 0 dc0 [] [] [exN a,exN b] 0),dc0]
 rw [hlv] at ka
 rw [htv] at kj kt
 generalize zT a=PT at *
 have hS:(sk=0∧vM (sd,sk) 0=exN sd)∨(sk=3∧vM (sd,sk) 0=zO 3 0):=by
  rcases hac with h | h
  ·exact .inl ⟨h,by rw [show sk=0 from h]; rfl⟩
  exact .inr ⟨h,by rw [show sk=3 from h]; rfl⟩
 generalize vM (sd,sk) 0=S at *
 have hsum:(!decide (sk=0) && decide (S.code=sk) || decide (sk=0) && (decide (S.num.neg=sd.neg) && decide (S.num.digits=sd.digits) && decide (S.num.scale=sd.scale)))=true:=by
  rcases hS with ⟨h1,h2⟩ | ⟨h1,h2⟩
  ·rw [h1,h2]; simp [exN]
  rw [h1,h2]; simp [zO]
 simp only [hnv] at kf kc kr kj kt ka hsame
 simp only [Val.enc_def,Dc.enc] at ka had hcf hcc
 refine AW.skip (rgn [] [[],[],[],[2,3,5,8]] ?_)
 iterate 4 refine op1 tok ?_
 refine qA (rgn [] [[],[],[],[2,3,5,8,9]] ?_)
 iterate 4 refine op1 tok ?_
 refine qA (rgn [.nilp,(exN f).enc] [[],[],[],[2,3,5,8,9,10]] ?_)
 iterate 4 refine op1 tok ?_ (hv:=by first | with_reducible exact True.intro | ((simp [hnv] at kf ⊢; exact kf); done) | omega | simp | (simp +contextual; omega))
 refine qA (rgn [.nilp,(exN c).enc] [[],[],[],[2,3,5,8,9,10,11]] ?_)
 iterate 4 refine op1 tok ?_ (hv:=by first | with_reducible exact True.intro | ((simp [hnv] at kc ⊢; exact kc); done) | omega | simp | (simp +contextual; omega))
 refine qA (rgn [.nilp,(exN r).enc] [[],[],[],[2,3,5,8,9,10,11,12]] ?_)
 iterate 4 refine op1 tok ?_ (hv:=by first | with_reducible exact True.intro | ((simp [hnv] at kr ⊢; exact kr); done) | omega | simp | (simp +contextual; omega))
 refine qA (rgn [.nilp,.agg [.int .i64 5,.int .u64 0,.bool false,.str [],.int .i64 0,.str PT,.sl 1 [],.sl 9 [],.int .i64 0],.nilp,(exN a).enc] [[],[],[],[],[2,3,5,8,9,10,11,12,13]] ?_)
 iterate 5 refine op1 tok ?_ (hv:=by first | with_reducible exact True.intro | (first | (simp [hnv] at kj ⊢; exact kj) | (simp [hnv] at kt ⊢; exact kt); done) | omega | simp | (simp +contextual; omega))
 refine qA (rgn [.nilp,.bool true] [[],[],[],[2,3,5,8,9,10,11,12,14]] ?_)
 iterate 4 refine op1 tok ?_ (hv:=by first | with_reducible exact True.intro | ((simp at hsame ⊢; exact hsame); done) | omega | simp | (simp +contextual; omega))
 refine qA (rgn [(exN a).enc,(exN b).enc,.tup [.str [97,100,100],.str [],.agg [.int .i64 6,.int .u64 0,.bool false,.str [],.int .i64 0,.str [],.sl 1 [],.sl 9 [(exN a).enc,(exN b).enc],.int .i64 0]],S.enc] [[],[],[2,3,5,10,11,12,14,49],[]] ?_)
 iterate 4 refine op1 tok ?_ (hv:=by first | with_reducible exact True.intro | (first | exact ka | exact ⟨⟨rfl,rfl,rfl,rfl,rfl,rfl⟩,rfl,rfl,rfl,rfl,rfl,rfl⟩ | (simp [hnv] at ka ⊢; exact ka) | (simp [hnv]; done); done) | omega | simp | (simp +contextual; omega))
 refine zS ?_
 refine qH.freeze 49 (by conv=>lhs; simp) ?_
 refine qH.run [[],[],[2,3,5,10,11,12,14,15]] ?_
 iterate 3 refine op1 tok ?_ (hv:=by first | with_reducible exact True.intro | (first | exact ka | exact ⟨⟨rfl,rfl,rfl,rfl,rfl,rfl⟩,rfl,rfl,rfl,rfl,rfl,rfl⟩ | (simp [hnv] at ka ⊢; exact ka) | (simp [hnv]; done); done) | omega | simp | (simp +contextual; omega))
 refine qA (rgn [.nilp,.tup [sd.enc,.int .i64 sk]] [[],[],[],[2,5,10,11,12,14,15,52],[],[],[],[],[2,5,10,11,12,14,15,16,17]] ?_)
 iterate 9 refine oq1 tok had ?_
 refine qA (rgn [] [[],[],[],[],[],[],[2,5,10,11,12,14,15,16,17,60,64],[],[],[2,5,10,11,12,14,15,16,66,67],[],[],[],[2,5,10,11,12,14,16,66,69,71],[],[],[2,5,10,11,12,14,66,74],[],[2,5,10,11,12,14,18]] ?_)
 iterate 19 first | refine op1 tok ?_ | refine op2 tok ?_
 refine qA (rgn [.nilp,.int .i64 (qCP f a),.nilp,.int .i64 (qCP a c)] [[],[],[],[],[2,10,11,12,14,18,77,80],[],[],[2,10,11,12,14,18,83],[],[],[],[],[2,10,11,12,14,18,88],[],[],[],[],[],[2,10,11,12,14,18,89,94],[],[],[],[],[2,10,11,14,18,89,95,97,99],[],[2,10,11,14,18,89,101],[],[],[2,11,14,18,103,104],[],[],[],[2,11,14,18,103,108],[],[],[11,14,18,110,111],[],[],[14,18,110,114],[],[],[14,18,117],[],[],[18,120],[],[],[4]] ?_)
 iterate 48 first | refine op1 tok ?_ (hv:=by first | with_reducible exact True.intro | (first | (intro g1 g2 g3; exact ⟨⟨⟨g1,g2⟩,g3⟩,hcf⟩) | (intro g1 g2 g3 g4; exact ⟨⟨⟨⟨g1,g2⟩,g3⟩,g4⟩,hcc⟩) | (intro g1 g2; refine ⟨⟨g1,g2⟩,fun g3=>⟨⟨g1,g2⟩, ?_⟩⟩; by_cases h1:r.neg=f.neg <;> by_cases h2:r.digits=f.digits <;> simp [h1,h2] at g3 ⊢ <;> exact g3); done) | omega | simp | (simp +contextual; omega)) | refine op2 tok ?_ (hv:=by first | with_reducible exact True.intro | (first | (intro g1 g2 g3; exact ⟨⟨⟨g1,g2⟩,g3⟩,hcf⟩) | (intro g1 g2 g3 g4; exact ⟨⟨⟨⟨g1,g2⟩,g3⟩,g4⟩,hcc⟩) | (intro g1 g2; refine ⟨⟨g1,g2⟩,fun g3=>⟨⟨g1,g2⟩, ?_⟩⟩; by_cases h1:r.neg=f.neg <;> by_cases h2:r.digits=f.digits <;> simp [h1,h2] at g3 ⊢ <;> exact g3); done) | omega | simp | (simp +contextual; omega))
 refine qA ?_
 exact AW.ret (qK (k:=by (rcases hor with rfl | rfl <;> simp [sf,sc,lf,lc] <;> simpa [and_assoc] using hsum)))
end Go.Proofs.YtgcbapchinideaaGreatDoor
