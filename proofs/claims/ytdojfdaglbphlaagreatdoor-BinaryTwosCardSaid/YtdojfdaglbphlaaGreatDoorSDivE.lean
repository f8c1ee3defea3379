import Derived.Test.YtdojfdaglbphlaaGreatDoorSDivD
import Derived.Test.YtdojfdaglbphlaaGreatDoorSDecAddF
namespace Go.Proofs.YtdojfdaglbphlaaGreatDoor
open Sy Go
set_option maxRecDepth 100000
set_option maxHeartbeats 4000000
set_option linter.unusedSimpArgs false
set_option linter.unusedVariables false
variable {G:qR}
theorem zAH {B:Nat} (hB:0<B) (V d:Nat):(V * 10+d) % B=(V % B * 10+d) % B∧(V * 10+d) / B=V / B * 10+(V % B * 10+d) / B:=by
 have hd:=Nat.div_add_mod V B
 have e2:V * 10+d=(V % B * 10+d)+B * (V / B * 10):=by
  conv=>lhs; rw [← hd]
  rw [Nat.add_mul,Nat.mul_assoc]; omega
 exact ⟨by conv=>lhs; rw [e2,Nat.add_mul_mod_self_left],by conv=>lhs; rw [e2,Nat.add_mul_div_left _ _ hB,Nat.add_comm]⟩
theorem zFT {B V d:Nat} (hB:V<B) (hd:d<10):(V * 10+d) / B<10:=by
 rw [Nat.div_lt_iff_lt_mul (by omega)]; omega
theorem qZO {s : List UInt8} (h : s.all qH = true) {B : Nat} (hB : 0 < B) : ∃ (R : Nat → Nat) (O : Nat → List UInt8), R 0 = 0 ∧ O 0 = [] ∧ (∀ k c, s[k]? = some c → R (k + 1) = (R k * 10 + dv c) % B) ∧
  (∀ k c,s[k]?=some c→O (k+1)=O k++[UInt8.ofNat (48+(R k * 10+dv c) / B)])∧(∀ k,R k<B)∧R s.length=qE s % B∧O s.length=zA s.length (qE s / B)∧∀ k,(O k).length=k:=by
 have hv:∀ k c,s[k]?=some c→qE (s.take (k+1))=qE (s.take k) * 10+dv c:=fun k c hc=>by
  rw [List.take_add_one,hc]; exact kN _ _
 refine ⟨fun k=>qE (s.take k) % B,fun k=>zA k (qE (s.take k) / B),by simp [qE],rfl,fun k c hc => ?_,fun k c hc => ?_,fun k=>Nat.mod_lt _ hB,by simp,by simp,fun k=>zD _ _⟩
 ·show qE (s.take (k+1)) % B=_
  rw [hv k c hc,(zAH hB _ _).1]
 show zA (k+1) (qE (s.take (k+1)) / B)=_
 have hd:dv c<10:=by
  have:=(zK c).1 (List.all_eq_true.1 h c (List.mem_of_getElem? hc))
  simp only [dv]; omega
 rw [hv k c hc,(zAH hB _ _).2,qGU _ _ _ (zFT (Nat.mod_lt _ hB) hd)]
theorem zMT {la A : Nat} (hA : A < 10 ^ la) {B : Nat} (hB : 0 < B) : ∃ (R : Nat → Nat) (O : Nat → List UInt8), R 0 = A % B ∧ O 0 = zA la (A / B) ∧ (∀ j, R (j + 1) = (R j * 10 + dv 48) % B) ∧ (∀ j, O (j + 1) = O j ++ [UInt8.ofNat (48 + (R j * 10 + dv 48) / B)]) ∧
  (∀ j,R j<B∧R j=jC A B j)∧(∀ j,(O j).length=la+j∧(O j).all qH=true∧qE (O j)=wH A B j):=by
 refine ⟨fun j=>jC A B j,fun j=>zA (la+j) (wH A B j),by simp [jC],by simp [wH],fun j => ?_,fun j => ?_,fun j=>⟨qMO A j hB,rfl⟩,fun j=>⟨zD _ _,zT _ _, ?_⟩⟩
 ·exact (qKI hB j).2
 ·show zA (la+j+1) (wH A B (j+1))=_
  rw [(qKI hB j).1]
  have hd:(jC A B j * 10+0) / B<10:=zFT (qMO A j hB) (by decide)
  exact qGU _ _ _ hd
 rw [zZ,Nat.mod_eq_of_lt]
 unfold wH
 refine Nat.lt_of_le_of_lt (Nat.div_le_self _ _) ?_
 rw [Nat.pow_add]
 exact Nat.mul_lt_mul_of_pos_right hA (Nat.pow_pos (by decide))
theorem qTH {s:List UInt8} (hd:s.all qH=true) (m:Bool):(qDF s m).all qH=true∧qE (qDF s m)=(uC (qE s) m).1∧(qDF s m).length≤s.length+36∧(uC (qE s) m).2≤s.length:=by
 have hng:ndg (qE s)≤s.length:=by rw [← qVQ hd]; exact (List.dropWhile_sublist _).length_le
 unfold qDF
 split
 ·rename_i h
  have e:uC (qE s) m=(qE s,0):=by unfold uC; rw [if_pos h]
  rw [e]; exact ⟨hd,rfl,by omega,by simp⟩
 rename_i h
 have e:=zLX m h
 have hq:qE s<10 ^ ndg (qE s):=(zMO _ _).1 (Nat.le_refl _)
 have hq2:qE s / 10 ^ (ndg (qE s)-34)<10 ^ 34:=by
  rw [Nat.div_lt_iff_lt_mul (Nat.pow_pos (by decide)),← Nat.pow_add,show 34+(ndg (qE s)-34)=ndg (qE s) by omega]
  exact hq
 have h35:10 ^ 35≤10 ^ (s.length-ndg (qE s)+35):=Nat.pow_le_pow_right (by decide) (by omega)
 have hlt:(uC (qE s) m).1<10 ^ (s.length-ndg (qE s)+35):=by
  rw [e]; simp only
  have:(10:Nat) ^ 35=10 * 10 ^ 34:=by rw [Nat.pow_succ,Nat.mul_comm]
  split <;> omega
 refine ⟨zT _ _,by rw [zZ,Nat.mod_eq_of_lt hlt],by rw [zD]; omega,by rw [e]; simp only; omega⟩
theorem qMR {b:Dc} (hb:zO b=true) (h:b.digits≠[48]):0<qE b.digits∧qE b.digits<10 ^ 60:=by
 obtain ⟨⟨b1,b2,b3,b4⟩,b5,b6⟩:=zF hb
 have hl:0<b.digits.length:=by
  unfold zO at hb
  simp only [Bool.and_eq_true,decide_eq_true_eq] at hb
  omega
 constructor
 ·rcases qDB hb with ⟨h1,_,_⟩ | ⟨h1,_⟩
  ·exact absurd h1 h
  have:=uN b4 hl h1
  have:=Nat.pow_pos (n:=b.digits.length-1) (show 0<10 by decide)
  omega
 exact Nat.lt_of_lt_of_le (wB b4) (Nat.pow_le_pow_right (by decide) b5)
theorem zVC (a b:Dc) (ha:zO a=true) (hb:zO b=true):AFn Tryz.prog G 36 [a.enc,b.enc] (.tup [(qBE a b).1.enc,.int .i64 (qBE a b).2]):=by
 refine AFn.introU tok Tryz.func36 (by kernel_rfl) rfl rfl ?_
 simp only [Tryz.f36,qI,List.map_cons,List.map_nil]
 have hpos:=fun h=>qMR hb h
 obtain ⟨⟨a1,a2,a3,a4⟩,a5,a6⟩:=zF ha
 obtain ⟨⟨b1,b2,b3,b4⟩,b5,b6⟩:=zF hb
 obtain ⟨RR,hRR⟩:∃ r,r=qBE a b:=⟨_,rfl⟩
 rw [← hRR]
 obtain ⟨an,ad,sa⟩:=a
 obtain ⟨bn,bd,sb⟩:=b
 obtain ⟨d,code⟩:=RR
 simp only at *
 have hbl:=b5
 refine rgn [] [[],[],[],[2,3,4]] ?_
 iterate 4 refine op1 tok ?_
 refine qA (AW.seq (rgn [] [[],[],[2,3,4,13]] ?_))
 iterate 3 refine op1 tok ?_
 refine qA (cnd ?_ ?_)
 ·intro h13
  try simp at h13
  rw [show qBE ⟨an,ad,sa⟩ ⟨bn,bd,sb⟩=(dc0,5) by unfold qBE; rw [if_pos h13]] at hRR
  cases hRR
  refine rgn [] [[],[],[4,5]] ?_
  iterate 3 refine op1 tok ?_
  refine qA ?_
  exact AW.ret (qG (k:=by simp [dc0]))
 intro h13
 try simp at h13
 obtain ⟨hB0,hB60⟩:=hpos h13
 rw [show qBE ⟨an,ad,sa⟩ ⟨bn,bd,sb⟩=vG (an != bn) (qMJ (qE ad) (qE bd)).1 (sa-sb+(qMJ (qE ad) (qE bd)).2) by unfold qBE; rw [if_neg h13]] at hRR
 have hdiv:=qPU (G:=G) bd b4 (by omega)
 have hBn0:=wB b4
 have hA:=wB a4
 obtain ⟨n,hn⟩:∃ n,n=bd.length+1:=⟨_,rfl⟩
 have hBn:qE bd * 10≤10 ^ n:=by rw [hn,Nat.pow_succ]; omega
 rw [← hn] at hdiv
 have hn2:2≤n:=by
  have:0<bd.length:=List.length_pos_iff.2 (by rintro rfl; simp [qE] at hB0)
  omega
 have hn3:n≤1000:=by omega
 obtain ⟨R,O,hR0,hO0,hRs,hOs,hRB,hRl,hOl,hOn⟩:=qZO a4 hB0
 obtain ⟨R2,O2,hR20,hO20,hR2s,hO2s,hR2B,hO2n⟩:=zMT hA hB0
 rw [← hRl] at hR20
 rw [← hOl] at hO20
 clear hpos
 generalize qE ad=A at *
 generalize qE bd=B at *
 refine AW.skip (rgn [] [[],[]] ?_)
 iterate 2 refine op1 tok ?_
 refine qZ ?_
 refine qC.stepK [2,3,4,17] (yS rfl hdiv (by simp)) (by conv=>lhs; simp) rfl ?_
 refine qC.run [[2,3,4,6]] ?_
 refine op1 tok ?_
 refine qA (AW.seq ?_)
 refine AW.renE 913 701 (by simp) (by conv=>lhs; simp) ?_
 refine AW.renE 908 702 (by simp) (by conv=>lhs; simp) ?_
 refine AW.beginBox 701 703 2 5 1 (by simp; exact ⟨rfl,rfl⟩) (by simp) (by simp) (by conv=>lhs; simp) ?_
 refine rgn [] [[],[],[2,3,4,6,20]] ?_
 iterate 3 refine op1 tok ?_
 refine qA (AW.block ?_)
 refine AW.loop (α:=Nat) (fun k=>k≤ad.length) (fun k=>⟨qV 77 [(2,.ptr 2 0),(3,.ptr 3 0),(4,.ptr 4 0),(6,.ptr 701 0),(20,.it 20)],[],[(2,.vars 26 [.p (.bool an),.p (.str ad),.p (.int .i64 sa)]),(3,.vars 26 [.p (.bool bn),.p (.str bd),.p (.int .i64 sb)]),(4,.vars 26 [.p (.bool false),.p (.str []),.p (.int .i64 0)]),(701,.vars 109 [.ms 702,.p (.sl 1 ((rowN n B).map wN)),.ms 703]),(20,.iter ad k),(702,.row 156 1 ((rowN n (R k)).map wN)),(703,.row 5 1 (qM (O k)))],0⟩) (fun k=>ad.length-k) (0) (by omega) ⟨qB (by simp),rfl,by (simp [hR0,hO0]),by simp [hR0,hO0]⟩ ?_
 rintro k hk
 by_cases hs5:k<ad.length
 ·
  refine rgn [.bool true] [[],[]] ?_
  iterate 2 refine oq1 tok hs5 ?_
  refine qA (AW.seq (cnd ?_ ?_))
  ·intro h22
   try simp at h22
   obtain ⟨c,hc⟩:∃ c,ad[k]?=some c:=⟨ad[k],by simp [hs5]⟩
   have hcd:qH c=true:=List.all_eq_true.1 a4 c (List.mem_of_getElem? hc)
   have hcd2:=(zK c).1 hcd
   have hdl:qBG ad k=(c.toNat,1):=by
    have hg:ad.getD k 0=c:=by simp [List.getD_eq_getElem?_getD,hc]
    have:=qEJ (s:=ad) (pos:=k) hs5 (by rw [hg]; omega)
    rw [hg] at this; exact this
   rw [hdl]
   have hnx:=qVO (G:=G) B n (R k) c (O k) hcd (hRB k) hBn hn2 (by omega) (by rw [hOn]; omega)
   rw [← hRs k c hc,← hOs k c hc] at hnx
   refine AW.skip (AW.block (rgn [] [[],[2,3,4,6,7,20]] ?_))
   iterate 2 refine op1 tok ?_
   refine qA (rgz [.int .u8 c.toNat] [[],[],[],[],[2,3,4,6,20,24,28]] ?_)
   iterate 5 refine op1 tok ?_ (hv:=by first | with_reducible exact True.intro | (first | (simp [hc]; done) | (simp [hc]; omega); done) | omega | simp | (simp +contextual; omega))
   refine qZ ?_
   refine qC.stepK [2,3,4,6,20] (yS rfl hnx (by simp)) (by conv=>lhs; simp) rfl ?_
   refine qC.nil ?_
   exact ⟨k+1,by omega,by omega,qB (by simp),rfl,by simp,by simp⟩
  intro h22
  try simp at h22
 ·
  refine rgn [.bool false] [[],[]] ?_
  iterate 2 refine oq1 tok hs5 ?_
  refine qA (AW.seq (cnd ?_ ?_))
  ·intro h22
   try simp at h22
  intro h22
  try simp at h22
  obtain rfl:k=ad.length:=by omega
  rw [← hR20,← hO20]
  refine AW.exit ?_
  simp
  refine rgn [] [[],[],[],[],[2,3,4,6,34],[2,3,4,6,8]] ?_
  iterate 6 refine op1 tok ?_
  refine qA (AW.seq (AW.block ?_))
  refine AW.loop (α:=Nat) (fun j=>j≤100∧∀ i,i<j→qBU A B i=true) (fun j=>⟨qV 77 [(2,.ptr 2 0),(3,.ptr 3 0),(4,.ptr 4 0),(6,.ptr 701 0),(8,.p (.int .i64 (sa-sb+j)))],[],[(2,.vars 26 [.p (.bool an),.p (.str ad),.p (.int .i64 sa)]),(3,.vars 26 [.p (.bool bn),.p (.str bd),.p (.int .i64 sb)]),(4,.vars 26 [.p (.bool false),.p (.str []),.p (.int .i64 0)]),(701,.vars 109 [.ms 702,.p (.sl 1 ((rowN n B).map wN)),.ms 703]),(702,.row 156 1 ((rowN n (R2 j)).map wN)),(703,.row 5 1 (qM (O2 j)))],0⟩) (fun j=>101-j) (0) ⟨by omega,fun i h=>by omega⟩ ⟨qB (by simp),rfl,by (simp),by simp⟩ ?_
  rintro j ⟨hj,hall⟩
  obtain ⟨hRj,hRe⟩:=hR2B j
  obtain ⟨hOl2,hOd,hOv⟩:=hO2n j
  have hnone:=zQO (G:=G) (rowN n (R2 j)) (by rw [yZ]; omega)
  rw [zLO n (R2 j) (by omega)] at hnone
  have hpl:=zID (G:=G) ((rowN n B).map wN) ((rowN n (R2 j)).map wN) (O2 j) (by omega)
  rw [qVQ hOd,hOv] at hpl
  have hmore:qBU A B j=(decide (R2 j≠0) && decide (ndg (wH A B j)≤34)):=by rw [hRe]; rfl
  refine AW.seq ?_
  by_cases hs9:R2 j=0
  ·
   first | rw [show decide (R2 j=0)=true by simpa using hs9] at hnone | rw [show decide (R2 j=0)=false by simpa using hs9] at hnone
   refine rgn [] [[],[],[],[]] ?_
   iterate 4 refine op1 tok ?_
   refine qZ ?_
   refine qC.stepK [2,3,4,6,8,39] (qHE [702] rfl (by conv=>lhs; simp) trivial hnone (by simp) (by simp) rfl) (by conv=>lhs; simp) rfl ?_
   refine qC.run [[],[],[],[],[2,3,4,6,8,41,44],[2,3,4,6,8,45]] ?_
   iterate 2 refine op1 tok ?_
   iterate 3 refine op2 tok ?_
   refine op1 tok ?_
   refine qA (cnd ?_ ?_)
   ·intro h45
    try simp at h45
   intro h45
   try simp at h45
   have hmF:qBU A B j=false:=by rw [hmore]; first | (simp [hs9]; done) | (simp [hs9]; omega)
   have hdj:=qMW (A:=A) (B:=B) 100 0 j (fun i _ h=>hall i h) (by omega) (by omega) hmF
   have hV:qMJ A B=((uC (wH A B j) (decide (jC A B j≠0))).1,(j:Int)-(uC (wH A B j) (decide (jC A B j≠0))).2):=by unfold qMJ; rw [hdj]
   rw [hV,← hRe,← hOv] at hRR
   obtain ⟨m,hm⟩:∃ m,m=decide (R2 j≠0):=⟨_,rfl⟩
   rw [← hm] at hRR
   first | rw [show decide (R2 j≠0)=false by simpa using hs9] at hm | rw [show decide (R2 j≠0)=true by simpa using hs9] at hm
   obtain ⟨k1,k2,k3,k4⟩:=qTH hOd m
   have hro:=qNX (G:=G) (O2 j) m hOd (by omega)
   simp only at hRR
   rw [← k2,← qDW (an != bn) k1] at hRR
   have hsc:=qKE (G:=G) (an != bn) (qDF (O2 j) m) (sa-sb+((j:Int)-((uC (qE (O2 j)) m).2:Nat))) (by omega) (by omega) (by omega)
   rw [← hRR] at hsc
   clear hRR k1 k2
   generalize qDF (O2 j) m=KT at *
   generalize (uC (qE (O2 j)) m).2=dr at *
   subst hm
   have hse:sa-sb+(j:Int)-(dr:Int)=sa-sb+((j:Int)-(dr:Int)):=by omega
   simp only [Dc.enc] at hsc
   refine AW.exit ?_
   simp
   refine AW.seqDrawR mixed 16 [[6],[51],[52],[53],[54],[6],[56],[57],[58],[59],[60],[55,61],[62],[50],[50],[63]] [] (by kernel_rfl) ?_
   iterate 4 refine yA.one tok (orc:=[]) (by intro C; conv=>lhs; simp) (by first | with_reducible exact True.intro | (first | exact hro | (simp; done) | (simp; omega); done) | omega | simp | (simp +contextual; omega)) rfl (by kernel_rfl) ?_
   refine yA.one tok (orc:=[.str (O2 j)]) (by intro C; conv=>lhs; simp) (by first | with_reducible exact True.intro | (first | exact hro | (simp; done) | (simp; omega); done) | omega | simp | (simp +contextual; omega)) rfl (by kernel_rfl) ?_
   iterate 4 refine yA.one tok (orc:=[]) (by intro C; conv=>lhs; simp) (by first | with_reducible exact True.intro | (first | exact hro | (simp; done) | (simp; omega); done) | omega | simp | (simp +contextual; omega)) rfl (by kernel_rfl) ?_
   refine yA.callFlat [(702,.row 156 1 ((rowN n (R2 j)).map wN))] hnone rfl rfl (by conv=>lhs; simp) trivial (by simp) (by simp) rfl (by simp) (by simp) (by kernel_rfl) (by kernel_rfl) (by conv=>lhs; simp) ?_
   refine yA.one tok (orc:=[]) (by intro C; conv=>lhs; simp) (by first | with_reducible exact True.intro | (first | exact hro | (simp; done) | (simp; omega); done) | omega | simp | (simp +contextual; omega)) rfl (by kernel_rfl) ?_
   refine yA.one tok (orc:=[.nilp,.tup [.str KT,.int .i64 (dr:Nat)]]) (by intro C; conv=>lhs; simp) (by first | with_reducible exact True.intro | (first | exact hro | (simp; done) | (simp; omega); done) | omega | simp | (simp +contextual; omega)) rfl (by kernel_rfl) ?_
   iterate 4 refine yA.one tok (orc:=[]) (by intro C; conv=>lhs; simp) (by first | with_reducible exact True.intro | (first | exact hro | (simp; done) | (simp; omega); done) | omega | simp | (simp +contextual; omega)) rfl (by kernel_rfl) ?_
   refine yA.nil (by kernel_rfl) ⟨by kernel_rfl, ?_⟩
   refine qC.run [[2,3,4,8,9,10]] ?_
   refine op1 tok ?_
   refine qA (rgn [.nilp,.tup [d.enc,.int .i64 code]] [[],[],[],[4,8,9,10,66,68],[],[],[4,10,69,70,71],[],[],[4,74],[],[],[],[4,5]] ?_)
   iterate 14 refine op1 tok ?_ (h:=by intro C; conv=>lhs; simp [hse]) (hv:=by first | with_reducible exact True.intro | (first | exact hsc | (simp [hse] at hsc ⊢; exact hsc) | (simp; done) | (simp; omega); done) | omega | simp | (simp +contextual; omega))
   exact qA (AW.ret qG)
  ·
   first | rw [show decide (R2 j=0)=true by simpa using hs9] at hnone | rw [show decide (R2 j=0)=false by simpa using hs9] at hnone
   refine rgn [] [[],[],[],[]] ?_
   iterate 4 refine op1 tok ?_
   refine qZ ?_
   refine qC.stepK [2,3,4,6,8,39] (qHE [702] rfl (by conv=>lhs; simp) trivial hnone (by simp) (by simp) rfl) (by conv=>lhs; simp) rfl ?_
   refine qC.run [[],[],[]] ?_
   iterate 2 refine op1 tok ?_
   refine op2 tok ?_
   refine qZ ?_
   refine qC.stepKIf [2,3,4,6,8,41,43] 41 rfl rfl (yS rfl hpl (by simp)) (by simp) (by conv=>lhs; simp) ?_
   refine qC.run [[],[2,3,4,6,8,45]] ?_
   refine op2 tok ?_
   refine op1 tok ?_
   refine qA (cnd ?_ ?_)
   ·intro h45
    try simp at h45
    have hmT:qBU A B j=true:=by rw [hmore]; simp [hs9]; omega
    have hj100:=qZH hB0 hB60 hmT
    have hnx:=qVO (G:=G) B n (R2 j) 48 (O2 j) (by decide) hRj hBn hn2 (by omega) (by omega)
    rw [← hR2s j,← hO2s j] at hnx
    have hjj:sa-sb+(j:Int)+1=sa-sb+((j+1:Nat):Int):=by omega
    refine AW.skip (AW.seq (AW.block (rgz [] [[]] ?_)))
    refine op1 tok ?_
    refine qZ ?_
    refine qC.stepK [2,3,4,6,8] (yS rfl hnx (by simp)) (by conv=>lhs; simp) rfl ?_
    refine qC.nil ?_
    refine rgz [] [[],[],[2,3,4,6,8]] ?_
    iterate 3 refine op1 tok ?_
    refine qA ?_
    exact ⟨j+1,⟨by omega,fun i h=>by by_cases e:i=j; (· rw [e]; exact hmT); (· exact hall i (by omega))⟩,by omega,qB (by simp [hjj]),rfl,by simp [hjj],by simp [hjj]⟩
   intro h45
   try simp at h45
   have hmF:qBU A B j=false:=by rw [hmore]; first | (simp [hs9]; done) | (simp [hs9]; omega)
   have hdj:=qMW (A:=A) (B:=B) 100 0 j (fun i _ h=>hall i h) (by omega) (by omega) hmF
   have hV:qMJ A B=((uC (wH A B j) (decide (jC A B j≠0))).1,(j:Int)-(uC (wH A B j) (decide (jC A B j≠0))).2):=by unfold qMJ; rw [hdj]
   rw [hV,← hRe,← hOv] at hRR
   obtain ⟨m,hm⟩:∃ m,m=decide (R2 j≠0):=⟨_,rfl⟩
   rw [← hm] at hRR
   first | rw [show decide (R2 j≠0)=false by simpa using hs9] at hm | rw [show decide (R2 j≠0)=true by simpa using hs9] at hm
   obtain ⟨k1,k2,k3,k4⟩:=qTH hOd m
   have hro:=qNX (G:=G) (O2 j) m hOd (by omega)
   simp only at hRR
   rw [← k2,← qDW (an != bn) k1] at hRR
   have hsc:=qKE (G:=G) (an != bn) (qDF (O2 j) m) (sa-sb+((j:Int)-((uC (qE (O2 j)) m).2:Nat))) (by omega) (by omega) (by omega)
   rw [← hRR] at hsc
   clear hRR k1 k2
   generalize qDF (O2 j) m=KT at *
   generalize (uC (qE (O2 j)) m).2=dr at *
   subst hm
   have hse:sa-sb+(j:Int)-(dr:Int)=sa-sb+((j:Int)-(dr:Int)):=by omega
   simp only [Dc.enc] at hsc
   refine AW.exit ?_
   simp
   refine AW.seqDrawR mixed 16 [[6],[51],[52],[53],[54],[6],[56],[57],[58],[59],[60],[55,61],[62],[50],[50],[63]] [] (by kernel_rfl) ?_
   iterate 4 refine yA.one tok (orc:=[]) (by intro C; conv=>lhs; simp) (by first | with_reducible exact True.intro | (first | exact hro | (simp; done) | (simp; omega); done) | omega | simp | (simp +contextual; omega)) rfl (by kernel_rfl) ?_
   refine yA.one tok (orc:=[.str (O2 j)]) (by intro C; conv=>lhs; simp) (by first | with_reducible exact True.intro | (first | exact hro | (simp; done) | (simp; omega); done) | omega | simp | (simp +contextual; omega)) rfl (by kernel_rfl) ?_
   iterate 4 refine yA.one tok (orc:=[]) (by intro C; conv=>lhs; simp) (by first | with_reducible exact True.intro | (first | exact hro | (simp; done) | (simp; omega); done) | omega | simp | (simp +contextual; omega)) rfl (by kernel_rfl) ?_
   refine yA.callFlat [(702,.row 156 1 ((rowN n (R2 j)).map wN))] hnone rfl rfl (by conv=>lhs; simp) trivial (by simp) (by simp) rfl (by simp) (by simp) (by kernel_rfl) (by kernel_rfl) (by conv=>lhs; simp) ?_
   refine yA.one tok (orc:=[]) (by intro C; conv=>lhs; simp) (by first | with_reducible exact True.intro | (first | exact hro | (simp; done) | (simp; omega); done) | omega | simp | (simp +contextual; omega)) rfl (by kernel_rfl) ?_
   refine yA.one tok (orc:=[.nilp,.tup [.str KT,.int .i64 (dr:Nat)]]) (by intro C; conv=>lhs; simp) (by first | with_reducible exact True.intro | (first | exact hro | (simp; done) | (simp; omega); done) | omega | simp | (simp +contextual; omega)) rfl (by kernel_rfl) ?_
   iterate 4 refine yA.one tok (orc:=[]) (by intro C; conv=>lhs; simp) (by first | with_reducible exact True.intro | (first | exact hro | (simp; done) | (simp; omega); done) | omega | simp | (simp +contextual; omega)) rfl (by kernel_rfl) ?_
   refine yA.nil (by kernel_rfl) ⟨by kernel_rfl, ?_⟩
   refine qC.run [[2,3,4,8,9,10]] ?_
   refine op1 tok ?_
   refine qA (rgn [.nilp,.tup [d.enc,.int .i64 code]] [[],[],[],[4,8,9,10,66,68],[],[],[4,10,69,70,71],[],[],[4,74],[],[],[],[4,5]] ?_)
   iterate 14 refine op1 tok ?_ (h:=by intro C; conv=>lhs; simp [hse]) (hv:=by first | with_reducible exact True.intro | (first | exact hsc | (simp [hse] at hsc ⊢; exact hsc) | (simp; done) | (simp; omega); done) | omega | simp | (simp +contextual; omega))
   exact qA (AW.ret qG)
theorem zFG (x:Dc) (sc:Int) (h1:x.digits.length≤1000) (h2:0≤x.scale) (h3:x.scale≤sc) (h4:sc≤1000):AFn Tryz.prog G 98 [x.enc,.ref [.int .i64 sc]] (.str (yI x sc)):=by
 refine AFn.introU tok Tryz.func98 (by kernel_rfl) rfl rfl ?_
 simp only [Tryz.f98,qI,List.map_cons,List.map_nil]
 have hre:=qDO (G:=G) [48] (sc-x.scale).toNat (by simp; omega)
 rw [qGF,show (((sc-x.scale).toNat:Nat):Int)=sc-x.scale by omega] at hre
 unfold yI
 refine rgn [] [[],[1,2]] ?_
 iterate 2 refine op1 tok ?_
 refine qA ?_
 refine AW.seqDrawS tok mixed 8 [[2],[4],[1],[2],[7],[6,8],[9],[5,10]] [.nilp,.str (List.replicate (sc-x.scale).toNat 48)] [] (by kernel_rfl) ?_
 iterate 8 refine dq1 hre ?_
 refine DGo.nil (by kernel_rfl) ⟨by kernel_rfl, ?_⟩
 refine qC.run [[3]] ?_
 refine op1 tok ?_
 exact qA (AW.ret qG)
theorem zVA (a b:Dc) (ha:zO a=true) (hb:zO b=true):AFn Tryz.prog G 37 [a.enc,b.enc] (.tup [(qAX a b).1.enc,.int .i64 (qAX a b).2]):=by
 refine AFn.introU tok Tryz.func37 (by kernel_rfl) rfl rfl ?_
 simp only [Tryz.f37,qI,List.map_cons,List.map_nil]
 have hpos:=fun h=>qMR hb h
 obtain ⟨⟨a1,a2,a3,a4⟩,a5,a6⟩:=zF ha
 obtain ⟨⟨b1,b2,b3,b4⟩,b5,b6⟩:=zF hb
 have hm1:a.scale≤qX a b:=by unfold qX; split <;> omega
 have hm2:b.scale≤qX a b:=by unfold qX; split <;> omega
 have hm3:qX a b≤60:=by unfold qX; split <;> omega
 have e1:=zFG (G:=G) a (qX a b) a1 a2 hm1 (by omega)
 have e2:=zFG (G:=G) b (qX a b) b1 b2 hm2 (by omega)
 have hmx:(if a.scale<b.scale then b.scale else a.scale)=qX a b:=rfl
 have hXd:(yI a (qX a b)).all qH=true:=wX a4 _
 have hYd:(yI b (qX a b)).all qH=true:=wX b4 _
 have hXl:(yI a (qX a b)).length≤200:=by simp [yI]; omega
 have hYl:(yI b (qX a b)).length≤200:=by simp [yI]; omega
 have hYv:qE (yI b (qX a b))=qE b.digits * 10 ^ (qX a b-b.scale).toNat:=jA _ _
 obtain ⟨RR,hRR⟩:∃ r,r=qAX a b:=⟨_,rfl⟩
 rw [← hRR]
 have hM0:0≤qX a b:=by omega
 obtain ⟨an,ad,sa⟩:=a
 obtain ⟨bn,bd,sb⟩:=b
 obtain ⟨d,code⟩:=RR
 simp only at *
 refine rgn [] [[],[],[],[2,3,4]] ?_
 iterate 4 refine op1 tok ?_
 refine qA (AW.seq (rgn [] [[],[],[2,3,4,13]] ?_))
 iterate 3 refine op1 tok ?_
 refine qA (cnd ?_ ?_)
 ·intro h13
  try simp at h13
  rw [show qAX ⟨an,ad,sa⟩ ⟨bn,bd,sb⟩=(dc0,5) by unfold qAX; rw [if_pos h13]] at hRR
  cases hRR
  refine rgn [] [[],[],[4,5]] ?_
  iterate 3 refine op1 tok ?_
  refine qA ?_
  exact AW.ret (qG (k:=by simp [dc0]))
 intro h13
 try simp at h13
 obtain ⟨hB0,hB60⟩:=hpos h13
 rw [show qAX ⟨an,ad,sa⟩ ⟨bn,bd,sb⟩=zW an (qE (yI ⟨an,ad,sa⟩ (qX ⟨an,ad,sa⟩ ⟨bn,bd,sb⟩)) % qE (yI ⟨bn,bd,sb⟩ (qX ⟨an,ad,sa⟩ ⟨bn,bd,sb⟩))) (qX ⟨an,ad,sa⟩ ⟨bn,bd,sb⟩).toNat by unfold qAX; rw [if_neg h13]] at hRR
 have hBp:0<qE (yI ⟨bn,bd,sb⟩ (qX ⟨an,ad,sa⟩ ⟨bn,bd,sb⟩)):=by rw [hYv]; exact Nat.mul_pos hB0 (Nat.pow_pos (by decide))
 clear hpos hYv
 generalize yI ⟨an,ad,sa⟩ (qX ⟨an,ad,sa⟩ ⟨bn,bd,sb⟩)=X at *
 generalize yI ⟨bn,bd,sb⟩ (qX ⟨an,ad,sa⟩ ⟨bn,bd,sb⟩)=Y at *
 generalize qX ⟨an,ad,sa⟩ ⟨bn,bd,sb⟩=M at *
 have hdiv:=qPU (G:=G) Y hYd (by omega)
 have hBn0:=wB hYd
 obtain ⟨n,hn⟩:∃ n,n=Y.length+1:=⟨_,rfl⟩
 have hBn:qE Y * 10≤10 ^ n:=by rw [hn,Nat.pow_succ]; omega
 rw [← hn] at hdiv
 have hn2:2≤n:=by
  have:0<Y.length:=List.length_pos_iff.2 (by rintro rfl; simp [qE] at hBp)
  omega
 have hn3:n≤1000:=by omega
 obtain ⟨R,O,hR0,hO0,hRs,hOs,hRB,hRl,hOl,hOn⟩:=qZO hXd hBp
 generalize qE Y=B at *
 simp only [Dc.enc] at e1 e2
 refine AW.skip (rgn [] [[],[],[],[],[2,3,4,19],[],[2,3,4,6]] ?_)
 iterate 7 refine op1 tok ?_
 refine qA (rgn [] [[],[2,3,4,6,7]] ?_)
 iterate 2 refine op1 tok ?_
 refine qA ?_
 refine AW.freezeV 6 (by conv=>lhs; simp [hmx]) ?_
 refine rgn [.nilp,.str Y] [[],[],[]] ?_
 iterate 3 refine oq1 tok e2 ?_
 refine qZ ?_
 refine qC.stepK [2,4,6,7,24] (yS rfl hdiv (by simp)) (by conv=>lhs; simp) rfl ?_
 refine qC.run [[2,4,6,7,8]] ?_
 refine oq1 tok e2 ?_
 refine qA (AW.seq ?_)
 refine AW.renE 913 701 (by simp) (by conv=>lhs; simp) ?_
 refine AW.renE 908 702 (by simp) (by conv=>lhs; simp) ?_
 refine AW.beginBox 701 703 2 5 1 (by simp; exact ⟨rfl,rfl⟩) (by simp) (by simp) (by conv=>lhs; simp) ?_
 refine rgn [.nilp,.str X] [[],[],[],[2,4,6,8,28],[],[]] ?_
 iterate 6 refine oq1 tok e1 ?_
 refine qA (AW.block ?_)
 refine AW.loop (α:=Nat) (fun k=>k≤X.length) (fun k=>⟨qV 46 [(2,.ptr 2 0),(4,.ptr 4 0),(6,.cptr [.int .i64 M]),(8,.ptr 701 0),(28,.p (.sl 1 (qM X))),(29,.p (.int .i64 X.length)),(30,.p (.int .i64 k))],[],[(2,.vars 26 [.p (.bool an),.p (.str ad),.p (.int .i64 sa)]),(4,.vars 26 [.p (.bool false),.p (.str []),.p (.int .i64 0)]),(701,.vars 109 [.ms 702,.p (.sl 1 ((rowN n B).map wN)),.ms 703]),(702,.row 156 1 ((rowN n (R k)).map wN)),(703,.row 5 1 (qM (O k)))],0⟩) (fun k=>X.length-k) (0) (by omega) ⟨qB (by simp),rfl,by (simp [hR0,hO0]),by simp [hR0,hO0]⟩ ?_
 rintro k hk
 refine rgn [] [[]] ?_
 refine op1 tok ?_
 refine qA (AW.seq (cnd ?_ ?_))
 ·intro h31
  try simp at h31
  obtain ⟨c,hc⟩:∃ c,X[k]?=some c:=⟨X[k]'(by omega),List.getElem?_eq_getElem _⟩
  have hcd:qH c=true:=List.all_eq_true.1 hXd c (List.mem_of_getElem? hc)
  have hnx:=qVO (G:=G) B n (R k) c (O k) hcd (hRB k) hBn hn2 (by omega) (by rw [hOn]; omega)
  rw [← hRs k c hc,← hOs k c hc] at hnx
  have hbg:=qEK hc
  refine AW.skip (AW.seq (AW.block (rgn [.int .u8 c.toNat] [[],[],[2,4,6,8,10,28,29,30]] ?_)))
  iterate 3 refine op1 tok ?_ (hv:=by first | with_reducible exact True.intro | (first | (simp [hbg]; done) | (simp [hbg]; omega); done) | omega | simp | (simp +contextual; omega))
  refine qA (rgz [] [[],[]] ?_)
  iterate 2 refine op1 tok ?_
  refine qZ ?_
  refine qC.stepK [2,4,6,8,28,29,30] (yS rfl hnx (by simp)) (by conv=>lhs; simp) rfl ?_
  refine qC.nil ?_
  refine rgz [] [[],[2,4,6,8,28,29,30]] ?_
  iterate 2 refine op1 tok ?_
  refine qA ?_
  exact ⟨k+1,by omega,by omega,qB (by simp),rfl,by simp,by simp⟩
 intro h31
 try simp at h31
 obtain rfl:k=X.length:=by omega
 have hrs:=zQG (G:=G) n (R X.length) ((rowN n B).map wN) (O X.length) (by omega) (by omega)
 have hRlt:R X.length<10 ^ n:=by have:=hRB X.length; omega
 have hsc:=qKE (G:=G) an (zA n (R X.length)) M (by rw [zD]; omega) (by omega) (by omega)
 have hps:=qDW an (zT n (R X.length)) M
 rw [zZ,Nat.mod_eq_of_lt hRlt] at hps
 generalize zA n (R X.length)=DG at *
 rw [hps,hRl,show vG an (qE X % B) M=zW an (qE X % B) M.toNat by unfold vG; rw [if_neg (by omega)],← hRR] at hsc
 clear hRR hRl hps
 simp only [Dc.enc] at hsc
 refine AW.exit ?_
 simp
 refine AW.seqDrawR mixed 8 [[2],[38],[8],[40],[6],[39,41,42],[43],[43]] [] (by kernel_rfl) ?_
 iterate 3 refine yA.one tok (orc:=[]) (by intro C; conv=>lhs; simp) (by first | with_reducible exact True.intro | (first | exact hsc | (simp at hsc ⊢; exact hsc) | (simp; done) | (simp; omega); done) | omega | simp | (simp +contextual; omega)) rfl (by kernel_rfl) ?_
 refine yA.call [] hrs rfl rfl (by simp) (by simp) (by simp) (by simp) (by simp) (by first | (simp; done) | (simp; omega)) (by first | (simp; done) | (simp; omega)) (by kernel_rfl) (by conv=>lhs; simp) ?_
 refine yA.one tok (orc:=[]) (by intro C; conv=>lhs; simp) (by first | with_reducible exact True.intro | (first | exact hsc | (simp at hsc ⊢; exact hsc) | (simp; done) | (simp; omega); done) | omega | simp | (simp +contextual; omega)) rfl (by kernel_rfl) ?_
 refine yA.one tok (orc:=[.nilp,.tup [d.enc,.int .i64 code]]) (by intro C; conv=>lhs; simp) (by first | with_reducible exact True.intro | (first | exact hsc | (simp at hsc ⊢; exact hsc) | (simp; done) | (simp; omega); done) | omega | simp | (simp +contextual; omega)) rfl (by kernel_rfl) ?_
 iterate 2 refine yA.one tok (orc:=[]) (by intro C; conv=>lhs; simp) (by first | with_reducible exact True.intro | (first | exact hsc | (simp at hsc ⊢; exact hsc) | (simp; done) | (simp; omega); done) | omega | simp | (simp +contextual; omega)) rfl (by kernel_rfl) ?_
 refine yA.nil (by kernel_rfl) ⟨by kernel_rfl, ?_⟩
 refine qC.run [[],[4,5]] ?_
 iterate 2 refine op1 tok ?_
 exact qA (AW.ret qG)
end Go.Proofs.YtdojfdaglbphlaaGreatDoor
