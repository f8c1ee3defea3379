import Derived.Test.YtlmedakhioiahaaGreatDoorSScrR
import Derived.Test.YtlmedakhioiahaaGreatDoorSRefGet
import Derived.Test.YtlmedakhioiahaaGreatDoorK2
namespace Go.Proofs.YtlmedakhioiahaaGreatDoor
open Sy Go
set_option maxRecDepth 100000
set_option maxHeartbeats 4000000
set_option linter.unusedSimpArgs false
set_option linter.unusedVariables false
variable {G:qO}
theorem zJM (c:UInt8):jF c=false↔((((c.toNat:Int)≠32∧(c.toNat:Int)≠9)∧(c.toNat:Int)≠10)∧(c.toNat:Int)≠13):=by
 have e:∀ n:UInt8,((c == n)=true)↔(c.toNat:Int)=n.toNat:=fun n=>by
  rw [beq_iff_eq]
  constructor
  ·rintro rfl; rfl
  intro h; exact UInt8.toNat_inj.1 (by omega)
 have h1:=e 32
 have h2:=e 9
 have h3:=e 13
 have h4:=e 10
 simp only [show (32:UInt8).toNat=32 from rfl,show (9:UInt8).toNat=9 from rfl,show (13:UInt8).toNat=13 from rfl,show (10:UInt8).toNat=10 from rfl] at h1 h2 h3 h4
 unfold jF
 rw [← Bool.not_eq_true,Bool.or_eq_true,Bool.or_eq_true,Bool.or_eq_true,h1,h2,h3,h4]
 omega
theorem qWC (s:List UInt8) (hs:s.length≤1000000):AFn Tryz.prog G 28 [.str s] (.bool (s.all jF)):=by
 refine AFn.introU tok Tryz.func28 (by kernel_rfl) rfl rfl ?_
 simp only [Tryz.f28,qL,List.map_cons,List.map_nil]
 refine rgn [] [[0]] ?_
 refine op1 tok ?_
 refine qA (AW.seq (rgn [] [[]] ?_))
 refine op1 tok ?_
 refine qA (AW.block ?_)
 refine AW.loop (α:=Nat) (fun k=>k≤s.length∧(s.take k).all jF=true) (fun k=>⟨zD 32 [(0,.p (.str s)),(3,.p (.int .i64 k))],[],[],0⟩) (fun k=>s.length-k) (0) ⟨by omega,by simp⟩ ⟨qD (by simp),rfl,by simp,by simp⟩ ?_
 rintro k ⟨hk,hall⟩
 refine AW.seq (rgn [] [[],[],[],[0,3,7]] ?_)
 iterate 4 refine op1 tok ?_
 refine qA (cnd ?_ ?_)
 ·intro h7
  try simp at h7
  obtain ⟨c,hc⟩:∃ c,s[k]?=some c:=⟨s[k]'(by omega),List.getElem?_eq_getElem _⟩
  have hb:=zJM c
  have htk:(s.take (k+1)).all jF=((s.take k).all jF && jF c):=by rw [List.take_add_one,hc,List.all_append]; simp
  refine AW.skip (AW.seq (AW.block (rgn [.int .u8 c.toNat,.int .u8 c.toNat,.int .u8 c.toNat,.int .u8 c.toNat] [[],[],[],[],[0,3,14],[],[],[],[],[0,3,19],[],[],[],[],[0,3,20,24],[],[],[],[],[0,3,26,29],[],[0,3,31]] ?_)))
  iterate 22 first | refine op1 tok ?_ (hv:=by first | with_reducible exact True.intro | (first | exact ⟨c,hc,rfl⟩ | exact fun _=>⟨c,hc,rfl⟩ | exact fun h=>⟨h,c,hc,rfl⟩ | exact fun h1 h2=>⟨⟨h1,h2⟩,c,hc,rfl⟩ | exact fun _ _=>⟨c,hc,rfl⟩ | exact fun _ _ _=>⟨c,hc,rfl⟩ | exact fun h1 h2 h3=>⟨⟨⟨h1,h2⟩,h3⟩,c,hc,rfl⟩; done) | omega | simp | (simp +contextual; omega)) | refine op2 tok ?_ (hv:=by first | with_reducible exact True.intro | (first | exact ⟨c,hc,rfl⟩ | exact fun _=>⟨c,hc,rfl⟩ | exact fun h=>⟨h,c,hc,rfl⟩ | exact fun h1 h2=>⟨⟨h1,h2⟩,c,hc,rfl⟩ | exact fun _ _=>⟨c,hc,rfl⟩ | exact fun _ _ _=>⟨c,hc,rfl⟩ | exact fun h1 h2 h3=>⟨⟨⟨h1,h2⟩,h3⟩,c,hc,rfl⟩; done) | omega | simp | (simp +contextual; omega))
  refine qA (cnd ?_ ?_)
  ·intro h31
   try simp at h31
   have hR:s.all jF=false:=by
    rw [← Bool.not_eq_true]; intro h
    have:=List.all_eq_true.1 h c (List.mem_of_getElem? hc)
    rw [hb.2 h31] at this; cases this
   refine rgn [] [[]] ?_
   refine op1 tok ?_
   refine qA ?_
   exact AW.ret (qK (k:=by simp [hR]))
  intro h31
  try simp at h31
  have hbl:jF c=true:=by
   rw [← Bool.not_eq_false]; intro h
   obtain ⟨⟨⟨q1,q2⟩,q3⟩,q4⟩:=hb.1 h
   first | exact q4 (h31 q1 q2 q3) | exact h31 ⟨⟨⟨q1,q2⟩,q3⟩,q4⟩ | omega
  refine AW.skip (rgz [] [[],[],[0,3]] ?_)
  iterate 3 refine op1 tok ?_
  refine qA ?_
  exact ⟨k+1,⟨by omega,by rw [htk,hall,hbl]; rfl⟩,by omega,qD (by simp),rfl,by simp,by simp⟩
 intro h7
 try simp at h7
 have hR:s.all jF=true:=by rw [List.take_of_length_le (by omega)] at hall; exact hall
 refine AW.exit ?_
 simp
 refine rgn [] [[]] ?_
 refine op1 tok ?_
 refine qA ?_
 exact AW.ret (qK (k:=by simp [hR]))
def vG (v:Val) (key:List UInt8):List UInt8 × Bool:=((jG v key).1.text,(jG v key).2 && decide ((jG v key).1.kind=5))
theorem qYF (v:Val) (key:List UInt8) (hl:v.keys.length≤v.kids.length) (hlm:v.keys.length≤1000000):AFn Tryz.prog G 29 [v.enc,.str key] (.tup [.str (vG v key).1,.bool (vG v key).2]):=by
 refine AFn.introU tok Tryz.func29 (by kernel_rfl) rfl rfl ?_
 simp only [Tryz.f29,qL,List.map_cons,List.map_nil]
 have hg:=qNG (G:=G) v key hl hlm
 have e:vG v key=((jG v key).1.text,(jG v key).2 && decide ((jG v key).1.kind=5)):=rfl
 rw [e]
 generalize jG v key=r at *
 obtain ⟨x,b⟩:=r
 simp only [Val.enc_def] at hg
 refine rgn [] [[],[],[1,2]] ?_
 iterate 3 refine op1 tok ?_
 refine qA (rgn [.nilp,.tup [x.enc,.bool b]] [[],[],[11],[],[],[],[],[],[6,7]] ?_)
 iterate 9 refine oq1 tok hg ?_
 refine qA ?_
 refine AW.seqRunDrawK tok mixed [4,5] 9 [[6],[14],[7],[16],[6,17],[18,17],[19,17],[17,20],[15]] [] [] (by kernel_rfl) (by intro C; conv=>lhs; simp) (by first | with_reducible exact True.intro | omega | simp | (simp +contextual; omega)) (by simp [Sm.sum,Sm.foot,Sm.tch,Sm.refs]; kernel_rfl) (by intro C; conv=>lhs; simp) (by first | with_reducible exact True.intro | omega | simp | (simp +contextual; omega)) ?_
 exact AW.ret qK
def kV (v:Val) (key:List UInt8):Int × Bool:=if (jG v key).2=true then kC (jG v key).1 else (0,false)
theorem qSS (hE:PE G) (v:Val) (key:List UInt8) (hl:v.keys.length≤v.kids.length) (hlm:v.keys.length≤1000000) (hx:(jG v key).2=true→(jG v key).1.kind=4→wM (jG v key).1.num=true):AFn Tryz.prog G 30 [v.enc,.str key] (.tup [.int .i64 (kV v key).1,.bool (kV v key).2]):=by
 refine AFn.introU tok Tryz.func30 (by kernel_rfl) rfl rfl ?_
 simp only [Tryz.f30,qL,List.map_cons,List.map_nil]
 have hg:=qNG (G:=G) v key hl hlm
 have e:kV v key=if (jG v key).2=true then kC (jG v key).1 else (0,false):=rfl
 rw [e]
 generalize jG v key=r at *
 obtain ⟨x,b⟩:=r
 simp only at hx ⊢
 have hM:kC x=if x.kind=4∧x.num.scale=0∧x.num.digits.length≤15 then (kD x.num,inB (kD x.num)) else (0,false):=rfl
 rw [hM]
 simp only [Val.enc_def] at hg
 refine rgn [] [[],[],[1,2]] ?_
 iterate 3 refine op1 tok ?_
 refine qA (rgn [.nilp,.tup [x.enc,.bool b]] [[],[],[13],[],[],[],[],[],[6,7]] ?_)
 iterate 9 refine oq1 tok hg ?_
 refine qA (AW.seq (rgn [] [[],[],[],[],[6,18,20],[],[],[6,23],[],[],[],[],[6,28],[],[],[],[],[6,29,33],[],[6,35]] ?_))
 iterate 20 first | refine op1 tok ?_ | refine op2 tok ?_
 refine qA (cnd ?_ ?_)
 ·intro h35
  try simp at h35
  have hR:(if b=true then if x.kind=4∧x.num.scale=0∧x.num.digits.length≤15 then (kD x.num,inB (kD x.num)) else (0,false) else (0,false))=((0,false):Int × Bool):=by
   split
   ·rename_i hb
    rw [if_neg]
    rintro ⟨q1,q2,q3⟩
    rcases h35 with ((h | h) | h) | h
    ·rw [hb] at h; cases h
    ·exact h q1
    ·exact h q2
    omega
   rfl
  rw [hR]
  refine rgn [] [[],[]] ?_
  iterate 2 refine op1 tok ?_
  exact qA (AW.ret qK)
 intro h35
 try simp at h35
 have hb:b=true:=h35.1.1.1
 have hc:x.kind=4∧x.num.scale=0∧x.num.digits.length≤15:=⟨h35.1.1.2,h35.1.2,by have:=h35.2; omega⟩
 rw [if_pos hb,if_pos hc]
 obtain ⟨k4,k5,k6⟩:=hc
 have hd:=hx hb k4
 have hat:=qYE (G:=G) hE x.num.digits (by omega)
 rw [(qLZ hd k5 k6).2] at hat
 have hlt:=qWP (qOK hd)
 have hp15:=Nat.pow_le_pow_right (n:=10) (by decide) k6
 have hW:kD x.num=if x.num.neg=true then -((vC x.num.digits:Nat):Int) else (vC x.num.digits:Nat):=rfl
 have hB:∀ n,inB n=(decide (-1099511627776≤n) && decide (n≤1099511627776)):=fun _=>rfl
 rw [hB,hW]
 generalize vC x.num.digits=m at *
 have hwr:IntKind.i64.wrap (-(m:Int)) = -(m:Int):=by simp [IntKind.wrap,IntKind.bits,IntKind.signed]; omega
 refine AW.skip (rgn [.nilp,.tup [.int .i64 m,.noerr]] [[],[],[],[],[6,36],[],[],[],[6,8]] ?_)
 iterate 9 refine oq1 tok hat ?_
 refine qA (AW.seq (rgn [] [[],[],[8,45]] ?_))
 iterate 3 refine op1 tok ?_
 refine qA (cnd ?_ ?_)
 ·intro h45
  try simp at h45
  rw [if_pos h45]
  refine rgz [] [[],[],[8]] ?_
  iterate 3 refine op1 tok ?_ (h:=by intro C; conv=>lhs; simp [hwr])
  refine qA (rgn [] [[],[],[],[],[],[48,51,53],[],[],[4,5]] ?_)
  iterate 4 refine op1 tok ?_
  iterate 2 refine op2 tok ?_
  iterate 3 refine op1 tok ?_
  exact qA (AW.ret qK)
 intro h45
 try simp at h45
 rw [if_neg (by rw [h45]; simp)]
 refine AW.skip (rgn [] [[],[],[],[],[],[48,51,53],[],[],[4,5]] ?_)
 iterate 4 refine op1 tok ?_
 iterate 2 refine op2 tok ?_
 iterate 3 refine op1 tok ?_
 exact qA (AW.ret qK)
def kT (v:Val):Nat→Option (List (List UInt8) × List Int)
 | 0=>some ([[],[],[],[]],[0,0,0,0])
 | k+1=>(kT v k).bind fun p=>if (vG v (zF.getD k [])).2=true∧(kV v (zY.getD k [])).2=true then some (p.1.set k (vG v (zF.getD k [])).1,p.2.set k (kV v (zY.getD k [])).1) else none
def qYK (s:List UInt8):V := .p (.str s)
def qZQ (n:Int):V := .p (.int .i64 n)
theorem qHE {v:Val}:∀ {k:Nat} {p:List (List UInt8) × List Int},kT v k=some p→p.1.length=4∧p.2.length=4
 | 0,p,h=>by simp only [kT,Option.some.injEq] at h; subst h; exact ⟨rfl,rfl⟩
 | k+1,p,h=>by
  simp only [kT] at h
  cases hq:kT v k with
  | none=>rw [hq] at h; simp at h
  | some q =>
   rw [hq] at h
   obtain ⟨h1,h2⟩:=qHE hq
   simp only [Option.bind_some] at h
   split at h
   ·simp only [Option.some.injEq] at h; subst h
    simp only [List.length_set]; exact ⟨h1,h2⟩
   cases h
theorem qVR {v:Val} {k:Nat} (h:kT v k=none):∀ m,k≤m→kT v m=none:=by
 intro m hm
 induction m with
 | zero => have : k = 0 := by omega
           subst this; exact h
 | succ m ih =>
  rcases Nat.lt_or_ge m k with h1 | h1
  ·have:k=m+1:=by omega
   rw [← this]; exact h
  simp only [kT]; rw [ih h1]; rfl
def zCM (p:List (List UInt8) × List Int):Jb:=⟨p.1.getD 0 [],p.1.getD 1 [],p.1.getD 2 [],p.1.getD 3 [],p.2.getD 0 0,p.2.getD 1 0,p.2.getD 2 0,p.2.getD 3 0⟩
def qSE (s:List UInt8):Jb × Int :=
 if (wA s).2.2≠0∨(s.drop (wA s).2.1.toNat).all jF=false∨(wA s).1.kind≠7∨(wA s).1.keys.length≠8 then (jb0,240)
 else match kT (wA s).1 4 with
  | some p=>(zCM p,0)
  | none=>(jb0,240)
theorem qYS (hE:PE G) (s:List UInt8) (hs:s.length≤100000) (ho:AFn Tryz.prog G 16 [.str s] (.tup [(wA s).1.enc,.int .i64 (wA s).2.1,.int .i64 (wA s).2.2])) (hv:(wA s).2.2=0→(wA s).1.kind=7→(wA s).1.keys.length=(wA s).1.kids.length∧∀ key,(jG (wA s).1 key).2=true→(jG (wA s).1 key).1.kind=4→wM (jG (wA s).1 key).1.num=true):AFn Tryz.prog G 11 [.str s] (.tup [(qSE s).1.enc,.int .i64 (qSE s).2]):=by
 refine AFn.introU tok Tryz.func11 (by kernel_rfl) rfl rfl ?_
 simp only [Tryz.f11,qL,List.map_cons,List.map_nil]
 have hkeys:=qEY (G:=G)
 have hrg:=qNL (s:=s)
 have hbl:=qWC (G:=G) (s.drop (wA s).2.1.toNat) (by rw [List.length_drop]; omega)
 have hR:qSE s=if (wA s).2.2≠0∨(s.drop (wA s).2.1.toNat).all jF=false∨(wA s).1.kind≠7∨(wA s).1.keys.length≠8 then ((jb0,240):Jb × Int) else match kT (wA s).1 4 with
  | some p=>((zCM p,0):Jb × Int)
  | none=>(jb0,240):=rfl
 rw [hR]
 generalize wA s=r at *
 obtain ⟨v,n,e⟩:=r
 simp only at ho hv hrg hbl ⊢
 generalize (s.drop n.toNat).all jF=B at *
 have hjl:yU.length=8:=rfl
 simp only [Val.enc_def] at ho
 refine rgn [] [[],[0,2]] ?_
 iterate 2 refine op1 tok ?_
 refine qA (rgn [.nilp,.tup [v.enc,.int .i64 n,.int .i64 e]] [[],[],[],[],[],[],[],[0,2,4,19,20],[],[0,2,4,5,6]] ?_)
 iterate 10 refine oq1 tok ho ?_
 refine qA (AW.seq ?_)
 by_cases hs2:e=0
 ·
  subst hs2
  obtain ⟨hr1,hr2⟩:=hrg rfl
  refine rgn [.nilp,.bool B] [[],[],[],[2,4,5,23,24],[],[],[2,4,23,27],[],[],[2,4,30],[],[],[],[2,4,34],[],[],[],[],[2,4,35,39],[2,4,40]] ?_
  iterate 20 first | refine op1 tok ?_ (hv:=by first | with_reducible exact True.intro | (first | exact hbl | exact fun _=>hbl | (simp; omega); done) | omega | simp | (simp +contextual; omega)) | refine op2 tok ?_ (hv:=by first | with_reducible exact True.intro | (first | exact hbl | exact fun _=>hbl | (simp; omega); done) | omega | simp | (simp +contextual; omega))
  refine qA (cnd ?_ ?_)
  ·intro h40
   try simp at h40
   rw [if_pos (show (0:Int)≠0∨B=false∨v.kind≠7∨v.keys.length≠8 by
    rcases h40 with (h | h) | h
    ·exact .inr (.inl h)
    ·exact .inr (.inr (.inl h))
    exact .inr (.inr (.inr (by omega))))]
   refine rgn [] [[],[],[2,3]] ?_
   iterate 3 refine op1 tok ?_
   refine qA ?_
   exact AW.ret (qK (k:=by simp [jb0]))
  intro h40
  try simp at h40
  have h40':B=true∧v.kind=7∧v.keys.length=8:=⟨h40.1.1,h40.1.2,by have:=h40.2; omega⟩
  rw [if_neg (show ¬ ((0:Int)≠0∨B=false∨v.kind≠7∨v.keys.length≠8) by
   obtain ⟨q1,q2,q3⟩:=h40'
   rintro (h | h | h | h)
   ·exact h rfl
   ·rw [q1] at h; cases h
   ·exact h q2
   exact h q3)]
  obtain ⟨-, hk7,hk8⟩:=h40'
  obtain ⟨hv1,hv2⟩:=hv rfl hk7
  refine AW.skip (rgn [.nilp,.sl 1 (yU.map PD.str)] [[],[2,4,7]] ?_)
  iterate 2 refine oq1 tok hkeys ?_
  refine qA ?_
  refine AW.seqRegionO [] ?_
  refine qB.stepK [2,4,7,43] (qJQ tok rfl rfl rfl rfl rfl) (by conv=>lhs; simp) rfl ?_
  refine qB.run [[],[2,4,7,8]] ?_
  iterate 2 refine op1 tok ?_
  refine qA ?_
  refine AW.seqRegionO [] ?_
  refine qB.stepK [2,4,7,8,44] (qJQ tok rfl rfl rfl rfl rfl) (by conv=>lhs; simp) rfl ?_
  refine qB.run [[],[2,4,7,8,9]] ?_
  iterate 2 refine op1 tok ?_
  refine qA (AW.seq (rgn [] [[]] ?_))
  refine op1 tok ?_
  refine qA (AW.block ?_)
  refine AW.loop (α:=Nat × List (List UInt8) × List Int) (fun a=>a.1≤4∧kT v a.1=some a.2) (fun a=>⟨zD 98 [(2,.ptr 2 0),(4,.ptr 4 0),(7,.p (.sl 1 (yU.map PD.str))),(8,.ptr 8 0),(9,.ptr 9 0),(10,.p (.int .i64 a.1))],[],[(2,.vars 23 jb0.cells),(4,.vars 42 v.cells),(8,.vars 63 (a.2.1.map qYK)),(9,.vars 64 (a.2.2.map qZQ))],0⟩) (fun a=>4-a.1) ((0,[[],[],[],[]],[0,0,0,0])) ⟨by simp,rfl⟩ ⟨qD (by simp),rfl,(by simp [jb0,qYK,qZQ]; exact ⟨rfl,rfl⟩),by simp⟩ ?_
  rintro ⟨k,w,x⟩ ⟨hk,hfl⟩
  simp only at hk hfl
  obtain ⟨hwl,hxl⟩:=qHE hfl
  simp only at hwl hxl
  refine AW.seq (rgn [] [[],[2,4,7,8,9,10,46]] ?_)
  iterate 2 refine op1 tok ?_
  refine qA (cnd ?_ ?_)
  ·intro h46
   try simp at h46
   have hk':k<4:=by omega
   have hkw:zF[k]?=some (zF.getD k []):=by
    have:k<zF.length:=hk'
    rw [List.getD_eq_getElem?_getD,List.getElem?_eq_getElem this]; rfl
   have hkn:zY[k]?=some (zY.getD k []):=by
    have:k<zY.length:=hk'
    rw [List.getD_eq_getElem?_getD,List.getElem?_eq_getElem this]; rfl
   have hst:kT v (k+1)=if (vG v (zF.getD k [])).2=true∧(kV v (zY.getD k [])).2=true then some (w.set k (vG v (zF.getD k [])).1,x.set k (kV v (zY.getD k [])).1) else none:=by
    simp only [kT,hfl]; rfl
   have hj1:yU[k]?=some (zF.getD k []):=by rw [(qJD jb0 hk').1]; exact hkw
   have hj2:yU[k+4]?=some (zY.getD k []):=by rw [(qFS jb0 hk').1]; exact hkn
   generalize zF.getD k []=kw at *
   generalize zY.getD k []=kn at *
   have h1:=qYF (G:=G) v kw (by omega) (by omega)
   have h2:=qSS (G:=G) hE v kn (by omega) (by omega) (hv2 kn)
   generalize vG v kw=rw at *
   generalize kV v kn=rn at *
   obtain ⟨ws,wb⟩:=rw
   obtain ⟨ns,nb⟩:=rn
   simp only at h1 h2 hst
   simp only [Val.enc_def] at h1 h2
   have hj2':yU[4+k]?=some kn:=by rw [Nat.add_comm]; exact hj2
   have ht4:((4:Int)+k).toNat=4+k:=by omega
   have es:(w.map qYK).set k (.p (.str ws))=(w.set k ws).map qYK:=by rw [List.map_set]; rfl
   have en:(x.map qZQ).set k (.p (.int .i64 ns))=(x.set k ns).map qZQ:=by rw [List.map_set]; rfl
   refine AW.skip (AW.seq (AW.block ?_))
   refine AW.seqDrawS tok mixed 10 [[4],[7],[10],[51,52],[53],[50,54],[55],[49],[49],[56]] [.str kw,.nilp,.tup [.str ws,.bool wb]] [] (by kernel_rfl) ?_
   iterate 10 refine d1 ?_ (hv:=by first | with_reducible exact True.intro | (first | exact h1 | (simp [hj1]; done) | (simp [hj1,hjl]; omega); done) | omega | simp | (simp +contextual; omega))
   refine DGo.nil (by kernel_rfl) ⟨by kernel_rfl, ?_⟩
   refine qB.run [[2,4,7,8,9,10,11,12]] ?_
   refine op1 tok ?_
   refine qA ?_
   refine AW.seqDrawS tok mixed 11 [[4],[7],[10],[61],[60,62],[63],[59,64],[65],[58],[58],[66]] [.str kn,.nilp,.tup [.int .i64 ns,.bool nb]] [] (by kernel_rfl) ?_
   iterate 11 refine d1 ?_ (hv:=by first | with_reducible exact True.intro | (first | exact h2 | (simp [hj2',ht4]; done) | (simp [hj2',ht4,hjl]; omega); done) | omega | simp | (simp +contextual; omega))
   refine DGo.nil (by kernel_rfl) ⟨by kernel_rfl, ?_⟩
   refine qB.run [[2,4,7,8,9,10,11,12,13,14]] ?_
   refine op1 tok ?_
   refine qA (AW.seq (rgn [] [[],[],[],[2,4,7,8,9,10,11,13,70,71],[],[2,4,7,8,9,10,11,13,73]] ?_))
   iterate 3 refine op1 tok ?_
   iterate 2 refine op2 tok ?_
   refine op1 tok ?_
   refine qA (cnd ?_ ?_)
   ·intro h73
    try simp at h73
    have hno:kT v (k+1)=none:=by
     rw [hst,if_neg]
     rintro ⟨q1,q2⟩
     rcases h73 with h | h
     ·rw [q1] at h; cases h
     rw [q2] at h; cases h
    rw [qVR hno 4 (by omega)]
    refine rgn [] [[],[],[2,3]] ?_
    iterate 3 refine op1 tok ?_
    refine qA ?_
    exact AW.ret (qK (k:=by simp [jb0]))
   intro h73
   try simp at h73
   have hok:wb=true∧nb=true:=by first | exact h73 | (simpa using h73)
   rw [if_pos hok] at hst
   refine AW.skip (rgn [] [[],[],[],[2,4,7,8,9,10,13]] ?_)
   iterate 4 refine op1 tok ?_ (h:=by intro C; conv=>lhs; simp [es]) (hv:=by first | with_reducible exact True.intro | (first | (simp [hwl]; done) | (simp [hwl]; omega); done) | omega | simp | (simp +contextual; omega))
   refine qA (rgz [] [[],[],[],[2,4,7,8,9,10]] ?_)
   iterate 4 refine op1 tok ?_ (h:=by intro C; conv=>lhs; simp [en]) (hv:=by first | with_reducible exact True.intro | (first | (simp [hxl]; done) | (simp [hxl]; omega); done) | omega | simp | (simp +contextual; omega))
   refine qA (rgz [] [[],[],[2,4,7,8,9,10]] ?_)
   iterate 3 refine op1 tok ?_
   refine qA ?_
   exact ⟨(k+1,w.set k ws,x.set k ns),⟨by simp only; omega,hst⟩,by simp only; omega,qD (by simp [es,en]),rfl,by simp [es,en],by simp [es,en]⟩
  intro h46
  try simp at h46
  obtain rfl:k=4:=by omega
  rw [hfl]
  obtain ⟨w0,w1,w2,w3,rfl⟩:∃ a b c d,w=[a,b,c,d]:=by
   match w,hwl with
   | [a,b,c,d],_=>exact ⟨a,b,c,d,rfl⟩
  obtain ⟨x0,x1,x2,x3,rfl⟩:∃ a b c d,x=[a,b,c,d]:=by
   match x,hxl with
   | [a,b,c,d],_=>exact ⟨a,b,c,d,rfl⟩
  try simp only [List.map_cons,List.map_nil,qYK,qZQ]
  refine AW.exit ?_
  simp
  refine rgn [.str w0,.str w1,.str w2,.str w3,.int .i64 x0,.int .i64 x1,.int .i64 x2,.int .i64 x3] [[],[],[],[],[],[],[2,9,82,84,86,87],[],[],[],[],[],[],[2,9,82,84,86,88,90,92,94],[],[],[2,97],[],[2,3]] ?_
  iterate 19 refine op1 tok ?_ (hv:=by first | with_reducible exact True.intro | (first | (simp [qYK]; done) | (simp [qZQ]; done); done) | omega | simp | (simp +contextual; omega))
  refine qA ?_
  exact AW.ret (qK (k:=by simp [zCM]))
 ·
  have hs2':¬ e=0:=hs2
  refine rgn [] [[],[],[],[2,4,5,23,24],[],[],[2,4,23,27],[],[],[2,4,30],[],[],[],[2,4,34],[],[],[],[],[2,4,35,39],[2,4,40]] ?_
  iterate 20 first | refine op1 tok ?_ (h:=by intro C; conv=>lhs; simp [hs2']) | refine op2 tok ?_ (h:=by intro C; conv=>lhs; simp [hs2'])
  refine qA (cnd ?_ ?_)
  ·intro h40
   try simp at h40
   rw [if_pos (.inl hs2)]
   refine rgn [] [[],[],[2,3]] ?_
   iterate 3 refine op1 tok ?_
   refine qA ?_
   exact AW.ret (qK (k:=by simp [jb0]))
  intro h40
  try simp at h40
end Go.Proofs.YtlmedakhioiahaaGreatDoor
