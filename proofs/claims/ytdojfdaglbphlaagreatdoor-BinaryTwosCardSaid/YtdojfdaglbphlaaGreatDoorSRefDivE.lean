import Derived.Test.YtdojfdaglbphlaaGreatDoorSRefDivL
namespace Go.Proofs.YtdojfdaglbphlaaGreatDoor
open Sy Go
set_option maxRecDepth 100000
set_option maxHeartbeats 4000000
set_option linter.unusedSimpArgs false
set_option linter.unusedVariables false
variable {G:qR}
theorem zTJ {A B la:Nat} (hA:A<10 ^ la) (j:Nat):wH A B j<10 ^ (la+j):=by
 unfold wH
 refine Nat.lt_of_le_of_lt (Nat.div_le_self _ _) ?_
 rw [Nat.pow_add]
 exact (Nat.mul_lt_mul_right (Nat.pow_pos (by decide))).2 hA
theorem zRC (a b:Dc) (ha:zO a=true) (hb:zO b=true):AFn Tryz.prog G 114 [a.enc,b.enc] (.tup [(qBE a b).1.enc,.int .i64 (qBE a b).2]):=by
 refine AFn.introU tok Tryz.func114 (by kernel_rfl) rfl rfl ?_
 simp only [Tryz.f114,qI,List.map_cons,List.map_nil]
 have hpos:=fun h=>qMR hb h
 obtain ⟨⟨a1,a2,a3,a4⟩,a5,a6⟩:=zF ha
 obtain ⟨⟨b1,b2,b3,b4⟩,b5,b6⟩:=zF hb
 have hD:qBE a b=if b.digits=[48] then (dc0,5) else vG (a.neg != b.neg) (qMJ (qE a.digits) (qE b.digits)).1 (a.scale-b.scale+(qMJ (qE a.digits) (qE b.digits)).2):=rfl
 rw [hD]
 have hlo:=fun h0=>qZP (G:=G) a.digits b.digits a4 b4 h0 (by omega) (by omega)
 have hleft:=fun h0=>qPE (x:=a.digits) b4 h0 a.digits.length
 have hAl:=wB a4
 have hq:=fun j=>zTJ (B:=qE b.digits) hAl j
 have hst:=fun r h1 h2 h3=>qYF (G:=G) r 48 b.digits h1 (by decide) b4 h2 h3 (by omega)
 rw [List.take_length] at hleft
 generalize hAA:qE a.digits=A at *
 generalize hBB:qE b.digits=B at *
 refine rgn [] [[],[],[],[2,3,4]] ?_
 iterate 4 refine op1 tok ?_
 refine qA (AW.seq (rgn [] [[],[],[2,3,4,18]] ?_))
 iterate 3 refine op1 tok ?_
 refine qA (cnd ?_ ?_)
 ·intro h18
  try simp at h18
  rw [if_pos h18]
  refine rgn [] [[],[],[4,5]] ?_
  iterate 3 refine op1 tok ?_
  refine qA ?_
  exact AW.ret (qG (k:=by simp [dc0]))
 intro h18
 try simp at h18
 rw [if_neg h18]
 obtain ⟨hB0,hB60⟩:=hpos h18
 have hlo:=hlo hB0
 obtain ⟨o1,o2,o3⟩:=hleft hB0
 generalize qDE a.digits b.digits a.digits.length=R0 at *
 have q0:wH A B 0=A / B:=by simp [wH]
 have r0:jC A B 0=A % B:=by simp [jC]
 rw [← q0] at hlo
 refine AW.skip (rgn [.nilp,.tup [.str (zA a.digits.length (wH A B 0)),.str R0]] [[],[],[],[],[2,3,4,25],[],[],[],[],[2,3,4,6,7]] ?_)
 iterate 10 refine oq1 tok hlo ?_
 refine qA (rgn [] [[],[],[],[],[2,3,4,6,7,32],[2,3,4,6,7,8]] ?_)
 iterate 6 refine op1 tok ?_
 refine qA (AW.seq (AW.block ?_))
 refine AW.loop (α:=Nat × List UInt8) (fun s=>s.2.all qH=true∧qE s.2=jC A B s.1∧s.2.length≤61∧s.1≤100∧(∀ i,0≤i→i<s.1→qBU A B i=true)) (fun s=>⟨qV 123 [(2,.ptr 2 0),(3,.ptr 3 0),(4,.ptr 4 0),(6,.p (.str (zA (a.digits.length+s.1) (wH A B s.1)))),(7,.p (.str s.2)),(8,.p (.int .i64 (a.scale-b.scale+s.1)))],[],[(2,.vars 26 [.p (.bool a.neg),.p (.str a.digits),.p (.int .i64 a.scale)]),(3,.vars 26 [.p (.bool b.neg),.p (.str b.digits),.p (.int .i64 b.scale)]),(4,.vars 26 [.p (.bool false),.p (.str []),.p (.int .i64 0)])],0⟩) (fun s=>200-s.1) ((0,R0)) ⟨o1,by rw [o2,r0],by simp only; omega,by simp,fun i _ h=>absurd h (by simp)⟩ ⟨qB (by simp),rfl,by simp,by simp⟩ ?_
 rintro ⟨j,r⟩ ⟨i1,i2,i3,i4,i5⟩
 simp only at i1 i2 i3 i4 i5
 have hno:=qOO (G:=G) r (by omega)
 rw [zEZ i1,i2] at hno
 have hfi:=qTR (G:=G) (zA (a.digits.length+j) (wH A B j)) (by rw [zD]; omega)
 have hfn:=zNR (hq j)
 have hmo:qBU A B j=(decide (jC A B j≠0) && decide (ndg (wH A B j)≤34)):=rfl
 have hol:=zD (a.digits.length+j) (wH A B j)
 refine AW.seq (rgn [.nilp,.bool (decide (jC A B j=0)),.nilp,.int .i64 (qEG (zA (a.digits.length+j) (wH A B j)))] [[],[],[],[],[],[2,3,4,6,7,8,36,38],[],[],[],[2,3,4,6,7,8,36,42],[2,3,4,6,7,8,43]] ?_)
 iterate 4 refine op1 tok ?_ (hv:=by first | with_reducible exact True.intro | (first | exact hno | exact fun _=>hfi | exact fun h=>⟨h,hfi⟩; done) | omega | simp | (simp +contextual; omega))
 iterate 6 refine op2 tok ?_ (hv:=by first | with_reducible exact True.intro | (first | exact hno | exact fun _=>hfi | exact fun h=>⟨h,hfi⟩; done) | omega | simp | (simp +contextual; omega))
 refine op1 tok ?_ (hv:=by first | with_reducible exact True.intro | (first | exact hno | exact fun _=>hfi | exact fun h=>⟨h,hfi⟩; done) | omega | simp | (simp +contextual; omega))
 refine qA (cnd ?_ ?_)
 ·intro h43
  try simp at h43
  have hmj:qBU A B j=true:=by
   rw [hmo]; simp only [Bool.and_eq_true,decide_eq_true_eq]
   omega
  have hj:=qZH hB0 hB60 hmj
  have hrl:=qMO A j hB0
  have hst:=hst r i1 (by rw [i2]; exact hrl) (by omega)
  rw [i2] at hst
  simp only [show (48:UInt8).toNat=48 from rfl,Nat.sub_self,Nat.add_zero] at hst
  obtain ⟨s1,s2⟩:=qKI (A:=A) hB0 j
  have hq10:jC A B j * 10 / B<10:=(Nat.div_lt_iff_lt_mul hB0).2 (by omega)
  have hnq:zA (a.digits.length+(j+1)) (wH A B (j+1))=zA (a.digits.length+j) (wH A B j)++[UInt8.ofNat (48+jC A B j * 10 / B)]:=by
   rw [s1,← Nat.add_assoc,qGU _ _ _ hq10]
  rw [← s2] at hst
  have hr1:qE (zA (b.digits.length+1) (jC A B (j+1)))=jC A B (j+1):=by
   have:=qMO A (j+1) hB0
   have hb9:=wB b4
   rw [zZ,Nat.mod_eq_of_lt (by rw [Nat.pow_succ]; omega)]
  generalize jC A B j * 10 / B=q at *
  have hr:=kF hq10
  generalize UInt8.ofNat (48+q)=D at *
  refine AW.skip (AW.block (rgn [.nilp,.tup [.int .u8 ((48+q:Nat):Int),.str (zA (b.digits.length+1) (jC A B (j+1)))]] [[],[],[],[2,3,4,6,8,48],[],[],[],[],[2,3,4,6,8,9,10]] ?_))
  iterate 9 refine oq1 tok hst ?_
  refine qA (rgn [.int .u8 D.toNat,.str [D]] [[],[],[],[2,3,4,8,10,51,54],[],[2,3,4,6,8,10]] ?_)
  iterate 6 refine op1 tok ?_ (h:=by intro C; conv=>lhs; simp [hr]) (hv:=by first | with_reducible exact True.intro | ((rw [show qM [D]=[PD.int .u8 (D.toNat:Int)] from rfl,hr]; simp; done); done) | omega | simp | (simp +contextual; omega))
  refine qA (rgn [] [[],[2,3,4,6,7,8]] ?_)
  iterate 2 refine op1 tok ?_
  refine qA (rgz [] [[],[],[2,3,4,6,7,8]] ?_)
  iterate 3 refine op1 tok ?_
  refine qA ?_
  exact ⟨(j+1,zA (b.digits.length+1) (jC A B (j+1))),⟨zT _ _,hr1,by simp only [zD]; omega,by simp only; omega,fun i _ hi=>by rcases Nat.lt_or_ge i j with h | h; exact i5 i (Nat.zero_le _) h; rw [show i=j by simp only at hi; omega]; exact hmj⟩,by simp only; omega,qB (by simp [hnq,show a.scale-b.scale+((j:Int)+1)=a.scale-b.scale+j+1 from by omega]),rfl,by simp [hnq,show a.scale-b.scale+((j:Int)+1)=a.scale-b.scale+j+1 from by omega],by simp [hnq,show a.scale-b.scale+((j:Int)+1)=a.scale-b.scale+j+1 from by omega]⟩
 intro h43
 try simp at h43
 have hmj:qBU A B j=false:=by
  rw [hmo]
  by_cases h0:jC A B j=0
  ·simp [h0]
  have:=h43 h0
  have h34:¬ ndg (wH A B j)≤34:=by omega
  simp [h34]
 have hJ:qRI A B 100 0=j:=qMW 100 0 j i5 (Nat.zero_le _) (by omega) hmj
 have hV:qMJ A B=((uC (wH A B j) (decide (jC A B j≠0))).1,(j:Int)-(uC (wH A B j) (decide (jC A B j≠0))).2):=by unfold qMJ; rw [hJ]
 rw [hV]
 refine AW.exit ?_
 simp
 refine rgn [.nilp,.int .i64 (qEG (zA (a.digits.length+j) (wH A B j)))] [[],[],[],[2,3,4,6,7,8,11]] ?_
 iterate 4 refine oq1 tok hfi ?_
 refine qA (AW.seq (rgn [] [[],[],[],[2,3,4,6,7,8,11,65]] ?_))
 iterate 4 refine op1 tok ?_
 refine qA (cnd ?_ ?_)
 ·intro h65
  try simp at h65
  generalize hff:qEG (zA (a.digits.length+j) (wH A B j))=f at *
  obtain ⟨n,hn⟩:∃ n,ndg (wH A B j)=n+35:=⟨ndg (wH A B j)-35,by omega⟩
  have hw:a.digits.length+j=(f+34)+(n+1):=by omega
  have hsp:zA (a.digits.length+j) (wH A B j)=zA (f+34) (wH A B j / 10 ^ (n+1))++zA (n+1) (wH A B j):=by rw [hw]; exact qHZ (n+1) (wH A B j) (f+34)
  have hrnd:∀ m,uC (wH A B j) m=(if 5<wH A B j / 10 ^ n % 10∨(wH A B j / 10 ^ n % 10=5∧(m=true∨wH A B j % 10 ^ n≠0∨wH A B j / 10 ^ (n+1) % 2=1)) then wH A B j / 10 ^ (n+1)+1 else wH A B j / 10 ^ (n+1),n+1):=fun m=>by
   unfold uC; rw [if_neg (by omega),hn]; rfl
  have hd10:wH A B j / 10 ^ n % 10<10:=Nat.mod_lt _ (by decide)
  have hup:=zPR (wH A B j / 10 ^ n % 10) (wH A B j / 10 ^ (n+1)) (wH A B j % 10 ^ n) hd10 (decide (jC A B j≠0))
  have hnl:=qOO (G:=G) (zA n (wH A B j)) (by rw [zD]; omega)
  rw [zQP] at hnl
  have hHl:=zD (f+34) (wH A B j / 10 ^ (n+1))
  have hHa:=zT (f+34) (wH A B j / 10 ^ (n+1))
  have hHlast:(zA (f+34) (wH A B j / 10 ^ (n+1)))[f+33]?=some (UInt8.ofNat (48+wH A B j / 10 ^ (n+1) % 10)):=zJK (f+33) _
  have hHv:qE (zA (f+34) (wH A B j / 10 ^ (n+1)))=wH A B j / 10 ^ (n+1):=by
   rw [zZ,Nat.mod_eq_of_lt]
   rw [Nat.div_lt_iff_lt_mul (Nat.pow_pos (by decide)),← Nat.pow_add,← hw]
   exact hq j
  have hTl:=zD n (wH A B j)
  rw [zJL n (wH A B j)] at hsp
  rw [hrnd,hsp]
  generalize wH A B j / 10 ^ n % 10=d at *
  have hD0:=kF hd10
  generalize UInt8.ofNat (48+d)=D0 at *
  generalize wH A B j % 10 ^ n=l at *
  generalize zA n (wH A B j)=L at *
  generalize zA (f+34) (wH A B j / 10 ^ (n+1))=HD at *
  generalize wH A B j / 10 ^ (n+1)=H at *
  have ht:((f:Int)+34).toNat=f+34:=by omega
  have hdr:(HD++D0::L).drop (f+34)=D0::L:=by rw [← hHl,List.drop_left]
  have htk:(HD++D0::L).take (f+34)=HD:=by rw [← hHl,List.take_left]
  have hm10:H % 10<10:=Nat.mod_lt _ (by decide)
  have hDl:=kF hm10
  generalize UInt8.ofNat (48+H % 10)=Dl at *
  have hwl:=w8d hDl
  have hpar:((H % 10:Nat):Int).tmod 2=((H % 2:Nat):Int):=by rw [show ((H % 10:Nat):Int).tmod 2=((H % 10 % 2:Nat):Int) from rfl]; congr 1; omega
  have hpar2:((H:Int) % 10).tmod 2=((H % 2:Nat):Int):=hpar
  have hD0i:(D0.toNat:Int)=48+(d:Int):=by rw [hD0]; simp
  have ht2:((f:Int)+34-1).toNat=f+33:=by omega
  have hall:List.take ((HD.length:Int)+((L.length:Int)+1)).toNat (HD++D0::L)=HD++D0::L:=List.take_of_length_le (by simp; omega)
  have hall2:List.take (((HD.length:Int)+((L.length:Int)+1)).toNat-(f+34)) (D0::L)=D0::L:=List.take_of_length_le (by simp; omega)
  refine rgn [] [[],[],[],[2,3,4,6,7,8,11,12]] ?_
  iterate 4 refine op1 tok ?_ (h:=by intro C; conv=>lhs; simp [ht,hall,hdr,hall2])
  refine qA (rgn [] [[],[],[],[2,3,4,7,8,11,12,13]] ?_)
  iterate 4 refine op1 tok ?_ (h:=by intro C; conv=>lhs; simp [ht,htk])
  refine qA (rgn [.int .u8 D0.toNat,.nilp,.bool (decide (l=0)),.nilp,.bool (decide (jC A B j=0))] [[],[],[],[],[],[2,3,4,7,8,11,12,13,75,77],[],[],[2,3,4,7,8,11,12,13,80],[],[],[2,3,4,8,11,12,13,83],[2,3,4,8,11,12,13,14]] ?_)
  iterate 13 first | refine op1 tok ?_ (hv:=by first | with_reducible exact True.intro | (first | exact ⟨D0,rfl,rfl⟩ | exact ⟨by omega,D0,rfl,rfl⟩ | exact fun h=>⟨h,hnl⟩ | exact fun h=>⟨h,hno⟩ | exact fun h1 h2=>⟨⟨h1,h2⟩,hno⟩ | exact fun _=>hnl | exact fun _=>hno; done) | omega | simp | (simp +contextual; omega)) | refine op2 tok ?_ (hv:=by first | with_reducible exact True.intro | (first | exact ⟨D0,rfl,rfl⟩ | exact ⟨by omega,D0,rfl,rfl⟩ | exact fun h=>⟨h,hnl⟩ | exact fun h=>⟨h,hno⟩ | exact fun h1 h2=>⟨⟨h1,h2⟩,hno⟩ | exact fun _=>hnl | exact fun _=>hno; done) | omega | simp | (simp +contextual; omega))
  refine qA (rgn [.int .u8 D0.toNat] [[],[],[],[2,3,4,8,11,12,13,14,15]] ?_)
  iterate 4 refine op1 tok ?_ (hv:=by first | with_reducible exact True.intro | (first | exact ⟨D0,rfl,rfl⟩ | exact ⟨by omega,D0,rfl,rfl⟩; done) | omega | simp | (simp +contextual; omega))
  refine qA (AW.seq (rgn [] [[2,3,4,8,11,12,13,15,87]] ?_))
  refine op1 tok ?_
  refine qA (cnd ?_ ?_)
  ·intro h87
   try simp at h87
   refine rgz [.int .u8 Dl.toNat] [[],[],[],[2,3,4,8,12,13,91],[],[],[],[2,3,4,8,12,13,15]] ?_
   iterate 8 refine op1 tok ?_ (h:=by intro C; conv=>lhs; simp [ht2,hwl,hpar]) (hv:=by first | with_reducible exact True.intro | (first | exact ⟨Dl,hHlast,rfl⟩ | exact ⟨by omega,Dl,hHlast,rfl⟩ | exact ⟨by omega,by omega,Dl,hHlast,rfl⟩; done) | omega | simp | (simp +contextual; omega))
   refine qA (rgn [] [[],[],[],[2,3,4,13,15,98],[2,3,4,8,13,15]] ?_)
   iterate 5 refine op1 tok ?_
   refine qA (rgn [] [[],[2,3,4,6,8,13,15]] ?_)
   iterate 2 refine op1 tok ?_
   refine qA (rgn [] [[2,3,4,6,8,13,100]] ?_)
   refine op1 tok ?_
   refine qA (cnd ?_ ?_)
   ·intro h100
    try simp at h100
    rw [if_pos (show 5<d∨d=5∧((!decide (jC A B j=0))=true∨l≠0∨H % 2=1) by rw [Bool.not_eq_true',decide_eq_false_iff_not]; first | omega | (rw [hpar2] at h100; omega))]
    have hw1:=qIE (G:=G) [49] ((HD.length:Nat):Int) (by omega) (by omega) (by simp)
    rw [qGG (by decide) (by simp; omega),show qE [49]=1 from rfl] at hw1
    have hpl:=qOI (G:=G) HD (zA HD.length 1) hHa (zT _ _) (by rw [zD]) (by omega)
    have hone:qE (zA HD.length 1)=1:=by rw [zZ,Nat.mod_eq_of_lt (Nat.one_lt_pow (by omega) (by decide))]
    rw [hone,hHv] at hpl
    have hO1:=zT (HD.length+1) (H+1)
    have hHlt:=wB hHa
    have hO2:qE (zA (HD.length+1) (H+1))=H+1:=by rw [zZ,Nat.mod_eq_of_lt (by rw [Nat.pow_succ]; omega)]
    have hO3:(zA (HD.length+1) (H+1)).length≤1000:=by rw [zD]; omega
    generalize zA (HD.length+1) (H+1)=O at *
    generalize H+1=v at *
    try simp only
    rw [show (a.scale-b.scale+((j:Int)-((n+1:Nat):Int)))=a.scale-b.scale+j-((L.length:Int)+1) by omega]
    have hsb : -1000≤a.scale-b.scale+j-((L.length:Int)+1)∧a.scale-b.scale+j-((L.length:Int)+1)≤1000:=by omega
    generalize a.scale-b.scale+(j:Int)-((L.length:Int)+1)=sc at *
    refine rgz [.nilp,.str (zA HD.length 1),.nilp,.str O] [[],[],[],[],[2,3,4,8,105],[2,3,4,6,8]] ?_
    iterate 6 refine oq1 tok (ai hw1 hpl) ?_
    refine qA (AW.seq (rgn [] [[],[2,3,4,6,8,107]] ?_))
    iterate 2 refine op1 tok ?_
    refine qA (cnd ?_ ?_)
    ·intro h107
     try simp at h107
     have hwn:IntKind.i64.wrap (-sc) = -sc:=qMG (by omega)
     have hz:=qAO (G:=G) (-sc) (by omega)
     have hN0:vG (a.neg != b.neg) v sc=zW (a.neg != b.neg) (v * 10 ^ (-sc).toNat) 0:=if_pos h107
     rw [hN0]
     have hn:=kA (G:=G) (a.neg != b.neg) (s:=O++qL (-sc).toNat) (wX hO1 _) (by unfold qL; simp; omega) (v:=v * 10 ^ (-sc).toNat) (by unfold qL; rw [jA,hO2]) (Int.le_refl 0) (by omega)
     simp only [Int.toNat_zero] at hn
     have hzl:(qL (-sc).toNat).length≤1000:=by unfold qL; simp; omega
     generalize qL (-sc).toNat=Z at *
     generalize zW (a.neg != b.neg) (v * 10 ^ (-sc).toNat) 0=r1 at *
     obtain ⟨q1,e1⟩:=r1
     simp only [Dc.enc] at hn
     refine rgn [.nilp,.str Z] [[],[],[],[2,3,4,108,111],[],[2,3,4,6]] ?_
     iterate 6 refine oq1 tok hz ?_ (h:=by intro C; conv=>lhs; simp [hwn])
     refine qA (rgz [] [[]] ?_)
     refine op1 tok ?_
     refine qA (rgn [.nilp,.tup [q1.enc,.int .i64 e1]] [[],[],[],[4,6,8,114,116],[],[],[4,117,118,119],[],[],[4,121,122],[],[4,5]] ?_)
     iterate 12 refine oq1 tok hn ?_
     exact qA (AW.ret qG)
    intro h107
    try simp at h107
    have hN0:vG (a.neg != b.neg) v sc=zW (a.neg != b.neg) v sc.toNat:=if_neg (by omega)
    rw [hN0]
    have hn:=kA (G:=G) (a.neg != b.neg) (s:=O) hO1 (by omega) (v:=v) hO2 (by omega) (by omega)
    generalize zW (a.neg != b.neg) v sc.toNat=r1 at *
    obtain ⟨q1,e1⟩:=r1
    simp only [Dc.enc] at hn
    refine AW.skip (rgn [.nilp,.tup [q1.enc,.int .i64 e1]] [[],[],[],[4,6,8,114,116],[],[],[4,117,118,119],[],[],[4,121,122],[],[4,5]] ?_)
    iterate 12 refine oq1 tok hn ?_
    exact qA (AW.ret qG)
   intro h100
   try simp at h100
   rw [if_neg (show ¬ (5<d∨d=5∧((!decide (jC A B j=0))=true∨l≠0∨H % 2=1)) by rw [Bool.not_eq_true',decide_eq_false_iff_not]; first | omega | (rw [hpar2] at h100; omega))]
   have hO1:=hHa
   have hO2:=hHv
   have hO3:HD.length≤1000:=by omega
   generalize HD=O at *
   generalize H=v at *
   try simp only
   rw [show (a.scale-b.scale+((j:Int)-((n+1:Nat):Int)))=a.scale-b.scale+j-((L.length:Int)+1) by omega]
   have hsb : -1000≤a.scale-b.scale+j-((L.length:Int)+1)∧a.scale-b.scale+j-((L.length:Int)+1)≤1000:=by omega
   generalize a.scale-b.scale+(j:Int)-((L.length:Int)+1)=sc at *
   refine AW.skip (AW.seq (rgn [] [[],[2,3,4,6,8,107]] ?_))
   iterate 2 refine op1 tok ?_
   refine qA (cnd ?_ ?_)
   ·intro h107
    try simp at h107
    have hwn:IntKind.i64.wrap (-sc) = -sc:=qMG (by omega)
    have hz:=qAO (G:=G) (-sc) (by omega)
    have hN0:vG (a.neg != b.neg) v sc=zW (a.neg != b.neg) (v * 10 ^ (-sc).toNat) 0:=if_pos h107
    rw [hN0]
    have hn:=kA (G:=G) (a.neg != b.neg) (s:=O++qL (-sc).toNat) (wX hO1 _) (by unfold qL; simp; omega) (v:=v * 10 ^ (-sc).toNat) (by unfold qL; rw [jA,hO2]) (Int.le_refl 0) (by omega)
    simp only [Int.toNat_zero] at hn
    have hzl:(qL (-sc).toNat).length≤1000:=by unfold qL; simp; omega
    generalize qL (-sc).toNat=Z at *
    generalize zW (a.neg != b.neg) (v * 10 ^ (-sc).toNat) 0=r1 at *
    obtain ⟨q1,e1⟩:=r1
    simp only [Dc.enc] at hn
    refine rgn [.nilp,.str Z] [[],[],[],[2,3,4,108,111],[],[2,3,4,6]] ?_
    iterate 6 refine oq1 tok hz ?_ (h:=by intro C; conv=>lhs; simp [hwn])
    refine qA (rgz [] [[]] ?_)
    refine op1 tok ?_
    refine qA (rgn [.nilp,.tup [q1.enc,.int .i64 e1]] [[],[],[],[4,6,8,114,116],[],[],[4,117,118,119],[],[],[4,121,122],[],[4,5]] ?_)
    iterate 12 refine oq1 tok hn ?_
    exact qA (AW.ret qG)
   intro h107
   try simp at h107
   have hN0:vG (a.neg != b.neg) v sc=zW (a.neg != b.neg) v sc.toNat:=if_neg (by omega)
   rw [hN0]
   have hn:=kA (G:=G) (a.neg != b.neg) (s:=O) hO1 (by omega) (v:=v) hO2 (by omega) (by omega)
   generalize zW (a.neg != b.neg) v sc.toNat=r1 at *
   obtain ⟨q1,e1⟩:=r1
   simp only [Dc.enc] at hn
   refine AW.skip (rgn [.nilp,.tup [q1.enc,.int .i64 e1]] [[],[],[],[4,6,8,114,116],[],[],[4,117,118,119],[],[],[4,121,122],[],[4,5]] ?_)
   iterate 12 refine oq1 tok hn ?_
   exact qA (AW.ret qG)
  intro h87
  try simp at h87
  refine AW.skip (rgn [] [[],[],[],[2,3,4,13,15,98],[2,3,4,8,13,15]] ?_)
  iterate 5 refine op1 tok ?_
  refine qA (rgn [] [[],[2,3,4,6,8,13,15]] ?_)
  iterate 2 refine op1 tok ?_
  refine qA (rgn [] [[2,3,4,6,8,13,100]] ?_)
  refine op1 tok ?_
  refine qA (cnd ?_ ?_)
  ·intro h100
   try simp at h100
   rw [if_pos (show 5<d∨d=5∧((!decide (jC A B j=0))=true∨l≠0∨H % 2=1) by rw [Bool.not_eq_true',decide_eq_false_iff_not]; first | omega | (rw [hpar2] at h100; omega))]
   have hw1:=qIE (G:=G) [49] ((HD.length:Nat):Int) (by omega) (by omega) (by simp)
   rw [qGG (by decide) (by simp; omega),show qE [49]=1 from rfl] at hw1
   have hpl:=qOI (G:=G) HD (zA HD.length 1) hHa (zT _ _) (by rw [zD]) (by omega)
   have hone:qE (zA HD.length 1)=1:=by rw [zZ,Nat.mod_eq_of_lt (Nat.one_lt_pow (by omega) (by decide))]
   rw [hone,hHv] at hpl
   have hO1:=zT (HD.length+1) (H+1)
   have hHlt:=wB hHa
   have hO2:qE (zA (HD.length+1) (H+1))=H+1:=by rw [zZ,Nat.mod_eq_of_lt (by rw [Nat.pow_succ]; omega)]
   have hO3:(zA (HD.length+1) (H+1)).length≤1000:=by rw [zD]; omega
   generalize zA (HD.length+1) (H+1)=O at *
   generalize H+1=v at *
   try simp only
   rw [show (a.scale-b.scale+((j:Int)-((n+1:Nat):Int)))=a.scale-b.scale+j-((L.length:Int)+1) by omega]
   have hsb : -1000≤a.scale-b.scale+j-((L.length:Int)+1)∧a.scale-b.scale+j-((L.length:Int)+1)≤1000:=by omega
   generalize a.scale-b.scale+(j:Int)-((L.length:Int)+1)=sc at *
   refine rgz [.nilp,.str (zA HD.length 1),.nilp,.str O] [[],[],[],[],[2,3,4,8,105],[2,3,4,6,8]] ?_
   iterate 6 refine oq1 tok (ai hw1 hpl) ?_
   refine qA (AW.seq (rgn [] [[],[2,3,4,6,8,107]] ?_))
   iterate 2 refine op1 tok ?_
   refine qA (cnd ?_ ?_)
   ·intro h107
    try simp at h107
    have hwn:IntKind.i64.wrap (-sc) = -sc:=qMG (by omega)
    have hz:=qAO (G:=G) (-sc) (by omega)
    have hN0:vG (a.neg != b.neg) v sc=zW (a.neg != b.neg) (v * 10 ^ (-sc).toNat) 0:=if_pos h107
    rw [hN0]
    have hn:=kA (G:=G) (a.neg != b.neg) (s:=O++qL (-sc).toNat) (wX hO1 _) (by unfold qL; simp; omega) (v:=v * 10 ^ (-sc).toNat) (by unfold qL; rw [jA,hO2]) (Int.le_refl 0) (by omega)
    simp only [Int.toNat_zero] at hn
    have hzl:(qL (-sc).toNat).length≤1000:=by unfold qL; simp; omega
    generalize qL (-sc).toNat=Z at *
    generalize zW (a.neg != b.neg) (v * 10 ^ (-sc).toNat) 0=r1 at *
    obtain ⟨q1,e1⟩:=r1
    simp only [Dc.enc] at hn
    refine rgn [.nilp,.str Z] [[],[],[],[2,3,4,108,111],[],[2,3,4,6]] ?_
    iterate 6 refine oq1 tok hz ?_ (h:=by intro C; conv=>lhs; simp [hwn])
    refine qA (rgz [] [[]] ?_)
    refine op1 tok ?_
    refine qA (rgn [.nilp,.tup [q1.enc,.int .i64 e1]] [[],[],[],[4,6,8,114,116],[],[],[4,117,118,119],[],[],[4,121,122],[],[4,5]] ?_)
    iterate 12 refine oq1 tok hn ?_
    exact qA (AW.ret qG)
   intro h107
   try simp at h107
   have hN0:vG (a.neg != b.neg) v sc=zW (a.neg != b.neg) v sc.toNat:=if_neg (by omega)
   rw [hN0]
   have hn:=kA (G:=G) (a.neg != b.neg) (s:=O) hO1 (by omega) (v:=v) hO2 (by omega) (by omega)
   generalize zW (a.neg != b.neg) v sc.toNat=r1 at *
   obtain ⟨q1,e1⟩:=r1
   simp only [Dc.enc] at hn
   refine AW.skip (rgn [.nilp,.tup [q1.enc,.int .i64 e1]] [[],[],[],[4,6,8,114,116],[],[],[4,117,118,119],[],[],[4,121,122],[],[4,5]] ?_)
   iterate 12 refine oq1 tok hn ?_
   exact qA (AW.ret qG)
  intro h100
  try simp at h100
  rw [if_neg (show ¬ (5<d∨d=5∧((!decide (jC A B j=0))=true∨l≠0∨H % 2=1)) by rw [Bool.not_eq_true',decide_eq_false_iff_not]; first | omega | (rw [hpar2] at h100; omega))]
  have hO1:=hHa
  have hO2:=hHv
  have hO3:HD.length≤1000:=by omega
  generalize HD=O at *
  generalize H=v at *
  try simp only
  rw [show (a.scale-b.scale+((j:Int)-((n+1:Nat):Int)))=a.scale-b.scale+j-((L.length:Int)+1) by omega]
  have hsb : -1000≤a.scale-b.scale+j-((L.length:Int)+1)∧a.scale-b.scale+j-((L.length:Int)+1)≤1000:=by omega
  generalize a.scale-b.scale+(j:Int)-((L.length:Int)+1)=sc at *
  refine AW.skip (AW.seq (rgn [] [[],[2,3,4,6,8,107]] ?_))
  iterate 2 refine op1 tok ?_
  refine qA (cnd ?_ ?_)
  ·intro h107
   try simp at h107
   have hwn:IntKind.i64.wrap (-sc) = -sc:=qMG (by omega)
   have hz:=qAO (G:=G) (-sc) (by omega)
   have hN0:vG (a.neg != b.neg) v sc=zW (a.neg != b.neg) (v * 10 ^ (-sc).toNat) 0:=if_pos h107
   rw [hN0]
   have hn:=kA (G:=G) (a.neg != b.neg) (s:=O++qL (-sc).toNat) (wX hO1 _) (by unfold qL; simp; omega) (v:=v * 10 ^ (-sc).toNat) (by unfold qL; rw [jA,hO2]) (Int.le_refl 0) (by omega)
   simp only [Int.toNat_zero] at hn
   have hzl:(qL (-sc).toNat).length≤1000:=by unfold qL; simp; omega
   generalize qL (-sc).toNat=Z at *
   generalize zW (a.neg != b.neg) (v * 10 ^ (-sc).toNat) 0=r1 at *
   obtain ⟨q1,e1⟩:=r1
   simp only [Dc.enc] at hn
   refine rgn [.nilp,.str Z] [[],[],[],[2,3,4,108,111],[],[2,3,4,6]] ?_
   iterate 6 refine oq1 tok hz ?_ (h:=by intro C; conv=>lhs; simp [hwn])
   refine qA (rgz [] [[]] ?_)
   refine op1 tok ?_
   refine qA (rgn [.nilp,.tup [q1.enc,.int .i64 e1]] [[],[],[],[4,6,8,114,116],[],[],[4,117,118,119],[],[],[4,121,122],[],[4,5]] ?_)
   iterate 12 refine oq1 tok hn ?_
   exact qA (AW.ret qG)
  intro h107
  try simp at h107
  have hN0:vG (a.neg != b.neg) v sc=zW (a.neg != b.neg) v sc.toNat:=if_neg (by omega)
  rw [hN0]
  have hn:=kA (G:=G) (a.neg != b.neg) (s:=O) hO1 (by omega) (v:=v) hO2 (by omega) (by omega)
  generalize zW (a.neg != b.neg) v sc.toNat=r1 at *
  obtain ⟨q1,e1⟩:=r1
  simp only [Dc.enc] at hn
  refine AW.skip (rgn [.nilp,.tup [q1.enc,.int .i64 e1]] [[],[],[],[4,6,8,114,116],[],[],[4,117,118,119],[],[],[4,121,122],[],[4,5]] ?_)
  iterate 12 refine oq1 tok hn ?_
  exact qA (AW.ret qG)
 intro h65
 try simp at h65
 have hn34:ndg (wH A B j)≤34:=by omega
 have hr0:∀ m,uC (wH A B j) m=(wH A B j,0):=fun m=>by unfold uC; rw [if_pos hn34]
 rw [hr0]
 have hO1:=zT (a.digits.length+j) (wH A B j)
 have hO2:qE (zA (a.digits.length+j) (wH A B j))=wH A B j:=by rw [zZ,Nat.mod_eq_of_lt (hq j)]
 have hO3:(zA (a.digits.length+j) (wH A B j)).length≤1000:=by rw [hol]; omega
 simp only
 rw [show (a.scale-b.scale+((j:Int)-((0:Nat):Int)))=a.scale-b.scale+j by omega]
 have hsb : -1000≤a.scale-b.scale+j∧a.scale-b.scale+j≤1000:=by omega
 generalize a.scale-b.scale+(j:Int)=sc at *
 generalize zA (a.digits.length+j) (wH A B j)=O at *
 generalize wH A B j=v at *
 refine AW.skip (AW.seq (rgn [] [[],[2,3,4,6,8,107]] ?_))
 iterate 2 refine op1 tok ?_
 refine qA (cnd ?_ ?_)
 ·intro h107
  try simp at h107
  have hwn:IntKind.i64.wrap (-sc) = -sc:=qMG (by omega)
  have hz:=qAO (G:=G) (-sc) (by omega)
  have hN0:vG (a.neg != b.neg) v sc=zW (a.neg != b.neg) (v * 10 ^ (-sc).toNat) 0:=if_pos h107
  rw [hN0]
  have hn:=kA (G:=G) (a.neg != b.neg) (s:=O++qL (-sc).toNat) (wX hO1 _) (by unfold qL; simp; omega) (v:=v * 10 ^ (-sc).toNat) (by unfold qL; rw [jA,hO2]) (Int.le_refl 0) (by omega)
  simp only [Int.toNat_zero] at hn
  have hzl:(qL (-sc).toNat).length≤1000:=by unfold qL; simp; omega
  generalize qL (-sc).toNat=Z at *
  generalize zW (a.neg != b.neg) (v * 10 ^ (-sc).toNat) 0=r1 at *
  obtain ⟨q1,e1⟩:=r1
  simp only [Dc.enc] at hn
  refine rgn [.nilp,.str Z] [[],[],[],[2,3,4,108,111],[],[2,3,4,6]] ?_
  iterate 6 refine oq1 tok hz ?_ (h:=by intro C; conv=>lhs; simp [hwn])
  refine qA (rgz [] [[]] ?_)
  refine op1 tok ?_
  refine qA (rgn [.nilp,.tup [q1.enc,.int .i64 e1]] [[],[],[],[4,6,8,114,116],[],[],[4,117,118,119],[],[],[4,121,122],[],[4,5]] ?_)
  iterate 12 refine oq1 tok hn ?_
  exact qA (AW.ret qG)
 intro h107
 try simp at h107
 have hN0:vG (a.neg != b.neg) v sc=zW (a.neg != b.neg) v sc.toNat:=if_neg (by omega)
 rw [hN0]
 have hn:=kA (G:=G) (a.neg != b.neg) (s:=O) hO1 (by omega) (v:=v) hO2 (by omega) (by omega)
 generalize zW (a.neg != b.neg) v sc.toNat=r1 at *
 obtain ⟨q1,e1⟩:=r1
 simp only [Dc.enc] at hn
 refine AW.skip (rgn [.nilp,.tup [q1.enc,.int .i64 e1]] [[],[],[],[4,6,8,114,116],[],[],[4,117,118,119],[],[],[4,121,122],[],[4,5]] ?_)
 iterate 12 refine oq1 tok hn ?_
 exact qA (AW.ret qG)
end Go.Proofs.YtdojfdaglbphlaaGreatDoor
