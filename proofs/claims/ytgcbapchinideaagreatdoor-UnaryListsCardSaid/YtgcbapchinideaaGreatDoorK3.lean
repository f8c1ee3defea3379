import Derived.Test.YtgcbapchinideaaGreatDoorK2
import Derived.Test.YtgcbapchinideaaGreatDoorK1
namespace Go.Proofs.YtgcbapchinideaaGreatDoor
open Sy Go
set_option maxRecDepth 100000
set_option maxHeartbeats 4000000
set_option linter.unusedSimpArgs false
set_option linter.unusedVariables false
variable {G:qK}
theorem qNP (l:List Nat) (i:Nat):AFn Tryz.prog G 207 [.sl 1 (l.map zR),.int .i64 i] (.int .u64 (l.getD i 0:Nat)):=by
 refine AFn.introU tok Tryz.func207 (by kernel_rfl) rfl rfl ?_
 simp only [Tryz.f207,qH,List.map_cons,List.map_nil]
 refine rgn [] [[0,1]] ?_
 refine op1 tok ?_
 refine qA (AW.seq (rgn [] [[],[],[],[0,1,8]] ?_))
 iterate 4 refine op1 tok ?_
 refine qA (cnd ?_ ?_)
 ·intro h8
  try simp at h8
  obtain ⟨x,hx⟩:∃ x,l[i]?=some x:=⟨l[i]'(by omega),List.getElem?_eq_getElem _⟩
  rw [show l.getD i 0=x by rw [List.getD_eq_getElem?_getD,hx]; rfl]
  refine rgn [.int .u64 (x:Nat)] [[],[],[11],[],[4]] ?_
  iterate 5 refine op1 tok ?_ (hv:=by first | with_reducible exact True.intro | ((simp [hx]; try omega); done) | omega | simp | (simp +contextual; omega))
  exact qA (AW.ret qG)
 intro h8
 try simp at h8
 rw [show l.getD i 0=0 by rw [List.getD_eq_getElem?_getD,List.getElem?_eq_none (by omega)]; rfl]
 refine AW.skip (rgn [] [[]] ?_)
 refine op1 tok ?_
 exact qA (AW.ret qG)
theorem zCS (l m:List Nat) (hl:okL l) (hm:okL m) (h1:l.length≤1000000) (h2:m.length≤1000000):AFn Tryz.prog G 170 [.sl 1 (l.map zR),.sl 1 (m.map zR)] (.sl 1 ((qOF l m).map zR)):=by
 refine AFn.introU tok Tryz.func170 (by kernel_rfl) rfl rfl ?_
 simp only [Tryz.f170,qH,List.map_cons,List.map_nil]
 refine rgn [] [[0,1]] ?_
 refine op1 tok ?_
 refine qA (rgn [] [[]] ?_)
 refine op1 tok ?_
 refine qA (rgn [] [[]] ?_)
 refine op1 tok ?_
 refine qA (AW.seq (rgn [] [[],[],[],[],[0,1,5,6,13],[]] ?_))
 iterate 6 refine op1 tok ?_
 refine qA (AW.block ?_)
 refine AW.beginE 5 90 24 1 (by simp) (by simp) (by conv=>lhs; simp) ?_
 refine AW.loop (α:=Nat) (fun k=>k≤max l.length m.length) (fun k=>⟨qS 39 [(0,.p (.sl 1 (l.map zR))),(1,.p (.sl 1 (m.map zR))),(5,.ms 90),(6,.p (.int .u64 ((kN l m k).2:Nat))),(13,.p (.int .i64 (max l.length m.length:Nat))),(14,.p (.int .i64 k))],[],[(90,.row 24 1 ((kN l m k).1.map zR))],0⟩) (fun k=>max l.length m.length-k) (0) (by omega) ⟨qB (by simp [kN]; split <;> omega),rfl,by simp [kN],by simp [kN]⟩ ?_
 rintro k hk
 obtain ⟨s1,s2,s3⟩:=qGG hl hm k
 have sl:=qCF l m k
 have g1:=vX hl k
 have g2:=vX hm k
 unfold qJ at g1 g2
 refine rgn [] [[]] ?_
 refine op1 tok ?_
 refine qA (AW.seq (cnd ?_ ?_))
 ·intro h15
  try simp at h15
  have hk':k<max l.length m.length:=by omega
  have lv1:=qNP (G:=G) l k
  have lv2:=qNP (G:=G) m k
  have hst:kN l m (k+1)=((kN l m k).1++[(l.getD k 0+m.getD k 0+(kN l m k).2) % qJ],(l.getD k 0+m.getD k 0+(kN l m k).2) / qJ):=rfl
  generalize kN l m k=A at *
  generalize l.getD k 0=x at *
  generalize m.getD k 0=y at *
  have w1:IntKind.u64.wrap ((x:Int)+y)=(x:Int)+y:=yA (by omega) (by omega)
  obtain ⟨z,hz⟩:∃ z,z=x+y+A.2:=⟨_,rfl⟩
  rw [← hz] at hst
  have w2:IntKind.u64.wrap ((x:Int)+y+A.2)=(z:Int):=by rw [yA (by omega) (by omega)]; omega
  have dm:(z:Int).tmod 1000000000=((z % qJ:Nat):Int):=(Int.ofNat_tmod z 1000000000).symm
  have dq:IntKind.u64.wrap ((z:Int) / 1000000000)=((z / qJ:Nat):Int):=by
   unfold qJ
   rw [yA (by omega) (by omega)]; omega
  generalize z % qJ=r at *
  generalize z / qJ=q at *
  refine AW.skip (AW.seq (AW.block (rgn [] [[],[0,1,5,6,7,13,14]] ?_)))
  iterate 2 refine op1 tok ?_
  refine qA (rgn [.nilp,.int .u64 (x:Nat),.nilp,.int .u64 (y:Nat)] [[],[],[],[],[],[0,1,5,6,13,14,19,22],[],[],[0,1,5,13,14,25],[0,1,5,8,13,14]] ?_)
  iterate 10 refine oq1 tok (ai lv1 lv2) ?_ (h:=by intro C; conv=>lhs; simp [w1,w2])
  refine qA (rgz [.int .u64 (r:Nat)] [[],[],[],[],[0,1,8,13,14,30],[],[],[],[0,1,5,6,13,14]] ?_)
  iterate 9 refine op1 tok ?_ (h:=by intro C; conv=>lhs; simp [dm,dq]) (hv:=by first | with_reducible exact True.intro | ((simp [dm]); done) | omega | simp | (simp +contextual; omega))
  refine qA (rgz [] [[],[0,1,5,6,13,14]] ?_)
  iterate 2 refine op1 tok ?_
  refine qA ?_
  exact ⟨k+1,by omega,by omega,qB (by simp [hst]),rfl,by simp [hst],by simp [hst]⟩
 intro h15
 try simp at h15
 obtain rfl:k=max l.length m.length:=by omega
 have htr:=qMV (G:=G) ((kN l m (max l.length m.length)).1++[(kN l m (max l.length m.length)).2])
 rw [show wN ((kN l m (max l.length m.length)).1++[(kN l m (max l.length m.length)).2])=qOF l m from rfl] at htr
 simp only [List.map_append,List.map_cons,List.map_nil,zR] at htr
 refine AW.exit ?_
 simp
 refine rgn [.int .u64 ((kN l m (max l.length m.length)).2:Nat),.nilp,.sl 1 ((qOF l m).map zR)] [[],[],[],[37],[],[4]] ?_
 iterate 6 refine oq1 tok htr ?_ (h:=by intro C; conv=>lhs; simp [List.map_append])
 exact qA (AW.ret qG)
theorem qLM (l m:List Nat) (hl:okL l) (hm:okL m) (h1:l.length≤1000000) (h2:m.length≤1000000):AFn Tryz.prog G 172 [.sl 1 (l.map zR),.sl 1 (m.map zR)] (.sl 1 ((qMW l m).map zR)):=by
 refine AFn.introU tok Tryz.func172 (by kernel_rfl) rfl rfl ?_
 simp only [Tryz.f172,qH,List.map_cons,List.map_nil]
 refine rgn [] [[0,1]] ?_
 refine op1 tok ?_
 refine qA (rgn [] [[]] ?_)
 refine op1 tok ?_
 refine qA (rgn [] [[]] ?_)
 refine op1 tok ?_
 refine qA (AW.seq (rgn [] [[],[],[0,1,5,6,10,11]] ?_))
 iterate 3 refine op1 tok ?_
 refine qA (AW.block ?_)
 refine AW.beginE 5 90 24 1 (by simp) (by simp) (by conv=>lhs; simp) ?_
 refine AW.loop (α:=Nat) (fun k=>k≤l.length) (fun k=>⟨qS 36 [(0,.p (.sl 1 (l.map zR))),(1,.p (.sl 1 (m.map zR))),(5,.ms 90),(6,.p (.int .u64 ((jB l m k).2:Nat))),(10,.p (.int .i64 l.length)),(11,.p (.int .i64 k))],[],[(90,.row 24 1 ((jB l m k).1.map zR))],0⟩) (fun k=>l.length-k) (0) (by omega) ⟨qB (by simp [jB]),rfl,by simp [jB],by simp [jB]⟩ ?_
 rintro k hk
 obtain ⟨s1,s2,s3⟩:=qFI hl hm k
 have sl:=qBH l m k
 have g1:=vX hl k
 have g2:=vX hm k
 unfold qJ at g1 g2
 refine rgn [] [[]] ?_
 refine op1 tok ?_
 refine qA (AW.seq (cnd ?_ ?_))
 ·intro h12
  try simp at h12
  have lv2:=qNP (G:=G) m k
  obtain ⟨x0,hgl⟩:∃ x,l[k]?=some x:=⟨l[k]'(by omega),List.getElem?_eq_getElem _⟩
  have hx0:l.getD k 0=x0:=by rw [List.getD_eq_getElem?_getD,hgl]; rfl
  have hst:jB l m (k+1)=((jB l m k).1++[(l.getD k 0+qJ-m.getD k 0-(jB l m k).2) % qJ],1-(l.getD k 0+qJ-m.getD k 0-(jB l m k).2) / qJ):=rfl
  generalize jB l m k=A at *
  rw [hx0] at hst g1
  generalize m.getD k 0=y at *
  generalize x0=x at *
  obtain ⟨z,hz⟩:∃ z,z=x+qJ-y-A.2:=⟨_,rfl⟩
  rw [← hz] at hst
  have hzd:z / qJ≤1:=by
   have:z / qJ<2:=(Nat.div_lt_iff_lt_mul (by decide)).2 (by rw [hz]; unfold qJ; omega)
   omega
  unfold qJ at hz
  have w1:IntKind.u64.wrap ((x:Int)+1000000000)=(x:Int)+1000000000:=yA (by omega) (by omega)
  have w2:IntKind.u64.wrap ((x:Int)+1000000000-y)=(x:Int)+1000000000-y:=yA (by omega) (by omega)
  have w3:IntKind.u64.wrap ((x:Int)+1000000000-y-A.2)=(z:Int):=by rw [yA (by omega) (by omega)]; omega
  have dm:(z:Int).tmod 1000000000=((z % qJ:Nat):Int):=(Int.ofNat_tmod z 1000000000).symm
  have dq:IntKind.u64.wrap ((z:Int) / 1000000000)=((z / qJ:Nat):Int):=by
   unfold qJ
   rw [yA (by omega) (by omega)]; omega
  generalize z % qJ=r at *
  generalize z / qJ=q at *
  have w4:IntKind.u64.wrap (1-(q:Int))=((1-q:Nat):Int):=by
   rw [yA (by omega) (by omega)]; omega
  generalize 1-q=b at *
  refine AW.skip (AW.seq (AW.block (rgn [] [[],[0,1,5,6,7,10,11]] ?_)))
  iterate 2 refine op1 tok ?_
  refine qA ?_
  refine AW.seqDrawS tok mixed 11 [[0],[7],[14,15],[16],[17],[1],[7],[19,20],[18,21],[6],[22,23]] [.int .u64 (x:Nat),.nilp,.int .u64 (y:Nat)] [] (by kernel_rfl) ?_
  iterate 11 refine d1 ?_ (h:=by intro C; conv=>lhs; simp [w1,w2,w3]) (hv:=by first | with_reducible exact True.intro | (first | exact lv2 | (simp [hgl]; done) | (simp [hgl]; omega); done) | omega | simp | (simp +contextual; omega))
  refine DGo.nil (by kernel_rfl) ⟨by kernel_rfl, ?_⟩
  refine qF.run [[0,1,5,8,10,11]] ?_
  refine op1 tok ?_ (h:=by intro C; conv=>lhs; simp [w1,w2,w3])
  refine qA (rgz [.int .u64 (r:Nat)] [[],[],[],[],[0,1,8,10,11,29],[],[],[],[0,1,5,10,11,32],[0,1,5,6,10,11]] ?_)
  iterate 10 refine op1 tok ?_ (h:=by intro C; conv=>lhs; simp [dm,dq,w4]) (hv:=by first | with_reducible exact True.intro | ((simp [dm]); done) | omega | simp | (simp +contextual; omega))
  refine qA (rgz [] [[],[0,1,5,6,10,11]] ?_)
  iterate 2 refine op1 tok ?_
  refine qA ?_
  exact ⟨k+1,by omega,by omega,qB (by simp [hst]),rfl,by simp [hst],by simp [hst]⟩
 intro h12
 try simp at h12
 obtain rfl:k=l.length:=by omega
 have htr:=qMV (G:=G) (jB l m l.length).1
 refine AW.exit ?_
 simp
 refine rgn [.nilp,.sl 1 ((qMW l m).map zR)] [[],[],[4]] ?_
 iterate 3 refine oq1 tok htr ?_
 exact qA (AW.ret qG)
def jL (n w V:Nat):List PD:=zM (List.replicate (n-w) 0++qAQ w V)
theorem qQO (n V:Nat):jL n 0 V=List.replicate n (.int .u8 0):=by simp [jL,qAQ,zM]
theorem qTC {n w V:Nat} (h:w≤n):(jL n w V).length=n:=by simp [jL,qES]; omega
theorem qTD {n w V:Nat} (h:w<n):(jL n w V)[n-1-w]?=some (.int .u8 0):=by
 unfold jL
 refine vN (b:=0) ?_
 rw [List.getElem?_append_left (by simp; omega),List.getElem?_replicate,if_pos (by omega)]
theorem qTB {n w V:Nat} (h:w<n):(jL n w V).set (n-1-w) (.int .u8 (48+V / 10 ^ w % 10:Nat))=jL n (w+1) V:=by
 unfold jL zM
 have hd:V / 10 ^ w % 10<10:=Nat.mod_lt _ (by decide)
 rw [show PD.int .u8 (48+V / 10 ^ w % 10:Nat)=(fun b:UInt8=>PD.int .u8 b.toNat) (UInt8.ofNat (48+V / 10 ^ w % 10)) by simp only [qAP hd],← List.map_set]
 congr 1
 rw [show n-w=(n-(w+1))+1 by omega,List.replicate_succ',List.append_assoc,List.set_append_right _ _ (by simp; omega)]
 simp only [List.length_replicate]
 rw [show n-1-w-(n-(w+1))=0 by omega]
 rfl
theorem qTE (n V:Nat):jL n n V=zM (qAQ n V):=by simp [jL]
theorem qZN {l:List Nat} (h:okL l) (i:Nat):qL l / qJ ^ i % qJ=l.getD i 0:=by
 induction l generalizing i with
 | nil=>simp [qL]
 | cons a l ih =>
  have ha:a<qJ:=h a (by simp)
  have ih:=ih (fun x hx=>h x (by simp [hx]))
  have hb:0<qJ:=by decide
  cases i with
  | zero=>simp [qL,Nat.add_mul_mod_self_left,Nat.mod_eq_of_lt ha]
  | succ i =>
   simp only [qL,List.getD_cons_succ]
   rw [Nat.pow_succ,Nat.mul_comm (qJ ^ i),← Nat.div_div_eq_div_mul,Nat.add_mul_div_left _ _ hb,Nat.div_eq_of_lt ha,Nat.zero_add]
   exact ih i
theorem zAO {l:List Nat} (h:okL l) (i:Nat) {j:Nat} (hj:j<9):qL l / 10 ^ (9 * i+j) % 10=l.getD i 0 / 10 ^ j % 10:=by
 rw [← qZN h i,Nat.pow_add,Nat.pow_mul,← Nat.div_div_eq_div_mul,show (10:Nat) ^ 9=qJ from rfl]
 generalize qL l / qJ ^ i=M
 obtain ⟨d,hd⟩:∃ d,d+j=8:=⟨8-j,by omega⟩
 rw [show qJ=10 ^ j * (10 * 10 ^ d) by rw [← Nat.pow_succ',← Nat.pow_add,show j+(d+1)=9 by omega]; rfl,Nat.mod_mul_right_div_self,Nat.mod_mul_right_mod]
def qKI (x j:Nat):Nat:=x / 10 ^ j
theorem qVZ (x:Nat):qKI x 0=x:=by simp [qKI]
theorem qWA (x j:Nat):qKI x j / 10=qKI x (j+1):=by unfold qKI; rw [Nat.div_div_eq_div_mul,← Nat.pow_succ]
theorem qFY (l:List Nat) (hl:okL l) (h1:l.length≤1000000):AFn Tryz.prog G 171 [.sl 1 (l.map zR)] (.str (qAQ (9 * l.length) (qL l))):=by
 refine AFn.introU tok Tryz.func171 (by kernel_rfl) rfl rfl ?_
 simp only [Tryz.f171,qH,List.map_cons,List.map_nil]
 have hz:jL (9 * l.length) 0 (qL l)=List.replicate (9 * l.length) (.int .u8 0):=qQO _ _
 have hall:=qTE (9 * l.length) (qL l)
 have hdl:=fun k j (h:j<9)=>zAO hl k (j:=j) h
 have hset:=fun w=>qTB (n:=9 * l.length) (w:=w) (V:=qL l)
 have hget:=fun w=>qTD (n:=9 * l.length) (w:=w) (V:=qL l)
 have hlen:=fun w=>qTC (n:=9 * l.length) (w:=w) (V:=qL l)
 have hmul:((l.length:Int) * 9).toNat=9 * l.length:=by omega
 generalize qL l=V at *
 obtain ⟨N,hN⟩:∃ N,N=9 * l.length:=⟨_,rfl⟩
 rw [← hN] at hz hall hset hget hlen hmul ⊢
 refine rgn [] [[0]] ?_
 refine op1 tok ?_
 refine qA (rgn [.int .u8 0] [[],[],[],[],[0,3]] ?_)
 iterate 5 refine op1 tok ?_
 refine qA (AW.seq (rgn [] [[],[],[3,11,12,13]] ?_))
 iterate 3 refine op1 tok ?_
 refine qA (AW.block ?_)
 refine AW.loop (α:=Nat) (fun k=>k≤l.length) (fun k=>⟨qS 41 [(3,.ms 10),(11,.p (.sl 1 (l.map zR))),(12,.p (.int .i64 l.length)),(13,.p (.int .i64 k))],[],[(10,.row 5 1 (jL N (9 * k) V))],0⟩) (fun k=>l.length-k) (0) (by omega) ⟨qB (by simp),rfl,by (simp [hz,hmul]),by simp [hz,hmul]⟩ ?_
 rintro k hk
 refine rgn [] [[]] ?_
 refine op1 tok ?_
 refine qA (AW.seq (cnd ?_ ?_))
 ·intro h14
  try simp at h14
  obtain ⟨x,hx⟩:∃ x,l[k]?=some x:=⟨l[k]'(by omega),List.getElem?_eq_getElem _⟩
  have hxd:l.getD k 0=x:=by rw [List.getD_eq_getElem?_getD,hx]; rfl
  have hxb:x<1000000000:=hl x (List.mem_of_getElem? hx)
  have hx0:=qVZ x
  refine AW.skip (AW.seq (AW.block (rgn [.int .u64 (x:Nat)] [[],[],[],[],[3,4,5,11,12,13]] ?_)))
  iterate 5 refine op1 tok ?_ (hv:=by first | with_reducible exact True.intro | (simp [hx]; done) | omega | simp | (simp +contextual; omega))
  refine qA (rgn [] [[]] ?_)
  refine op1 tok ?_
  refine qA (AW.block ?_)
  refine AW.loop (α:=Nat) (fun j=>j≤9) (fun j=>⟨qS 41 [(3,.ms 10),(4,.p (.int .i64 k)),(5,.p (.int .u64 (qKI x j:Nat))),(11,.p (.sl 1 (l.map zR))),(12,.p (.int .i64 l.length)),(13,.p (.int .i64 k)),(18,.p (.int .i64 j))],[],[(10,.row 5 1 (jL N (9 * k+j) V))],0⟩) (fun j=>9-j) (0) (by omega) ⟨qB (by simp [hx0]),rfl,by simp,by simp⟩ ?_
  rintro j hj
  refine rgn [] [[]] ?_
  refine op1 tok ?_
  refine qA (AW.seq (cnd ?_ ?_))
  ·intro h19
   try simp at h19
   have hdj:=hdl k j (by omega)
   rw [hxd,show x / 10 ^ j=qKI x j from rfl] at hdj
   have hset:=hset (9 * k+j) (by omega)
   have hget:=hget (9 * k+j) (by omega)
   have hlen:=hlen (9 * k+j) (by omega)
   rw [hdj] at hset
   have hxj:qKI x j<1000000000:=Nat.lt_of_le_of_lt (Nat.div_le_self _ _) hxb
   have hnx:=qWA x j
   generalize qKI x j=z at *
   have hix:((N:Int)-1-k * 9).toNat-j=N-1-(9 * k+j):=by omega
   have dm:(z:Int).tmod 10=((z % 10:Nat):Int):=(Int.ofNat_tmod z 10).symm
   have dc:IntKind.u8.wrap (IntKind.u64.wrap (48+((z % 10:Nat):Int)))=((48+z % 10:Nat):Int):=by
    rw [yA (by omega) (by omega),qTS (by omega) (by omega)]; omega
   have dq:IntKind.u64.wrap ((z:Int) / 10)=((qKI x (j+1):Nat):Int):=by rw [← hnx,yA (by omega) (by omega)]; omega
   generalize hr:z % 10=r at *
   have e9:9 * k+j+1=9 * k+(j+1):=rfl
   rw [e9,show ((48+r:Nat):Int)=48+(r:Int) by omega] at hset
   refine AW.skip (AW.seq (AW.block (rgn [] [[],[3,4,5,6,11,12,13,18]] ?_)))
   iterate 2 refine op1 tok ?_
   refine qA (rgn [.int .u8 0,.int .u8 (48+r:Nat)] [[],[],[],[],[],[],[3,4,5,6,11,12,13,18,21,27],[],[],[],[3,4,5,11,12,13,18,21,29,31],[],[],[3,4,5,11,12,13,18,33,34],[3,4,5,11,12,13,18]] ?_)
   iterate 15 refine op1 tok ?_ (h:=by intro C; conv=>lhs; simp [hlen,hget,hix,dm,dc]) (hv:=by first | with_reducible exact True.intro | (first | (simp [hlen,hget,hix,dm,dc]; done) | (simp [hlen,hget,hix,dm,dc]; omega); done) | omega | simp | (simp +contextual; omega))
   refine qA (rgz [] [[],[],[3,4,5,11,12,13,18]] ?_)
   iterate 3 refine op1 tok ?_
   refine qA (rgz [] [[],[3,4,5,11,12,13,18]] ?_)
   iterate 2 refine op1 tok ?_
   refine qA ?_
   exact ⟨j+1,by omega,by omega,qB (by simp [dq,hset,hlen,hix]),rfl,by simp [dq,hset,hlen,hix],by simp [dq,hset,hlen,hix]⟩
  intro h19
  try simp at h19
  obtain rfl:j=9:=by omega
  refine AW.exit ?_
  simp
  refine rgz [] [[],[3,11,12,13]] ?_
  iterate 2 refine op1 tok ?_
  refine qA ?_
  exact ⟨k+1,by omega,by omega,qB (by simp [show 9 * (k+1)=9 * k+9 from rfl]),rfl,by simp [show 9 * (k+1)=9 * k+9 from rfl],by simp [show 9 * (k+1)=9 * k+9 from rfl]⟩
 intro h14
 try simp at h14
 obtain rfl:k=l.length:=by omega
 rw [← hN,hall]
 refine AW.exit ?_
 simp
 refine rgn [.str (qAQ N V)] [[],[],[2]] ?_
 iterate 3 refine op1 tok ?_
 exact qA (AW.ret qG)
theorem qTA {l:List Nat} (h:okL l):zK (qAQ (9 * l.length) (qL l))=qL l:=by
 rw [qQM,Nat.mod_eq_of_lt]
 rw [Nat.pow_mul]
 exact qBP h
theorem qDF (neg : Bool) {l : List Nat} (hl : okL l) (h : l.length ≤ 1000000) (sc : Nat) (hs : sc ≤ 1000000) :
  AFn Tryz.prog G 95 [.bool neg,.str (qAQ (9 * l.length) (qL l)),.int .i64 sc] (.tup [(vF neg (qL l) sc).1.enc,.int .i64 (vF neg (qL l) sc).2]):=by
 have:=qUR (G:=G) neg (qAQ (9 * l.length) (qL l)) sc (by rw [qES]; omega) (by omega)
 rwa [qZI neg (qQN _ _),qTA hl] at this
def qMR (a b:Dc):Nat:=zK (yN a (qY a b))
def qMQ (a b:Dc):Nat:=zK (yN b (qY a b))
def qGH (a b:Dc):Dc × Int :=
 if a.neg=b.neg then vF a.neg (qMR a b+qMQ a b) (qY a b).toNat
 else if qMQ a b≤qMR a b then vF a.neg (qMR a b-qMQ a b) (qY a b).toNat else vF b.neg (qMQ a b-qMR a b) (qY a b).toNat
theorem qWN {l m:List Nat} (hl:qHG l) (hm:qHG m):(0≤kS l m)↔qL m≤qL l:=by
 have h:=qGU hl hm
 unfold sgn at h
 constructor
 ·intro h0
  rw [if_neg (show ¬ kS l m<0 by omega)] at h
  split at h <;> split at h <;> (try split at h) <;> omega
 intro h0
 rw [if_neg (show ¬ ((qL l:Int)-qL m<0) by omega)] at h
 split at h <;> split at h <;> (try split at h) <;> omega
theorem qVF {l m:List Nat} (hl:qHG l) (hm:qHG m) (h:qL m≤qL l):m.length≤l.length:=by
 apply Nat.le_of_not_lt
 intro h2
 have:=qJE hl hm h2
 omega
theorem qYD (a b:Dc) (ha:okD a) (hb:okD b):AFn Tryz.prog G 131 [a.enc,b.enc] (.tup [(qGH a b).1.enc,.int .i64 (qGH a b).2]):=by
 refine AFn.introU tok Tryz.func131 (by kernel_rfl) rfl rfl ?_
 simp only [Tryz.f131,qH,List.map_cons,List.map_nil]
 have hal:=qKD (G:=G) a b ha hb
 obtain ⟨a1,a2,a3,a4⟩:=ha
 obtain ⟨b1,b2,b3,b4⟩:=hb
 have hm3:qY a b≤1000:=by unfold qY; split <;> omega
 have hm0:0≤qY a b:=by unfold qY; split <;> omega
 have hx:=qEF (jK a4 (qY a b-a.scale).toNat)
 have hy:=qEF (jK b4 (qY a b-b.scale).toNat)
 have vx:=qEE (jK a4 (qY a b-a.scale).toNat)
 have vy:=qEE (jK b4 (qY a b-b.scale).toNat)
 have lx:(kF (yN a (qY a b))).length≤2000:=by have:=qIZ (yN a (qY a b)); simp [yN] at *; omega
 have ly:(kF (yN b (qY a b))).length≤2000:=by have:=qIZ (yN b (qY a b)); simp [yN] at *; omega
 have hD:qGH a b=if a.neg=b.neg then vF a.neg (qMR a b+qMQ a b) (qY a b).toNat else if qMQ a b≤qMR a b then vF a.neg (qMR a b-qMQ a b) (qY a b).toNat else vF b.neg (qMQ a b-qMR a b) (qY a b).toNat:=rfl
 rw [show qMR a b=qL (kF (yN a (qY a b))) from vx.symm,show qMQ a b=qL (kF (yN b (qY a b))) from vy.symm] at hD
 rw [hD]
 change qHG (kF (yN a (qY a b))) at hx
 change qHG (kF (yN b (qY a b))) at hy
 clear vx vy hD
 generalize kF (yN a (qY a b))=x at *
 generalize kF (yN b (qY a b))=y at *
 obtain ⟨sc,hsc⟩:∃ sc:Nat,qY a b=sc:=⟨(qY a b).toNat,by omega⟩
 rw [hsc] at hal ⊢
 rw [Int.toNat_natCast]
 have hcm:=qLL (G:=G) x y (by omega) (by omega)
 have hge:=qWN hx hy
 generalize kS x y=c at *
 have hp:=zCS (G:=G) x y hx.1 hy.1 (by omega) (by omega)
 obtain ⟨op,vp⟩:=qYA hx.1 hy.1
 have lp:=zBI x y
 generalize qOF x y=p at *
 have dp:=qFY (G:=G) p op (by omega)
 have mp:=qDF (G:=G) a.neg op (by omega) sc (by omega)
 have hq:=qLM (G:=G) x y hx.1 hy.1 (by omega) (by omega)
 have sq:=fun h=>qKZ hx.1 hy.1 (qVF hx hy h) h
 have lq:=qOZ x y
 generalize qMW x y=q at *
 have hr:=qLM (G:=G) y x hy.1 hx.1 (by omega) (by omega)
 have sr:=fun h=>qKZ hy.1 hx.1 (qVF hy hx h) h
 have lr:=qOZ y x
 generalize qMW y x=r at *
 refine rgn [] [[],[],[],[2,3,4]] ?_
 iterate 4 refine op1 tok ?_
 refine qA (rgn [.nilp,.tup [.sl 1 (x.map zR),.sl 1 (y.map zR),.int .i64 sc]] [[],[],[],[],[],[],[2,3,4,13,14,15],[],[],[2,3,4,6,7,8]] ?_)
 iterate 10 refine oq1 tok hal ?_
 refine qA (AW.seq (AW.block (rgn [] [[],[],[],[],[2,3,4,6,7,8,21],[2,3,4,6,7,8,16]] ?_)))
 iterate 6 refine op1 tok ?_
 refine qA (cnd ?_ ?_)
 ·intro h16
  try simp at h16
  rw [if_pos h16,← vp]
  generalize qAQ (9 * p.length) (qL p)=dg at *
  generalize vF a.neg (qL p) sc=R at *
  refine AW.seqDrawS tok mixed 10 [[2],[22],[6],[7],[24,25],[26],[8],[23,27,28],[29],[29]] [.nilp,.sl 1 (p.map zR),.nilp,.str dg,.nilp,.tup [R.1.enc,.int .i64 R.2]] [] (by kernel_rfl) ?_
  iterate 10 refine dq1 (ai hp (ai dp mp)) ?_
  refine DGo.nil (by kernel_rfl) ⟨by kernel_rfl, ?_⟩
  refine qF.run [[],[4,5]] ?_
  iterate 2 refine op1 tok ?_
  exact qA (AW.ret qG)
 intro h16
 try simp at h16
 rw [if_neg h16]
 refine rgn [.nilp,.int .i64 c] [[],[],[],[],[2,3,4,6,7,8,32]] ?_
 iterate 5 refine oq1 tok hcm ?_
 refine qA (cnd ?_ ?_)
 ·intro h32
  try simp at h32
  obtain ⟨oq,vq⟩:=sq (hge.1 h32)
  rw [if_pos (hge.1 h32),← vq]
  have dq:=qFY (G:=G) q oq (by omega)
  have mq:=qDF (G:=G) a.neg oq (by omega) sc (by omega)
  generalize qAQ (9 * q.length) (qL q)=dg at *
  generalize vF a.neg (qL q) sc=R at *
  refine AW.seqDrawS tok mixed 10 [[2],[37],[6],[7],[39,40],[41],[8],[38,42,43],[44],[44]] [.nilp,.sl 1 (q.map zR),.nilp,.str dg,.nilp,.tup [R.1.enc,.int .i64 R.2]] [] (by kernel_rfl) ?_
  iterate 10 refine dq1 (ai hq (ai dq mq)) ?_
  refine DGo.nil (by kernel_rfl) ⟨by kernel_rfl, ?_⟩
  refine qF.run [[],[4,5]] ?_
  iterate 2 refine op1 tok ?_
  exact qA (AW.ret qG)
 intro h32
 try simp at h32
 have hlt:¬ qL y≤qL x:=fun h=>by have:=hge.2 h; omega
 obtain ⟨or,vr⟩:=sr (by omega)
 rw [if_neg hlt,← vr]
 have dr:=qFY (G:=G) r or (by omega)
 have mr:=qDF (G:=G) b.neg or (by omega) sc (by omega)
 generalize qAQ (9 * r.length) (qL r)=dg at *
 generalize vF b.neg (qL r) sc=R at *
 refine AW.skip ?_
 refine AW.seqDrawS tok mixed 10 [[3],[47],[7],[6],[49,50],[51],[8],[48,52,53],[54],[54]] [.nilp,.sl 1 (r.map zR),.nilp,.str dg,.nilp,.tup [R.1.enc,.int .i64 R.2]] [] (by kernel_rfl) ?_
 iterate 10 refine dq1 (ai hr (ai dr mr)) ?_
 refine DGo.nil (by kernel_rfl) ⟨by kernel_rfl, ?_⟩
 refine qF.run [[],[4,5]] ?_
 iterate 2 refine op1 tok ?_
 exact qA (AW.ret qG)
theorem zDT (v:Val) (ks:List Int):AFn Tryz.prog G 168 [v.enc,.ref [.sl 1 (ks.map (PD.int .i64))]] (.bool (!decide (v.kind∈ks))):=by
 refine AFn.introU tok Tryz.func168 (by kernel_rfl) rfl rfl ?_
 simp only [Tryz.f168,qH,List.map_cons,List.map_nil]
 have h1:=zAD (G:=G) ks v.kind
 generalize decide (v.kind∈ks)=b at *
 refine rgn [] [[],[1,2]] ?_
 iterate 2 refine op1 tok ?_
 refine qA (rgn [.nilp,.bool b] [[],[],[],[7],[],[3]] ?_)
 iterate 6 refine oq1 tok h1 ?_
 exact qA (AW.ret qG)
def qGE (l:List Val) (ks:List Int):Bool:=l.all fun v=>decide (v.kind∈ks)
theorem qTO (l:List Val) (ks:List Int):AFn Tryz.prog G 130 [.sl 9 (l.map Val.enc),.sl 1 (ks.map (PD.int .i64))] (.bool (qGE l ks)):=by
 refine AFn.introU tok Tryz.func130 (by kernel_rfl) rfl rfl ?_
 simp only [Tryz.f130,qH,List.map_cons,List.map_nil]
 have hc:=qKS (G:=G) l 168 [.sl 1 (ks.map (PD.int .i64))] (fun v => !decide (v.kind∈ks)) (fun v _=>zDT v ks)
 have e:qGE l ks = !(l.any fun v => !decide (v.kind∈ks)):=by unfold qGE; rw [List.not_any_eq_all_not]; simp
 rw [e]
 generalize (l.any fun v => !decide (v.kind∈ks))=r at *
 refine rgn [] [[],[0,3]] ?_
 iterate 2 refine op1 tok ?_
 refine qA ?_
 refine AW.freezeV 3 (by conv=>lhs; simp) ?_
 refine rgn [.nilp,.bool r] [[],[],[7],[],[4]] ?_
 iterate 5 refine op1 tok ?_ (hv:=by first | with_reducible exact True.intro | (first | exact hc | (simp; done) | (simp at hc ⊢; exact hc); done) | omega | simp | (simp +contextual; omega))
 exact qA (AW.ret qG)
def qQG (l:List Val) (sep:List UInt8) (m:Int):Val:=if qGE l [5,1]=true then kG (Lib.join (l.map Val.text) sep) m else wD 40 m
theorem qZM (l:List Val) (sep:List UInt8) (m:Int) (hl:l.length≤1000000) (hj:(Lib.join (l.map Val.text) sep).length≤1000000000):AFn Tryz.prog G 91 [.agg [.int .u64 m],.sl 9 (l.map Val.enc),.str sep] ((qQG l sep m).enc):=by
 refine AFn.introU tok Tryz.func91 (by kernel_rfl) rfl rfl ?_
 simp only [Tryz.f91,qH,List.map_cons,List.map_nil]
 have hf:=yD (G:=G) 40 m
 have ha:=qTO (G:=G) l [5,1]
 have hw:=qEG (G:=G) (Lib.join (l.map Val.text) sep) m
 have hJ:=zDW (G:=G) (l.map Val.text) sep (by simp; omega) (by omega)
 have e:qQG l sep m=if qGE l [5,1]=true then kG (Lib.join (l.map Val.text) sep) m else wD 40 m:=rfl
 rw [e]
 have hle:(l.map Val.enc).length=l.length:=by simp
 have htl:(l.map Val.text).length=l.length:=by simp
 have htg:∀ (k:Nat) x,l[k]?=some x→(l.map Val.text)[k]?=some x.text:=fun k x h=>by rw [List.getElem?_map,h]; rfl
 generalize qGE l [5,1]=b at *
 generalize kG (Lib.join (l.map Val.text) sep) m=W at *
 generalize Lib.join (l.map Val.text) sep=J at *
 generalize l.map Val.text=ts at *
 simp only [Val.enc_def,List.map_cons,List.map_nil] at hf ha hw
 refine rgn [] [[],[1,2,3,6]] ?_
 iterate 2 refine op1 tok ?_
 refine qA (AW.seq (rgn [.int .i64 5,.int .i64 1,.nilp,.bool b] [[],[],[],[1,2,3,6,13]] ?_))
 iterate 4 refine oq1 tok ha ?_
 refine qA (cnd ?_ ?_)
 ·intro h13
  try simp at h13
  rw [if_neg (by simp [h13])]
  refine rgn [.nilp,(wD 40 m).enc] [[],[],[6]] ?_
  iterate 3 refine oq1 tok hf ?_
  exact qA (AW.ret qG)
 intro h13
 try simp at h13
 rw [if_pos (by simpa using h13)]
 refine AW.skip (rgn [] [[]] ?_)
 refine op1 tok ?_
 refine qA (AW.seq (rgn [] [[],[],[2,3,6,7,16,17,18]] ?_))
 iterate 3 refine op1 tok ?_
 refine qA (AW.block ?_)
 refine AW.beginE 7 100 9 1 (by simp) (by simp) (by conv=>lhs; simp) ?_
 refine AW.loop (α:=Nat) (fun k=>k≤l.length) (fun k=>⟨qS 33 [(2,.p (.str sep)),(3,.ptr 3 0),(6,.ptr 6 0),(7,.ms 100),(16,.p (.sl 9 (l.map Val.enc))),(17,.p (.int .i64 l.length)),(18,.p (.int .i64 k))],[],[(3,.vars 61 [.p (.int .u64 m)]),(6,.vars 31 [.p (.int .i64 0),.p (.int .u64 0),.p (.bool false),.p (.str []),.p (.int .i64 0),.p (.str []),.nilsl,.nilsl,.p (.int .i64 0)]),(100,.row 9 1 ((ts.map PD.str).take k))],0⟩) (fun k=>l.length-k) (0) (by omega) ⟨qB (by simp),rfl,by simp,by simp⟩ ?_
 rintro k hk
 refine rgn [] [[]] ?_
 refine op1 tok ?_
 refine qA (AW.seq (cnd ?_ ?_))
 ·intro h19
  try simp at h19
  obtain ⟨x,hx⟩:∃ x,l[k]?=some x:=⟨l[k]'(by omega),by simp [show k<l.length by omega]⟩
  have ht:=htg k x hx
  have hgp:(ts.map PD.str)[k]?=some (.str x.text):=by rw [List.getElem?_map,ht]; rfl
  have htk:(ts.map PD.str).take k++[.str x.text]=(ts.map PD.str).take (k+1):=by rw [List.take_add_one,hgp]; rfl
  refine AW.skip (AW.seq (AW.block (rgn [x.enc] [[],[],[],[2,3,6,7,9,16,17,18]] ?_)))
  iterate 4 refine op1 tok ?_ (hv:=by first | with_reducible exact True.intro | (first | (simp [hx]; done) | (simp [hx]; omega); done) | omega | simp | (simp +contextual; omega))
  refine qA (rgz [.str x.text] [[],[],[],[2,3,6,16,17,18,22,25],[],[2,3,6,7,16,17,18]] ?_)
  iterate 6 refine op1 tok ?_
  refine qA (rgz [] [[],[2,3,6,7,16,17,18]] ?_)
  iterate 2 refine op1 tok ?_
  refine qA ?_
  exact ⟨k+1,by omega,by omega,qB (by simp [htk]),rfl,by simp [htk],by simp [htk]⟩
 intro h19
 try simp at h19
 obtain rfl:k=l.length:=by omega
 have hall:(ts.map PD.str).take l.length=ts.map PD.str:=List.take_of_length_le (by simp [htl])
 simp only [hall]
 refine AW.exit ?_
 simp
 refine AW.freezeE 100 (by conv=>lhs; simp) ?_
 refine AW.seqRunDrawK tok mixed [6] 5 [[3],[7],[2],[29,30],[28,31]] [.nilp,.str J,.nilp,W.enc] [] (by kernel_rfl) (by intro C; conv=>lhs; simp) (by first | exact ⟨hJ,hw⟩ | omega | (simp; exact ⟨hJ,hw⟩)) (by simp [Sm.sum,Sm.foot,Sm.tch,Sm.refs]; kernel_rfl) (by intro C; conv=>lhs; simp) (by first | with_reducible exact True.intro | omega | simp | (simp +contextual; omega)) ?_
 exact AW.ret qG
def rowN:Nat→Nat→List Nat
 | 0,_=>[]
 | w+1,v=>v / 10 ^ w % 10::rowN w v
end Go.Proofs.YtgcbapchinideaaGreatDoor
