import Derived.Test.YtgcbapchinideaaGreatDoorK1
import Derived.Test.YtgcbapchinideaaGreatDoorSArith
namespace Go.Proofs.YtgcbapchinideaaGreatDoor
open Sy Go
set_option maxRecDepth 100000
set_option maxHeartbeats 4000000
set_option linter.unusedSimpArgs false
set_option linter.unusedVariables false
variable {G:qJ}
theorem qIU (l:List Nat) (i:Nat):AFn Tryz.prog G 207 [.sl 1 (l.map zC),.int .i64 i] (.int .u64 (l.getD i 0:Nat)):=by
 refine AFn.introU tok Tryz.func207 (by kernel_rfl) rfl rfl ?_
 simp only [Tryz.f207,qK,List.map_cons,List.map_nil]
 refine rgn [] [[0,1]] ?_
 refine op1 tok ?_
 refine qA (AW.seq (rgn [] [[],[],[],[0,1,8]] ?_))
 iterate 4 refine op1 tok ?_
 refine qA (cnd ?_ ?_)
 ·intro h8
  try simp at h8
  obtain ⟨x,hx⟩:∃ x,l[i]?=some x:=⟨l[i]'(by omega),List.getElem?_eq_getElem _⟩
  rw [show l.getD i 0=x by rw [List.getD_eq_getElem?_getD,hx]; rfl]
  refine rgn [.int .u64 (x:Nat)] [[],[],[11],[],[4]] ?_
  iterate 5 refine op1 tok ?_ (hv:=by first | with_reducible exact True.intro | ((simp [hx]; try omega); done) | omega | simp | (simp +contextual; omega))
  exact qA (AW.ret qO)
 intro h8
 try simp at h8
 rw [show l.getD i 0=0 by rw [List.getD_eq_getElem?_getD,List.getElem?_eq_none (by omega)]; rfl]
 refine AW.skip (rgn [] [[]] ?_)
 refine op1 tok ?_
 exact qA (AW.ret qO)
theorem qVT (l m:List Nat) (hl:okL l) (hm:okL m) (h1:l.length≤1000000) (h2:m.length≤1000000):AFn Tryz.prog G 170 [.sl 1 (l.map zC),.sl 1 (m.map zC)] (.sl 1 ((qJL l m).map zC)):=by
 refine AFn.introU tok Tryz.func170 (by kernel_rfl) rfl rfl ?_
 simp only [Tryz.f170,qK,List.map_cons,List.map_nil]
 refine rgn [] [[0,1]] ?_
 refine op1 tok ?_
 refine qA (rgn [] [[]] ?_)
 refine op1 tok ?_
 refine qA (rgn [] [[]] ?_)
 refine op1 tok ?_
 refine qA (AW.seq (rgn [] [[],[],[],[],[0,1,5,6,13],[]] ?_))
 iterate 6 refine op1 tok ?_
 refine qA (AW.block ?_)
 refine AW.beginE 5 90 24 1 (by simp) (by simp) (by conv=>lhs; simp) ?_
 refine AW.loop (α:=Nat) (fun k=>k≤max l.length m.length) (fun k=>⟨zA 39 [(0,.p (.sl 1 (l.map zC))),(1,.p (.sl 1 (m.map zC))),(5,.ms 90),(6,.p (.int .u64 ((yJ l m k).2:Nat))),(13,.p (.int .i64 (max l.length m.length:Nat))),(14,.p (.int .i64 k))],[],[(90,.row 24 1 ((yJ l m k).1.map zC))],0⟩) (fun k=>max l.length m.length-k) (0) (by omega) ⟨qG (by simp [yJ]; split <;> omega),rfl,by simp [yJ],by simp [yJ]⟩ ?_
 rintro k hk
 obtain ⟨s1,s2,s3⟩:=qCT hl hm k
 have sl:=uH l m k
 have g1:=jP hl k
 have g2:=jP hm k
 unfold qI at g1 g2
 refine rgn [] [[]] ?_
 refine op1 tok ?_
 refine qA (AW.seq (cnd ?_ ?_))
 ·intro h15
  try simp at h15
  have hk':k<max l.length m.length:=by omega
  have lv1:=qIU (G:=G) l k
  have lv2:=qIU (G:=G) m k
  have hst:yJ l m (k+1)=((yJ l m k).1++[(l.getD k 0+m.getD k 0+(yJ l m k).2) % qI],(l.getD k 0+m.getD k 0+(yJ l m k).2) / qI):=rfl
  generalize yJ l m k=A at *
  generalize l.getD k 0=x at *
  generalize m.getD k 0=y at *
  have w1:IntKind.u64.wrap ((x:Int)+y)=(x:Int)+y:=wJ (by omega) (by omega)
  obtain ⟨z,hz⟩:∃ z,z=x+y+A.2:=⟨_,rfl⟩
  rw [← hz] at hst
  have w2:IntKind.u64.wrap ((x:Int)+y+A.2)=(z:Int):=by rw [wJ (by omega) (by omega)]; omega
  have dm:(z:Int).tmod 1000000000=((z % qI:Nat):Int):=(Int.ofNat_tmod z 1000000000).symm
  have dq:IntKind.u64.wrap ((z:Int) / 1000000000)=((z / qI:Nat):Int):=by
   unfold qI
   rw [wJ (by omega) (by omega)]; omega
  generalize z % qI=r at *
  generalize z / qI=q at *
  refine AW.skip (AW.seq (AW.block (rgn [] [[],[0,1,5,6,7,13,14]] ?_)))
  iterate 2 refine op1 tok ?_
  refine qA (rgn [.nilp,.int .u64 (x:Nat),.nilp,.int .u64 (y:Nat)] [[],[],[],[],[],[0,1,5,6,13,14,19,22],[],[],[0,1,5,13,14,25],[0,1,5,8,13,14]] ?_)
  iterate 10 refine oq1 tok (ai lv1 lv2) ?_ (h:=by intro C; conv=>lhs; simp [w1,w2])
  refine qA (rgz [.int .u64 (r:Nat)] [[],[],[],[],[0,1,8,13,14,30],[],[],[],[0,1,5,6,13,14]] ?_)
  iterate 9 refine op1 tok ?_ (h:=by intro C; conv=>lhs; simp [dm,dq]) (hv:=by first | with_reducible exact True.intro | ((simp [dm]); done) | omega | simp | (simp +contextual; omega))
  refine qA (rgz [] [[],[0,1,5,6,13,14]] ?_)
  iterate 2 refine op1 tok ?_
  refine qA ?_
  exact ⟨k+1,by omega,by omega,qG (by simp [hst]),rfl,by simp [hst],by simp [hst]⟩
 intro h15
 try simp at h15
 obtain rfl:k=max l.length m.length:=by omega
 have htr:=qII (G:=G) ((yJ l m (max l.length m.length)).1++[(yJ l m (max l.length m.length)).2])
 rw [show zQ ((yJ l m (max l.length m.length)).1++[(yJ l m (max l.length m.length)).2])=qJL l m from rfl] at htr
 simp only [List.map_append,List.map_cons,List.map_nil,zC] at htr
 refine AW.exit ?_
 simp
 refine rgn [.int .u64 ((yJ l m (max l.length m.length)).2:Nat),.nilp,.sl 1 ((qJL l m).map zC)] [[],[],[],[37],[],[4]] ?_
 iterate 6 refine oq1 tok htr ?_ (h:=by intro C; conv=>lhs; simp [List.map_append])
 exact qA (AW.ret qO)
theorem qHF (l m:List Nat) (hl:okL l) (hm:okL m) (h1:l.length≤1000000) (h2:m.length≤1000000):AFn Tryz.prog G 172 [.sl 1 (l.map zC),.sl 1 (m.map zC)] (.sl 1 ((qIK l m).map zC)):=by
 refine AFn.introU tok Tryz.func172 (by kernel_rfl) rfl rfl ?_
 simp only [Tryz.f172,qK,List.map_cons,List.map_nil]
 refine rgn [] [[0,1]] ?_
 refine op1 tok ?_
 refine qA (rgn [] [[]] ?_)
 refine op1 tok ?_
 refine qA (rgn [] [[]] ?_)
 refine op1 tok ?_
 refine qA (AW.seq (rgn [] [[],[],[0,1,5,6,10,11]] ?_))
 iterate 3 refine op1 tok ?_
 refine qA (AW.block ?_)
 refine AW.beginE 5 90 24 1 (by simp) (by simp) (by conv=>lhs; simp) ?_
 refine AW.loop (α:=Nat) (fun k=>k≤l.length) (fun k=>⟨zA 36 [(0,.p (.sl 1 (l.map zC))),(1,.p (.sl 1 (m.map zC))),(5,.ms 90),(6,.p (.int .u64 ((yV l m k).2:Nat))),(10,.p (.int .i64 l.length)),(11,.p (.int .i64 k))],[],[(90,.row 24 1 ((yV l m k).1.map zC))],0⟩) (fun k=>l.length-k) (0) (by omega) ⟨qG (by simp [yV]),rfl,by simp [yV],by simp [yV]⟩ ?_
 rintro k hk
 obtain ⟨s1,s2,s3⟩:=qBZ hl hm k
 have sl:=vL l m k
 have g1:=jP hl k
 have g2:=jP hm k
 unfold qI at g1 g2
 refine rgn [] [[]] ?_
 refine op1 tok ?_
 refine qA (AW.seq (cnd ?_ ?_))
 ·intro h12
  try simp at h12
  have lv2:=qIU (G:=G) m k
  obtain ⟨x0,hgl⟩:∃ x,l[k]?=some x:=⟨l[k]'(by omega),List.getElem?_eq_getElem _⟩
  have hx0:l.getD k 0=x0:=by rw [List.getD_eq_getElem?_getD,hgl]; rfl
  have hst:yV l m (k+1)=((yV l m k).1++[(l.getD k 0+qI-m.getD k 0-(yV l m k).2) % qI],1-(l.getD k 0+qI-m.getD k 0-(yV l m k).2) / qI):=rfl
  generalize yV l m k=A at *
  rw [hx0] at hst g1
  generalize m.getD k 0=y at *
  generalize x0=x at *
  obtain ⟨z,hz⟩:∃ z,z=x+qI-y-A.2:=⟨_,rfl⟩
  rw [← hz] at hst
  have hzd:z / qI≤1:=by
   have:z / qI<2:=(Nat.div_lt_iff_lt_mul (by decide)).2 (by rw [hz]; unfold qI; omega)
   omega
  unfold qI at hz
  have w1:IntKind.u64.wrap ((x:Int)+1000000000)=(x:Int)+1000000000:=wJ (by omega) (by omega)
  have w2:IntKind.u64.wrap ((x:Int)+1000000000-y)=(x:Int)+1000000000-y:=wJ (by omega) (by omega)
  have w3:IntKind.u64.wrap ((x:Int)+1000000000-y-A.2)=(z:Int):=by rw [wJ (by omega) (by omega)]; omega
  have dm:(z:Int).tmod 1000000000=((z % qI:Nat):Int):=(Int.ofNat_tmod z 1000000000).symm
  have dq:IntKind.u64.wrap ((z:Int) / 1000000000)=((z / qI:Nat):Int):=by
   unfold qI
   rw [wJ (by omega) (by omega)]; omega
  generalize z % qI=r at *
  generalize z / qI=q at *
  have w4:IntKind.u64.wrap (1-(q:Int))=((1-q:Nat):Int):=by
   rw [wJ (by omega) (by omega)]; omega
  generalize 1-q=b at *
  refine AW.skip (AW.seq (AW.block (rgn [] [[],[0,1,5,6,7,10,11]] ?_)))
  iterate 2 refine op1 tok ?_
  refine qA ?_
  refine AW.seqDrawS tok mixed 11 [[0],[7],[14,15],[16],[17],[1],[7],[19,20],[18,21],[6],[22,23]] [.int .u64 (x:Nat),.nilp,.int .u64 (y:Nat)] [] (by kernel_rfl) ?_
  iterate 11 refine d1 ?_ (h:=by intro C; conv=>lhs; simp [w1,w2,w3]) (hv:=by first | with_reducible exact True.intro | (first | exact lv2 | (simp [hgl]; done) | (simp [hgl]; omega); done) | omega | simp | (simp +contextual; omega))
  refine DGo.nil (by kernel_rfl) ⟨by kernel_rfl, ?_⟩
  refine qF.run [[0,1,5,8,10,11]] ?_
  refine op1 tok ?_ (h:=by intro C; conv=>lhs; simp [w1,w2,w3])
  refine qA (rgz [.int .u64 (r:Nat)] [[],[],[],[],[0,1,8,10,11,29],[],[],[],[0,1,5,10,11,32],[0,1,5,6,10,11]] ?_)
  iterate 10 refine op1 tok ?_ (h:=by intro C; conv=>lhs; simp [dm,dq,w4]) (hv:=by first | with_reducible exact True.intro | ((simp [dm]); done) | omega | simp | (simp +contextual; omega))
  refine qA (rgz [] [[],[0,1,5,6,10,11]] ?_)
  iterate 2 refine op1 tok ?_
  refine qA ?_
  exact ⟨k+1,by omega,by omega,qG (by simp [hst]),rfl,by simp [hst],by simp [hst]⟩
 intro h12
 try simp at h12
 obtain rfl:k=l.length:=by omega
 have htr:=qII (G:=G) (yV l m l.length).1
 refine AW.exit ?_
 simp
 refine rgn [.nilp,.sl 1 ((qIK l m).map zC)] [[],[],[4]] ?_
 iterate 3 refine oq1 tok htr ?_
 exact qA (AW.ret qO)
def yZ (n w V:Nat):List PD:=qE (List.replicate (n-w) 0++xW w V)
theorem qLW (n V:Nat):yZ n 0 V=List.replicate n (.int .u8 0):=by simp [yZ,xW,qE]
theorem qOB {n w V:Nat} (h:w≤n):(yZ n w V).length=n:=by simp [yZ,qBL]; omega
theorem qOC {n w V:Nat} (h:w<n):(yZ n w V)[n-1-w]?=some (.int .u8 0):=by
 unfold yZ
 refine jD (b:=0) ?_
 rw [List.getElem?_append_left (by simp; omega),List.getElem?_replicate,if_pos (by omega)]
theorem qOA {n w V:Nat} (h:w<n):(yZ n w V).set (n-1-w) (.int .u8 (48+V / 10 ^ w % 10:Nat))=yZ n (w+1) V:=by
 unfold yZ qE
 have hd:V / 10 ^ w % 10<10:=Nat.mod_lt _ (by decide)
 rw [show PD.int .u8 (48+V / 10 ^ w % 10:Nat)=(fun b:UInt8=>PD.int .u8 b.toNat) (UInt8.ofNat (48+V / 10 ^ w % 10)) by simp only [xV hd],← List.map_set]
 congr 1
 rw [show n-w=(n-(w+1))+1 by omega,List.replicate_succ',List.append_assoc,List.set_append_right _ _ (by simp; omega)]
 simp only [List.length_replicate]
 rw [show n-1-w-(n-(w+1))=0 by omega]
 rfl
theorem qOD (n V:Nat):yZ n n V=qE (xW n V):=by simp [yZ]
theorem qTC {l:List Nat} (h:okL l) (i:Nat):qL l / qI ^ i % qI=l.getD i 0:=by
 induction l generalizing i with
 | nil=>simp [qL]
 | cons a l ih =>
  have ha:a<qI:=h a (by simp)
  have ih:=ih (fun x hx=>h x (by simp [hx]))
  have hb:0<qI:=by decide
  cases i with
  | zero=>simp [qL,Nat.add_mul_mod_self_left,Nat.mod_eq_of_lt ha]
  | succ i =>
   simp only [qL,List.getD_cons_succ]
   rw [Nat.pow_succ,Nat.mul_comm (qI ^ i),← Nat.div_div_eq_div_mul,Nat.add_mul_div_left _ _ hb,Nat.div_eq_of_lt ha,Nat.zero_add]
   exact ih i
theorem qUA {l:List Nat} (h:okL l) (i:Nat) {j:Nat} (hj:j<9):qL l / 10 ^ (9 * i+j) % 10=l.getD i 0 / 10 ^ j % 10:=by
 rw [← qTC h i,Nat.pow_add,Nat.pow_mul,← Nat.div_div_eq_div_mul,show (10:Nat) ^ 9=qI from rfl]
 generalize qL l / qI ^ i=M
 obtain ⟨d,hd⟩:∃ d,d+j=8:=⟨8-j,by omega⟩
 rw [show qI=10 ^ j * (10 * 10 ^ d) by rw [← Nat.pow_succ',← Nat.pow_add,show j+(d+1)=9 by omega]; rfl,Nat.mod_mul_right_div_self,Nat.mod_mul_right_mod]
def qFZ (x j:Nat):Nat:=x / 10 ^ j
theorem qQG (x:Nat):qFZ x 0=x:=by simp [qFZ]
theorem qQH (x j:Nat):qFZ x j / 10=qFZ x (j+1):=by unfold qFZ; rw [Nat.div_div_eq_div_mul,← Nat.pow_succ]
theorem qCQ (l:List Nat) (hl:okL l) (h1:l.length≤1000000):AFn Tryz.prog G 171 [.sl 1 (l.map zC)] (.str (xW (9 * l.length) (qL l))):=by
 refine AFn.introU tok Tryz.func171 (by kernel_rfl) rfl rfl ?_
 simp only [Tryz.f171,qK,List.map_cons,List.map_nil]
 have hz:yZ (9 * l.length) 0 (qL l)=List.replicate (9 * l.length) (.int .u8 0):=qLW _ _
 have hall:=qOD (9 * l.length) (qL l)
 have hdl:=fun k j (h:j<9)=>qUA hl k (j:=j) h
 have hset:=fun w=>qOA (n:=9 * l.length) (w:=w) (V:=qL l)
 have hget:=fun w=>qOC (n:=9 * l.length) (w:=w) (V:=qL l)
 have hlen:=fun w=>qOB (n:=9 * l.length) (w:=w) (V:=qL l)
 have hmul:((l.length:Int) * 9).toNat=9 * l.length:=by omega
 generalize qL l=V at *
 obtain ⟨N,hN⟩:∃ N,N=9 * l.length:=⟨_,rfl⟩
 rw [← hN] at hz hall hset hget hlen hmul ⊢
 refine rgn [] [[0]] ?_
 refine op1 tok ?_
 refine qA (rgn [.int .u8 0] [[],[],[],[],[0,3]] ?_)
 iterate 5 refine op1 tok ?_
 refine qA (AW.seq (rgn [] [[],[],[3,11,12,13]] ?_))
 iterate 3 refine op1 tok ?_
 refine qA (AW.block ?_)
 refine AW.loop (α:=Nat) (fun k=>k≤l.length) (fun k=>⟨zA 41 [(3,.ms 10),(11,.p (.sl 1 (l.map zC))),(12,.p (.int .i64 l.length)),(13,.p (.int .i64 k))],[],[(10,.row 5 1 (yZ N (9 * k) V))],0⟩) (fun k=>l.length-k) (0) (by omega) ⟨qG (by simp),rfl,by (simp [hz,hmul]),by simp [hz,hmul]⟩ ?_
 rintro k hk
 refine rgn [] [[]] ?_
 refine op1 tok ?_
 refine qA (AW.seq (cnd ?_ ?_))
 ·intro h14
  try simp at h14
  obtain ⟨x,hx⟩:∃ x,l[k]?=some x:=⟨l[k]'(by omega),List.getElem?_eq_getElem _⟩
  have hxd:l.getD k 0=x:=by rw [List.getD_eq_getElem?_getD,hx]; rfl
  have hxb:x<1000000000:=hl x (List.mem_of_getElem? hx)
  have hx0:=qQG x
  refine AW.skip (AW.seq (AW.block (rgn [.int .u64 (x:Nat)] [[],[],[],[],[3,4,5,11,12,13]] ?_)))
  iterate 5 refine op1 tok ?_ (hv:=by first | with_reducible exact True.intro | (simp [hx]; done) | omega | simp | (simp +contextual; omega))
  refine qA (rgn [] [[]] ?_)
  refine op1 tok ?_
  refine qA (AW.block ?_)
  refine AW.loop (α:=Nat) (fun j=>j≤9) (fun j=>⟨zA 41 [(3,.ms 10),(4,.p (.int .i64 k)),(5,.p (.int .u64 (qFZ x j:Nat))),(11,.p (.sl 1 (l.map zC))),(12,.p (.int .i64 l.length)),(13,.p (.int .i64 k)),(18,.p (.int .i64 j))],[],[(10,.row 5 1 (yZ N (9 * k+j) V))],0⟩) (fun j=>9-j) (0) (by omega) ⟨qG (by simp [hx0]),rfl,by simp,by simp⟩ ?_
  rintro j hj
  refine rgn [] [[]] ?_
  refine op1 tok ?_
  refine qA (AW.seq (cnd ?_ ?_))
  ·intro h19
   try simp at h19
   have hdj:=hdl k j (by omega)
   rw [hxd,show x / 10 ^ j=qFZ x j from rfl] at hdj
   have hset:=hset (9 * k+j) (by omega)
   have hget:=hget (9 * k+j) (by omega)
   have hlen:=hlen (9 * k+j) (by omega)
   rw [hdj] at hset
   have hxj:qFZ x j<1000000000:=Nat.lt_of_le_of_lt (Nat.div_le_self _ _) hxb
   have hnx:=qQH x j
   generalize qFZ x j=z at *
   have hix:((N:Int)-1-k * 9).toNat-j=N-1-(9 * k+j):=by omega
   have dm:(z:Int).tmod 10=((z % 10:Nat):Int):=(Int.ofNat_tmod z 10).symm
   have dc:IntKind.u8.wrap (IntKind.u64.wrap (48+((z % 10:Nat):Int)))=((48+z % 10:Nat):Int):=by
    rw [wJ (by omega) (by omega),qOT (by omega) (by omega)]; omega
   have dq:IntKind.u64.wrap ((z:Int) / 10)=((qFZ x (j+1):Nat):Int):=by rw [← hnx,wJ (by omega) (by omega)]; omega
   generalize hr:z % 10=r at *
   have e9:9 * k+j+1=9 * k+(j+1):=rfl
   rw [e9,show ((48+r:Nat):Int)=48+(r:Int) by omega] at hset
   refine AW.skip (AW.seq (AW.block (rgn [] [[],[3,4,5,6,11,12,13,18]] ?_)))
   iterate 2 refine op1 tok ?_
   refine qA (rgn [.int .u8 0,.int .u8 (48+r:Nat)] [[],[],[],[],[],[],[3,4,5,6,11,12,13,18,21,27],[],[],[],[3,4,5,11,12,13,18,21,29,31],[],[],[3,4,5,11,12,13,18,33,34],[3,4,5,11,12,13,18]] ?_)
   iterate 15 refine op1 tok ?_ (h:=by intro C; conv=>lhs; simp [hlen,hget,hix,dm,dc]) (hv:=by first | with_reducible exact True.intro | (first | (simp [hlen,hget,hix,dm,dc]; done) | (simp [hlen,hget,hix,dm,dc]; omega); done) | omega | simp | (simp +contextual; omega))
   refine qA (rgz [] [[],[],[3,4,5,11,12,13,18]] ?_)
   iterate 3 refine op1 tok ?_
   refine qA (rgz [] [[],[3,4,5,11,12,13,18]] ?_)
   iterate 2 refine op1 tok ?_
   refine qA ?_
   exact ⟨j+1,by omega,by omega,qG (by simp [dq,hset,hlen,hix]),rfl,by simp [dq,hset,hlen,hix],by simp [dq,hset,hlen,hix]⟩
  intro h19
  try simp at h19
  obtain rfl:j=9:=by omega
  refine AW.exit ?_
  simp
  refine rgz [] [[],[3,11,12,13]] ?_
  iterate 2 refine op1 tok ?_
  refine qA ?_
  exact ⟨k+1,by omega,by omega,qG (by simp [show 9 * (k+1)=9 * k+9 from rfl]),rfl,by simp [show 9 * (k+1)=9 * k+9 from rfl],by simp [show 9 * (k+1)=9 * k+9 from rfl]⟩
 intro h14
 try simp at h14
 obtain rfl:k=l.length:=by omega
 rw [← hN,hall]
 refine AW.exit ?_
 simp
 refine rgn [.str (xW N V)] [[],[],[2]] ?_
 iterate 3 refine op1 tok ?_
 exact qA (AW.ret qO)
end Go.Proofs.YtgcbapchinideaaGreatDoor
