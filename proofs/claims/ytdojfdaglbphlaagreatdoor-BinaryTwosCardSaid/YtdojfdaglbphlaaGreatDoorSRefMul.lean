import Derived.Test.YtdojfdaglbphlaaGreatDoorSRefMulL
import Derived.Test.YtdojfdaglbphlaaGreatDoorSRefAdd
import Derived.Test.YtdojfdaglbphlaaGreatDoorSDivE
namespace Go.Proofs.YtdojfdaglbphlaaGreatDoor
open Sy Go
set_option maxRecDepth 100000
set_option maxHeartbeats 4000000
set_option linter.unusedSimpArgs false
set_option linter.unusedVariables false
variable {G:qR}
def qLA (x:Nat):PD := .int .i64 (x:Nat)
theorem zOH (l:List Nat) (j r:Nat):(l.map qLA).set j (.int .i64 (r:Nat))=(l.set j r).map qLA:=by rw [List.map_set]; rfl
theorem zQQ (a b:Dc) (ha:okD a) (hb:okD b):AFn Tryz.prog G 113 [a.enc,b.enc] (.tup [(qEW a b).1.enc,.int .i64 (qEW a b).2]):=by
 refine AFn.introU tok Tryz.func113 (by kernel_rfl) rfl rfl ?_
 simp only [Tryz.f113,qI,List.map_cons,List.map_nil]
 obtain ⟨a1,a2,a3,a4⟩:=ha
 obtain ⟨b1,b2,b3,b4⟩:=hb
 have hA:qEW a b=zW (a.neg != b.neg) (qE a.digits * qE b.digits) (a.scale+b.scale).toNat:=rfl
 rw [hA]
 obtain ⟨N,hN⟩:∃ N,N=a.digits.length+b.digits.length:=⟨_,rfl⟩
 have hNi:((a.digits.length:Int)+b.digits.length)=(N:Int):=by omega
 have hVl:qE a.digits * qE b.digits<10 ^ N:=by rw [hN,Nat.pow_add]; exact Nat.mul_lt_mul'' (wB a4) (wB b4)
 have hn:=kA (G:=G) (a.neg != b.neg) (zT N (qE a.digits * qE b.digits)) (by rw [zD]; omega) (v:=qE a.digits * qE b.digits) (by rw [zZ,Nat.mod_eq_of_lt hVl]) (sc:=a.scale+b.scale) (by omega) (by omega)
 have da:=fun k h=>qPV a4 (k:=k) h
 generalize zW (a.neg != b.neg) (qE a.digits * qE b.digits) (a.scale+b.scale).toNat=r1 at *
 obtain ⟨q1,e1⟩:=r1
 simp only [Dc.enc] at hn
 have hz0:(List.replicate N 0).map qLA=List.replicate N (.int .i64 0):=by simp [qLA]
 have hcap:((N:Int)).toNat=N:=by omega
 refine rgn [] [[],[],[],[2,3,4]] ?_
 iterate 4 refine op1 tok ?_
 refine qA (rgn [] [[],[],[],[],[],[2,3,4,17,20],[],[2,3,4,6]] ?_)
 iterate 8 refine op1 tok ?_ (h:=by intro C; conv=>lhs; simp [hNi])
 refine qA (rgn [.int .i64 0] [[],[],[2,3,4,6,7]] ?_)
 iterate 3 refine op1 tok ?_
 refine qA (AW.seq (rgn [] [[]] ?_))
 refine op1 tok ?_
 refine qA (AW.block ?_)
 refine AW.loop (α:=Nat × List Nat) (fun s=>s.1≤a.digits.length∧s.2.length=N∧(∀ x∈s.2,x≤81 * (s.1 * b.digits.length))∧jZ s.2=qE (a.digits.take s.1) * 10 ^ (a.digits.length-s.1) * qE b.digits) (fun s=>⟨qV 113 [(2,.ptr 2 0),(3,.ptr 3 0),(4,.ptr 4 0),(6,.p (.int .i64 N)),(7,.ms 23),(8,.p (.int .i64 s.1))],[],[(2,.vars 26 [.p (.bool a.neg),.p (.str a.digits),.p (.int .i64 a.scale)]),(3,.vars 26 [.p (.bool b.neg),.p (.str b.digits),.p (.int .i64 b.scale)]),(4,.vars 26 [.p (.bool false),.p (.str []),.p (.int .i64 0)]),(23,.row 3 1 (s.2.map qLA))],0⟩) (fun s=>a.digits.length-s.1) ((0,List.replicate N 0)) ⟨by simp,by simp,by simp,by rw [qQE]; simp [qE]⟩ ⟨qB (by simp),rfl,by (simp only [hz0]; simp [hcap]),by simp⟩ ?_
 rintro ⟨k,r⟩ ⟨i1,i2,i3,i4⟩
 simp only at i1 i2 i3 i4
 refine AW.seq (rgn [] [[],[],[],[],[2,3,4,6,7,8,28]] ?_)
 iterate 5 refine op1 tok ?_
 refine qA (cnd ?_ ?_)
 ·intro h28
  try simp at h28
  have hk:k<a.digits.length:=by omega
  obtain ⟨ca,hca⟩:∃ c,a.digits[k]?=some c:=⟨a.digits[k],List.getElem?_eq_getElem hk⟩
  have hcd:=(zK ca).1 (List.all_eq_true.1 a4 ca (List.mem_of_getElem? hca))
  have hva:qE (a.digits.take (k+1))=qE (a.digits.take k) * 10+(ca.toNat-48):=by rw [List.take_add_one,hca]; exact kN _ _
  have hsplit:jZ r=qE (a.digits.take k) * 10 ^ (a.digits.length-k) * qE b.digits+(ca.toNat-48) * 10 ^ (a.digits.length-1-k) * (qE (b.digits.take 0) * 10 ^ (b.digits.length-0)):=by rw [i4]; simp [qE]
  refine AW.skip (AW.seq (AW.block (rgn [] [[]] ?_)))
  refine op1 tok ?_
  refine qA (AW.block ?_)
  refine AW.loop (α:=Nat × List Nat) (fun s=>s.1≤b.digits.length∧s.2.length=N∧(∀ x∈s.2,x≤81 * (k * b.digits.length+s.1))∧jZ s.2=qE (a.digits.take k) * 10 ^ (a.digits.length-k) * qE b.digits+(ca.toNat-48) * 10 ^ (a.digits.length-1-k) * (qE (b.digits.take s.1) * 10 ^ (b.digits.length-s.1))) (fun s=>⟨qV 113 [(2,.ptr 2 0),(3,.ptr 3 0),(4,.ptr 4 0),(6,.p (.int .i64 N)),(7,.ms 23),(8,.p (.int .i64 k)),(9,.p (.int .i64 s.1))],[],[(2,.vars 26 [.p (.bool a.neg),.p (.str a.digits),.p (.int .i64 a.scale)]),(3,.vars 26 [.p (.bool b.neg),.p (.str b.digits),.p (.int .i64 b.scale)]),(4,.vars 26 [.p (.bool false),.p (.str []),.p (.int .i64 0)]),(23,.row 3 1 (s.2.map qLA))],0⟩) (fun s=>b.digits.length-s.1) ((0,r)) ⟨by simp,i2,by simpa using i3,hsplit⟩ ⟨qB (by simp),rfl,by simp,by simp⟩ ?_
  rintro ⟨j,R⟩ ⟨j1,j2,j3,j4⟩
  simp only at j1 j2 j3 j4
  refine AW.seq (rgn [] [[],[],[],[],[2,3,4,6,7,8,9,35]] ?_)
  iterate 5 refine op1 tok ?_
  refine qA (cnd ?_ ?_)
  ·intro h35
   try simp at h35
   have hj:j<b.digits.length:=by omega
   obtain ⟨cb,hcb⟩:∃ c,b.digits[j]?=some c:=⟨b.digits[j],List.getElem?_eq_getElem hj⟩
   have hcbd:=(zK cb).1 (List.all_eq_true.1 b4 cb (List.mem_of_getElem? hcb))
   have hvb:qE (b.digits.take (j+1))=qE (b.digits.take j) * 10+(cb.toNat-48):=by rw [List.take_add_one,hcb]; exact kN _ _
   obtain ⟨x,hx⟩:∃ x,x=ca.toNat-48:=⟨_,rfl⟩
   obtain ⟨y,hy⟩:∃ y,y=cb.toNat-48:=⟨_,rfl⟩
   have wa:=w8d (c:=ca) (d:=x) (by omega)
   have wb:=w8d (c:=cb) (d:=y) (by omega)
   rw [← hx] at j4
   have hat:k+j+1<R.length:=by omega
   have hms:=zMQ (e:=y) (k:=k+j+1) (q:=b.digits.length-1-j) (by rw [j4,show b.digits.length-j=b.digits.length-1-j+1 by omega]) hat (by omega)
   have hxy:x * y≤81:=Nat.mul_le_mul (show x≤9 by omega) (show y≤9 by omega)
   have hle:=zTB (k:=k+j+1) j3 hxy
   obtain ⟨o,ho⟩:∃ o,R[k+j+1]?=some o:=⟨R[k+j+1],List.getElem?_eq_getElem hat⟩
   have hod:R.getD (k+j+1) 0=o:=by rw [List.getD_eq_getElem?_getD,ho]; rfl
   have hol:=j3 o (List.mem_of_getElem? ho)
   rw [hod] at hms hle
   have hkm:k * b.digits.length≤1000 * 1000:=Nat.mul_le_mul (by omega) b1
   have w2:IntKind.i64.wrap ((x:Int) * y)=((x * y:Nat):Int):=by rw [show (x:Int) * y=((x * y:Nat):Int) by simp]; exact qMG (by omega)
   have hpd:∃ p,p=x * y:=⟨_,rfl⟩
   obtain ⟨p,hp⟩:=hpd
   rw [← hp] at hms hle hxy w2
   have w1:IntKind.i64.wrap ((o:Int)+(p:Int))=((o+p:Nat):Int):=by rw [show (o:Int)+(p:Int)=((o+p:Nat):Int) by omega]; exact qMG (by omega)
   have wx:IntKind.i64.wrap (x:Int)=(x:Int):=qMG (by omega)
   have wy:IntKind.i64.wrap (y:Int)=(y:Int):=qMG (by omega)
   have hai:(N:Int)-1-((a.digits.length:Int)-1-k)-((b.digits.length:Int)-1-j)=((k+j+1:Nat):Int):=by omega
   have hset:=zOH R (k+j+1) (o+p)
   generalize hzz:o+p=z at *
   have hkt:((k:Int)+j+1).toNat=k+j+1:=by omega
   have hvb2:qE (b.digits.take (j+1)) * 10 ^ (b.digits.length-(j+1))=(qE (b.digits.take j) * 10+y) * 10 ^ (b.digits.length-1-j):=by rw [hvb,← hy,show b.digits.length-(j+1)=b.digits.length-1-j by omega]
   refine AW.skip (AW.seq (AW.block (rgn [] [[],[],[],[],[],[2,3,4,6,7,8,9,39,43],[],[],[2,3,4,6,7,8,9,46],[],[],[],[],[],[2,3,4,6,7,8,9,46,52],[],[2,3,4,6,7,8,9,10]] ?_)))
   iterate 17 refine op1 tok ?_ (h:=by intro C; conv=>lhs; simp [hai])
   refine qA ?_
   refine AW.drawS tok mixed 20 [[7],[10],[7],[10],[56,57],[58],[2],[60],[8],[61,62],[63],[64],[3],[66],[9],[67,68],[69],[70],[65,71],[59,72]] [.int .i64 (o:Nat),.int .u8 ca.toNat,.int .u8 cb.toNat] [.int .i64 (o:Nat),.int .i64 (z:Nat)] (by kernel_rfl) ?_
   iterate 20 refine d1 ?_ (h:=by intro C; conv=>lhs; simp [wa,wb,wx,wy,w1,w2,hkt]) (hv:=by first | with_reducible exact True.intro | (first | exact ⟨by omega,ca,hca,rfl⟩ | exact ⟨by omega,cb,hcb,rfl⟩ | exact ⟨ca,hca,rfl⟩ | exact ⟨cb,hcb,rfl⟩ | (simp [ho,hkt,qLA,wa,wb,wx,wy,w1,w2]; done) | (simp [ho,hkt,qLA,wa,wb,wx,wy,w1,w2]; omega); done) | omega | simp | (simp +contextual; omega))
   refine DGo.nil (by kernel_rfl) ⟨by kernel_rfl, ?_⟩
   refine qC.run [[],[2,3,4,6,7,8,9]] ?_
   iterate 2 refine op1 tok ?_ (h:=by intro C; conv=>lhs; simp [wa,wb,wx,wy,w1,w2,hkt]) (hv:=by first | with_reducible exact True.intro | (first | (simp [ho,hkt,qLA]; done) | (simp [ho,hkt,qLA]; omega); done) | omega | simp | (simp +contextual; omega))
   refine qA (rgz [] [[],[],[2,3,4,6,7,8,9]] ?_)
   iterate 3 refine op1 tok ?_
   refine qA ?_
   exact ⟨(j+1,R.set (k+j+1) z),⟨by simp only; omega,by simp only [List.length_set]; exact j2,fun u hu=>Nat.le_trans (hle u hu) (by simp only; omega),by simp only; rw [hms,← hvb2,← hx]⟩,by simp only; omega,qB (by simp [hset,hkt]),rfl,by simp [hset,hkt],by simp [hset,hkt]⟩
  intro h35
  try simp at h35
  obtain rfl:j=b.digits.length:=by omega
  refine AW.exit ?_
  simp [-Prod.exists]
  refine rgz [] [[],[],[2,3,4,6,7,8]] ?_
  iterate 3 refine op1 tok ?_
  refine qA ?_
  exact ⟨(k+1,R),⟨by simp only; omega,j2,fun z hz=>by have:=j3 z hz; simp only; rw [Nat.add_mul]; omega,by simp only; rw [j4,hva,List.take_length,Nat.sub_self,show a.digits.length-k=a.digits.length-1-k+1 by omega,show a.digits.length-(k+1)=a.digits.length-1-k by omega,Nat.pow_succ]; rw [Nat.add_mul,Nat.add_mul]; simp only [Nat.pow_zero,Nat.mul_one]; congr 2; rw [Nat.mul_assoc,Nat.mul_comm 10]⟩,by simp only; omega,qB (by simp),rfl,by simp,by simp⟩
 intro h28
 try simp at h28
 obtain rfl:k=a.digits.length:=by omega
 rw [List.take_length,Nat.sub_self,Nat.pow_zero,Nat.mul_one] at i4
 have hb81:∀ x∈r,x≤81000000:=fun x hx=>by
  have:=i3 x hx
  have hm:a.digits.length * b.digits.length≤1000 * 1000:=Nat.mul_le_mul a1 b1
  omega
 have hz8:=qME N (qE a.digits * qE b.digits)
 have hall:=qPZ N (qE a.digits * qE b.digits)
 have hset:=fun w=>qPW (n:=N) (w:=w) (V:=qE a.digits * qE b.digits)
 have hget:=fun w=>qPY (n:=N) (w:=w) (V:=qE a.digits * qE b.digits)
 have hlen:=fun w=>qPX (n:=N) (w:=w) (V:=qE a.digits * qE b.digits)
 generalize qE a.digits * qE b.digits=P at *
 subst i4
 refine AW.exit ?_
 simp
 refine rgn [.int .u8 0] [[],[],[2,3,4,6,7,11]] ?_
 iterate 3 refine op1 tok ?_
 refine qA (rgn [] [[]] ?_)
 refine op1 tok ?_
 refine qA (AW.seq (rgn [] [[],[],[2,3,4,7,11,12,13]] ?_))
 iterate 3 refine op1 tok ?_
 refine qA (AW.block ?_)
 refine AW.loop (α:=Nat) (fun w=>w≤N) (fun w=>⟨qV 113 [(2,.ptr 2 0),(3,.ptr 3 0),(4,.ptr 4 0),(7,.ms 23),(11,.ms 76),(12,.p (.int .i64 (qIA r w))),(13,.p (.int .i64 ((N:Int)-1-w)))],[],[(2,.vars 26 [.p (.bool a.neg),.p (.str a.digits),.p (.int .i64 a.scale)]),(3,.vars 26 [.p (.bool b.neg),.p (.str b.digits),.p (.int .i64 b.scale)]),(4,.vars 26 [.p (.bool false),.p (.str []),.p (.int .i64 0)]),(23,.row 3 1 (r.map qLA)),(76,.row 5 1 (xY N w (jZ r)))],0⟩) (fun w=>N-w) (0) (by omega) ⟨qB (by simp [zJP]),rfl,by simp [hz8],by simp [hz8]⟩ ?_
 rintro w hw
 refine AW.seq (rgn [] [[],[2,3,4,7,11,12,13,80]] ?_)
 iterate 2 refine op1 tok ?_
 refine qA (cnd ?_ ?_)
 ·intro h80
  try simp at h80
  have hw':w<N:=by omega
  obtain ⟨x,hx⟩:∃ x,r[r.length-1-w]?=some x:=⟨r[r.length-1-w]'(by omega),List.getElem?_eq_getElem _⟩
  have hst:=zOI hx (by omega)
  rw [i2] at hx
  have hxb:=hb81 x (List.mem_of_getElem? hx)
  have hcb:=zFW (w:=w) hb81 (by omega)
  have hset:=hset w hw'
  have hget:=hget w hw'
  have hlen:=hlen w (by omega)
  obtain ⟨s1,s2⟩:=hst
  have hd10:jZ r / 10 ^ w % 10<10:=Nat.mod_lt _ (by decide)
  generalize jZ r / 10 ^ w % 10=D at *
  generalize qIA r w=c at *
  have hcc:IntKind.i64.wrap ((x:Int)+c)=(x:Int)+c:=qMG (by omega)
  have dm:((x:Int)+c).tmod 10=(D:Int):=by rw [show (x:Int)+c=((x+c:Nat):Int) by omega,← s1]; rfl
  have hQ:((x:Int)+c).tdiv 10=((qIA r (w+1):Nat):Int):=by rw [show (x:Int)+c=((x+c:Nat):Int) by omega,← s2]; rfl
  have hQw:IntKind.i64.wrap ((qIA r (w+1):Nat):Int)=((qIA r (w+1):Nat):Int):=by have:=zFW (w:=w+1) hb81 (by omega); exact qMG (by omega)
  have dc:IntKind.u8.wrap (48+(D:Int))=((48+D:Nat):Int):=by rw [show (48+(D:Int))=((48+D:Nat):Int) by omega]; exact w8n (by omega)
  rw [show ((48+D:Nat):Int)=48+(D:Int) by omega] at hset dc
  have hix:((N:Int)-1-w).toNat=N-1-w:=by omega
  refine AW.skip (AW.seq (AW.block (rgn [.int .i64 (x:Nat)] [[],[],[],[],[2,3,4,7,11,13,86,87],[],[2,3,4,7,11,13,14]] ?_)))
  iterate 7 refine op1 tok ?_ (h:=by intro C; conv=>lhs; simp [hcc]) (hv:=by first | with_reducible exact True.intro | (first | (simp [hx,hix,i2,qLA]; done) | (simp [hx,hix,i2,qLA]; omega); done) | omega | simp | (simp +contextual; omega))
  refine qA (rgn [.int .u8 0,.int .u8 (48+D:Nat)] [[],[],[],[],[],[],[2,3,4,7,11,13,14,94,95],[2,3,4,7,11,13,14]] ?_)
  iterate 8 refine op1 tok ?_ (h:=by intro C; conv=>lhs; simp [hlen,hget,hix,dm,dc]) (hv:=by first | with_reducible exact True.intro | (first | (simp [hlen,hget,hix,dm,dc]; done) | (simp [hlen,hget,hix,dm,dc]; omega); done) | omega | simp | (simp +contextual; omega))
  refine qA (rgz [] [[],[],[2,3,4,7,11,12,13]] ?_)
  iterate 3 refine op1 tok ?_
  refine qA (rgz [] [[],[],[2,3,4,7,11,12,13]] ?_)
  iterate 3 refine op1 tok ?_
  refine qA ?_
  exact ⟨w+1,by omega,by omega,qB (by simp [hset,hlen,hix,hQ,hQw,show (N:Int)-1-w-1=N-1-(w+1) from by omega]),rfl,by simp [hset,hlen,hix,hQ,hQw,show (N:Int)-1-w-1=N-1-(w+1) from by omega],by simp [hset,hlen,hix,hQ,hQw,show (N:Int)-1-w-1=N-1-(w+1) from by omega]⟩
 intro h80
 try simp at h80
 obtain rfl:w=N:=by omega
 rw [hall]
 refine AW.exit ?_
 simp
 refine rgn [.str (zA w (jZ r)),.nilp,.tup [q1.enc,.int .i64 e1]] [[],[],[],[],[2,3,4,11,102],[],[],[],[3,4,102,104,106],[],[],[4,102,104,109],[],[],[4,111,112],[],[4,5]] ?_
 iterate 17 refine oq1 tok hn ?_
 exact qA (AW.ret qG)
end Go.Proofs.YtdojfdaglbphlaaGreatDoor
