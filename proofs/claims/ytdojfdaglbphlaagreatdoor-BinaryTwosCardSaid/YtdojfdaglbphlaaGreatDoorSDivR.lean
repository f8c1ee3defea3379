import Derived.Test.YtdojfdaglbphlaaGreatDoorK1
import Derived.Test.YtdojfdaglbphlaaGreatDoorSDivL
import Derived.Test.YtdojfdaglbphlaaGreatDoorSCore31
import Derived.Test.YtdojfdaglbphlaaGreatDoorSScaled
import Derived.Test.YtdojfdaglbphlaaGreatDoorK3
namespace Go.Proofs.YtdojfdaglbphlaaGreatDoor
open Sy Go
set_option maxRecDepth 100000
set_option maxHeartbeats 4000000
set_option linter.unusedSimpArgs false
set_option linter.unusedVariables false
variable {G:qR}
theorem zQO (l:List Nat) (h1:l.length≤1000000):AFn Tryz.prog G 94 [.sl 1 (l.map wN)] (.bool (l.all fun x=>decide (x=0))):=by
 refine AFn.introU tok Tryz.func94 (by kernel_rfl) rfl rfl ?_
 simp only [Tryz.f94,qI,List.map_cons,List.map_nil]
 refine rgn [] [[0]] ?_
 refine op1 tok ?_
 refine qA (AW.seq (rgn [] [[],[],[5,6,7]] ?_))
 iterate 3 refine op1 tok ?_
 refine qA (AW.block ?_)
 refine AW.loop (α:=Nat) (fun k=>k≤l.length∧(l.take k).all (fun x=>decide (x=0))=true) (fun k=>⟨qV 14 [(5,.p (.sl 1 (l.map wN))),(6,.p (.int .i64 l.length)),(7,.p (.int .i64 k))],[],[],0⟩) (fun k=>l.length-k) (0) ⟨by omega,by simp⟩ ⟨qB (by simp),rfl,by simp,by simp⟩ ?_
 rintro k ⟨hk,hall⟩
 refine rgn [] [[]] ?_
 refine op1 tok ?_
 refine qA (AW.seq (cnd ?_ ?_))
 ·intro h8
  try simp at h8
  obtain ⟨x,hx⟩:∃ x,l[k]?=some x:=⟨l[k]'(by omega),List.getElem?_eq_getElem _⟩
  refine AW.skip (AW.seq (AW.block (rgn [.int .i8 (x:Nat)] [[],[],[4,5,6,7]] ?_)))
  iterate 3 refine op1 tok ?_ (hv:=by first | with_reducible exact True.intro | (simp [hx]; done) | omega | simp | (simp +contextual; omega))
  refine qA (rgn [] [[],[5,6,7,12]] ?_)
  iterate 2 refine op1 tok ?_
  refine qA (cnd ?_ ?_)
  ·intro h12
   try simp at h12
   have e:(l.all fun x=>decide (x=0))=false:=by rw [List.all_eq_false]; exact ⟨x,List.mem_of_getElem? hx,by simp; omega⟩
   refine rgn [] [[]] ?_
   refine op1 tok ?_
   refine qA ?_
   exact AW.ret (qG (k:=by simp [e]))
  intro h12
  try simp at h12
  refine AW.skip (rgz [] [[],[5,6,7]] ?_)
  iterate 2 refine op1 tok ?_
  refine qA ?_
  exact ⟨k+1,⟨by omega,by rw [List.take_add_one,hx,List.all_append,hall]; simp; omega⟩,by omega,qB (by simp),rfl,by simp,by simp⟩
 intro h8
 try simp at h8
 rw [List.take_of_length_le (by omega)] at hall
 refine AW.exit ?_
 simp
 refine rgn [] [[]] ?_
 refine op1 tok ?_
 refine qA ?_
 exact AW.ret (qG (k:=by simp [hall]))
def qHM (n:Nat) (s:List UInt8) (k:Nat):List Nat:=List.replicate (n-s.length) 0++((s.take k).map dv++List.replicate (s.length-k) 0)
theorem zHS {n:Nat} {s:List UInt8} (h:s.length≤n):qHM n s 0=List.replicate n 0:=by simp [qHM]; omega
theorem zLU {n:Nat} {s:List UInt8} {k:Nat} (h:s.length≤n) (hk:k≤s.length):(qHM n s k).length=n:=by simp [qHM]; omega
theorem zLV {n:Nat} {s:List UInt8} {k:Nat} (h:s.length≤n) (hk:k<s.length):(qHM n s k)[n-s.length+k]?=some 0:=by
 unfold qHM
 rw [List.getElem?_append_right (by simp),List.getElem?_append_right (by simp; omega),List.getElem?_replicate,if_pos (by simp; omega)]
theorem zLT {n:Nat} {s:List UInt8} {k:Nat} {c:UInt8} (h:s.length≤n) (hc:s[k]?=some c):(qHM n s k).set (n-s.length+k) (dv c)=qHM n s (k+1):=by
 have hk:k<s.length:=(List.getElem?_eq_some_iff.1 hc).1
 unfold qHM
 rw [List.set_append_right _ _ (by simp),List.set_append_right _ _ (by simp; omega)]
 simp only [List.length_replicate,List.length_map,List.length_take,Nat.min_eq_left (Nat.le_of_lt hk)]
 rw [show n-s.length+k-(n-s.length)-k=0 by omega,show s.length-k=(s.length-(k+1))+1 by omega,List.replicate_succ,List.take_add_one,hc]
 simp
theorem zLW {n:Nat} {s:List UInt8} (h:s.length≤n) (hd:s.all qH=true):qHM n s s.length=rowN n (qE s):=by
 have h1:List.replicate (n-s.length) 48++s=zA n (qE s):=by
  have:=qWH (s:=List.replicate (n-s.length) 48++s) (by rw [List.all_append,hd]; simp [qH,kX])
  rw [wP,jL,List.length_append,List.length_replicate] at this
  simpa [show n-s.length+s.length=n by omega] using this
 rw [← zLN,← h1]
 simp [qHM,dv]
theorem zEF {n:Int} (h0 : -128≤n) (h1:n≤127):IntKind.i8.wrap n=n:=qUO .i8 n h0 h1
theorem zLM (s:List UInt8) (n:Nat) (hd:s.all qH=true) (hl:s.length≤n) (hn:n≤1000000):AFn Tryz.prog G 148 [.str s,.int .i64 n] (.sl 1 ((rowN n (qE s)).map wN)):=by
 refine AFn.introU tok Tryz.func148 (by kernel_rfl) rfl rfl ?_
 simp only [Tryz.f148,qI,List.map_cons,List.map_nil]
 have hz:(qHM n s 0).map wN=List.replicate n (.int .i8 0):=by rw [zHS hl]; simp
 refine rgn [] [[0,1]] ?_
 refine op1 tok ?_
 refine qA (rgn [.int .i8 0] [[],[],[0,1,5]] ?_)
 iterate 3 refine op1 tok ?_
 refine qA (AW.seq (rgn [] [[],[0,1,5,10]] ?_))
 iterate 2 refine op1 tok ?_
 refine qA (AW.block ?_)
 refine AW.loop (α:=Nat) (fun k=>k≤s.length) (fun k=>⟨qV 28 [(0,.p (.str s)),(1,.p (.int .i64 n)),(5,.ms 8),(10,.it 10)],[],[(8,.row 156 1 ((qHM n s k).map wN)),(10,.iter s k)],0⟩) (fun k=>s.length-k) (0) (by omega) ⟨qB (by simp),rfl,by (simp [hz]),by simp [hz]⟩ ?_
 rintro k hk
 by_cases hs3:k<s.length
 ·
  refine rgn [.bool true] [[],[]] ?_
  iterate 2 refine oq1 tok hs3 ?_
  refine qA (AW.seq (cnd ?_ ?_))
  ·intro h12
   try simp at h12
   obtain ⟨c,hc⟩:∃ c,s[k]?=some c:=⟨s[k],by simp [hs3]⟩
   have hcd:qH c=true:=List.all_eq_true.1 hd c (List.mem_of_getElem? hc)
   have hcd2:=(zK c).1 hcd
   have hdl:qBG s k=(c.toNat,1):=by
    have hg:s.getD k 0=c:=by simp [List.getD_eq_getElem?_getD,hc]
    have:=qEJ (s:=s) (pos:=k) hs3 (by rw [hg]; omega)
    rw [hg] at this; exact this
   rw [hdl]
   have hset:=zLT hl hc
   have hget:=zLV hl hs3
   have hlen:=zLU hl hk
   generalize qHM n s k=L at *
   have w1:IntKind.u8.wrap ((c.toNat:Int)-48)=(dv c:Nat):=by rw [qBO (by omega) (by omega)]; simp only [dv]; omega
   have w2:IntKind.i8.wrap ((dv c:Nat):Int)=(dv c:Nat):=zEF (by omega) (by simp only [dv]; omega)
   have hix:((n:Int)-s.length+k).toNat=n-s.length+k:=by omega
   have hset':(L.map wN).set (n-s.length+k) (.int .i8 (dv c:Nat))=(qHM n s (k+1)).map wN:=by rw [← hset,List.map_set]; rfl
   have hget':(L.map wN)[n-s.length+k]?=some (.int .i8 0):=by rw [List.getElem?_map,hget]; rfl
   have hlen':(L.map wN).length=n:=by simp [hlen]
   generalize L.map wN=L' at *
   generalize dv c=d at *
   refine AW.skip (AW.block (rgn [] [[],[0,1,5,6,10]] ?_))
   iterate 2 refine op1 tok ?_
   refine qA (rgz [.int .u8 c.toNat,.int .i8 0,.int .i8 (d:Nat)] [[],[],[],[],[],[],[0,1,5,6,10,14,20],[],[],[],[0,1,5,10,14,20,24],[],[],[0,1,5,10]] ?_)
   iterate 14 refine op1 tok ?_ (h:=by intro C; conv=>lhs; simp [w1,w2,hix]) (hv:=by first | with_reducible exact True.intro | (first | (simp [hc,hlen',hget',hix]; done) | (simp [hc,hlen',hget',hix]; omega); done) | omega | simp | (simp +contextual; omega))
   refine qA ?_
   exact ⟨k+1,by omega,by omega,qB (by simp [hset',hix]),rfl,by simp [hset',hix],by simp [hset',hix]⟩
  intro h12
  try simp at h12
 ·
  refine rgn [.bool false] [[],[]] ?_
  iterate 2 refine oq1 tok hs3 ?_
  refine qA (AW.seq (cnd ?_ ?_))
  ·intro h12
   try simp at h12
  intro h12
  try simp at h12
  obtain rfl:k=s.length:=by omega
  rw [zLW hl hd]
  refine AW.exit ?_
  simp
  refine rgn [] [[],[4]] ?_
  iterate 2 refine op1 tok ?_
  exact qA (AW.ret qG)
theorem zQZ (n a b:Nat) (ha:a<10 ^ n) (hb:b<10 ^ n) (hn:n≤1000000):AX Tryz.prog G 149 [.ms 702,.p (.sl 1 ((rowN n b).map wN))] [(702,.row 156 1 ((rowN n a).map wN))] (.p (.bool (decide (b≤a)))) [702] [(702,.row 156 1 ((rowN n (if b≤a then a-b else a)).map wN))]:=by
 refine AX.introU tok 900 Tryz.func149 (by kernel_rfl) rfl rfl ?_
 simp only [Tryz.f149,qI,List.map_cons,List.map_nil]
 have hz:(qDV n 0 (a+10 ^ n-b)).map wN=List.replicate n (.int .i8 0):=by rw [zHR]; simp
 have hla:=yZ n a
 have hlb:=yZ n b
 have hga:=fun k (h:k<n)=>qCU a h
 have hgb:=fun k (h:k<n)=>qCU b h
 refine rgn [] [[0,1]] ?_
 refine op1 tok ?_
 refine qA (rgn [.int .i8 0] [[],[],[],[0,1,5]] ?_)
 iterate 4 refine op1 tok ?_
 refine qA (rgn [] [[]] ?_)
 refine op1 tok ?_
 refine qA (AW.seq (rgn [] [[],[],[],[0,1,5,6,7]] ?_))
 iterate 4 refine op1 tok ?_
 refine qA (AW.block ?_)
 refine AW.loop (α:=Nat) (fun k=>k≤n) (fun k=>⟨qV 45 [(0,.ms 702),(1,.p (.sl 1 ((rowN n b).map wN))),(5,.ms 911),(6,.p (.int .i8 (qBJ a b k:Nat))),(7,.p (.int .i64 ((n:Int)-1-k)))],[702],[(702,.row 156 1 ((rowN n a).map wN)),(911,.row 156 1 ((qDV n k (a+10 ^ n-b)).map wN))],900⟩) (fun k=>n-k) (0) (by omega) ⟨qB (by simp [zBD,hla]),rfl,by (simp [hz,hla]),by simp [hz,hla]⟩ ?_
 rintro k hk
 refine AW.seq (rgn [] [[],[0,1,5,6,7,16]] ?_)
 iterate 2 refine op1 tok ?_
 refine qA (cnd ?_ ?_)
 ·intro h16
  try simp at h16
  have hk':k<n:=by omega
  have hix:((n:Int)-1-k).toNat=n-1-k:=by omega
  have hgx:=hga k hk'
  have hgy:=hgb k hk'
  have hds:=zAJ a b k hk' hb
  have hbs:=zBE a b k
  have hb1:qBJ a b (k+1)=if qQL a b (k+1)=true then 1 else 0:=rfl
  have hset:=zLP (n:=n) (a+10 ^ n-b) hk'
  have hget:=zLR (n:=n) (a+10 ^ n-b) hk'
  have hlen:=zLQ (n:=n) (k:=k) (a+10 ^ n-b) hk
  have hx10:a / 10 ^ k % 10<10:=Nat.mod_lt _ (by decide)
  have hy10:b / 10 ^ k % 10<10:=Nat.mod_lt _ (by decide)
  have hc1:qBJ a b k≤1:=by unfold qBJ; split <;> omega
  have hd10:(a+10 ^ n-b) / 10 ^ k % 10<10:=Nat.mod_lt _ (by decide)
  generalize hbk1:qBJ a b (k+1)=c1 at *
  generalize qQL a b (k+1)=c2 at *
  generalize qBJ a b k=c at *
  generalize (a+10 ^ n-b) / 10 ^ k % 10=d at *
  generalize a / 10 ^ k % 10=x at *
  generalize b / 10 ^ k % 10=y at *
  have hset':((qDV n k (a+10 ^ n-b)).map wN).set (n-1-k) (.int .i8 (d:Nat))=(qDV n (k+1) (a+10 ^ n-b)).map wN:=by rw [← hset,List.map_set]; rfl
  have hget':((qDV n k (a+10 ^ n-b)).map wN)[n-1-k]?=some (.int .i8 0):=by rw [List.getElem?_map,hget]; rfl
  have hlen':((qDV n k (a+10 ^ n-b)).map wN).length=n:=by simp [hlen]
  generalize hR1:(qDV n (k+1) (a+10 ^ n-b)).map wN=R1 at *
  generalize (qDV n k (a+10 ^ n-b)).map wN=R0 at *
  have hgx':((rowN n a).map wN)[n-1-k]?=some (.int .i8 (x:Nat)):=by rw [List.getElem?_map,hgx]; rfl
  have hgy':((rowN n b).map wN)[n-1-k]?=some (.int .i8 (y:Nat)):=by rw [List.getElem?_map,hgy]; rfl
  have hla':((rowN n a).map wN).length=n:=by simp [hla]
  have hlb':((rowN n b).map wN).length=n:=by simp [hlb]
  generalize (rowN n a).map wN=RA at *
  generalize (rowN n b).map wN=RB at *
  refine AW.skip (AW.seq (AW.block ?_))
  refine AW.seqDrawS tok mixed 11 [[0],[7],[19,20],[21],[1],[7],[23,24],[25],[22,26],[6],[27,28]] [.int .i8 (x:Nat),.int .i8 (y:Nat)] [] (by kernel_rfl) ?_
  iterate 11 refine d1 ?_ (hv:=by first | with_reducible exact True.intro | (first | (simp [hgx',hgy',hla',hlb',hix]; done) | (simp [hgx',hgy',hla',hlb',hix]; omega); done) | omega | simp | (simp +contextual; omega))
  refine DGo.nil (by kernel_rfl) ⟨by kernel_rfl, ?_⟩
  refine qC.run [[0,1,5,7,8]] ?_
  refine op1 tok ?_
  refine qA (rgn [] [[]] ?_)
  refine op1 tok ?_
  refine qA (AW.seq (rgn [] [[],[0,1,5,6,7,8,31]] ?_))
  iterate 2 refine op1 tok ?_
  refine qA (cnd ?_ ?_)
  ·intro h31
   try simp at h31
   rw [if_pos h31] at hds
   rw [hbs,show decide ((x:Int)-y-c<0)=true by simpa using h31,if_pos rfl] at hb1
   have hsum:(x:Int)-y-c+10=(d:Nat):=hds.symm
   refine rgz [] [[],[],[],[0,1,5,6,7,8]] ?_
   iterate 4 refine op1 tok ?_
   refine qA (rgz [.int .i8 0,.int .i8 (d:Nat)] [[],[],[],[],[0,1,5,6,7]] ?_)
   iterate 5 refine op1 tok ?_ (h:=by intro C; conv=>lhs; simp [hsum,hix]) (hv:=by first | with_reducible exact True.intro | (first | (simp [hlen',hget',hix]; done) | (simp [hlen',hget',hix]; omega); done) | omega | simp | (simp +contextual; omega))
   refine qA (rgz [] [[],[],[0,1,5,6,7]] ?_)
   iterate 3 refine op1 tok ?_
   refine qA ?_
   exact ⟨k+1,by omega,by omega,qB (by simp [hset',hR1,hbk1,hb1,hix,show (n:Int)-1-k-1=(n:Int)-1-(k+1:Nat) by omega]),rfl,by simp [hset',hR1,hbk1,hb1,hix,show (n:Int)-1-k-1=(n:Int)-1-(k+1:Nat) by omega],by simp [hset',hR1,hbk1,hb1,hix,show (n:Int)-1-k-1=(n:Int)-1-(k+1:Nat) by omega]⟩
  intro h31
  try simp at h31
  have hnlt:¬ (x:Int)-y-c<0:=by omega
  rw [if_neg hnlt] at hds
  rw [hbs,show decide ((x:Int)-y-c<0)=false by simpa using hnlt,if_neg (by simp)] at hb1
  have hsum:(x:Int)-y-c=(d:Nat):=hds.symm
  refine AW.skip (rgz [.int .i8 0,.int .i8 (d:Nat)] [[],[],[],[],[0,1,5,6,7]] ?_)
  iterate 5 refine op1 tok ?_ (h:=by intro C; conv=>lhs; simp [hsum,hix]) (hv:=by first | with_reducible exact True.intro | (first | (simp [hlen',hget',hix]; done) | (simp [hlen',hget',hix]; omega); done) | omega | simp | (simp +contextual; omega))
  refine qA (rgz [] [[],[],[0,1,5,6,7]] ?_)
  iterate 3 refine op1 tok ?_
  refine qA ?_
  exact ⟨k+1,by omega,by omega,qB (by simp [hset',hR1,hbk1,hb1,hix,show (n:Int)-1-k-1=(n:Int)-1-(k+1:Nat) by omega]),rfl,by simp [hset',hR1,hbk1,hb1,hix,show (n:Int)-1-k-1=(n:Int)-1-(k+1:Nat) by omega],by simp [hset',hR1,hbk1,hb1,hix,show (n:Int)-1-k-1=(n:Int)-1-(k+1:Nat) by omega]⟩
 intro h16
 try simp at h16
 obtain rfl:k=n:=by omega
 have hbn:qBJ a b k=if qQL a b k=true then 1 else 0:=rfl
 rw [zRN ha hb] at hbn
 rw [zLS]
 refine AW.exit ?_
 simp
 refine AW.seq (rgn [] [[],[0,5,6,39]] ?_)
 iterate 2 refine op1 tok ?_
 refine qA (cnd ?_ ?_)
 ·intro h39
  try simp at h39
  have hle:b≤a:=by
   apply Nat.le_of_not_lt; intro hlt
   rw [show decide (a<b)=true by simpa using hlt,if_pos rfl] at hbn
   omega
  rw [zRD hle]
  rw [if_pos hle,show decide (b≤a)=true by simpa using hle]
  have hbz:qBJ a b k=0:=by rw [hbn,show decide (a<b)=false by simpa using hle]; simp
  have hcp:((rowN k a).map wN).drop k=[]:=List.drop_eq_nil_of_le (by simp [yZ])
  refine rgz [] [[],[]] ?_
  iterate 2 refine op1 tok ?_
  refine qZ ?_
  refine qC.stepK [6] (zGM tok rfl rfl rfl (by conv=>lhs; simp) trivial (by conv=>lhs; simp) trivial (by conv=>lhs; simp) rfl (by conv=>lhs; simp) (by simp [yZ])) (by conv=>lhs; simp [hcp,yZ]) rfl ?_
  refine qC.nil ?_
  refine rgn [] [[],[],[4]] ?_
  iterate 3 refine op1 tok ?_
  refine qA ?_
  exact AW.ret (wD (k:=by simp [hbz]))
 intro h39
 try simp at h39
 have hnle:¬ b≤a:=by
  intro hle
  rw [show decide (a<b)=false by simpa using hle,if_neg (by simp)] at hbn
  omega
 rw [if_neg hnle,show decide (b≤a)=false by simpa using hnle]
 refine AW.skip (rgn [] [[],[],[4]] ?_)
 iterate 3 refine op1 tok ?_
 refine qA ?_
 exact AW.ret (wD (k:=by simp; omega))
end Go.Proofs.YtdojfdaglbphlaaGreatDoor
