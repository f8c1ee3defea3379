import Derived.Test.YtgcbapchinideaaGreatDoorK1
import Derived.Test.YtgcbapchinideaaGreatDoorM4
import Derived.Test.YtgcbapchinideaaGreatDoorM3
import Derived.Shelf.Strings.Builder1
import Derived.Shelf.Unicode.DecodeAny
import Derived.Lib.MapLaws
namespace Go.Proofs.YtgcbapchinideaaGreatDoor
open Sy Go
set_option maxRecDepth 100000
set_option maxHeartbeats 4000000
set_option linter.unusedSimpArgs false
set_option linter.unusedVariables false
variable {G:qJ}
theorem qVR (l:List UInt8) (hl:l.length≤1000000):AX Tryz.prog G 94 [.ms 90] [(90,.row 5 1 (qE l))] (.tuple []) [90] [(90,.row 5 1 (qE l.reverse))]:=by
 refine AX.introU tok 700 Tryz.func94 (by kernel_rfl) rfl rfl ?_
 simp only [Tryz.f94,qK,List.map_cons,List.map_nil]
 refine rgn [] [[],[],[],[],[0,2,3]] ?_
 iterate 5 refine op1 tok ?_
 refine qA (AW.block ?_)
 refine AW.loop (α:=Nat) (fun k=>k≤l.length) (fun k=>⟨zA 28 [(0,.ms 90),(2,.p (.int .i64 k)),(3,.p (.int .i64 ((l.length:Int)-1-k)))],[90],[(90,.row 5 1 (qE (qGD l k)))],700⟩) (fun k=>l.length-k) (0) (by omega) ⟨qG (by simp),rfl,by simp [qQK],by simp⟩ ?_
 rintro k hk
 have hlen:=jY l k
 refine AW.seq (rgn [] [[],[],[0,2,3,9]] ?_)
 iterate 3 refine op1 tok ?_
 refine qA (cnd ?_ ?_)
 ·intro h9
  try simp at h9
  have h2:2 * k+1<l.length:=by omega
  have g1:=jZ l k (i:=k) (by omega)
  have g2:=jZ l k (i:=l.length-1-k) (by omega)
  rw [if_neg (by omega)] at g1 g2
  have hst:=qQL l h2
  generalize l.getD k 0=x at *
  generalize l.getD (l.length-1-k) 0=y at *
  generalize qGD l k=R at *
  have hix:((l.length:Int)-1-k).toNat=l.length-1-k:=by omega
  have b1:(qE R)[k]?=some (.int .u8 x.toNat):=jD g1
  have b2:(qE R)[l.length-1-k]?=some (.int .u8 y.toNat):=jD g2
  have b3:((qE R).set k (.int .u8 y.toNat))[l.length-1-k]?=some (.int .u8 y.toNat):=by rw [List.getElem?_set_ne (by omega)]; exact b2
  refine AW.skip (AW.seq (AW.block ?_))
  refine AW.drawR mixed 14 [[0],[2],[0],[3],[0],[3],[18,19],[20],[0],[2],[22,23],[24],[14,15],[26,21]] [.int .u8 y.toNat,.int .u8 x.toNat] (by kernel_rfl) ?_
  iterate 2 refine yB.one tok (orc:=[]) (by intro C; conv=>lhs; simp) (by first | with_reducible exact True.intro | (first | (simp [b1,b2,hix,hlen]; done) | (simp [b1,b2,hix,hlen]; omega); done) | omega | simp | (simp +contextual; omega)) rfl (by kernel_rfl) ?_
  refine yB.q [90] (.ms 90) rfl (qVE tok (orc:=[]) (orc':=[]) (v:=True) (by conv=>lhs; simp) trivial) (by simp) (by kernel_rfl) (by conv=>lhs; simp) ?_
  iterate 4 refine yB.one tok (orc:=[]) (by intro C; conv=>lhs; simp) (by first | with_reducible exact True.intro | (first | (simp [b1,b2,hix,hlen]; done) | (simp [b1,b2,hix,hlen]; omega); done) | omega | simp | (simp +contextual; omega)) rfl (by kernel_rfl) ?_
  refine yB.one tok (orc:=[.int .u8 y.toNat]) (by intro C; conv=>lhs; simp) (by first | with_reducible exact True.intro | (first | (simp [b1,b2,hix,hlen]; done) | (simp [b1,b2,hix,hlen]; omega); done) | omega | simp | (simp +contextual; omega)) rfl (by kernel_rfl) ?_
  iterate 3 refine yB.one tok (orc:=[]) (by intro C; conv=>lhs; simp) (by first | with_reducible exact True.intro | (first | (simp [b1,b2,hix,hlen]; done) | (simp [b1,b2,hix,hlen]; omega); done) | omega | simp | (simp +contextual; omega)) rfl (by kernel_rfl) ?_
  refine yB.one tok (orc:=[.int .u8 x.toNat]) (by intro C; conv=>lhs; simp) (by first | with_reducible exact True.intro | (first | (simp [b1,b2,hix,hlen]; done) | (simp [b1,b2,hix,hlen]; omega); done) | omega | simp | (simp +contextual; omega)) rfl (by kernel_rfl) ?_
  refine yB.one tok (orc:=[]) (by intro C; conv=>lhs; simp) (by first | with_reducible exact True.intro | (first | (simp [b1,b2,hix,hlen]; done) | (simp [b1,b2,hix,hlen]; omega); done) | omega | simp | (simp +contextual; omega)) rfl (by kernel_rfl) ?_
  refine yB.one tok (orc:=[.int .u8 x.toNat,.int .u8 y.toNat]) (by intro C; conv=>lhs; simp) (by first | with_reducible exact True.intro | (first | (simp [b1,b2,hix,hlen]; done) | (simp [b1,b2,hix,hlen]; omega); done) | omega | simp | (simp +contextual; omega)) rfl (by kernel_rfl) ?_
  refine yB.nil (by kernel_rfl) ⟨by kernel_rfl, ?_⟩
  refine qF.run [[],[0,2,3]] ?_
  iterate 2 refine op1 tok ?_ (hv:=by first | with_reducible exact True.intro | (first | (simp [b3,hix,hlen]; done) | (simp [b3,hix,hlen]; omega); done) | omega | simp | (simp +contextual; omega))
  refine qA (rgz [] [[],[],[],[0,11,13],[],[0,2,3]] ?_)
  iterate 6 refine op1 tok ?_
  refine qA ?_
  exact ⟨k+1,by omega,by omega,qG (by simp [← hst,uE,show (l.length:Int)-1-k-1=l.length-1-(k+1) from by omega]),rfl,by simp [← hst,uE,show (l.length:Int)-1-k-1=l.length-1-(k+1) from by omega],by simp [← hst,uE,show (l.length:Int)-1-k-1=l.length-1-(k+1) from by omega]⟩
 intro h9
 try simp at h9
 have hall:=qSM l (k:=k) (by omega)
 rw [← hall]
 refine AW.exit ?_
 simp
 exact qXC
theorem uR (n:Int) (h0 : -9223372036854775808≤n) (h1:n≤9223372036854775807):AFn Tryz.prog G 64 [.int .i64 n] ((jI n).enc):=by
 refine AFn.introU tok Tryz.func64 (by kernel_rfl) rfl rfl ?_
 simp only [Tryz.f64,qK,List.map_cons,List.map_nil]
 have hU:n.natAbs<10 ^ 20:=by omega
 have hdl:=qBJ 20 n.natAbs hU
 have hmd:=qPI (G:=G) (decide (n<0)) (kE n.natAbs) 0 (by omega) (by omega)
 have hI:jI n=(jF (decide (n<0)) (kE n.natAbs) 0).1:=rfl
 rw [hI]
 generalize jF (decide (n<0)) (kE n.natAbs) 0=r1 at *
 obtain ⟨q1,e1⟩:=r1
 simp only [Dc.enc] at hmd
 refine rgn [] [[]] ?_
 refine op1 tok ?_
 refine qA (rgn [] [[],[],[0,2,3]] ?_)
 iterate 3 refine op1 tok ?_
 refine qA ?_
 refine AW.join (α:=Unit) (fun _=>True) (fun a=>⟨zA 35 [(0,.p (.int .i64 n)),(2,.ptr 2 0),(3,.p (.int .u64 (n.natAbs:Nat)))],[],[(2,.vars 26 [.p (.bool false),.p (.str []),.p (.int .i64 0)])],0⟩) ?_ ?_
 ·
  refine rgn [] [[],[0,2,3,10]] ?_
  iterate 2 refine op1 tok ?_
  refine qA (cnd ?_ ?_)
  ·intro h10
   try simp at h10
   have hw:IntKind.u64.wrap (-(IntKind.u64.wrap n))=(n.natAbs:Nat):=by simp [IntKind.wrap,IntKind.bits,IntKind.signed]; omega
   refine rgz [] [[],[],[0,2,3]] ?_
   iterate 3 refine op1 tok ?_
   refine qA ?_
   exact ⟨(),trivial,qG (by simp [hw]),rfl,by simp [hw],by simp [hw]⟩
  intro h10
  try simp at h10
  have hw:IntKind.u64.wrap n=(n.natAbs:Nat):=by simp [IntKind.wrap,IntKind.bits,IntKind.signed]; omega
  refine AW.skip ?_
  exact ⟨(),trivial,qG (by simp [hw]),rfl,by simp [hw],by simp [hw]⟩
 ·
  rintro a hI
  refine rgn [] [[]] ?_
  refine op1 tok ?_
  refine qA (AW.seq (AW.block ?_))
  refine AW.beginE 4 90 5 1 (by simp) (by simp) (by conv=>lhs; simp) ?_
  refine AW.loop (α:=Nat × List UInt8) (fun s=>kE n.natAbs=kE s.1++s.2.reverse∧s.1≤n.natAbs) (fun s=>⟨zA 35 [(0,.p (.int .i64 n)),(2,.ptr 2 0),(3,.p (.int .u64 (s.1:Nat))),(4,.ms 90)],[],[(2,.vars 26 [.p (.bool false),.p (.str []),.p (.int .i64 0)]),(90,.row 5 1 (qE s.2))],0⟩) (fun s=>s.1) ((n.natAbs,[])) ⟨by simp,Nat.le_refl _⟩ ⟨qG (by simp),rfl,by simp [qE],by simp⟩ ?_
  rintro ⟨u,l⟩ ⟨hu,hle⟩
  simp only at hu hle
  have hll:l.length≤20:=by have:=congrArg List.length hu; simp at this; omega
  refine AW.seq (rgn [] [[],[0,2,3,4,14]] ?_)
  iterate 2 refine op1 tok ?_
  refine qA (cnd ?_ ?_)
  ·intro h14
   try simp at h14
   have hup:0<u:=by omega
   rw [xF hup,List.append_assoc] at hu
   have hd:u % 10<10:=Nat.mod_lt _ (by decide)
   have dm:(u:Int).tmod 10=((u % 10:Nat):Int):=(Int.ofNat_tmod u 10).symm
   have dc:IntKind.u8.wrap (IntKind.u64.wrap (48+(u:Int) % 10))=((UInt8.ofNat (48+u % 10)).toNat:Int):=by
    rw [show (UInt8.ofNat (48+u % 10)).toNat=48+u % 10 by rw [UInt8.toNat_ofNat']; omega,show (u:Int) % 10=((u % 10:Nat):Int) from rfl]
    simp [IntKind.wrap,IntKind.bits,IntKind.signed]; omega
   have dq:IntKind.u64.wrap ((u:Int) / 10)=((u / 10:Nat):Int):=by simp [IntKind.wrap,IntKind.bits,IntKind.signed]; omega
   generalize UInt8.ofNat (48+u % 10)=D at *
   refine AW.skip (AW.seq (AW.block (rgz [.int .u8 D.toNat] [[],[],[],[],[0,2,3,17,21],[],[],[0,2,3,4]] ?_)))
   iterate 8 refine op1 tok ?_ (h:=by intro C; conv=>lhs; simp [dm,dc]) (hv:=by first | with_reducible exact True.intro | ((simp [dm,dc]); done) | omega | simp | (simp +contextual; omega))
   refine qA (rgz [] [[],[],[0,2,3,4]] ?_)
   iterate 3 refine op1 tok ?_
   refine qA ?_
   exact ⟨(u / 10,l++[D]),⟨by simp only [List.reverse_append,List.reverse_singleton]; exact hu,by simp only; omega⟩,by simp only; omega,qG (by simp [dq,qE]),rfl,by simp [dq,qE],by simp [dq,qE]⟩
  intro h14
  try simp at h14
  obtain rfl:u=0:=by omega
  rw [wZ,List.nil_append] at hu
  have hrv:=qVR (G:=G) l (by omega)
  rw [← hu] at hrv
  refine AW.exit ?_
  simp
  refine rgn [] [[]] ?_
  refine op1 tok ?_
  refine zG ?_
  refine qF.stepK [0,2,4] (yC rfl hrv (by simp)) (by conv=>lhs; simp) rfl ?_
  refine qF.nil ?_
  refine rgn [.str (kE n.natAbs),.nilp,.tup [q1.enc,.int .i64 e1]] [[],[],[],[2,28,30],[],[],[],[2,32,33],[],[],[2,5]] ?_
  iterate 11 refine oq1 tok hmd ?_
  refine qA (rgn [] [[],[2]] ?_)
  iterate 2 refine op1 tok ?_
  exact qA (AW.ret qO)
theorem qNQ (n m:Int):AFn Tryz.prog G 41 [.agg [.int .u64 m],(jI n).enc,.int .i64 0] (qGH n m).enc:=xM (jI n,0) m
def qIV (runes:List UInt8→Nat) (v:Val) (m:Int):Val :=
 if v.kind=1 then qGH 0 m else if v.kind=5 then qGH (runes v.text) m else if v.kind=6∨v.kind=7 then qGH v.kids.length m
 else if v.kind=4 then .mk 4 m ⟨false,v.num.digits,v.num.scale⟩ [] [] [] 0 else zD 40 m
theorem qQX (runes:List UInt8→Nat) (v:Val) (m:Int) (hr:v.kind=5→AFn Tryz.prog G 65 [.str v.text] (.int .i64 (runes v.text:Nat))∧runes v.text≤1000000) (hk:v.kids.length≤1000000):AFn Tryz.prog G 31 [.agg [.int .u64 m],v.enc] ((qIV runes v m).enc):=by
 refine AFn.introU tok Tryz.func31 (by kernel_rfl) rfl rfl ?_
 simp only [Tryz.f31,qK,List.map_cons,List.map_nil]
 have d0:=uR (G:=G) 0 (by decide) (by decide)
 have d1:=uR (G:=G) v.kids.length (by omega) (by omega)
 have d2:=fun h:v.kind=5=>uR (G:=G) (runes v.text) (by omega) (by have:=(hr h).2; omega)
 have n0:=qNQ (G:=G) 0 m
 have n1:=qNQ (G:=G) v.kids.length m
 have n2:=qNQ (G:=G) (runes v.text) m
 have n3:=xM (G:=G) (⟨false,v.num.digits,v.num.scale⟩,0) m
 have hf:=zW (G:=G) 40 m
 have e3:qKV (⟨false,v.num.digits,v.num.scale⟩,0) m = .mk 4 m ⟨false,v.num.digits,v.num.scale⟩ [] [] [] 0:=rfl
 rw [e3] at n3
 unfold qIV
 generalize jI 0=D0 at *
 generalize jI v.kids.length=D1 at *
 generalize jI (runes v.text)=D2 at *
 generalize qGH 0 m=V0 at *
 generalize qGH v.kids.length m=V1 at *
 generalize qGH (runes v.text) m=V2 at *
 simp only [Val.enc_def,Dc.enc] at d0 d1 d2 n0 n1 n2 n3 hf
 refine rgn [] [[],[],[2,3,4]] ?_
 iterate 3 refine op1 tok ?_
 refine qA (AW.seq (rgn [] [[],[2,3,4,6]] ?_))
 iterate 2 refine op1 tok ?_
 refine qA (AW.block (rgn [] [[],[2,3,4,6,7]] ?_))
 iterate 2 refine op1 tok ?_
 refine qA (cnd ?_ ?_)
 ·intro h7
  try simp at h7
  rw [if_pos h7]
  refine AW.seqRunDrawK tok mixed [4] 2 [[2],[]] [.nilp,D0.enc] [.nilp,V0.enc] (by kernel_rfl) (by intro C; conv=>lhs; simp) (by exact d0) (by simp [Sm.sum,Sm.foot,Sm.tch,Sm.refs]; kernel_rfl) (by intro C; conv=>lhs; simp) (by exact n0) ?_
  exact AW.ret qO
 intro h7
 try simp at h7
 rw [if_neg h7]
 refine rgn [] [[],[2,3,4,6,12]] ?_
 iterate 2 refine op1 tok ?_
 refine qA (cnd ?_ ?_)
 ·intro h12
  try simp at h12
  rw [if_pos h12]
  obtain ⟨r1,r2⟩:=hr h12
  have d2:=d2 h12
  refine AW.seqRunDrawK tok mixed [4] 6 [[2],[3],[15],[16],[17],[14,18]] [.nilp,.int .i64 (runes v.text:Nat),.nilp,D2.enc,.nilp,V2.enc] [] (by kernel_rfl) (by intro C; conv=>lhs; simp) (by exact ⟨r1,d2,n2⟩) (by simp [Sm.sum,Sm.foot,Sm.tch,Sm.refs]; kernel_rfl) (by intro C; conv=>lhs; simp) (by first | with_reducible exact True.intro | omega | simp | (simp +contextual; omega)) ?_
  exact AW.ret qO
 intro h12
 try simp at h12
 rw [if_neg h12]
 refine AW.seq (rgn [] [[],[2,3,4,6,20]] ?_)
 iterate 2 refine op1 tok ?_
 refine qA (cnd ?_ ?_)
 ·intro h20
  try simp at h20
  rw [if_pos (show v.kind=6∨v.kind=7 by omega)]
  refine AW.skip (cnd ?_ ?_)
  ·intro h20
   try simp at h20
   refine AW.seqRunDrawK tok mixed [4] 6 [[2],[3],[24],[25],[26],[23,27]] [.nilp,D1.enc,.nilp,V1.enc] [] (by kernel_rfl) (by intro C; conv=>lhs; simp) (by exact ⟨d1,n1⟩) (by simp [Sm.sum,Sm.foot,Sm.tch,Sm.refs]; kernel_rfl) (by intro C; conv=>lhs; simp) (by first | with_reducible exact True.intro | omega | simp | (simp +contextual; omega)) ?_
   exact AW.ret qO
  intro h20
  try simp at h20
  exfalso; omega
 intro h20
 try simp at h20
 refine rgz [] [[],[2,3,4,6,20]] ?_
 iterate 2 refine op1 tok ?_
 refine qA (cnd ?_ ?_)
 ·intro h20
  try simp at h20
  rw [if_pos (show v.kind=6∨v.kind=7 by omega)]
  refine AW.seqRunDrawK tok mixed [4] 6 [[2],[3],[24],[25],[26],[23,27]] [.nilp,D1.enc,.nilp,V1.enc] [] (by kernel_rfl) (by intro C; conv=>lhs; simp) (by exact ⟨d1,n1⟩) (by simp [Sm.sum,Sm.foot,Sm.tch,Sm.refs]; kernel_rfl) (by intro C; conv=>lhs; simp) (by first | with_reducible exact True.intro | omega | simp | (simp +contextual; omega)) ?_
  exact AW.ret qO
 intro h20
 try simp at h20
 rw [if_neg (show ¬ (v.kind=6∨v.kind=7) by omega)]
 refine rgn [] [[],[2,3,4,29]] ?_
 iterate 2 refine op1 tok ?_
 refine qA (cnd ?_ ?_)
 ·intro h29
  try simp at h29
  rw [if_pos h29]
  refine rgn [] [[],[],[2,3,4]] ?_
  iterate 3 refine op1 tok ?_
  refine qA (rgn [.nilp,(Val.mk 4 m ⟨false,v.num.digits,v.num.scale⟩ [] [] [] 0).enc] [[],[],[],[4,36],[4]] ?_)
  iterate 5 refine op1 tok ?_ (hv:=by first | with_reducible exact True.intro | (first | exact n3 | (simp; done) | (simp at n3 ⊢; exact n3); done) | omega | simp | (simp +contextual; omega))
  exact qA (AW.ret qO)
 intro h29
 try simp at h29
 rw [if_neg h29]
 refine AW.skip (rgn [.nilp,(zD 40 m).enc] [[],[],[4]] ?_)
 iterate 3 refine oq1 tok hf ?_
 exact qA (AW.ret qO)
def qGI {α:Type} [DecidableEq α] (l:List α) (x:α):Int:=if x∈l then (l.idxOf x:Int) else -1
theorem qWC {α:Type} [DecidableEq α] {l:List α} {k:Nat} {x:α} (hk:k<l.length) (hx:l[k]?=some x) (hno:x ∉ l.take k):qGI l x=k:=by
 have hm:x∈l:=List.mem_of_getElem? hx
 unfold qGI; rw [if_pos hm]
 have:l.idxOf x=k:=by
  obtain ⟨h1,h2⟩:=List.getElem?_eq_some_iff.1 hx
  have h3:=List.take_append_drop k l
  rw [← h3,List.idxOf_append,if_neg hno,List.drop_eq_getElem_cons h1,h2,List.idxOf_cons_self]
  simp; omega
 rw [this]
theorem qWB {α:Type} [DecidableEq α] (l:List α) (x:α):0≤qGI l x↔x∈l:=by
 unfold qGI; split <;> simp [*]
theorem qTM (l:List Int) (s:Int):AFn Tryz.prog G 206 [.sl 1 (l.map (PD.int .i64)),.int .i64 s] (.int .i64 (qGI l s)):=by
 refine AFn.introU tok Tryz.func206 (by kernel_rfl) rfl rfl ?_
 simp only [Tryz.f206,qK,List.map_cons,List.map_nil]
 refine rgn [] [[0,1]] ?_
 refine op1 tok ?_
 refine qA (AW.seq (rgn [] [[],[],[0,1,7,8]] ?_))
 iterate 3 refine op1 tok ?_
 refine qA (AW.block ?_)
 refine AW.intFactU (i:=7) rfl (by decide) ?_; intro hlen; simp at hlen
 refine AW.loop (α:=Nat) (fun k=>k≤l.length∧s ∉ l.take k) (fun k=>⟨zA 19 [(0,.p (.sl 1 (l.map (PD.int .i64)))),(1,.p (.int .i64 s)),(7,.p (.int .i64 l.length)),(8,.p (.int .i64 k))],[],[],0⟩) (fun k=>l.length-k) (0) ⟨by omega,by simp⟩ ⟨qG (by simp),rfl,by simp,by simp⟩ ?_
 rintro k ⟨hk,hno⟩
 refine rgn [] [[]] ?_
 refine op1 tok ?_
 refine qA (AW.seq (cnd ?_ ?_))
 ·intro h9
  try simp at h9
  obtain ⟨x,hx⟩:∃ x,l[k]?=some x:=⟨l[k],by simp [h9]⟩
  refine AW.skip (AW.seq (AW.block (rgn [] [[],[0,1,5,7,8]] ?_)))
  iterate 2 refine op1 tok ?_
  refine qA (rgn [.int .i64 x] [[],[],[],[],[],[0,1,5,7,8,16]] ?_)
  iterate 6 refine op1 tok ?_ (hv:=by first | with_reducible exact True.intro | (simp [hx]; done) | omega | simp | (simp +contextual; omega))
  refine qA (cnd ?_ ?_)
  ·intro h16
   try simp at h16
   have hR:qGI l s=k:=qWC h9 (h16 ▸ hx) hno
   refine rgn [] [[],[4]] ?_
   iterate 2 refine op1 tok ?_
   refine qA ?_
   exact AW.ret (qO (k:=by simp [hR]))
  intro h16
  try simp at h16
  refine AW.skip (rgz [] [[],[0,1,7,8]] ?_)
  iterate 2 refine op1 tok ?_
  refine qA ?_
  exact ⟨k+1,⟨by omega,by rw [List.take_add_one,hx]; simp; exact ⟨hno,h16⟩⟩,by omega,qG (by simp),rfl,by simp,by simp⟩
 intro h9
 try simp at h9
 have hR:qGI l s = -1:=by rw [List.take_of_length_le h9] at hno; unfold qGI; rw [if_neg hno]
 refine AW.exit ?_
 simp
 refine rgn [] [[]] ?_
 refine op1 tok ?_
 refine qA ?_
 exact AW.ret (qO (k:=by simp [hR]))
theorem qTN (l:List Int) (s:Int):AFn Tryz.prog G 169 [.sl 1 (l.map (PD.int .i64)),.int .i64 s] (.bool (decide (s∈l))):=by
 refine AFn.introU tok Tryz.func169 (by kernel_rfl) rfl rfl ?_
 simp only [Tryz.f169,qK,List.map_cons,List.map_nil]
 have h1:=qTM (G:=G) l s
 have h2:decide (s∈l)=decide (0≤qGI l s):=decide_eq_decide.2 (qWB l s).symm
 rw [h2]
 generalize qGI l s=i at *
 refine rgn [] [[0,1]] ?_
 refine op1 tok ?_
 refine qA (rgn [.nilp,.int .i64 i] [[],[],[7],[],[4]] ?_)
 iterate 5 refine oq1 tok h1 ?_
 exact qA (AW.ret qO)
theorem qNS (l:List Val) (g:FuncId) (cs:List PD) (p:Val→Bool) (hg:∀ v∈l,AFn Tryz.prog G g [v.enc,.ref cs] (.bool (p v))):AFn Tryz.prog G 156 [.sl 9 (l.map Val.enc),.clo g [.ref cs]] (.int .i64 (match l.findIdx? p with | some i=>(i:Int) | none => -1)):=by
 refine AFn.introU tok Tryz.func156 (by kernel_rfl) rfl rfl ?_
 simp only [Tryz.f156,qK,List.map_cons,List.map_nil]
 refine rgn [] [[0,1]] ?_
 refine op1 tok ?_
 refine qA (AW.seq (rgn [] [[],[],[0,1,7,8]] ?_))
 iterate 3 refine op1 tok ?_
 refine qA (AW.block ?_)
 refine AW.intFactU (i:=7) rfl (by decide) ?_; intro hlen; simp at hlen
 refine AW.loop (α:=Nat) (fun k=>k≤l.length∧(l.take k).all (fun v => !p v)=true) (fun k=>⟨zA 19 [(0,.p (.sl 9 (l.map Val.enc))),(1,.p (.clo g [.ref cs])),(7,.p (.int .i64 l.length)),(8,.p (.int .i64 k))],[],[],0⟩) (fun k=>l.length-k) (0) ⟨by omega,rfl⟩ ⟨qG (by simp),rfl,by simp,by simp⟩ ?_
 rintro k ⟨hk,hall⟩
 refine rgn [] [[]] ?_
 refine op1 tok ?_
 refine qA (AW.seq (cnd ?_ ?_))
 ·intro h9
  try simp at h9
  obtain ⟨v,hv⟩:∃ v,l[k]?=some v:=⟨l[k],by simp [h9]⟩
  have hgv:=hg v (List.mem_of_getElem? hv)
  refine AW.skip (AW.seq (AW.block (rgn [] [[],[0,1,5,7,8]] ?_)))
  iterate 2 refine op1 tok ?_
  refine qA (rgn [v.enc,.nilp,.bool (p v)] [[],[],[],[],[],[0,1,5,7,8,16]] ?_)
  iterate 6 refine op1 tok ?_ (hv:=by first | with_reducible exact True.intro | (first | (simp [hv]; done) | (simp at hgv ⊢; exact hgv); done) | omega | simp | (simp +contextual; omega))
  refine qA (cnd ?_ ?_)
  ·intro h16
   try simp at h16
   have hf:l.findIdx? p=some k:=by
    rw [List.findIdx?_eq_some_iff_getElem]
    have h9':=h9
    refine ⟨h9, ?_,fun j hj => ?_⟩
    ·rw [List.getElem?_eq_getElem h9] at hv; cases hv; exact h16
    have:=List.all_eq_true.1 hall (l[j]'(by omega)) (List.mem_iff_getElem.2 ⟨j,by simp; omega,by simp⟩)
    simpa using this
   refine rgn [] [[],[4]] ?_
   iterate 2 refine op1 tok ?_
   refine qA ?_
   exact AW.ret (qO (k:=by simp [hf]))
  intro h16
  try simp at h16
  refine AW.skip (rgz [] [[],[0,1,7,8]] ?_)
  iterate 2 refine op1 tok ?_
  refine qA ?_
  exact ⟨k+1,⟨by omega,by rw [List.take_add_one,hv,List.all_append,hall]; simpa using h16⟩,by omega,qG (by simp),rfl,by simp,by simp⟩
 intro h9
 try simp at h9
 rw [List.take_of_length_le h9] at hall
 have hf:l.findIdx? p=none:=by
  rw [List.findIdx?_eq_none_iff]; intro x hx; simpa using List.all_eq_true.1 hall x hx
 refine AW.exit ?_
 simp
 refine rgn [] [[]] ?_
 refine op1 tok ?_
 refine qA ?_
 exact AW.ret (qO (k:=by simp [hf]))
theorem qGN (l:List Val) (g:FuncId) (cs:List PD) (p:Val→Bool) (hg:∀ v∈l,AFn Tryz.prog G g [v.enc,.ref cs] (.bool (p v))):AFn Tryz.prog G 113 [.sl 9 (l.map Val.enc),.clo g [.ref cs]] (.bool (l.any p)):=by
 refine AFn.introU tok Tryz.func113 (by kernel_rfl) rfl rfl ?_
 simp only [Tryz.f113,qK,List.map_cons,List.map_nil]
 have hi:=qNS l g cs p hg
 have ha:l.any p=decide (0≤(match l.findIdx? p with | some i=>(i:Int) | none => -1)):=by
  cases h:l.findIdx? p with
  | none=>simp; intro x hx; simpa using List.findIdx?_eq_none_iff.1 h x hx
  | some i =>
   obtain ⟨h1,h2,_⟩:=List.findIdx?_eq_some_iff_getElem.1 h
   simp; exact ⟨_,List.getElem_mem h1,h2⟩
 rw [ha]
 generalize (match l.findIdx? p with | some i=>(i:Int) | none => -1)=n at *
 refine rgn [] [[0,1]] ?_
 refine op1 tok ?_
 refine qA (rgn [.nilp,.int .i64 n] [[],[],[7],[],[4]] ?_)
 iterate 5 refine oq1 tok hi ?_
 exact qA (AW.ret qO)
def qUN (u:Bool):V:=if u then .ptr 2 0 else .p .nilp
def vJ (u:Bool) (bs:List UInt8):List (Nat × Box):=[(2,.vars 163 [qUN u,.ms 3]),(3,.row 5 1 (qE bs))]
theorem qMI:(Tryz.prog.info? 163).map (·.size)=some 2:=by kernel_rfl
theorem qUM:liesAt Tryz.prog Tryz.prog.depth 163 (2 / Tryz.prog.cellsOf 163) 0 163 1=true:=by kernel_rfl
section
set_option maxHeartbeats 1000000 in
theorem qWI (b : Nat) (w : World) (h0 : w.cell? ⟨b, 0, none⟩ = some (.pointer (some ⟨b, 0, none⟩))) :
  Calls Tryz.prog 193 #[.pointer (some ⟨b,0,none⟩)] w fun e w'=>e = .returned (.tuple #[])∧w'=w:=by
 obtain ⟨j,hj,_⟩:=Option.map_eq_some_iff.1 qMI
 go_enter Tryz.func193,Tryz.ntmps193
 go_wp2
 rw [Lib.run_neq_ptr_same w _ Tryz.underlying161 hj]
 go_wp2
 go_end0
 exact ⟨rfl,rfl⟩
set_option maxHeartbeats 1000000 in
theorem qUH (b : Nat) (w : World) (h0 : w.cell? ⟨b, 0, none⟩ = some (.pointer none)) (hsh : w.shape? b = some (163, 2)) (hfz : w.frozen? ⟨b, 0, none⟩ = false) :
  Calls Tryz.prog 193 #[.pointer (some ⟨b,0,none⟩)] w fun e w'=>e = .returned (.tuple #[])∧w'=w.setCell ⟨b,0,none⟩ (.pointer (some ⟨b,0,none⟩)):=by
 obtain ⟨j,hj,hjs⟩:=Option.map_eq_some_iff.1 qMI
 go_enter Tryz.func193,Tryz.ntmps193
 go_wp2
 rw [Lib.run_to_unsafe w ⟨b,0,none⟩ Tryz.underlying161 Tryz.underlying241 hj (by rw [hjs]; decide) hsh (Nat.zero_lt_succ 1)]
 simp only [Result.andThen]
 rw [Oper.upon_value]
 go_wp2
 rw [run_callFunc_extern Tryz.func220 (by kernel_rfl) (by kernel_rfl) (by kernel_rfl) (e:=Extern.AbiNoEscape.same) (by kernel_rfl)]
 rw [Lib.run_noEscape]
 simp only [Result.andThen]
 rw [Oper.upon_value]
 go_wp2
 rw [Lib.run_from_unsafe w ⟨b,0,none⟩ Tryz.underlying241 Tryz.underlying161 hj hsh qUM]
 simp only [Result.andThen]
 rw [Oper.upon_value]
 go_wp2
 go_end0
 exact ⟨rfl,rfl⟩
end
theorem qBN (u:Bool) (bs:List UInt8):AX Tryz.prog G 193 [.ptr 2 0] (vJ u bs) (.tuple []) [2,3] (vJ true bs):=by
 refine ⟨wV Tryz.func193 (by kernel_rfl) rfl,fun M μ w vs hg rel => ?_⟩
 obtain ⟨l⟩:=vs
 have hsz:l.length=1:=by simpa using rel.slots.1
 match l,hsz with
 | [v],_ =>
 have hv:=rel.slots.2 0 v (.ptr 2 0) rfl rfl
 cases hv with
 | @ptr _ _ b hb =>
 have hbx:=rel.box 2 (.vars 163 [qUN u,.ms 3]) (by simp [vJ])
 cases hbx with
 | @vars _ _ b' arr h0 hh hs ho hc =>
 rw [hb] at h0; cases h0
 obtain ⟨x,y,rfl⟩:∃ x y,arr = #[x,y]:=by
  obtain ⟨l⟩:=arr
  match l,hs with
  | [x,y],_=>exact ⟨x,y,rfl⟩
 have hx:=hc 0 x (qUN u) rfl rfl
 have hy:=hc 1 y (.ms 3) rfl rfl
 have hfin : ∀ w', Rel ⟨w.heap.size, w, M, μ, zO μ (vJ u bs)⟩ M μ ⟨[.ptr 2 0], (vJ u bs).map (·.1), vJ true bs, 0⟩ #[.pointer (some ⟨b, 0, none⟩)] w' →
   ∃ v M' μ',(Ending.returned (.tuple #[]):Ending) = .returned v∧Rel ⟨w.heap.size,w,M,μ,zO μ (vJ u bs)⟩ M' μ' ⟨[.tuple []],[2,3],vJ true bs,0⟩ #[v] w':=by
  intro w' r
  refine ⟨_,M,μ,rfl,{ r with slots:=⟨rfl,fun i u x hu hx => ?_⟩,pins:=fun _ _=>rfl }⟩
  cases i with
  | zero=>simp at hu hx; subst hu; subst hx; exact .tuple rfl fun i u x hu=>by simp at hu
  | succ i=>simp at hx
 cases u with
 | true =>
  obtain rfl:x = .pointer (some ⟨b,0,none⟩):=by
   cases hx with
   | ptr h=>rw [hb] at h; cases h; rfl
  refine (qWI b w (by rw [zK hh]; rfl)).mono ?_
  rintro e w' ⟨rfl,rfl⟩
  exact hfin _ rel
 | false =>
  obtain rfl:x = .pointer none:=by
   cases hx with
   | p h=>cases h; rfl
  refine (qUH b w (by rw [zK hh]; rfl) (by simp [World.shape?,hh]) (by simp [World.frozen?,hh])).mono ?_
  rintro e w' ⟨rfl,rfl⟩
  refine hfin _ ?_
  have ht:Turned w (w.setCell ⟨b,0,none⟩ (.pointer (some ⟨b,0,none⟩))) b :=
   ⟨rfl,rfl,rfl,by simp [World.setCell],fun k hk=>RowKit.Below.heap_setCell w ⟨b,0,none⟩ _ k hk⟩
  have:=rel.write (id:=2) (bx := .vars 163 [qUN true,.ms 3]) (by simp [qH,vJ]) hb ht (.vars (arr := #[.pointer (some ⟨b,0,none⟩),y]) hb (by simp only [World.setCell,Array.getElem?_modify,if_pos,hh]; simp) rfl (fun i u hu => ?_) (fun i u x hu hx => ?_))
  ·simpa [vJ,zL] using this
  ·match i,hu with
   | 0,hu=>simp at hu; subst hu; rfl
   | 1,hu=>exact ho 1 u (by simpa using hu)
   | i+2,hu=>simp at hu
  match i,hu,hx with
  | 0,hu,hx=>simp at hu hx; subst hu; subst hx; exact .ptr hb
  | 1,hu,hx=>simp at hu hx; subst hu; subst hx; exact hy
  | i+2,hu,hx=>simp at hu
theorem qOI (bs:List UInt8):AX Tryz.prog G 193 [.ptr 2 0] [(2,.vars 163 [.p .nilp,.ms 3]),(3,.row 5 1 (qE bs))] (.tuple []) [2,3] [(2,.vars 163 [.ptr 2 0,.ms 3]),(3,.row 5 1 (qE bs))]:=qBN false bs
theorem qUI (bs:List UInt8):AX Tryz.prog G 193 [.ptr 2 0] [(2,.vars 163 [.ptr 2 0,.ms 3]),(3,.row 5 1 (qE bs))] (.tuple []) [2,3] [(2,.vars 163 [.ptr 2 0,.ms 3]),(3,.row 5 1 (qE bs))]:=qBN true bs
open Go.Shelf Go.RowKit
section
variable {P:Program} {ρ:Ren}
abbrev qGS (g:Nat) (w w':World):Prop:=Kept (fun k=>k=g∨w.heap.size≤k) w w'
theorem qCJ (g:Nat) (w:World):qGS g w w.drew:=⟨rfl,rfl,rfl,Nat.le_refl _,fun _ _=>rfl⟩
theorem qLF (g:Nat) (w:World) (n:Nat):qGS g w (w.drew.freeze ⟨g,0,none⟩ n):=by
 unfold World.freeze
 split
 ·exact qCJ g w
 exact ⟨rfl,rfl,rfl,by simp only [Array.size_modify]; exact Nat.le_refl _,fun k hk=>by
  simp only [Array.getElem?_modify]
  rw [if_neg (by omega)]; rfl⟩
theorem qEX (g:Nat) (w:World) (o:Obj):qGS g w (w.alloc o).drew:=⟨rfl,rfl,rfl,by show w.heap.size≤(w.heap.push o).size; simp,fun k hk=>by
 show (w.heap.push o)[k]?=_
 rw [Array.getElem?_push,if_neg (by omega)]⟩
theorem qLG (g:Nat) (w:World) (o:Obj):qGS g w (w.drew.alloc o):=qEX g w o
set_option maxHeartbeats 1000000 in
theorem qWK (L : Lays.n169 P ρ) (X : Builder.Extra P ρ) (b g cap : Nat) (p : Value) (cur : Array Value) (l : List UInt8) (w : World) (hbk : w.heap[b]? = some (.cells #[p, .slice (some ⟨g, 0, none⟩) l.length cap] (ρ.t 72) (0, 0)))
  (hg:w.heap[g]?=some (.cells cur (ρ.t 5) (0,0))) (hnc:l.length≤cap) (hcm:cap≤maxLen) (hcs:cur.size=cap) (hcells:∀ (j:Nat) (x:UInt8),l[j]?=some x→cur[j]?=some (Value.int .u8 x.toNat)) (h0:l≠[]) :
  Calls P (ρ.f 169) #[.pointer (some ⟨b,0,none⟩)] w fun e w'=>e = .returned (.string ⟨l.toArray⟩)∧qGS g w w':=by
 have hl0:l.length≠0:=by simpa using h0
 have c1:w.drew.cell? ⟨b,1,none⟩=some (.slice (some ⟨g,0,none⟩) l.length cap):=by
  have:w.drew.heap[b]?=some (.cells #[p,.slice (some ⟨g,0,none⟩) l.length cap] (ρ.t 72) (0,0)):=hbk
  rw [Lib.cell_of_heap this]; rfl
 have hSD:(Builtin.unsafeSliceData_ #[(ρ.t 37)] (ρ.t 127) #[.slice (some ⟨g,0,none⟩) l.length cap]).run P w.drew = .ok (.pointer (some ⟨g,0,none⟩)) w.drew :=
  Lib.run_unsafeSliceData_row _ _ _ _ _ _ (by omega)
 have hUS:(Builtin.unsafeString_ #[(ρ.t 127),(ρ.t 3)] (ρ.t 9) #[.pointer (some ⟨g,0,none⟩),.int .i64 l.length]).run P w.drew = .ok (.string ⟨l.toArray⟩) (w.drew.freeze ⟨g,0,none⟩ l.length):=by
  refine Lib.run_unsafeString_row w.drew (ρ.t 127) (ρ.t 3) (ρ.t 9) (ρ.t 5) L.t127 X.cellsByte g cur.size (by have hg':w.drew.heap[g]?=some (.cells cur (ρ.t 5) (0,0)):=hg; simp [World.shape?,hg']) l h0 (by omega) (by unfold maxLen at hcm; omega) ?_
  intro j x hx
  have hg':w.drew.heap[g]?=some (.cells cur (ρ.t 5) (0,0)):=hg
  rw [kO,Nat.zero_add,Lib.cell_of_heap hg']
  exact hcells j x hx
 have mixed:=L.mixed
 have t72:=L.t72; have a72:=L.a72; have z72:=L.z72; have v72:=L.v72; have u72:=run_underlying L.t72
 have t70:=L.t70; have a70:=L.a70; have z70:=L.z70; have v70:=L.v70; have u70:=run_underlying L.t70
 have t37:=L.t37; have a37:=L.a37; have z37:=L.z37; have v37:=L.v37; have u37:=run_underlying L.t37
 have t127:=L.t127; have a127:=L.a127; have z127:=L.z127; have v127:=L.v127; have u127:=run_underlying L.t127
 have t3:=L.t3; have a3:=L.a3; have z3:=L.z3; have v3:=L.v3; have u3:=run_underlying L.t3
 have t9:=L.t9; have a9:=L.a9; have z9:=L.z9; have v9:=L.v9; have u9:=run_underlying L.t9
 have t5:=X.t5; have a5:=X.a5; have z5:=X.z5; have v5:=X.v5; have u5:=run_underlying X.t5
 go_enter L.f169,Body.n169_ntmps ρ
 go_wp2
 go_region_o
 all_goals (go_wp2; go_ret; exact ⟨rfl,qLF g w _⟩)
set_option maxHeartbeats 2000000 in
theorem qWL (L : Lays.n169 P ρ) (X : Builder.Extra P ρ) (b : Nat) (p : Value) (w : World) (hbk : w.heap[b]? = some (.cells #[p, .slice none 0 0] (ρ.t 72) (0, 0))) :
  Calls P (ρ.f 169) #[.pointer (some ⟨b,0,none⟩)] w fun e w'=>e = .returned (.string ⟨#[]⟩)∧qGS w.heap.size w w':=by
 have hUS:=Any.unsafeString_none L X
 have c1:w.drew.cell? ⟨b,1,none⟩=some (.slice none 0 0):=by
  have:w.drew.heap[b]?=some (.cells #[p,.slice none 0 0] (ρ.t 72) (0,0)):=hbk
  rw [Lib.cell_of_heap this]; rfl
 have hSD:(Builtin.unsafeSliceData_ #[(ρ.t 37)] (ρ.t 127) #[.slice none 0 0]).run P w.drew = .ok (.pointer none) w.drew:=rfl
 have mixed:=L.mixed
 have t72:=L.t72; have a72:=L.a72; have z72:=L.z72; have v72:=L.v72; have u72:=run_underlying L.t72
 have t70:=L.t70; have a70:=L.a70; have z70:=L.z70; have v70:=L.v70; have u70:=run_underlying L.t70
 have t37:=L.t37; have a37:=L.a37; have z37:=L.z37; have v37:=L.v37; have u37:=run_underlying L.t37
 have t127:=L.t127; have a127:=L.a127; have z127:=L.z127; have v127:=L.v127; have u127:=run_underlying L.t127
 have t3:=L.t3; have a3:=L.a3; have z3:=L.z3; have v3:=L.v3; have u3:=run_underlying L.t3
 have t9:=L.t9; have a9:=L.a9; have z9:=L.z9; have v9:=L.v9; have u9:=run_underlying L.t9
 have t5:=X.t5; have a5:=X.a5; have z5:=X.z5; have v5:=X.v5; have u5:=run_underlying X.t5
 go_enter L.f169,Body.n169_ntmps ρ
 go_wp2
 go_region_o
 all_goals (go_wp2; go_ret; exact ⟨rfl,qCJ _ w⟩)
set_option maxHeartbeats 2000000 in
theorem qUL (L : Lays.n169 P ρ) (X : Builder.Extra P ρ) (b g : Nat) (p : Value) (cur : Array Value) (w : World) (hlt : b < w.heap.size) (hbk : w.heap[b]? = some (.cells #[p, .slice (some ⟨g, 0, none⟩) 0 0] (ρ.t 72) (0, 0))) (hg : w.heap[g]? = some (.cells cur (ρ.t 5) (0, 0))) :
  Calls P (ρ.f 169) #[.pointer (some ⟨b,0,none⟩)] w fun e w'=>e = .returned (.string ⟨#[]⟩)∧qGS g w w':=by
 have hUS:=Any.unsafeString_none L X
 have c1:w.drew.cell? ⟨b,1,none⟩=some (.slice (some ⟨g,0,none⟩) 0 0):=by
  have:w.drew.heap[b]?=some (.cells #[p,.slice (some ⟨g,0,none⟩) 0 0] (ρ.t 72) (0,0)):=hbk
  rw [Lib.cell_of_heap this]; rfl
 have hSD:(Builtin.unsafeSliceData_ #[(ρ.t 37)] (ρ.t 127) #[.slice (some ⟨g,0,none⟩) 0 0]).run P w.drew = .ok (.pointer (some ⟨w.drew.heap.size,0,none⟩)) (w.drew.alloc (.view ⟨g,0,none⟩ (ρ.t 5))) :=
  Lib.run_unsafeSliceData_zero w.drew _ _ (ρ.t 5) L.t127 ⟨g,0,none⟩ 0 ((ρ.t 5),cur.size) (by have hg':w.drew.heap[g]?=some (.cells cur (ρ.t 5) (0,0)):=hg; simp [World.shape?,hg'])
 have c2:(w.drew.alloc (.view ⟨g,0,none⟩ (ρ.t 5))).cell? ⟨b,1,none⟩=some (.slice (some ⟨g,0,none⟩) 0 0):=by
  have:(w.drew.alloc (.view ⟨g,0,none⟩ (ρ.t 5))).heap[b]?=_:=(Lib.alloc_old w.drew _ b hlt).trans hbk
  rw [Lib.cell_of_heap this]; rfl
 have c3:(w.alloc (.view ⟨g,0,none⟩ (ρ.t 5))).drew.cell? ⟨b,1,none⟩=some (.slice (some ⟨g,0,none⟩) 0 0):=c2
 have c0:w.cell? ⟨b,1,none⟩=some (.slice (some ⟨g,0,none⟩) 0 0):=c1
 have mixed:=L.mixed
 have t72:=L.t72; have a72:=L.a72; have z72:=L.z72; have v72:=L.v72; have u72:=run_underlying L.t72
 have t70:=L.t70; have a70:=L.a70; have z70:=L.z70; have v70:=L.v70; have u70:=run_underlying L.t70
 have t37:=L.t37; have a37:=L.a37; have z37:=L.z37; have v37:=L.v37; have u37:=run_underlying L.t37
 have t127:=L.t127; have a127:=L.a127; have z127:=L.z127; have v127:=L.v127; have u127:=run_underlying L.t127
 have t3:=L.t3; have a3:=L.a3; have z3:=L.z3; have v3:=L.v3; have u3:=run_underlying L.t3
 have t9:=L.t9; have a9:=L.a9; have z9:=L.z9; have v9:=L.v9; have u9:=run_underlying L.t9
 have t5:=X.t5; have a5:=X.a5; have z5:=X.z5; have v5:=X.v5; have u5:=run_underlying X.t5
 go_enter L.f169,Body.n169_ntmps ρ
 go_wp2
 go_region_o
 all_goals (go_wp2; go_ret; first | exact ⟨rfl,qEX g w _⟩ | exact ⟨rfl,qLG g w _⟩)
set_option maxHeartbeats 2000000 in
theorem qUK (L : Lays.n169 P ρ) (X : Builder.Extra P ρ) (b g cap : Nat) (p : Value) (w : World) (hc0 : cap ≠ 0) (hbk : w.heap[b]? = some (.cells #[p, .slice (some ⟨g, 0, none⟩) 0 cap] (ρ.t 72) (0, 0))) :
  Calls P (ρ.f 169) #[.pointer (some ⟨b,0,none⟩)] w fun e w'=>e = .returned (.string ⟨#[]⟩)∧qGS g w w':=by
 have hUS:=Any.unsafeString_none L X
 have c1:w.drew.cell? ⟨b,1,none⟩=some (.slice (some ⟨g,0,none⟩) 0 cap):=by
  have:w.drew.heap[b]?=some (.cells #[p,.slice (some ⟨g,0,none⟩) 0 cap] (ρ.t 72) (0,0)):=hbk
  rw [Lib.cell_of_heap this]; rfl
 have hSD:(Builtin.unsafeSliceData_ #[(ρ.t 37)] (ρ.t 127) #[.slice (some ⟨g,0,none⟩) 0 cap]).run P w.drew = .ok (.pointer (some ⟨g,0,none⟩)) w.drew :=
  Lib.run_unsafeSliceData_row _ _ _ _ _ _ hc0
 clear hc0
 have mixed:=L.mixed
 have t72:=L.t72; have a72:=L.a72; have z72:=L.z72; have v72:=L.v72; have u72:=run_underlying L.t72
 have t70:=L.t70; have a70:=L.a70; have z70:=L.z70; have v70:=L.v70; have u70:=run_underlying L.t70
 have t37:=L.t37; have a37:=L.a37; have z37:=L.z37; have v37:=L.v37; have u37:=run_underlying L.t37
 have t127:=L.t127; have a127:=L.a127; have z127:=L.z127; have v127:=L.v127; have u127:=run_underlying L.t127
 have t3:=L.t3; have a3:=L.a3; have z3:=L.z3; have v3:=L.v3; have u3:=run_underlying L.t3
 have t9:=L.t9; have a9:=L.a9; have z9:=L.z9; have v9:=L.v9; have u9:=run_underlying L.t9
 have t5:=X.t5; have a5:=X.a5; have z5:=X.z5; have v5:=X.v5; have u5:=run_underlying X.t5
 go_enter L.f169,Body.n169_ntmps ρ
 go_wp2
 go_region_o
 all_goals (go_wp2; go_ret; exact ⟨rfl,qCJ _ w⟩)
end
theorem vA:Builder.Extra Tryz.prog Tryz.lays169_ren where
 sizeBuilder:=by kernel_rfl
 liesBuilder:=by kernel_rfl
 t5:=Tryz.underlying5
 a5:=Tryz.isAgg5
 z5:=Tryz.sizeOf5
 v5:=Tryz.zeroValue5
 infoByte:=by kernel_rfl
 cellsByte:=by kernel_rfl
 sizeByte:=by kernel_rfl
 neB5:=by decide
theorem qGP (u:Bool) (bs:List UInt8):AX Tryz.prog G 151 [.ptr 2 0] (vJ u bs) (.p (.str bs)) [] []:=by
 refine ⟨wV Tryz.func151 (by kernel_rfl) rfl,fun M μ w vs hg rel => ?_⟩
 obtain ⟨l⟩:=vs
 have hsz:l.length=1:=by simpa using rel.slots.1
 match l,hsz with
 | [v],_ =>
 have hv:=rel.slots.2 0 v (.ptr 2 0) rfl rfl
 cases hv with
 | @ptr _ _ b hb =>
 have hbx:=rel.box 2 (.vars 163 [qUN u,.ms 3]) (by simp [vJ])
 cases hbx with
 | @vars _ _ b' arr h0 hh hs ho hc =>
 rw [hb] at h0; cases h0
 obtain ⟨x,y,rfl⟩:∃ x y,arr = #[x,y]:=by
  obtain ⟨l⟩:=arr
  match l,hs with
  | [x,y],_=>exact ⟨x,y,rfl⟩
 have hy:=hc 1 y (.ms 3) rfl rfl
 have hblt:b<w.heap.size:=(Array.getElem?_eq_some_iff.1 hh).1
 have hfin : ∀ (g : Nat) (w' : World), (g < w.heap.size → zO μ (vJ u bs) g ∧ ∀ o, M g o = none) → bs.length ≤ maxLen → qGS g w w' →
   ∃ v M' μ',(Ending.returned (.string ⟨bs.toArray⟩):Ending) = .returned v∧Rel ⟨w.heap.size,w,M,μ,zO μ (vJ u bs)⟩ M' μ' ⟨[.p (.str bs)],[],[],0⟩ #[v] w':=by
  intro g w' hl hm hk
  refine ⟨_,M,μ,rfl, ?_⟩
  have hko:∀ k,k<w.heap.size→k≠g→w'.heap[k]?=w.heap[k]?:=fun k h1 h2=>hk.block k (by omega)
  refine ⟨fun b o v hv => ?_,fun _ _ _ h=>h,fun _ _ _=>rfl,⟨rfl,fun i u x hu hx => ?_⟩,fun _ h=>(by cases h),fun _ _ h=>(by cases h),by simp,fun _ _ _ h=>by simp [qH] at h,fun _ _ h=>by simp [qH] at h,hk.size, ?_⟩
  ·have h1:=rel.mem b o v hv
   have hlt:=yO h1
   exact (World.cell?_of_block (w:=w) (hko b hlt (by rintro rfl; rw [(hl hlt).2 o] at hv; cases hv))).trans h1
  ·cases i with
   | zero=>simp at hu hx; subst hu; subst hx; exact .p (.str (by simp) hm)
   | succ i=>simp at hx
  refine ⟨hk.os,hk.tape,hk.output,hk.size,fun k h => ?_⟩
  have h1:k<w.heap.size:=Nat.not_le.1 fun h'=>h (.inl h')
  exact hko k h1 (by rintro rfl; exact h (.inr (hl h1).1))
 have hrow:=rel.box 3 (.row 5 1 (qE bs)) (by simp [vJ])
 have key:∃ g,(g<w.heap.size→zO μ (vJ u bs) g∧∀ o,M g o=none)∧bs.length≤maxLen∧Calls Tryz.prog 151 #[.pointer (some ⟨b,0,none⟩)] w fun e w'=>e = .returned (.string ⟨bs.toArray⟩)∧qGS g w w':=by
  rcases hrow.cells with ⟨he,hn,hval⟩ | ⟨g,cap,cur,hg0,hval,hgh,hcs,hlc,hcm,hone,hro⟩
  ·obtain rfl:bs=[]:=by simpa [qE] using he
   have hy':y = .slice none 0 0:=by cases hy with | ms h _=>rw [h,hval]
   subst hy'
   exact ⟨w.heap.size,fun h=>absurd h (Nat.lt_irrefl _),by simp,qWL Tryz.lays169 vA b x w hh⟩
  have hy':y = .slice (some ⟨g,0,none⟩) bs.length cap:=by cases hy with | ms h _=>rw [h,hval]; simp [qE]
  subst hy'
  have hown:=rel.own 3 g (by simp [qH,vJ]) hg0
  refine ⟨g,fun h=>⟨⟨3,by simp [qH,vJ],hg0⟩,hown.2.2⟩,by simp [qE] at hlc; omega, ?_⟩
  by_cases hbs:bs=[]
  ·subst hbs
   by_cases hc0:cap=0
   ·subst hc0; exact qUL Tryz.lays169 vA b g x cur w hblt hh hgh
   exact qUK Tryz.lays169 vA b g cap x w hc0 hh
  refine qWK Tryz.lays169 vA b g cap x cur bs w hh hgh (by simpa [qE] using hlc) hcm (by simpa using hcs) (fun j z hz => ?_) hbs
  have hjl:=(List.getElem?_eq_some_iff.1 hz).1
  have hj:j<cur.size:=by rw [hcs]; simp [qE] at hlc; omega
  have:=hro.get j (.int .u8 z.toNat) 0 (.int .u8 z.toNat) cur[j] (by simp [qE,hz]) rfl (by simp [qE,List.getElem?_take,hjl,hj])
  rw [Array.getElem?_eq_getElem hj]
  generalize cur[j]=q at this
  cases this
  rfl
 obtain ⟨g,h1,h2,h3⟩:=key
 refine h3.mono ?_
 rintro e w' ⟨rfl,hk⟩
 exact hfin g w' h1 h2 hk
theorem qRS (bs:List UInt8):AX Tryz.prog G 151 [.ptr 2 0] [(2,.vars 163 [.ptr 2 0,.ms 3]),(3,.row 5 1 (qE bs))] (.p (.str bs)) [] []:=qGP true bs
@[simp] theorem qYF (a s:List UInt8):qE (a++s)=qE a++s.map fun b => .int .u8 b.toNat:=by simp [qE]
theorem qGQ (bs:List UInt8) (c:UInt8) (hb:bs.length≤100000000000):AX Tryz.prog G 157 [.ptr 2 0,.p (.int .u8 c.toNat)] [(2,.vars 163 [.p .nilp,.ms 3]),(3,.row 5 1 (qE bs))] (.dead) [2] [(2,.vars 163 [.ptr 2 0,.ms 3]),(3,.row 5 1 (qE (bs++[c])))]:=by
 refine AX.introU tok 900 Tryz.func157 (by kernel_rfl) rfl rfl ?_
 simp only [Tryz.f157,qK,List.map_cons,List.map_nil]
 refine rgn [] [[0,1]] ?_
 refine op1 tok ?_
 refine qA (rgn [] [[]] ?_)
 refine op1 tok ?_
 refine zG ?_
 refine qF.stepK [0,1] (yC rfl (qOI bs) (by simp)) (by conv=>lhs; simp) rfl ?_
 refine qF.nil ?_
 refine rgn [.int .u8 c.toNat] [[],[],[],[],[1,7,11],[],[],[7,14],[],[],[17]] ?_
 iterate 11 refine op1 tok ?_
 refine qA (rgn [] [[]] ?_)
 refine op1 tok ?_
 refine qA ?_
 exact AW.ret wD
theorem qRZ (bs s:List UInt8) (hb:bs.length≤100000000000) (hs:s.length≤100000000000):AX Tryz.prog G 149 [.ptr 2 0,.p (.str s)] [(2,.vars 163 [.p .nilp,.ms 3]),(3,.row 5 1 (qE bs))] (.dead) [2] [(2,.vars 163 [.ptr 2 0,.ms 3]),(3,.row 5 1 (qE (bs++s)))]:=by
 refine AX.introU tok 900 Tryz.func149 (by kernel_rfl) rfl rfl ?_
 simp only [Tryz.f149,qK,List.map_cons,List.map_nil]
 refine rgn [] [[],[0,1]] ?_
 iterate 2 refine op1 tok ?_
 refine qA (rgn [] [[]] ?_)
 refine op1 tok ?_
 refine zG ?_
 refine qF.stepK [0,1] (yC rfl (qOI bs) (by simp)) (by conv=>lhs; simp) rfl ?_
 refine qF.nil ?_
 refine rgn [] [[],[],[],[],[1,8,12],[],[],[],[1,14,16],[1]] ?_
 iterate 10 refine op1 tok ?_
 refine qA (rgn [] [[],[],[],[4,5]] ?_)
 iterate 4 refine op1 tok ?_
 refine qA ?_
 exact AW.ret wD
theorem kC (bs:List UInt8) (c:UInt8) (hb:bs.length≤100000000000):AX Tryz.prog G 157 [.ptr 2 0,.p (.int .u8 c.toNat)] [(2,.vars 163 [.ptr 2 0,.ms 3]),(3,.row 5 1 (qE bs))] (.dead) [2] [(2,.vars 163 [.ptr 2 0,.ms 3]),(3,.row 5 1 (qE (bs++[c])))]:=by
 refine AX.introU tok 900 Tryz.func157 (by kernel_rfl) rfl rfl ?_
 simp only [Tryz.f157,qK,List.map_cons,List.map_nil]
 refine rgn [] [[0,1]] ?_
 refine op1 tok ?_
 refine qA (rgn [] [[]] ?_)
 refine op1 tok ?_
 refine zG ?_
 refine qF.stepK [0,1] (yC rfl (qUI bs) (by simp)) (by conv=>lhs; simp) rfl ?_
 refine qF.nil ?_
 refine rgn [.int .u8 c.toNat] [[],[],[],[],[1,7,11],[],[],[7,14],[],[],[17]] ?_
 iterate 11 refine op1 tok ?_
 refine qA (rgn [] [[]] ?_)
 refine op1 tok ?_
 refine qA ?_
 exact AW.ret wD
theorem kB (bs s:List UInt8) (hb:bs.length≤100000000000) (hs:s.length≤100000000000):AX Tryz.prog G 149 [.ptr 2 0,.p (.str s)] [(2,.vars 163 [.ptr 2 0,.ms 3]),(3,.row 5 1 (qE bs))] (.dead) [2] [(2,.vars 163 [.ptr 2 0,.ms 3]),(3,.row 5 1 (qE (bs++s)))]:=by
 refine AX.introU tok 900 Tryz.func149 (by kernel_rfl) rfl rfl ?_
 simp only [Tryz.f149,qK,List.map_cons,List.map_nil]
 refine rgn [] [[],[0,1]] ?_
 iterate 2 refine op1 tok ?_
 refine qA (rgn [] [[]] ?_)
 refine op1 tok ?_
 refine zG ?_
 refine qF.stepK [0,1] (yC rfl (qUI bs) (by simp)) (by conv=>lhs; simp) rfl ?_
 refine qF.nil ?_
 refine rgn [] [[],[],[],[],[1,8,12],[],[],[],[1,14,16],[1]] ?_
 iterate 10 refine op1 tok ?_
 refine qA (rgn [] [[],[],[],[4,5]] ?_)
 iterate 4 refine op1 tok ?_
 refine qA ?_
 exact AW.ret wD
@[simp] theorem qYE:qE []=[]:=rfl
theorem qRA (r:Int) (l:List Int) (h:Lib.encodeRuneZ r=l):qE (Lib.encodeRune r)=l.map (PD.int .u8):=by
 subst h
 simp only [qE,Lib.encodeRune,List.map_map]
 apply List.map_congr_left
 intro x hx
 obtain ⟨h0,h1⟩:=Lib.encodeRuneZ_byte r x hx
 simp [Function.comp]
 omega
theorem qJA {k:Nat} {n:Int} (h:0≤n∧n<k):∃ x:Fin k,n=x.val:=⟨⟨n.toNat,by omega⟩,by simp; omega⟩
theorem qWW (n:Int) (h:0≤n):IntKind.u8.wrap n=n % 256:=by simp [IntKind.wrap,IntKind.bits,IntKind.signed]
theorem qWA (n:Int) (h:0≤n∧n<32):IntKind.u8.wrap ↑(192 % 2 ^ IntKind.u8.bits ||| (IntKind.u8.wrap n % 2 ^ IntKind.u8.bits).toNat)=192+n:=by
 obtain ⟨x,rfl⟩:=qJA h; revert x; decide +kernel
theorem qPK (n:Int) (h:0≤n∧n<16):IntKind.u8.wrap ↑(224 % 2 ^ IntKind.u8.bits ||| (IntKind.u8.wrap n % 2 ^ IntKind.u8.bits).toNat)=224+n:=by
 obtain ⟨x,rfl⟩:=qJA h; revert x; decide +kernel
theorem qPJ (n:Int) (h:0≤n∧n<8):IntKind.u8.wrap ↑(240 % 2 ^ IntKind.u8.bits ||| (IntKind.u8.wrap n % 2 ^ IntKind.u8.bits).toNat)=240+n:=by
 obtain ⟨x,rfl⟩:=qJA h; revert x; decide +kernel
theorem qWH:∀ x:Fin 256,IntKind.u8.wrap ↑(128 % 2 ^ IntKind.u8.bits ||| (IntKind.u8.wrap ↑((((x.val:Nat):Int) % 2 ^ IntKind.u8.bits).toNat &&& 63 % 2 ^ IntKind.u8.bits) % 2 ^ IntKind.u8.bits).toNat)=128+((x.val:Nat):Int) % 64:=by decide +kernel
theorem uA (n:Int) (h:0≤n):IntKind.u8.wrap ↑(128 % 2 ^ IntKind.u8.bits ||| (IntKind.u8.wrap ↑((IntKind.u8.wrap n % 2 ^ IntKind.u8.bits).toNat &&& 63 % 2 ^ IntKind.u8.bits) % 2 ^ IntKind.u8.bits).toNat)=128+n % 64:=by
 rw [qWW n h]
 obtain ⟨x,hx⟩:=qJA (k:=256) (n:=n % 256) (by omega)
 rw [hx,qWH x,← hx]
 omega
theorem qSL (r:Int):r.fdiv (2 ^ min 6 IntKind.i32.bits)=r / 64:=Int.fdiv_eq_ediv_of_nonneg _ (by decide)
theorem qKI (r:Int):r.fdiv (2 ^ min 12 IntKind.i32.bits)=r / 4096:=Int.fdiv_eq_ediv_of_nonneg _ (by decide)
theorem qKH (r:Int):r.fdiv (2 ^ min 18 IntKind.i32.bits)=r / 262144:=Int.fdiv_eq_ediv_of_nonneg _ (by decide)
theorem qJK (bs:List UInt8) (r:Int) (hb:bs.length≤100000000000) (h0:128≤r) (h1:r≤1114111) (h2:r<55296∨57343<r):AX Tryz.prog G 227 [.ms 3,.p (.int .i32 r)] [(3,.row 5 1 (qE bs))] (.ms 3) [] [(3,.row 5 1 (qE bs++qE (Lib.encodeRune r)))]:=by
 refine AX.introU tok 900 Tryz.func227 (by kernel_rfl) rfl rfl ?_
 simp only [Tryz.f227,qK,List.map_cons,List.map_nil]
 have hw:IntKind.u32.wrap r=r:=by simp [IntKind.wrap,IntKind.bits,IntKind.signed]; omega
 refine rgn [] [[0,1]] ?_
 refine op1 tok ?_
 refine qA (rgn [] [[],[],[0,1,5]] ?_)
 iterate 3 refine op1 tok ?_
 refine qA (AW.block (rgn [] [[],[],[0,1,5,11]] ?_))
 iterate 3 refine op1 tok ?_
 refine qA (cnd ?_ ?_)
 ·intro h11
  try simp at h11
  rw [qRA r _ (Lib.encodeRuneZ_two (by omega) (by omega))]
  refine rgn [.int .u8 (192+r / 64),.int .u8 (128+r % 64)] [[],[],[],[],[1,14,18],[],[],[],[14,18,22],[],[24],[4]] ?_
  iterate 12 refine op1 tok ?_ (hv:=by first | with_reducible exact True.intro | (simp only [qSL,qKI,qKH]; exact ⟨qWA _ (by omega),uA _ (by omega)⟩; done) | omega | simp | (simp +contextual; omega))
  refine qA ?_
  exact AW.ret wD
 intro h11
 try simp at h11
 refine AW.seq (rgn [] [[],[],[0,1,5,25]] ?_)
 iterate 3 refine op1 tok ?_
 refine qA (cnd ?_ ?_)
 ·intro h25
  try simp at h25
  refine AW.skip (cnd ?_ ?_)
  ·intro h25
   try simp at h25
   rw [qRA r _ (Lib.encodeRuneZ_three (by omega))]
   refine rgn [.int .u8 (224+r / 4096),.int .u8 (128+r / 64 % 64),.int .u8 (128+r % 64)] [[],[],[],[],[1,34,38],[],[],[],[],[1,34,38,43],[],[],[],[34,38,43,47],[],[49],[4]] ?_
   iterate 17 refine op1 tok ?_ (hv:=by first | with_reducible exact True.intro | (simp only [qSL,qKI,qKH]; exact ⟨qPK _ (by omega),uA _ (by omega),uA _ (by omega)⟩; done) | omega | simp | (simp +contextual; omega))
   refine qA ?_
   exact AW.ret wD
  intro h25
  try simp at h25
  refine rgn [] [[],[],[],[],[0,1,53,55],[],[0,1,50]] ?_
  iterate 3 refine op1 tok ?_
  iterate 2 refine op2 tok ?_
  iterate 2 refine op1 tok ?_
  refine qA (cnd ?_ ?_)
  ·intro h50
   try simp at h50
   rw [qRA r _ (Lib.encodeRuneZ_four (by omega) (by omega))]
   refine rgn [.int .u8 (240+r / 262144),.int .u8 (128+r / 4096 % 64),.int .u8 (128+r / 64 % 64),.int .u8 (128+r % 64)] [[],[],[],[],[1,57,61],[],[],[],[],[1,57,61,66],[],[],[],[],[1,57,61,66,71],[],[],[],[57,61,66,71,75],[57,76],[],[4]] ?_
   iterate 22 refine op1 tok ?_ (hv:=by first | with_reducible exact True.intro | (simp only [qSL,qKI,qKH]; exact ⟨qPJ _ (by omega),uA _ (by omega),uA _ (by omega),uA _ (by omega)⟩; done) | omega | simp | (simp +contextual; omega))
   refine qA ?_
   exact AW.ret wD
  intro h50
  try simp at h50
  omega
 intro h25
 try simp at h25
 refine rgz [] [[],[],[],[],[],[0,1,5,33],[0,1,5,25]] ?_
 iterate 3 refine op1 tok ?_
 iterate 2 refine op2 tok ?_
 iterate 2 refine op1 tok ?_
 refine qA (cnd ?_ ?_)
 ·intro h25
  try simp at h25
  rw [qRA r _ (Lib.encodeRuneZ_three (by omega))]
  refine rgn [.int .u8 (224+r / 4096),.int .u8 (128+r / 64 % 64),.int .u8 (128+r % 64)] [[],[],[],[],[1,34,38],[],[],[],[],[1,34,38,43],[],[],[],[34,38,43,47],[],[49],[4]] ?_
  iterate 17 refine op1 tok ?_ (hv:=by first | with_reducible exact True.intro | (simp only [qSL,qKI,qKH]; exact ⟨qPK _ (by omega),uA _ (by omega),uA _ (by omega)⟩; done) | omega | simp | (simp +contextual; omega))
  refine qA ?_
  exact AW.ret wD
 intro h25
 try simp at h25
 refine rgn [] [[],[],[],[],[0,1,53,55],[],[0,1,50]] ?_
 iterate 3 refine op1 tok ?_
 iterate 2 refine op2 tok ?_
 iterate 2 refine op1 tok ?_
 refine qA (cnd ?_ ?_)
 ·intro h50
  try simp at h50
  rw [qRA r _ (Lib.encodeRuneZ_four (by omega) (by omega))]
  refine rgn [.int .u8 (240+r / 262144),.int .u8 (128+r / 4096 % 64),.int .u8 (128+r / 64 % 64),.int .u8 (128+r % 64)] [[],[],[],[],[1,57,61],[],[],[],[],[1,57,61,66],[],[],[],[],[1,57,61,66,71],[],[],[],[57,61,66,71,75],[57,76],[],[4]] ?_
  iterate 22 refine op1 tok ?_ (hv:=by first | with_reducible exact True.intro | (simp only [qSL,qKI,qKH]; exact ⟨qPJ _ (by omega),uA _ (by omega),uA _ (by omega),uA _ (by omega)⟩; done) | omega | simp | (simp +contextual; omega))
  refine qA ?_
  exact AW.ret wD
 intro h50
 try simp at h50
 omega
theorem uY (bs:List UInt8) (r:Int) (hb:bs.length≤100000000000) (h0:0≤r) (h1:r≤1114111) (h2:r<55296∨57343<r):AX Tryz.prog G 199 [.ms 3,.p (.int .i32 r)] [(3,.row 5 1 (qE bs))] (.ms 3) [] [(3,.row 5 1 (qE bs++qE (Lib.encodeRune r)))]:=by
 refine AX.introU tok 900 Tryz.func199 (by kernel_rfl) rfl rfl ?_
 simp only [Tryz.f199,qK,List.map_cons,List.map_nil]
 have hw:IntKind.u32.wrap r=r:=by simp [IntKind.wrap,IntKind.bits,IntKind.signed]; omega
 have hw8:=qWW r h0
 refine rgn [] [[0,1]] ?_
 refine op1 tok ?_
 refine qA (AW.seq (rgn [] [[],[],[0,1,7]] ?_))
 iterate 3 refine op1 tok ?_
 refine qA (cnd ?_ ?_)
 ·intro h7
  try simp at h7
  rw [qRA r _ (Lib.encodeRuneZ_one (by omega) (by omega))]
  refine rgn [.int .u8 r] [[],[],[],[8,11],[],[4]] ?_
  iterate 6 refine op1 tok ?_ (hv:=by first | with_reducible exact True.intro | ((rw [hw8]; omega); done) | omega | simp | (simp +contextual; omega))
  refine qA ?_
  exact AW.ret wD
 intro h7
 try simp at h7
 refine AW.skip (rgn [] [[],[]] ?_)
 iterate 2 refine op1 tok ?_
 refine zG ?_
 refine qF.stepK [15] (yC rfl (qJK bs r hb (by omega) h1 h2) (by simp)) (by conv=>lhs; simp) rfl ?_
 refine qF.run [[4]] ?_
 refine op1 tok ?_
 refine qA ?_
 exact AW.ret wD
theorem qVB (bs:List UInt8) (r:Int) (hb:bs.length≤100000000000) (h0:0≤r) (h1:r≤1114111) (h2:r<55296∨57343<r):AX Tryz.prog G 158 [.ptr 2 0,.p (.int .i32 r)] [(2,.vars 163 [.p .nilp,.ms 3]),(3,.row 5 1 (qE bs))] (.dead) [2] [(2,.vars 163 [.ptr 2 0,.ms 3]),(3,.row 5 1 (qE bs++qE (Lib.encodeRune r)))]:=by
 refine AX.introU tok 900 Tryz.func158 (by kernel_rfl) rfl rfl ?_
 simp only [Tryz.f158,qK,List.map_cons,List.map_nil]
 have hel:(Lib.encodeRune r).length≤4:=by simp only [Lib.encodeRune,List.length_map]; exact (Lib.encodeRuneZ_length r).2
 refine rgn [] [[],[0,1]] ?_
 iterate 2 refine op1 tok ?_
 refine qA (rgn [] [[]] ?_)
 refine op1 tok ?_
 refine zG ?_
 refine qF.stepK [0,1] (yC rfl (qOI bs) (by simp)) (by conv=>lhs; simp) rfl ?_
 refine qF.nil ?_
 refine rgn [] [[],[],[],[],[0,1,13],[0,1,6]] ?_
 iterate 6 refine op1 tok ?_
 refine qA (rgn [] [[],[],[],[],[],[0,6,14,18,19]] ?_)
 iterate 6 refine op1 tok ?_
 refine zG ?_
 refine qF.stepK [0,6,14,20] (yC rfl (uY bs r hb h0 h1 h2) (by simp)) (by conv=>lhs; simp) rfl ?_
 refine qF.run [[],[],[0,6]] ?_
 iterate 3 refine op1 tok ?_
 refine qA (rgn [] [[],[],[],[6,26],[],[],[29],[],[4,5]] ?_)
 iterate 9 refine op1 tok ?_
 refine qA ?_
 exact AW.ret wD
theorem vC (bs:List UInt8) (r:Int) (hb:bs.length≤100000000000) (h0:0≤r) (h1:r≤1114111) (h2:r<55296∨57343<r):AX Tryz.prog G 158 [.ptr 2 0,.p (.int .i32 r)] [(2,.vars 163 [.ptr 2 0,.ms 3]),(3,.row 5 1 (qE bs))] (.dead) [2] [(2,.vars 163 [.ptr 2 0,.ms 3]),(3,.row 5 1 (qE bs++qE (Lib.encodeRune r)))]:=by
 refine AX.introU tok 900 Tryz.func158 (by kernel_rfl) rfl rfl ?_
 simp only [Tryz.f158,qK,List.map_cons,List.map_nil]
 have hel:(Lib.encodeRune r).length≤4:=by simp only [Lib.encodeRune,List.length_map]; exact (Lib.encodeRuneZ_length r).2
 refine rgn [] [[],[0,1]] ?_
 iterate 2 refine op1 tok ?_
 refine qA (rgn [] [[]] ?_)
 refine op1 tok ?_
 refine zG ?_
 refine qF.stepK [0,1] (yC rfl (qUI bs) (by simp)) (by conv=>lhs; simp) rfl ?_
 refine qF.nil ?_
 refine rgn [] [[],[],[],[],[0,1,13],[0,1,6]] ?_
 iterate 6 refine op1 tok ?_
 refine qA (rgn [] [[],[],[],[],[],[0,6,14,18,19]] ?_)
 iterate 6 refine op1 tok ?_
 refine zG ?_
 refine qF.stepK [0,6,14,20] (yC rfl (uY bs r hb h0 h1 h2) (by simp)) (by conv=>lhs; simp) rfl ?_
 refine qF.run [[],[],[0,6]] ?_
 iterate 3 refine op1 tok ?_
 refine qA (rgn [] [[],[],[],[6,26],[],[],[29],[],[4,5]] ?_)
 iterate 9 refine op1 tok ?_
 refine qA ?_
 exact AW.ret wD
theorem qDN (l:List UInt8):(Lib.decodeL l).1≤1114111:=qBM _ _
theorem qGT (hG:U8 G) (s:List UInt8) (hs:s≠[]):AFn Tryz.prog G 195 [.str s] (.tup [.int .i32 (Lib.decodeL s).1,.int .i64 (Lib.decodeL s).2]):=by
 refine AFn.of_calls (wV Tryz.func195 (by kernel_rfl) rfl) fun M w vs hg hmem hsz hrd => ?_
 obtain ⟨b,rfl,rfl,hm⟩:=qPW hsz hrd
 refine (Any.utf8_DecodeRuneInString Tryz.lays197 b w (qVM hG hg hmem)).mono ?_
 rintro e w' ⟨rfl,hb⟩
 have h0:b.size≠0:=fun h=>hs (List.eq_nil_of_length_eq_zero (by simpa using h))
 have e:Lib.decodeGo b=Lib.decodeL b.data.toList:=by
  unfold Lib.decodeGo Lib.decodeL
  rw [if_neg h0]
 rw [e]
 have h1:=qDN b.data.toList
 have h2:=Lib.decodeL_le b.data.toList hs
 have h3:b.data.toList.length≤maxLen:=by simpa using hm
 refine ⟨_,rfl,.tup rfl fun i u d hu hd => ?_,hb⟩
 match i,hu,hd with
 | 0,hu,hd=>simp at hu hd; subst hu; subst hd; exact .int (by rw [wY]; simp only [wN]; omega) (by rw [wR]; simp only [wO]; omega)
 | 1,hu,hd=>simp at hu hd; subst hu; subst hd; exact .int (by rw [wY]; simp only [wN]; omega) (by rw [wR]; simp only [wO]; unfold maxLen at h3; omega)
 | i+2,hu,hd=>simp at hu
theorem qRD (s:List UInt8) (pos:Nat):qGM s pos=Lib.decodeL (s.drop pos):=by
 unfold qGM Lib.decodeL
 rw [Lib.decode_at,Lib.decode_at]
 have g:∀ k,(⟨s.toArray⟩:ByteArray).get! (pos+k)=(⟨(s.drop pos).toArray⟩:ByteArray).get! (0+k):=by
  intro k
  show s.toArray[pos+k]! = (s.drop pos).toArray[0+k]!
  simp
 have g0:=g 0
 have g1:=g 1
 have g2:=g 2
 have g3:=g 3
 simp only [Nat.add_zero,Nat.zero_add] at g0 g1 g2 g3
 have hsz:(⟨s.toArray⟩:ByteArray).size-pos=(⟨(s.drop pos).toArray⟩:ByteArray).size-0:=by simp [ByteArray.size]
 rw [hsz,g0,g1,g2,g3]
def qC (r:Nat):List UInt8 :=
 if r=34∨r=92 then 92::Lib.encodeRune r else if r=10 then [92,110] else if r=13 then [92,114] else if r=9 then [92,116]
 else if 32≤r∧r≠127 then Lib.encodeRune r else [92,117,48,48,xD (r / 16),xD (r % 16)]
theorem qOE (l:List UInt8):(Lib.decodeL l).1<55296∨57343<(Lib.decodeL l).1:=by
 rw [qDO l]
 unfold Lib.decodeN
 have:=(l.getD 0 0).toNat_lt
 repeat' split
 all_goals simp only
 all_goals omega
theorem zAW (b:UInt8) (h:b.toNat<128):qC b.toNat=qb b:=by
 have henc:=qSS h
 have key:∀ k:Fin 128,(k.val=34∨k.val=92)=(UInt8.ofNat k.val=34∨UInt8.ofNat k.val=92)∧(k.val=10)=(UInt8.ofNat k.val=10)∧(k.val=13)=(UInt8.ofNat k.val=13)∧(k.val=9)=(UInt8.ofNat k.val=9)∧(¬ (32≤k.val∧k.val≠127))=(UInt8.ofNat k.val<32∨UInt8.ofNat k.val=127):=by decide +kernel
 have k:=key ⟨b.toNat,h⟩
 simp only [UInt8.ofNat_toNat] at k
 obtain ⟨k1,k2,k3,k4,k5⟩:=k
 unfold qC qb
 rw [henc]
 simp only [k1,k2,k3,k4,← k5]
 split
 ·rfl
 split
 ·rfl
 split
 ·rfl
 split
 ·rfl
 split
 ·rfl
 rfl
theorem qXJ (r:Nat) (h:128≤r):qC r=Lib.encodeRune r:=by
 unfold qC
 rw [if_neg (by omega),if_neg (by omega),if_neg (by omega),if_neg (by omega),if_pos (by omega)]
theorem qND {l:List UInt8} (hne:l≠[]) (hv:Lib.validD l=true):wQ l=qC (Lib.decodeL l).1++wQ (l.drop (Lib.decodeL l).2)∧Lib.validD (l.drop (Lib.decodeL l).2)=true:=by
 obtain ⟨b,t,rfl⟩:∃ b t,l=b::t:=by cases l with
  | nil=>exact absurd rfl hne
  | cons b t=>exact ⟨b,t,rfl⟩
 by_cases hb:b.toNat<128
 ·rw [qOF hb,zAW b hb]
  rw [Lib.validD_cons b t hb] at hv
  exact ⟨rfl,hv⟩
 rw [Lib.validD_step _ hne] at hv
 split at hv
 ·cases hv
 rename_i hok
 obtain ⟨h1,h2⟩:=qRN (b::t) hne hok (by simpa using by omega)
 have henc:=Lib.encode_decode (b::t) hne hok
 refine ⟨?_,hv⟩
 rw [qXJ _ h2,henc]
 conv=>lhs; rw [← List.take_append_drop (Lib.decodeL (b::t)).2 (b::t)]
 rw [qBA,qQM h1]
theorem qXI (r:Nat):(qC r).length≤6:=by
 have:=(Lib.encodeRuneZ_length r).2
 unfold qC
 have h:(Lib.encodeRune r).length≤4:=by simpa only [Lib.encodeRune,List.length_map] using this
 repeat' split
 all_goals simp <;> omega
theorem zBA:∀ k:Fin 16,([48,49,50,51,52,53,54,55,56,57,97,98,99,100,101,102]:List UInt8)[k.val]?=some (xD k.val):=by decide +kernel
theorem zBE:∀ k:Fin 128,IntKind.i32.wrap ↑(k.val % 2 ^ IntKind.i32.bits &&& 15 % 2 ^ IntKind.i32.bits)=((k.val % 16:Nat):Int):=by decide +kernel
theorem zCO (r:Nat):(r:Int).fdiv (2 ^ min 4 IntKind.i32.bits)=((r / 16:Nat):Int):=(Int.fdiv_eq_ediv_of_nonneg _ (by decide)).trans (by show (r:Int) / 16=_; omega)
theorem qMO (s:List UInt8) (hv:Lib.validD s=true) (hs:s.length≤1000000000):AFn Tryz.prog G 115 [.str s] (.str (zM s)):=by
 refine AFn.introU tok Tryz.func115 (by kernel_rfl) rfl rfl ?_
 simp only [Tryz.f115,qK,List.map_cons,List.map_nil]
 refine rgn [] [[0]] ?_
 refine op1 tok ?_
 refine qA (rgn [] [[]] ?_)
 refine op1 tok ?_
 refine qA ?_
 refine AW.renE 3 2 (by simp) (by conv=>lhs; simp) ?_
 refine AW.beginBox 2 3 1 5 1 (by simp; exact ⟨rfl,rfl⟩) (by simp) (by simp) (by conv=>lhs; simp) ?_
 refine AW.seqRegionO [] ?_
 refine qF.stepK [0,3] (yC rfl (qGQ [] 34 (by simp)) (by simp)) (by conv=>lhs; simp) rfl ?_
 refine qF.nil ?_
 refine AW.seq (rgn [] [[],[3,8]] ?_)
 iterate 2 refine op1 tok ?_
 refine qA (AW.block ?_)
 refine AW.loop (α:=Nat × List UInt8) (fun a=>a.1≤s.length∧Lib.validD (s.drop a.1)=true∧zM s=a.2++(wQ (s.drop a.1)++[34])∧a.2.length≤6 * a.1+1) (fun a=>⟨zA 47 [(3,.ptr 2 0),(8,.it 8)],[],[(2,.vars 163 [.ptr 2 0,.ms 3]),(3,.row 5 1 (qE a.2)),(8,.iter s a.1)],0⟩) (fun a=>s.length-a.1) ((0,[34])) ⟨by simp,by simpa using hv,by simp [zM],by simp⟩ ⟨qG (by simp),rfl,by simp,by simp⟩ ?_
 rintro ⟨pos,out⟩ ⟨hp,hvp,hq,hol⟩
 simp only at hp hvp hq hol
 by_cases hs4:pos<s.length
 ·
  refine rgn [.bool true] [[],[]] ?_
  iterate 2 refine oq1 tok hs4 ?_
  refine qA (AW.seq (cnd ?_ ?_))
  ·intro h10
   try simp at h10
   have hne:s.drop pos≠[]:=by intro e; have:=congrArg List.length e; simp at this; omega
   obtain ⟨hst,hvn⟩:=qND hne hvp
   have hok:=qOE (s.drop pos)
   have hmx:=qDN (s.drop pos)
   have hwl:=Lib.decodeL_le (s.drop pos) hne
   rw [← qRD] at hst hvn hok hmx hwl
   rw [List.length_drop] at hwl
   rw [List.drop_drop] at hst hvn
   have hdp:=qUD hs4
   generalize qGM s pos=p at *
   obtain ⟨r,w⟩:=p
   simp only at *
   have hlen:=qXI r
   have hnext:zM s=out++qC r++(wQ (s.drop (pos+w))++[34]):=by rw [hq,hst]; simp
   refine AW.skip (AW.block (rgn [] [[],[3,5,8]] ?_))
   iterate 2 refine op1 tok ?_
   refine qA (rgn [] [[]] ?_)
   refine op1 tok ?_
   refine qA (AW.block (AW.seq (rgn [] [[],[3,5,8,12,30]] ?_)))
   iterate 2 refine op1 tok ?_
   refine qA (cnd ?_ ?_)
   ·intro h30
    try simp at h30
    refine AW.skip (cnd ?_ ?_)
    ·intro h30
     try simp at h30
     refine AW.seqRegionO [] ?_
     refine qF.stepK [3,5,8] (yC rfl (kC out 92 (by omega)) (by simp)) (by conv=>lhs; simp) rfl ?_
     refine qF.nil ?_
     have hqc:qC r=92::Lib.encodeRune r:=by unfold qC; rw [if_pos (by omega)]
     refine rgz [] [[]] ?_
     refine op1 tok ?_
     refine zG ?_
     refine qF.stepK [3,8] (yC rfl (vC (out++[92]) r (by simp; omega) (by omega) (by omega) (by omega)) (by simp)) (by conv=>lhs; simp) rfl ?_
     refine qF.nil ?_
     exact ⟨(pos+w,out++qC r),⟨by simp only []; omega,hvn,hnext,by simp; omega⟩,by simp only []; omega,qG (by simp [hqc,qE]),rfl,by simp [hqc,qE],by simp [hqc,qE]⟩
    intro h30
    try simp at h30
    omega
   intro h30
   try simp at h30
   refine rgz [] [[],[3,5,8,12,30]] ?_
   iterate 2 refine op1 tok ?_
   refine qA (cnd ?_ ?_)
   ·intro h30
    try simp at h30
    refine AW.seqRegionO [] ?_
    refine qF.stepK [3,5,8] (yC rfl (kC out 92 (by omega)) (by simp)) (by conv=>lhs; simp) rfl ?_
    refine qF.nil ?_
    have hqc:qC r=92::Lib.encodeRune r:=by unfold qC; rw [if_pos (by omega)]
    refine rgz [] [[]] ?_
    refine op1 tok ?_
    refine zG ?_
    refine qF.stepK [3,8] (yC rfl (vC (out++[92]) r (by simp; omega) (by omega) (by omega) (by omega)) (by simp)) (by conv=>lhs; simp) rfl ?_
    refine qF.nil ?_
    exact ⟨(pos+w,out++qC r),⟨by simp only []; omega,hvn,hnext,by simp; omega⟩,by simp only []; omega,qG (by simp [hqc,qE]),rfl,by simp [hqc,qE],by simp [hqc,qE]⟩
   intro h30
   try simp at h30
   refine rgn [] [[],[3,5,8,12,36]] ?_
   iterate 2 refine op1 tok ?_
   refine qA (cnd ?_ ?_)
   ·intro h36
    try simp at h36
    have hqc:qC r=[92,110]:=by unfold qC; rw [if_neg (by omega),if_pos (by omega)]
    refine AW.regionO [] ?_
    refine qF.stepK [3,8] (yC rfl (kB out [92,110] (by omega) (by simp)) (by simp)) (by conv=>lhs; simp) rfl ?_
    refine qF.nil ?_
    exact ⟨(pos+w,out++qC r),⟨by simp only []; omega,hvn,hnext,by simp; omega⟩,by simp only []; omega,qG (by simp [hqc,qE]),rfl,by simp [hqc,qE],by simp [hqc,qE]⟩
   intro h36
   try simp at h36
   refine rgn [] [[],[3,5,8,12,39]] ?_
   iterate 2 refine op1 tok ?_
   refine qA (cnd ?_ ?_)
   ·intro h39
    try simp at h39
    have hqc:qC r=[92,114]:=by unfold qC; rw [if_neg (by omega),if_neg (by omega),if_pos (by omega)]
    refine AW.regionO [] ?_
    refine qF.stepK [3,8] (yC rfl (kB out [92,114] (by omega) (by simp)) (by simp)) (by conv=>lhs; simp) rfl ?_
    refine qF.nil ?_
    exact ⟨(pos+w,out++qC r),⟨by simp only []; omega,hvn,hnext,by simp; omega⟩,by simp only []; omega,qG (by simp [hqc,qE]),rfl,by simp [hqc,qE],by simp [hqc,qE]⟩
   intro h39
   try simp at h39
   refine rgn [] [[],[3,5,8,42]] ?_
   iterate 2 refine op1 tok ?_
   refine qA (cnd ?_ ?_)
   ·intro h42
    try simp at h42
    have hqc:qC r=[92,116]:=by unfold qC; rw [if_neg (by omega),if_neg (by omega),if_neg (by omega),if_pos (by omega)]
    refine AW.regionO [] ?_
    refine qF.stepK [3,8] (yC rfl (kB out [92,116] (by omega) (by simp)) (by simp)) (by conv=>lhs; simp) rfl ?_
    refine qF.nil ?_
    exact ⟨(pos+w,out++qC r),⟨by simp only []; omega,hvn,hnext,by simp; omega⟩,by simp only []; omega,qG (by simp [hqc,qE]),rfl,by simp [hqc,qE],by simp [hqc,qE]⟩
   intro h42
   try simp at h42
   refine AW.seq (rgn [] [[],[],[],[],[],[3,5,8,18]] ?_)
   iterate 3 refine op1 tok ?_
   iterate 2 refine op2 tok ?_
   refine op1 tok ?_
   refine qA (cnd ?_ ?_)
   ·intro h18
    try simp at h18
    have hqc:qC r=Lib.encodeRune r:=by unfold qC; rw [if_neg (by omega),if_neg (by omega),if_neg (by omega),if_neg (by omega),if_pos (by omega)]
    refine rgn [] [[]] ?_
    refine op1 tok ?_
    refine zG ?_
    refine qF.stepK [3,8] (yC rfl (vC out r (by omega) (by omega) (by omega) (by omega)) (by simp)) (by conv=>lhs; simp) rfl ?_
    refine qF.nil ?_
    refine AW.exit ?_
    simp
    exact ⟨pos+w,out++qC r,⟨by omega,hvn,by simpa using hnext,by simp; omega⟩,by omega,qG (by simp [hqc,qE]),rfl,by simp [hqc,qE],by simp [hqc,qE]⟩
   intro h18
   try simp at h18
   refine AW.skip ?_
   have hqc:qC r=[92,117,48,48,xD (r / 16),xD (r % 16)]:=by unfold qC; rw [if_neg (by omega),if_neg (by omega),if_neg (by omega),if_neg (by omega),if_neg (by omega)]
   refine AW.seqRegionO [] ?_
   refine qF.stepK [3,5,8] (yC rfl (kB out [92,117,48,48] (by omega) (by simp)) (by simp)) (by conv=>lhs; simp) rfl ?_
   refine qF.nil ?_
   refine rgn [.int .u8 (xD (r / 16)).toNat] [[],[],[]] ?_
   iterate 3 refine op1 tok ?_ (hv:=by first | with_reducible exact True.intro | (rw [zCO]; exact ⟨by omega,_,zBA ⟨r / 16,by omega⟩,rfl⟩; done) | omega | simp | (simp +contextual; omega))
   refine zG ?_
   refine qF.stepK [3,5,8] (yC rfl (kC (out++[92,117,48,48]) (xD (r / 16)) (by simp; omega)) (by simp)) (by conv=>lhs; simp) rfl ?_
   refine qF.nil ?_
   refine rgz [.int .u8 (xD (r % 16)).toNat] [[],[],[]] ?_
   iterate 3 refine op1 tok ?_ (hv:=by first | with_reducible exact True.intro | (rw [zBE ⟨r,by omega⟩]; exact ⟨by omega,_,zBA ⟨r % 16,by omega⟩,rfl⟩; done) | omega | simp | (simp +contextual; omega))
   refine zG ?_
   refine qF.stepK [3,8] (yC rfl (kC (out++[92,117,48,48,xD (r / 16)]) (xD (r % 16)) (by simp; omega)) (by simp)) (by conv=>lhs; simp) rfl ?_
   refine qF.nil ?_
   exact ⟨(pos+w,out++qC r),⟨by simp only []; omega,hvn,hnext,by simp; omega⟩,by simp only []; omega,qG (by simp [hqc,qE]),rfl,by simp [hqc,qE],by simp [hqc,qE]⟩
  intro h10
  try simp at h10
 ·
  refine rgn [.bool false] [[],[]] ?_
  iterate 2 refine oq1 tok hs4 ?_
  refine qA (AW.seq (cnd ?_ ?_))
  ·intro h10
   try simp at h10
  intro h10
  try simp at h10
  refine AW.exit ?_
  simp
  obtain rfl:pos=s.length:=by omega
  simp only [List.drop_length,wQ,List.flatMap_nil,List.nil_append] at hq
  refine AW.seqRegionO [] ?_
  refine qF.stepK [3] (yC rfl (kC out 34 (by omega)) (by simp)) (by conv=>lhs; simp) rfl ?_
  refine qF.nil ?_
  refine AW.seqRegionO [] ?_
  refine qF.stepK [46] (yC rfl (qRS (out++[34])) (by simp)) (by conv=>lhs; simp) rfl ?_
  refine qF.run [[2]] ?_
  refine op1 tok ?_
  refine qA ?_
  exact AW.ret (qO (k:=by simp [hq]))
end Go.Proofs.YtgcbapchinideaaGreatDoor
