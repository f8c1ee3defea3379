import Derived.Test.YtgcbapchinideaaGreatDoorK1
import Derived.Test.YtgcbapchinideaaGreatDoorK2
namespace Go.Proofs.YtgcbapchinideaaGreatDoor
open Sy Go
set_option maxRecDepth 100000
set_option maxHeartbeats 4000000
set_option linter.unusedSimpArgs false
set_option linter.unusedVariables false
variable {G:qM}
theorem qYH (l:List UInt8) (hl:l.length≤1000000):AX Tryz.prog G 94 [.ms 90] [(90,.row 5 1 (qI l))] (.tuple []) [90] [(90,.row 5 1 (qI l.reverse))]:=by
 refine AX.introU tok 700 Tryz.func94 (by kernel_rfl) rfl rfl ?_
 simp only [Tryz.f94,qO,List.map_cons,List.map_nil]
 refine rgn [] [[],[],[],[],[0,2,3]] ?_
 iterate 5 refine op1 tok ?_
 refine qA (AW.block ?_)
 refine AW.loop (α:=Nat) (fun k=>k≤l.length) (fun k=>⟨zF 28 [(0,.ms 90),(2,.p (.int .i64 k)),(3,.p (.int .i64 ((l.length:Int)-1-k)))],[90],[(90,.row 5 1 (qI (qHR l k)))],700⟩) (fun k=>l.length-k) (0) (by omega) ⟨qF (by simp),rfl,by simp [qSC],by simp⟩ ?_
 rintro k hk
 have hlen:=xX l k
 refine AW.seq (rgn [] [[],[],[0,2,3,9]] ?_)
 iterate 3 refine op1 tok ?_
 refine qA (cnd ?_ ?_)
 ·intro h9
  try simp at h9
  have h2:2 * k+1<l.length:=by omega
  have g1:=xY l k (i:=k) (by omega)
  have g2:=xY l k (i:=l.length-1-k) (by omega)
  rw [if_neg (by omega)] at g1 g2
  have hst:=qSD l h2
  generalize l.getD k 0=x at *
  generalize l.getD (l.length-1-k) 0=y at *
  generalize qHR l k=R at *
  have hix:((l.length:Int)-1-k).toNat=l.length-1-k:=by omega
  have b1:(qI R)[k]?=some (.int .u8 x.toNat):=xA g1
  have b2:(qI R)[l.length-1-k]?=some (.int .u8 y.toNat):=xA g2
  have b3:((qI R).set k (.int .u8 y.toNat))[l.length-1-k]?=some (.int .u8 y.toNat):=by rw [List.getElem?_set_ne (by omega)]; exact b2
  refine AW.skip (AW.seq (AW.block ?_))
  refine AW.drawR mixed 14 [[0],[2],[0],[3],[0],[3],[18,19],[20],[0],[2],[22,23],[24],[14,15],[26,21]] [.int .u8 y.toNat,.int .u8 x.toNat] (by kernel_rfl) ?_
  iterate 2 refine yP.one tok (orc:=[]) (by intro C; conv=>lhs; simp) (by first | with_reducible exact True.intro | (first | (simp [b1,b2,hix,hlen]; done) | (simp [b1,b2,hix,hlen]; omega); done) | omega | simp | (simp +contextual; omega)) rfl (by kernel_rfl) ?_
  refine yP.q [90] (.ms 90) rfl (qXU tok (orc:=[]) (orc':=[]) (v:=True) (by conv=>lhs; simp) trivial) (by simp) (by kernel_rfl) (by conv=>lhs; simp) ?_
  iterate 4 refine yP.one tok (orc:=[]) (by intro C; conv=>lhs; simp) (by first | with_reducible exact True.intro | (first | (simp [b1,b2,hix,hlen]; done) | (simp [b1,b2,hix,hlen]; omega); done) | omega | simp | (simp +contextual; omega)) rfl (by kernel_rfl) ?_
  refine yP.one tok (orc:=[.int .u8 y.toNat]) (by intro C; conv=>lhs; simp) (by first | with_reducible exact True.intro | (first | (simp [b1,b2,hix,hlen]; done) | (simp [b1,b2,hix,hlen]; omega); done) | omega | simp | (simp +contextual; omega)) rfl (by kernel_rfl) ?_
  iterate 3 refine yP.one tok (orc:=[]) (by intro C; conv=>lhs; simp) (by first | with_reducible exact True.intro | (first | (simp [b1,b2,hix,hlen]; done) | (simp [b1,b2,hix,hlen]; omega); done) | omega | simp | (simp +contextual; omega)) rfl (by kernel_rfl) ?_
  refine yP.one tok (orc:=[.int .u8 x.toNat]) (by intro C; conv=>lhs; simp) (by first | with_reducible exact True.intro | (first | (simp [b1,b2,hix,hlen]; done) | (simp [b1,b2,hix,hlen]; omega); done) | omega | simp | (simp +contextual; omega)) rfl (by kernel_rfl) ?_
  refine yP.one tok (orc:=[]) (by intro C; conv=>lhs; simp) (by first | with_reducible exact True.intro | (first | (simp [b1,b2,hix,hlen]; done) | (simp [b1,b2,hix,hlen]; omega); done) | omega | simp | (simp +contextual; omega)) rfl (by kernel_rfl) ?_
  refine yP.one tok (orc:=[.int .u8 x.toNat,.int .u8 y.toNat]) (by intro C; conv=>lhs; simp) (by first | with_reducible exact True.intro | (first | (simp [b1,b2,hix,hlen]; done) | (simp [b1,b2,hix,hlen]; omega); done) | omega | simp | (simp +contextual; omega)) rfl (by kernel_rfl) ?_
  refine yP.nil (by kernel_rfl) ⟨by kernel_rfl, ?_⟩
  refine qH.run [[],[0,2,3]] ?_
  iterate 2 refine op1 tok ?_ (hv:=by first | with_reducible exact True.intro | (first | (simp [b3,hix,hlen]; done) | (simp [b3,hix,hlen]; omega); done) | omega | simp | (simp +contextual; omega))
  refine qA (rgz [] [[],[],[],[0,11,13],[],[0,2,3]] ?_)
  iterate 6 refine op1 tok ?_
  refine qA ?_
  exact ⟨k+1,by omega,by omega,qF (by simp [← hst,qAB,show (l.length:Int)-1-k-1=l.length-1-(k+1) from by omega]),rfl,by simp [← hst,qAB,show (l.length:Int)-1-k-1=l.length-1-(k+1) from by omega],by simp [← hst,qAB,show (l.length:Int)-1-k-1=l.length-1-(k+1) from by omega]⟩
 intro h9
 try simp at h9
 have hall:=qUP l (k:=k) (by omega)
 rw [← hall]
 refine AW.exit ?_
 simp
 exact qZY
theorem qTX (n:Int) (h0 : -9223372036854775808≤n) (h1:n≤9223372036854775807):AFn Tryz.prog G 64 [.int .i64 n] ((vD n).enc):=by
 refine AFn.introU tok Tryz.func64 (by kernel_rfl) rfl rfl ?_
 simp only [Tryz.f64,qO,List.map_cons,List.map_nil]
 have hU:n.natAbs<10 ^ 20:=by omega
 have hdl:=qHB 20 n.natAbs hU
 have hmd:=qFC (G:=G) (decide (n<0)) (jF n.natAbs) 0 (by omega) (by omega)
 have hI:vD n=(zQ (decide (n<0)) (jF n.natAbs) 0).1:=rfl
 rw [hI]
 generalize zQ (decide (n<0)) (jF n.natAbs) 0=r1 at *
 obtain ⟨q1,e1⟩:=r1
 simp only [Dc.enc] at hmd
 refine rgn [] [[]] ?_
 refine op1 tok ?_
 refine qA (rgn [] [[],[],[0,2,3]] ?_)
 iterate 3 refine op1 tok ?_
 refine qA ?_
 refine AW.join (α:=Unit) (fun _=>True) (fun a=>⟨zF 35 [(0,.p (.int .i64 n)),(2,.ptr 2 0),(3,.p (.int .u64 (n.natAbs:Nat)))],[],[(2,.vars 26 [.p (.bool false),.p (.str []),.p (.int .i64 0)])],0⟩) ?_ ?_
 ·
  refine rgn [] [[],[0,2,3,10]] ?_
  iterate 2 refine op1 tok ?_
  refine qA (cnd ?_ ?_)
  ·intro h10
   try simp at h10
   have hw:IntKind.u64.wrap (-(IntKind.u64.wrap n))=(n.natAbs:Nat):=by simp [IntKind.wrap,IntKind.bits,IntKind.signed]; omega
   refine rgz [] [[],[],[0,2,3]] ?_
   iterate 3 refine op1 tok ?_
   refine qA ?_
   exact ⟨(),trivial,qF (by simp [hw]),rfl,by simp [hw],by simp [hw]⟩
  intro h10
  try simp at h10
  have hw:IntKind.u64.wrap n=(n.natAbs:Nat):=by simp [IntKind.wrap,IntKind.bits,IntKind.signed]; omega
  refine AW.skip ?_
  exact ⟨(),trivial,qF (by simp [hw]),rfl,by simp [hw],by simp [hw]⟩
 ·
  rintro a hI
  refine rgn [] [[]] ?_
  refine op1 tok ?_
  refine qA (AW.seq (AW.block ?_))
  refine AW.beginE 4 90 5 1 (by simp) (by simp) (by conv=>lhs; simp) ?_
  refine AW.loop (α:=Nat × List UInt8) (fun s=>jF n.natAbs=jF s.1++s.2.reverse∧s.1≤n.natAbs) (fun s=>⟨zF 35 [(0,.p (.int .i64 n)),(2,.ptr 2 0),(3,.p (.int .u64 (s.1:Nat))),(4,.ms 90)],[],[(2,.vars 26 [.p (.bool false),.p (.str []),.p (.int .i64 0)]),(90,.row 5 1 (qI s.2))],0⟩) (fun s=>s.1) ((n.natAbs,[])) ⟨by simp,Nat.le_refl _⟩ ⟨qF (by simp),rfl,by simp [qI],by simp⟩ ?_
  rintro ⟨u,l⟩ ⟨hu,hle⟩
  simp only at hu hle
  have hll:l.length≤20:=by have:=congrArg List.length hu; simp at this; omega
  refine AW.seq (rgn [] [[],[0,2,3,4,14]] ?_)
  iterate 2 refine op1 tok ?_
  refine qA (cnd ?_ ?_)
  ·intro h14
   try simp at h14
   have hup:0<u:=by omega
   rw [qHA hup,List.append_assoc] at hu
   have hd:u % 10<10:=Nat.mod_lt _ (by decide)
   have dm:(u:Int).tmod 10=((u % 10:Nat):Int):=(Int.ofNat_tmod u 10).symm
   have dc:IntKind.u8.wrap (IntKind.u64.wrap (48+(u:Int) % 10))=((UInt8.ofNat (48+u % 10)).toNat:Int):=by
    rw [show (UInt8.ofNat (48+u % 10)).toNat=48+u % 10 by rw [UInt8.toNat_ofNat']; omega,show (u:Int) % 10=((u % 10:Nat):Int) from rfl]
    simp [IntKind.wrap,IntKind.bits,IntKind.signed]; omega
   have dq:IntKind.u64.wrap ((u:Int) / 10)=((u / 10:Nat):Int):=by simp [IntKind.wrap,IntKind.bits,IntKind.signed]; omega
   generalize UInt8.ofNat (48+u % 10)=D at *
   refine AW.skip (AW.seq (AW.block (rgz [.int .u8 D.toNat] [[],[],[],[],[0,2,3,17,21],[],[],[0,2,3,4]] ?_)))
   iterate 8 refine op1 tok ?_ (h:=by intro C; conv=>lhs; simp [dm,dc]) (hv:=by first | with_reducible exact True.intro | ((simp [dm,dc]); done) | omega | simp | (simp +contextual; omega))
   refine qA (rgz [] [[],[],[0,2,3,4]] ?_)
   iterate 3 refine op1 tok ?_
   refine qA ?_
   exact ⟨(u / 10,l++[D]),⟨by simp only [List.reverse_append,List.reverse_singleton]; exact hu,by simp only; omega⟩,by simp only; omega,qF (by simp [dq,qI]),rfl,by simp [dq,qI],by simp [dq,qI]⟩
  intro h14
  try simp at h14
  obtain rfl:u=0:=by omega
  rw [jL,List.nil_append] at hu
  have hrv:=qYH (G:=G) l (by omega)
  rw [← hu] at hrv
  refine AW.exit ?_
  simp
  refine rgn [] [[]] ?_
  refine op1 tok ?_
  refine zS ?_
  refine qH.stepK [0,2,4] (yQ rfl hrv (by simp)) (by conv=>lhs; simp) rfl ?_
  refine qH.nil ?_
  refine rgn [.str (jF n.natAbs),.nilp,.tup [q1.enc,.int .i64 e1]] [[],[],[],[2,28,30],[],[],[],[2,32,33],[],[],[2,5]] ?_
  iterate 11 refine oq1 tok hmd ?_
  refine qA (rgn [] [[],[2]] ?_)
  iterate 2 refine op1 tok ?_
  exact qA (AW.ret qK)
end Go.Proofs.YtgcbapchinideaaGreatDoor
