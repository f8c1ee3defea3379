import Derived.Test.YtgcbapchinideaaGreatDoorSDecAdd
namespace Go.Proofs.YtgcbapchinideaaGreatDoor
open Sy Go
set_option maxRecDepth 100000
set_option maxHeartbeats 4000000
set_option linter.unusedSimpArgs false
set_option linter.unusedVariables false
variable {G:qJ}
theorem qNZ {l:List Nat} (h:okL l):zF (xW (9 * l.length) (qL l))=qL l:=by
 rw [qLU,Nat.mod_eq_of_lt]
 rw [Nat.pow_mul]
 exact vT h
theorem qAI (neg : Bool) {l : List Nat} (hl : okL l) (h : l.length ≤ 1000000) (sc : Nat) (hs : sc ≤ 1000000) :
  AFn Tryz.prog G 95 [.bool neg,.str (xW (9 * l.length) (qL l)),.int .i64 sc] (.tup [(kY neg (qL l) sc).1.enc,.int .i64 (kY neg (qL l) sc).2]):=by
 have:=qPI (G:=G) neg (xW (9 * l.length) (qL l)) sc (by rw [qBL]; omega) (by omega)
 rwa [qSV neg (qLV _ _),qNZ hl] at this
def qIF (a b:Dc):Nat:=zF (kX a (zZ a b))
def qIE (a b:Dc):Nat:=zF (kX b (zZ a b))
def qCU (a b:Dc):Dc × Int :=
 if a.neg=b.neg then kY a.neg (qIF a b+qIE a b) (zZ a b).toNat
 else if qIE a b≤qIF a b then kY a.neg (qIF a b-qIE a b) (zZ a b).toNat else kY b.neg (qIE a b-qIF a b) (zZ a b).toNat
theorem qQT {l m:List Nat} (hl:qDS l) (hm:qDS m):(0≤jT l m)↔qL m≤qL l:=by
 have h:=qLC hl hm
 unfold sgn at h
 constructor
 ·intro h0
  rw [if_neg (show ¬ jT l m<0 by omega)] at h
  split at h <;> split at h <;> (try split at h) <;> omega
 intro h0
 rw [if_neg (show ¬ ((qL l:Int)-qL m<0) by omega)] at h
 split at h <;> split at h <;> (try split at h) <;> omega
theorem qPU {l m:List Nat} (hl:qDS l) (hm:qDS m) (h:qL m≤qL l):m.length≤l.length:=by
 apply Nat.le_of_not_lt
 intro h2
 have:=qFA hl hm h2
 omega
theorem qRY (a b:Dc) (ha:okD a) (hb:okD b):AFn Tryz.prog G 131 [a.enc,b.enc] (.tup [(qCU a b).1.enc,.int .i64 (qCU a b).2]):=by
 refine AFn.introU tok Tryz.func131 (by kernel_rfl) rfl rfl ?_
 simp only [Tryz.f131,qK,List.map_cons,List.map_nil]
 have hal:=qOP (G:=G) a b ha hb
 obtain ⟨a1,a2,a3,a4⟩:=ha
 obtain ⟨b1,b2,b3,b4⟩:=hb
 have hm3:zZ a b≤1000:=by unfold zZ; split <;> omega
 have hm0:0≤zZ a b:=by unfold zZ; split <;> omega
 have hx:=qLA (qBK a4 (zZ a b-a.scale).toNat)
 have hy:=qLA (qBK b4 (zZ a b-b.scale).toNat)
 have vx:=qKY (qBK a4 (zZ a b-a.scale).toNat)
 have vy:=qKY (qBK b4 (zZ a b-b.scale).toNat)
 have lx:(jH (kX a (zZ a b))).length≤2000:=by have:=qKZ (kX a (zZ a b)); simp [kX] at *; omega
 have ly:(jH (kX b (zZ a b))).length≤2000:=by have:=qKZ (kX b (zZ a b)); simp [kX] at *; omega
 have hD:qCU a b=if a.neg=b.neg then kY a.neg (qIF a b+qIE a b) (zZ a b).toNat else if qIE a b≤qIF a b then kY a.neg (qIF a b-qIE a b) (zZ a b).toNat else kY b.neg (qIE a b-qIF a b) (zZ a b).toNat:=rfl
 rw [show qIF a b=qL (jH (kX a (zZ a b))) from vx.symm,show qIE a b=qL (jH (kX b (zZ a b))) from vy.symm] at hD
 rw [hD]
 change qDS (jH (kX a (zZ a b))) at hx
 change qDS (jH (kX b (zZ a b))) at hy
 clear vx vy hD
 generalize jH (kX a (zZ a b))=x at *
 generalize jH (kX b (zZ a b))=y at *
 obtain ⟨sc,hsc⟩:∃ sc:Nat,zZ a b=sc:=⟨(zZ a b).toNat,by omega⟩
 rw [hsc] at hal ⊢
 rw [Int.toNat_natCast]
 have hcm:=qQU (G:=G) x y (by omega) (by omega)
 have hge:=qQT hx hy
 generalize jT x y=c at *
 have hp:=qVT (G:=G) x y hx.1 hy.1 (by omega) (by omega)
 obtain ⟨op,vp⟩:=qRR hx.1 hy.1
 have lp:=qUR x y
 generalize qJL x y=p at *
 have dp:=qCQ (G:=G) p op (by omega)
 have mp:=qAI (G:=G) a.neg op (by omega) sc (by omega)
 have hq:=qHF (G:=G) x y hx.1 hy.1 (by omega) (by omega)
 have sq:=fun h=>qGW hx.1 hy.1 (qPU hx hy h) h
 have lq:=qKD x y
 generalize qIK x y=q at *
 have hr:=qHF (G:=G) y x hy.1 hx.1 (by omega) (by omega)
 have sr:=fun h=>qGW hy.1 hx.1 (qPU hy hx h) h
 have lr:=qKD y x
 generalize qIK y x=r at *
 refine rgn [] [[],[],[],[2,3,4]] ?_
 iterate 4 refine op1 tok ?_
 refine qA (rgn [.nilp,.tup [.sl 1 (x.map zC),.sl 1 (y.map zC),.int .i64 sc]] [[],[],[],[],[],[],[2,3,4,13,14,15],[],[],[2,3,4,6,7,8]] ?_)
 iterate 10 refine oq1 tok hal ?_
 refine qA (AW.seq (AW.block (rgn [] [[],[],[],[],[2,3,4,6,7,8,21],[2,3,4,6,7,8,16]] ?_)))
 iterate 6 refine op1 tok ?_
 refine qA (cnd ?_ ?_)
 ·intro h16
  try simp at h16
  rw [if_pos h16,← vp]
  generalize xW (9 * p.length) (qL p)=dg at *
  generalize kY a.neg (qL p) sc=R at *
  refine AW.seqDrawS tok mixed 10 [[2],[22],[6],[7],[24,25],[26],[8],[23,27,28],[29],[29]] [.nilp,.sl 1 (p.map zC),.nilp,.str dg,.nilp,.tup [R.1.enc,.int .i64 R.2]] [] (by kernel_rfl) ?_
  iterate 10 refine dq1 (ai hp (ai dp mp)) ?_
  refine DGo.nil (by kernel_rfl) ⟨by kernel_rfl, ?_⟩
  refine qF.run [[],[4,5]] ?_
  iterate 2 refine op1 tok ?_
  exact qA (AW.ret qO)
 intro h16
 try simp at h16
 rw [if_neg h16]
 refine rgn [.nilp,.int .i64 c] [[],[],[],[],[2,3,4,6,7,8,32]] ?_
 iterate 5 refine oq1 tok hcm ?_
 refine qA (cnd ?_ ?_)
 ·intro h32
  try simp at h32
  obtain ⟨oq,vq⟩:=sq (hge.1 h32)
  rw [if_pos (hge.1 h32),← vq]
  have dq:=qCQ (G:=G) q oq (by omega)
  have mq:=qAI (G:=G) a.neg oq (by omega) sc (by omega)
  generalize xW (9 * q.length) (qL q)=dg at *
  generalize kY a.neg (qL q) sc=R at *
  refine AW.seqDrawS tok mixed 10 [[2],[37],[6],[7],[39,40],[41],[8],[38,42,43],[44],[44]] [.nilp,.sl 1 (q.map zC),.nilp,.str dg,.nilp,.tup [R.1.enc,.int .i64 R.2]] [] (by kernel_rfl) ?_
  iterate 10 refine dq1 (ai hq (ai dq mq)) ?_
  refine DGo.nil (by kernel_rfl) ⟨by kernel_rfl, ?_⟩
  refine qF.run [[],[4,5]] ?_
  iterate 2 refine op1 tok ?_
  exact qA (AW.ret qO)
 intro h32
 try simp at h32
 have hlt:¬ qL y≤qL x:=fun h=>by have:=hge.2 h; omega
 obtain ⟨or,vr⟩:=sr (by omega)
 rw [if_neg hlt,← vr]
 have dr:=qCQ (G:=G) r or (by omega)
 have mr:=qAI (G:=G) b.neg or (by omega) sc (by omega)
 generalize xW (9 * r.length) (qL r)=dg at *
 generalize kY b.neg (qL r) sc=R at *
 refine AW.skip ?_
 refine AW.seqDrawS tok mixed 10 [[3],[47],[7],[6],[49,50],[51],[8],[48,52,53],[54],[54]] [.nilp,.sl 1 (r.map zC),.nilp,.str dg,.nilp,.tup [R.1.enc,.int .i64 R.2]] [] (by kernel_rfl) ?_
 iterate 10 refine dq1 (ai hr (ai dr mr)) ?_
 refine DGo.nil (by kernel_rfl) ⟨by kernel_rfl, ?_⟩
 refine qF.run [[],[4,5]] ?_
 iterate 2 refine op1 tok ?_
 exact qA (AW.ret qO)
end Go.Proofs.YtgcbapchinideaaGreatDoor
