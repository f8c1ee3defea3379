import Derived.Test.YtdojfdaglbphlaaGreatDoorK4
namespace Go.Proofs.YtdojfdaglbphlaaGreatDoor
open Sy Go
set_option maxRecDepth 100000
set_option maxHeartbeats 4000000
set_option linter.unusedSimpArgs false
set_option linter.unusedVariables false
variable {G:qR}
theorem zDQ {l:List Nat} (h:okL l):qE (zA (9 * l.length) (qP l))=qP l:=by
 rw [zZ,Nat.mod_eq_of_lt]
 rw [Nat.pow_mul]
 exact qFR h
theorem qEA (neg : Bool) {l : List Nat} (hl : okL l) (h : l.length ≤ 1000000) (sc : Nat) (hs : sc ≤ 1000000) :
  AFn Tryz.prog G 90 [.bool neg,.str (zA (9 * l.length) (qP l)),.int .i64 sc] (.tup [(zW neg (qP l) sc).1.enc,.int .i64 (zW neg (qP l) sc).2]):=by
 have:=qVW (G:=G) neg (zA (9 * l.length) (qP l)) sc (by rw [zD]; omega) (by omega)
 rwa [qOP neg (zT _ _),zDQ hl] at this
def qUR (a b:Dc):Nat:=qE (yI a (qX a b))
def qUQ (a b:Dc):Nat:=qE (yI b (qX a b))
def qEO (a b:Dc):Dc × Int :=
 if a.neg=b.neg then zW a.neg (qUR a b+qUQ a b) (qX a b).toNat
 else if qUQ a b≤qUR a b then zW a.neg (qUR a b-qUQ a b) (qX a b).toNat else zW b.neg (qUQ a b-qUR a b) (qX a b).toNat
theorem zIL {l m:List Nat} (hl:qMK l) (hm:qMK m):(0≤xU l m)↔qP m≤qP l:=by
 have h:=qLV hl hm
 unfold sgn at h
 constructor
 ·intro h0
  rw [if_neg (show ¬ xU l m<0 by omega)] at h
  split at h <;> split at h <;> (try split at h) <;> omega
 intro h0
 rw [if_neg (show ¬ ((qP l:Int)-qP m<0) by omega)] at h
 split at h <;> split at h <;> (try split at h) <;> omega
theorem zGA {l m:List Nat} (hl:qMK l) (hm:qMK m) (h:qP m≤qP l):m.length≤l.length:=by
 apply Nat.le_of_not_lt
 intro h2
 have:=qPD hl hm h2
 omega
theorem qUL (a b:Dc) (ha:okD a) (hb:okD b):AFn Tryz.prog G 81 [a.enc,b.enc] (.tup [(qEO a b).1.enc,.int .i64 (qEO a b).2]):=by
 refine AFn.introU tok Tryz.func81 (by kernel_rfl) rfl rfl ?_
 simp only [Tryz.f81,qI,List.map_cons,List.map_nil]
 have hal:=qQR (G:=G) a b ha hb
 obtain ⟨a1,a2,a3,a4⟩:=ha
 obtain ⟨b1,b2,b3,b4⟩:=hb
 have hm3:qX a b≤1000:=by unfold qX; split <;> omega
 have hm0:0≤qX a b:=by unfold qX; split <;> omega
 have hx:=qDA (wX a4 (qX a b-a.scale).toNat)
 have hy:=qDA (wX b4 (qX a b-b.scale).toNat)
 have vx:=qCZ (wX a4 (qX a b-a.scale).toNat)
 have vy:=qCZ (wX b4 (qX a b-b.scale).toNat)
 have lx:(jN (yI a (qX a b))).length≤2000:=by have:=qFL (yI a (qX a b)); simp [yI] at *; omega
 have ly:(jN (yI b (qX a b))).length≤2000:=by have:=qFL (yI b (qX a b)); simp [yI] at *; omega
 have hD:qEO a b=if a.neg=b.neg then zW a.neg (qUR a b+qUQ a b) (qX a b).toNat else if qUQ a b≤qUR a b then zW a.neg (qUR a b-qUQ a b) (qX a b).toNat else zW b.neg (qUQ a b-qUR a b) (qX a b).toNat:=rfl
 rw [show qUR a b=qP (jN (yI a (qX a b))) from vx.symm,show qUQ a b=qP (jN (yI b (qX a b))) from vy.symm] at hD
 rw [hD]
 change qMK (jN (yI a (qX a b))) at hx
 change qMK (jN (yI b (qX a b))) at hy
 clear vx vy hD
 generalize jN (yI a (qX a b))=x at *
 generalize jN (yI b (qX a b))=y at *
 obtain ⟨sc,hsc⟩:∃ sc:Nat,qX a b=sc:=⟨(qX a b).toNat,by omega⟩
 rw [hsc] at hal ⊢
 rw [Int.toNat_natCast]
 have hcm:=qSP (G:=G) x y (by omega) (by omega)
 have hge:=zIL hx hy
 generalize xU x y=c at *
 have hp:=zQK (G:=G) x y hx.1 hy.1 (by omega) (by omega)
 obtain ⟨op,vp⟩:=zKD hx.1 hy.1
 have lp:=zOZ x y
 generalize qWV x y=p at *
 have dp:=qGT (G:=G) p op (by omega)
 have mp:=qEA (G:=G) a.neg op (by omega) sc (by omega)
 have hq:=qSQ (G:=G) x y hx.1 hy.1 (by omega) (by omega)
 have sq:=fun h=>qSB hx.1 hy.1 (zGA hx hy h) h
 have lq:=qXZ x y
 generalize qUW x y=q at *
 have hr:=qSQ (G:=G) y x hy.1 hx.1 (by omega) (by omega)
 have sr:=fun h=>qSB hy.1 hx.1 (zGA hy hx h) h
 have lr:=qXZ y x
 generalize qUW y x=r at *
 refine rgn [] [[],[],[],[2,3,4]] ?_
 iterate 4 refine op1 tok ?_
 refine qA (rgn [.nilp,.tup [.sl 1 (x.map zQ),.sl 1 (y.map zQ),.int .i64 sc]] [[],[],[],[],[],[],[2,3,4,13,14,15],[],[],[2,3,4,6,7,8]] ?_)
 iterate 10 refine oq1 tok hal ?_
 refine qA (AW.seq (AW.block (rgn [] [[],[],[],[],[2,3,4,6,7,8,21],[2,3,4,6,7,8,16]] ?_)))
 iterate 6 refine op1 tok ?_
 refine qA (cnd ?_ ?_)
 ·intro h16
  try simp at h16
  rw [if_pos h16,← vp]
  generalize zA (9 * p.length) (qP p)=dg at *
  generalize zW a.neg (qP p) sc=R at *
  refine AW.seqDrawS tok mixed 10 [[2],[22],[6],[7],[24,25],[26],[8],[23,27,28],[29],[29]] [.nilp,.sl 1 (p.map zQ),.nilp,.str dg,.nilp,.tup [R.1.enc,.int .i64 R.2]] [] (by kernel_rfl) ?_
  iterate 10 refine dq1 (ai hp (ai dp mp)) ?_
  refine DGo.nil (by kernel_rfl) ⟨by kernel_rfl, ?_⟩
  refine qC.run [[],[4,5]] ?_
  iterate 2 refine op1 tok ?_
  exact qA (AW.ret qG)
 intro h16
 try simp at h16
 rw [if_neg h16]
 refine rgn [.nilp,.int .i64 c] [[],[],[],[],[2,3,4,6,7,8,32]] ?_
 iterate 5 refine oq1 tok hcm ?_
 refine qA (cnd ?_ ?_)
 ·intro h32
  try simp at h32
  obtain ⟨oq,vq⟩:=sq (hge.1 h32)
  rw [if_pos (hge.1 h32),← vq]
  have dq:=qGT (G:=G) q oq (by omega)
  have mq:=qEA (G:=G) a.neg oq (by omega) sc (by omega)
  generalize zA (9 * q.length) (qP q)=dg at *
  generalize zW a.neg (qP q) sc=R at *
  refine AW.seqDrawS tok mixed 10 [[2],[37],[6],[7],[39,40],[41],[8],[38,42,43],[44],[44]] [.nilp,.sl 1 (q.map zQ),.nilp,.str dg,.nilp,.tup [R.1.enc,.int .i64 R.2]] [] (by kernel_rfl) ?_
  iterate 10 refine dq1 (ai hq (ai dq mq)) ?_
  refine DGo.nil (by kernel_rfl) ⟨by kernel_rfl, ?_⟩
  refine qC.run [[],[4,5]] ?_
  iterate 2 refine op1 tok ?_
  exact qA (AW.ret qG)
 intro h32
 try simp at h32
 have hlt:¬ qP y≤qP x:=fun h=>by have:=hge.2 h; omega
 obtain ⟨or,vr⟩:=sr (by omega)
 rw [if_neg hlt,← vr]
 have dr:=qGT (G:=G) r or (by omega)
 have mr:=qEA (G:=G) b.neg or (by omega) sc (by omega)
 generalize zA (9 * r.length) (qP r)=dg at *
 generalize zW b.neg (qP r) sc=R at *
 refine AW.skip ?_
 refine AW.seqDrawS tok mixed 10 [[3],[47],[7],[6],[49,50],[51],[8],[48,52,53],[54],[54]] [.nilp,.sl 1 (r.map zQ),.nilp,.str dg,.nilp,.tup [R.1.enc,.int .i64 R.2]] [] (by kernel_rfl) ?_
 iterate 10 refine dq1 (ai hr (ai dr mr)) ?_
 refine DGo.nil (by kernel_rfl) ⟨by kernel_rfl, ?_⟩
 refine qC.run [[],[4,5]] ?_
 iterate 2 refine op1 tok ?_
 exact qA (AW.ret qG)
def qRC (b:Dc):Dc:={ b with neg := !b.neg && !decide (b.digits=[48]) }
def qCS (a b:Dc):Dc × Int:=qEO a (qRC b)
theorem zFB {b:Dc} (h:okD b):okD (qRC b):=h
theorem zKG (a b:Dc) (ha:okD a) (hb:okD b):AFn Tryz.prog G 83 [a.enc,b.enc] (.tup [(qCS a b).1.enc,.int .i64 (qCS a b).2]):=by
 refine AFn.introU tok Tryz.func83 (by kernel_rfl) rfl rfl ?_
 simp only [Tryz.f83,qI,List.map_cons,List.map_nil]
 have h:=qUL (G:=G) a (qRC b) ha (zFB hb)
 rw [show qEO a (qRC b)=qCS a b from rfl] at h
 generalize qCS a b=R at *
 unfold qRC at h
 refine rgn [] [[],[],[],[2,3,4]] ?_
 iterate 4 refine op1 tok ?_
 refine qA (rgn [] [[],[],[],[],[],[2,3,4,9,11],[],[],[],[2,3,4]] ?_)
 iterate 4 refine op1 tok ?_
 iterate 3 refine op2 tok ?_
 iterate 3 refine op1 tok ?_
 refine qA (rgn [.nilp,.tup [R.1.enc,.int .i64 R.2]] [[],[],[4,17],[],[],[],[4,5]] ?_)
 iterate 7 refine oq1 tok h ?_
 exact qA (AW.ret qG)
def qEW (a b:Dc):Dc × Int:=zW (a.neg != b.neg) (qE a.digits * qE b.digits) (a.scale+b.scale).toNat
theorem zKH (a b:Dc) (ha:okD a) (hb:okD b):AFn Tryz.prog G 35 [a.enc,b.enc] (.tup [(qEW a b).1.enc,.int .i64 (qEW a b).2]):=by
 refine AFn.introU tok Tryz.func35 (by kernel_rfl) rfl rfl ?_
 simp only [Tryz.f35,qI,List.map_cons,List.map_nil]
 obtain ⟨a1,a2,a3,a4⟩:=ha
 obtain ⟨b1,b2,b3,b4⟩:=hb
 have na:=qOS (G:=G) a.digits a4 (by omega)
 have nb:=qOS (G:=G) b.digits b4 (by omega)
 have hx:=qDA a4
 have hy:=qDA b4
 have lx:=qFL a.digits
 have ly:=qFL b.digits
 have hD:qEW a b=zW (a.neg != b.neg) (qE a.digits * qE b.digits) (a.scale+b.scale).toNat:=rfl
 rw [hD,← qCZ a4,← qCZ b4]
 generalize jN a.digits=x at *
 generalize jN b.digits=y at *
 obtain ⟨sc,hsc⟩:∃ sc:Nat,a.scale+b.scale=sc:=⟨(a.scale+b.scale).toNat,by omega⟩
 rw [hsc,Int.toNat_natCast]
 have ht:=zLB (G:=G) x y hx.1 hy.1 (by omega) (by omega)
 obtain ⟨op,vp⟩:=zIM hx.1 hy.1
 have lp:=zMR x y
 rw [← vp]
 generalize qZG x y=p at *
 have dp:=qGT (G:=G) p op (by omega)
 have mp:=qEA (G:=G) (a.neg != b.neg) op (by omega) sc (by omega)
 generalize zA (9 * p.length) (qP p)=dg at *
 generalize zW (a.neg != b.neg) (qP p) sc=R at *
 have hwr:IntKind.i64.wrap (a.scale+b.scale)=sc:=by simp [IntKind.wrap,IntKind.bits,IntKind.signed]; omega
 refine rgn [] [[],[],[],[2,3,4]] ?_
 iterate 4 refine op1 tok ?_
 refine qA ?_
 refine AW.seqDrawS tok mixed 7 [[2],[7],[8],[3],[10],[11],[9,12]] [.nilp,.sl 1 (x.map zQ),.nilp,.sl 1 (y.map zQ),.nilp,.sl 1 (p.map zQ)] [] (by kernel_rfl) ?_
 iterate 7 refine dq1 (ai na (ai nb ht)) ?_
 refine DGo.nil (by kernel_rfl) ⟨by kernel_rfl, ?_⟩
 refine qC.run [[2,3,4,6]] ?_
 refine op1 tok ?_
 refine qA ?_
 refine AW.seqDrawS tok mixed 15 [[2],[14],[3],[16],[15,17],[6],[19],[2],[21],[3],[23],[22,24],[18,20,25],[26],[26]] [.nilp,.str dg,.nilp,.tup [R.1.enc,.int .i64 R.2]] [] (by kernel_rfl) ?_
 iterate 15 refine dq1 (ai dp mp) ?_ (h:=by intro C; conv=>lhs; simp [hwr,hsc])
 refine DGo.nil (by kernel_rfl) ⟨by kernel_rfl, ?_⟩
 refine qC.run [[],[4,5]] ?_
 iterate 2 refine op1 tok ?_ (h:=by intro C; conv=>lhs; simp [hwr,hsc])
 exact qA (AW.ret qG)
end Go.Proofs.YtdojfdaglbphlaaGreatDoor
