import Derived.Test.YtgcbapchinideaaGreatDoorSDecAdd
namespace Go.Proofs.YtgcbapchinideaaGreatDoor
open Sy Go
set_option maxRecDepth 100000
set_option maxHeartbeats 4000000
set_option linter.unusedSimpArgs false
set_option linter.unusedVariables false
variable {G:qG}
theorem qNF {l:List Nat} (h:okL l):zH (vM (9 * l.length) (qJ l))=qJ l:=by
 rw [qLF,Nat.mod_eq_of_lt]
 rw [Nat.pow_mul]
 exact uG h
theorem qAQ (neg : Bool) {l : List Nat} (hl : okL l) (h : l.length ≤ 1000000) (sc : Nat) (hs : sc ≤ 1000000) :
  AFn Tryz.prog G 95 [.bool neg,.str (vM (9 * l.length) (qJ l)),.int .i64 sc] (.tup [(jH neg (qJ l) sc).1.enc,.int .i64 (jH neg (qJ l) sc).2]):=by
 have:=qOK (G:=G) neg (vM (9 * l.length) (qJ l)) sc (by rw [qBX]; omega) (by omega)
 rwa [qRX neg (qLG _ _),qNF hl] at this
def qHX (a b:Dc):Nat:=zH (jG a (wG a b))
def qHW (a b:Dc):Nat:=zH (jG b (wG a b))
def qCY (a b:Dc):Dc × Int :=
 if a.neg=b.neg then jH a.neg (qHX a b+qHW a b) (wG a b).toNat
 else if qHW a b≤qHX a b then jH a.neg (qHX a b-qHW a b) (wG a b).toNat else jH b.neg (qHW a b-qHX a b) (wG a b).toNat
theorem qPV {l m:List Nat} (hl:qDU l) (hm:qDU m):(0≤xH l m)↔qJ m≤qJ l:=by
 have h:=qKM hl hm
 unfold sgn at h
 constructor
 ·intro h0
  rw [if_neg (show ¬ xH l m<0 by omega)] at h
  split at h <;> split at h <;> (try split at h) <;> omega
 intro h0
 rw [if_neg (show ¬ ((qJ l:Int)-qJ m<0) by omega)] at h
 split at h <;> split at h <;> (try split at h) <;> omega
theorem qOY {l m:List Nat} (hl:qDU l) (hm:qDU m) (h:qJ m≤qJ l):m.length≤l.length:=by
 apply Nat.le_of_not_lt
 intro h2
 have:=qFB hl hm h2
 omega
theorem qQY (a b:Dc) (ha:okD a) (hb:okD b):AFn Tryz.prog G 131 [a.enc,b.enc] (.tup [(qCY a b).1.enc,.int .i64 (qCY a b).2]):=by
 refine AFn.introU tok Tryz.func131 (by kernel_rfl) rfl rfl ?_
 simp only [Tryz.f131,qN,List.map_cons,List.map_nil]
 have hal:=qNS (G:=G) a b ha hb
 obtain ⟨a1,a2,a3,a4⟩:=ha
 obtain ⟨b1,b2,b3,b4⟩:=hb
 have hm3:wG a b≤1000:=by unfold wG; split <;> omega
 have hm0:0≤wG a b:=by unfold wG; split <;> omega
 have hx:=qKK (qBW a4 (wG a b-a.scale).toNat)
 have hy:=qKK (qBW b4 (wG a b-b.scale).toNat)
 have vx:=qKI (qBW a4 (wG a b-a.scale).toNat)
 have vy:=qKI (qBW b4 (wG a b-b.scale).toNat)
 have lx:(jT (jG a (wG a b))).length≤2000:=by have:=qKJ (jG a (wG a b)); simp [jG] at *; omega
 have ly:(jT (jG b (wG a b))).length≤2000:=by have:=qKJ (jG b (wG a b)); simp [jG] at *; omega
 have hD:qCY a b=if a.neg=b.neg then jH a.neg (qHX a b+qHW a b) (wG a b).toNat else if qHW a b≤qHX a b then jH a.neg (qHX a b-qHW a b) (wG a b).toNat else jH b.neg (qHW a b-qHX a b) (wG a b).toNat:=rfl
 rw [show qHX a b=qJ (jT (jG a (wG a b))) from vx.symm,show qHW a b=qJ (jT (jG b (wG a b))) from vy.symm] at hD
 rw [hD]
 change qDU (jT (jG a (wG a b))) at hx
 change qDU (jT (jG b (wG a b))) at hy
 clear vx vy hD
 generalize jT (jG a (wG a b))=x at *
 generalize jT (jG b (wG a b))=y at *
 obtain ⟨sc,hsc⟩:∃ sc:Nat,wG a b=sc:=⟨(wG a b).toNat,by omega⟩
 rw [hsc] at hal ⊢
 rw [Int.toNat_natCast]
 have hcm:=qPW (G:=G) x y (by omega) (by omega)
 have hge:=qPV hx hy
 generalize xH x y=c at *
 have hp:=qUP (G:=G) x y hx.1 hy.1 (by omega) (by omega)
 obtain ⟨op,vp⟩:=qQW hx.1 hy.1
 have lp:=qTQ x y
 generalize qJF x y=p at *
 have dp:=qCR (G:=G) p op (by omega)
 have mp:=qAQ (G:=G) a.neg op (by omega) sc (by omega)
 have hq:=qHA (G:=G) x y hx.1 hy.1 (by omega) (by omega)
 have sq:=fun h=>qGO hx.1 hy.1 (qOY hx hy h) h
 have lq:=qJW x y
 generalize qIB x y=q at *
 have hr:=qHA (G:=G) y x hy.1 hx.1 (by omega) (by omega)
 have sr:=fun h=>qGO hy.1 hx.1 (qOY hy hx h) h
 have lr:=qJW y x
 generalize qIB y x=r at *
 refine rgn [] [[],[],[],[2,3,4]] ?_
 iterate 4 refine op1 tok ?_
 refine qA (rgn [.nilp,.tup [.sl 1 (x.map zF),.sl 1 (y.map zF),.int .i64 sc]] [[],[],[],[],[],[],[2,3,4,13,14,15],[],[],[2,3,4,6,7,8]] ?_)
 iterate 10 refine oq1 tok hal ?_
 refine qA (AW.seq (AW.block (rgn [] [[],[],[],[],[2,3,4,6,7,8,21],[2,3,4,6,7,8,16]] ?_)))
 iterate 6 refine op1 tok ?_
 refine qA (cnd ?_ ?_)
 ·intro h16
  try simp at h16
  rw [if_pos h16,← vp]
  generalize vM (9 * p.length) (qJ p)=dg at *
  generalize jH a.neg (qJ p) sc=R at *
  refine AW.seqDrawS tok mixed 10 [[2],[22],[6],[7],[24,25],[26],[8],[23,27,28],[29],[29]] [.nilp,.sl 1 (p.map zF),.nilp,.str dg,.nilp,.tup [R.1.enc,.int .i64 R.2]] [] (by kernel_rfl) ?_
  iterate 10 refine dq1 (ai hp (ai dp mp)) ?_
  refine DGo.nil (by kernel_rfl) ⟨by kernel_rfl, ?_⟩
  refine qH.run [[],[4,5]] ?_
  iterate 2 refine op1 tok ?_
  exact qA (AW.ret qI)
 intro h16
 try simp at h16
 rw [if_neg h16]
 refine rgn [.nilp,.int .i64 c] [[],[],[],[],[2,3,4,6,7,8,32]] ?_
 iterate 5 refine oq1 tok hcm ?_
 refine qA (cnd ?_ ?_)
 ·intro h32
  try simp at h32
  obtain ⟨oq,vq⟩:=sq (hge.1 h32)
  rw [if_pos (hge.1 h32),← vq]
  have dq:=qCR (G:=G) q oq (by omega)
  have mq:=qAQ (G:=G) a.neg oq (by omega) sc (by omega)
  generalize vM (9 * q.length) (qJ q)=dg at *
  generalize jH a.neg (qJ q) sc=R at *
  refine AW.seqDrawS tok mixed 10 [[2],[37],[6],[7],[39,40],[41],[8],[38,42,43],[44],[44]] [.nilp,.sl 1 (q.map zF),.nilp,.str dg,.nilp,.tup [R.1.enc,.int .i64 R.2]] [] (by kernel_rfl) ?_
  iterate 10 refine dq1 (ai hq (ai dq mq)) ?_
  refine DGo.nil (by kernel_rfl) ⟨by kernel_rfl, ?_⟩
  refine qH.run [[],[4,5]] ?_
  iterate 2 refine op1 tok ?_
  exact qA (AW.ret qI)
 intro h32
 try simp at h32
 have hlt:¬ qJ y≤qJ x:=fun h=>by have:=hge.2 h; omega
 obtain ⟨or,vr⟩:=sr (by omega)
 rw [if_neg hlt,← vr]
 have dr:=qCR (G:=G) r or (by omega)
 have mr:=qAQ (G:=G) b.neg or (by omega) sc (by omega)
 generalize vM (9 * r.length) (qJ r)=dg at *
 generalize jH b.neg (qJ r) sc=R at *
 refine AW.skip ?_
 refine AW.seqDrawS tok mixed 10 [[3],[47],[7],[6],[49,50],[51],[8],[48,52,53],[54],[54]] [.nilp,.sl 1 (r.map zF),.nilp,.str dg,.nilp,.tup [R.1.enc,.int .i64 R.2]] [] (by kernel_rfl) ?_
 iterate 10 refine dq1 (ai hr (ai dr mr)) ?_
 refine DGo.nil (by kernel_rfl) ⟨by kernel_rfl, ?_⟩
 refine qH.run [[],[4,5]] ?_
 iterate 2 refine op1 tok ?_
 exact qA (AW.ret qI)
end Go.Proofs.YtgcbapchinideaaGreatDoor
