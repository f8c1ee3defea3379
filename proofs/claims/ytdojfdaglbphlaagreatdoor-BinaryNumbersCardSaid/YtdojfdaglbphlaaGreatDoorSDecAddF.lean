import Derived.Test.YtdojfdaglbphlaaGreatDoorSDecAdd
namespace Go.Proofs.YtdojfdaglbphlaaGreatDoor
open Sy Go
set_option maxRecDepth 100000
set_option maxHeartbeats 4000000
set_option linter.unusedSimpArgs false
set_option linter.unusedVariables false
variable {G : qS}
theorem qYI {l : List Nat} (h : okL l) : qJ (yL (9 * l.length) (qP l)) = qP l := by
 rw [vH, Nat.mod_eq_of_lt]
 rw [Nat.pow_mul]
 exact qDT h
theorem qCD (neg : Bool) {l : List Nat} (hl : okL l) (h : l.length ≤ 1000000) (sc : Nat) (hs : sc ≤ 1000000) :
  AFn Tryz.prog G 90 [.bool neg, .str (yL (9 * l.length) (qP l)), .int .i64 sc] (.tup [(yA neg (qP l) sc).1.enc, .int .i64 (yA neg (qP l) sc).2]) := by
 have := qRQ (G := G) neg (yL (9 * l.length) (qP l)) sc (by rw [yZ]; omega) (by omega)
 rwa [qGQ neg (vI _ _), qYI hl] at this
def qKF (a b : Dc) : Nat := qJ (wL a (qU a b))
def qKE (a b : Dc) : Nat := qJ (wL b (qU a b))
def qEH (a b : Dc) : Dc × Int :=
 if a.neg = b.neg then yA a.neg (qKF a b + qKE a b) (qU a b).toNat
 else if qKE a b ≤ qKF a b then yA a.neg (qKF a b - qKE a b) (qU a b).toNat else yA b.neg (qKE a b - qKF a b) (qU a b).toNat
theorem natCmp_ge {l m : List Nat} (hl : qJP l) (hm : qJP m) : (0 ≤ jR l m) ↔ qP m ≤ qP l := by
 have h := qJD hl hm
 unfold sgn at h
 constructor
 ·intro h0
  rw [if_neg (show ¬ jR l m < 0 by omega)] at h
  split at h <;> split at h <;> (try split at h) <;> omega
 ·intro h0
  rw [if_neg (show ¬ ((qP l : Int) - qP m < 0) by omega)] at h
  split at h <;> split at h <;> (try split at h) <;> omega
theorem can_len {l m : List Nat} (hl : qJP l) (hm : qJP m) (h : qP m ≤ qP l) : m.length ≤ l.length := by
 apply Nat.le_of_not_lt
 intro h2
 have := qLW hl hm h2
 omega
theorem qQM (a b : Dc) (ha : okD a) (hb : okD b) : AFn Tryz.prog G 81 [a.enc, b.enc] (.tup [(qEH a b).1.enc, .int .i64 (qEH a b).2]) := by
 refine AFn.introU tok Tryz.func81 (by kernel_rfl) rfl rfl ?_
 simp only [Tryz.f81, qK, List.map_cons, List.map_nil]
 have hal := qMX (G := G) a b ha hb
 obtain ⟨a1, a2, a3, a4⟩ := ha
 obtain ⟨b1, b2, b3, b4⟩ := hb
 have hm3 : qU a b ≤ 1000 := by unfold qU; split <;> omega
 have hm0 : 0 ≤ qU a b := by unfold qU; split <;> omega
 have hx := qBG (kZ a4 (qU a b - a.scale).toNat)
 have hy := qBG (kZ b4 (qU a b - b.scale).toNat)
 have vx := qBF (kZ a4 (qU a b - a.scale).toNat)
 have vy := qBF (kZ b4 (qU a b - b.scale).toNat)
 have lx : (kP (wL a (qU a b))).length ≤ 2000 := by have := qDO (wL a (qU a b)); simp [wL] at *; omega
 have ly : (kP (wL b (qU a b))).length ≤ 2000 := by have := qDO (wL b (qU a b)); simp [wL] at *; omega
 have hD : qEH a b = if a.neg = b.neg then yA a.neg (qKF a b + qKE a b) (qU a b).toNat else if qKE a b ≤ qKF a b then yA a.neg (qKF a b - qKE a b) (qU a b).toNat else yA b.neg (qKE a b - qKF a b) (qU a b).toNat := rfl
 rw [show qKF a b = qP (kP (wL a (qU a b))) from vx.symm, show qKE a b = qP (kP (wL b (qU a b))) from vy.symm] at hD
 rw [hD]
 change qJP (kP (wL a (qU a b))) at hx
 change qJP (kP (wL b (qU a b))) at hy
 clear vx vy hD
 generalize kP (wL a (qU a b)) = x at *
 generalize kP (wL b (qU a b)) = y at *
 obtain ⟨sc, hsc⟩ : ∃ sc : Nat, qU a b = sc := ⟨(qU a b).toNat, by omega⟩
 rw [hsc] at hal ⊢
 rw [Int.toNat_natCast]
 have hcm := qOW (G := G) x y (by omega) (by omega)
 have hge := natCmp_ge hx hy
 generalize jR x y = c at *
 have hp := plus_ev (G := G) x y hx.1 hy.1 (by omega) (by omega)
 obtain ⟨op, vp⟩ := addL_spec hx.1 hy.1
 have lp := addL_len x y
 generalize qSO x y = p at *
 have dp := qET (G := G) p op (by omega)
 have mp := qCD (G := G) a.neg op (by omega) sc (by omega)
 have hq := qOX (G := G) x y hx.1 hy.1 (by omega) (by omega)
 have sq := fun h => qOI hx.1 hy.1 (can_len hx hy h) h
 have lq := qTO x y
 generalize qQV x y = q at *
 have hr := qOX (G := G) y x hy.1 hx.1 (by omega) (by omega)
 have sr := fun h => qOI hy.1 hx.1 (can_len hy hx h) h
 have lr := qTO y x
 generalize qQV y x = r at *
 refine rgn [] [[], [], [], [2, 3, 4]] ?_
 iterate 4 refine op1 tok ?_
 refine qA ?_
 refine rgn [.nilp, .tup [.sl 1 (x.map zF), .sl 1 (y.map zF), .int .i64 sc]] [[], [], [], [], [], [], [2, 3, 4, 13, 14, 15], [], [], [2, 3, 4, 6, 7, 8]] ?_
 iterate 10 refine op1 tok ?_ (hv := by first | with_reducible exact True.intro | (exact hal; done) | omega | simp | (simp +contextual; omega))
 refine qA ?_
 refine AW.seq ?_
 refine AW.block ?_
 refine rgn [] [[], [], [], [], [2, 3, 4, 6, 7, 8, 21], [2, 3, 4, 6, 7, 8, 16]] ?_
 iterate 6 refine op1 tok ?_
 refine qA ?_
 refine cnd ?_ ?_
 ·intro h16
  try simp at h16
  rw [if_pos h16, ← vp]
  generalize yL (9 * p.length) (qP p) = dg at *
  generalize yA a.neg (qP p) sc = R at *
  refine AW.seqDrawS tok mixed 10 [[2], [22], [6], [7], [24, 25], [26], [8], [23, 27, 28], [29], [29]] [.nilp, .sl 1 (p.map zF), .nilp, .str dg, .nilp, .tup [R.1.enc, .int .i64 R.2]] [] (by kernel_rfl) ?_
  iterate 10 refine d1 ?_ (hv := by first | with_reducible exact True.intro | (first | exact hp | exact dp | (simpa using mp); done) | omega | simp | (simp +contextual; omega))
  refine DGo.nil (by kernel_rfl) ⟨by kernel_rfl, ?_⟩
  refine qE.run [[], [4, 5]] ?_
  iterate 2 refine op1 tok ?_
  refine qA ?_
  exact AW.ret ⟨.inr rfl, _, _, by (conv => lhs; simp), trivial, by simp⟩
 ·intro h16
  try simp at h16
  rw [if_neg h16]
  refine rgn [.nilp, .int .i64 c] [[], [], [], [], [2, 3, 4, 6, 7, 8, 32]] ?_
  iterate 5 refine op1 tok ?_ (hv := by first | with_reducible exact True.intro | (exact hcm; done) | omega | simp | (simp +contextual; omega))
  refine qA ?_
  refine cnd ?_ ?_
  ·intro h32
   try simp at h32
   obtain ⟨oq, vq⟩ := sq (hge.1 h32)
   rw [if_pos (hge.1 h32), ← vq]
   have dq := qET (G := G) q oq (by omega)
   have mq := qCD (G := G) a.neg oq (by omega) sc (by omega)
   generalize yL (9 * q.length) (qP q) = dg at *
   generalize yA a.neg (qP q) sc = R at *
   refine AW.seqDrawS tok mixed 10 [[2], [37], [6], [7], [39, 40], [41], [8], [38, 42, 43], [44], [44]] [.nilp, .sl 1 (q.map zF), .nilp, .str dg, .nilp, .tup [R.1.enc, .int .i64 R.2]] [] (by kernel_rfl) ?_
   iterate 10 refine d1 ?_ (hv := by first | with_reducible exact True.intro | (first | exact hq | exact dq | (simpa using mq); done) | omega | simp | (simp +contextual; omega))
   refine DGo.nil (by kernel_rfl) ⟨by kernel_rfl, ?_⟩
   refine qE.run [[], [4, 5]] ?_
   iterate 2 refine op1 tok ?_
   refine qA ?_
   exact AW.ret ⟨.inr rfl, _, _, by (conv => lhs; simp), trivial, by simp⟩
  ·intro h32
   try simp at h32
   have hlt : ¬ qP y ≤ qP x := fun h => by have := hge.2 h; omega
   obtain ⟨or, vr⟩ := sr (by omega)
   rw [if_neg hlt, ← vr]
   have dr := qET (G := G) r or (by omega)
   have mr := qCD (G := G) b.neg or (by omega) sc (by omega)
   generalize yL (9 * r.length) (qP r) = dg at *
   generalize yA b.neg (qP r) sc = R at *
   refine AW.skip ?_
   refine AW.seqDrawS tok mixed 10 [[3], [47], [7], [6], [49, 50], [51], [8], [48, 52, 53], [54], [54]] [.nilp, .sl 1 (r.map zF), .nilp, .str dg, .nilp, .tup [R.1.enc, .int .i64 R.2]] [] (by kernel_rfl) ?_
   iterate 10 refine d1 ?_ (hv := by first | with_reducible exact True.intro | (first | exact hr | exact dr | (simpa using mr); done) | omega | simp | (simp +contextual; omega))
   refine DGo.nil (by kernel_rfl) ⟨by kernel_rfl, ?_⟩
   refine qE.run [[], [4, 5]] ?_
   iterate 2 refine op1 tok ?_
   refine qA ?_
   exact AW.ret ⟨.inr rfl, _, _, by (conv => lhs; simp), trivial, by simp⟩
def qNG (b : Dc) : Dc := { b with neg := !b.neg && !decide (b.digits = [48]) }
def qCZ (a b : Dc) : Dc × Int := qEH a (qNG b)
theorem negD_ok {b : Dc} (h : okD b) : okD (qNG b) := h
theorem DecSub_ev (a b : Dc) (ha : okD a) (hb : okD b) : AFn Tryz.prog G 83 [a.enc, b.enc] (.tup [(qCZ a b).1.enc, .int .i64 (qCZ a b).2]) := by
 refine AFn.introU tok Tryz.func83 (by kernel_rfl) rfl rfl ?_
 simp only [Tryz.f83, qK, List.map_cons, List.map_nil]
 have h := qQM (G := G) a (qNG b) ha (negD_ok hb)
 rw [show qEH a (qNG b) = qCZ a b from rfl] at h
 generalize qCZ a b = R at *
 unfold qNG at h
 refine rgn [] [[], [], [], [2, 3, 4]] ?_
 iterate 4 refine op1 tok ?_
 refine qA ?_
 refine rgn [] [[], [], [], [], [], [2, 3, 4, 9, 11], [], [], [], [2, 3, 4]] ?_
 iterate 4 refine op1 tok ?_
 iterate 3 refine op2 tok ?_
 iterate 3 refine op1 tok ?_
 refine qA ?_
 refine rgn [.nilp, .tup [R.1.enc, .int .i64 R.2]] [[], [], [4, 17], [], [], [], [4, 5]] ?_
 iterate 7 refine op1 tok ?_ (hv := by first | with_reducible exact True.intro | ((simpa using h); done) | omega | simp | (simp +contextual; omega))
 refine qA ?_
 exact AW.ret ⟨.inr rfl, _, _, by (conv => lhs; simp), trivial, by simp⟩
def qXP (a b : Dc) : Dc × Int := yA (a.neg != b.neg) (qJ a.digits * qJ b.digits) (a.scale + b.scale).toNat
theorem DecMul_ev (a b : Dc) (ha : okD a) (hb : okD b) : AFn Tryz.prog G 35 [a.enc, b.enc] (.tup [(qXP a b).1.enc, .int .i64 (qXP a b).2]) := by
 refine AFn.introU tok Tryz.func35 (by kernel_rfl) rfl rfl ?_
 simp only [Tryz.f35, qK, List.map_cons, List.map_nil]
 obtain ⟨a1, a2, a3, a4⟩ := ha
 obtain ⟨b1, b2, b3, b4⟩ := hb
 have na := qLQ (G := G) a.digits a4 (by omega)
 have nb := qLQ (G := G) b.digits b4 (by omega)
 have hx := qBG a4
 have hy := qBG b4
 have lx := qDO a.digits
 have ly := qDO b.digits
 have hD : qXP a b = yA (a.neg != b.neg) (qJ a.digits * qJ b.digits) (a.scale + b.scale).toNat := rfl
 rw [hD, ← qBF a4, ← qBF b4]
 generalize kP a.digits = x at *
 generalize kP b.digits = y at *
 obtain ⟨sc, hsc⟩ : ∃ sc : Nat, a.scale + b.scale = sc := ⟨(a.scale + b.scale).toNat, by omega⟩
 rw [hsc, Int.toNat_natCast]
 have ht := times_ev (G := G) x y hx.1 hy.1 (by omega) (by omega)
 obtain ⟨op, vp⟩ := mulL_spec hx.1 hy.1
 have lp := mulL_len x y
 rw [← vp]
 generalize qUO x y = p at *
 have dp := qET (G := G) p op (by omega)
 have mp := qCD (G := G) (a.neg != b.neg) op (by omega) sc (by omega)
 generalize yL (9 * p.length) (qP p) = dg at *
 generalize yA (a.neg != b.neg) (qP p) sc = R at *
 have hwr : IntKind.i64.wrap (a.scale + b.scale) = sc := by simp [IntKind.wrap, IntKind.bits, IntKind.signed]; omega
 refine rgn [] [[], [], [], [2, 3, 4]] ?_
 iterate 4 refine op1 tok ?_
 refine qA ?_
 refine AW.seqDrawS tok mixed 7 [[2], [7], [8], [3], [10], [11], [9, 12]] [.nilp, .sl 1 (x.map zF), .nilp, .sl 1 (y.map zF), .nilp, .sl 1 (p.map zF)] [] (by kernel_rfl) ?_
 iterate 7 refine d1 ?_ (hv := by first | with_reducible exact True.intro | (first | exact na | exact nb | exact ht; done) | omega | simp | (simp +contextual; omega))
 refine DGo.nil (by kernel_rfl) ⟨by kernel_rfl, ?_⟩
 refine qE.run [[2, 3, 4, 6]] ?_
 refine op1 tok ?_
 refine qA ?_
 refine AW.seqDrawS tok mixed 15 [[2], [14], [3], [16], [15, 17], [6], [19], [2], [21], [3], [23], [22, 24], [18, 20, 25], [26], [26]] [.nilp, .str dg, .nilp, .tup [R.1.enc, .int .i64 R.2]] [] (by kernel_rfl) ?_
 iterate 15 refine d1 ?_ (h := by intro C; conv => lhs; simp [hwr, hsc]) (hv := by first | with_reducible exact True.intro | (first | exact dp | (simpa using mp); done) | omega | simp | (simp +contextual; omega))
 refine DGo.nil (by kernel_rfl) ⟨by kernel_rfl, ?_⟩
 refine qE.run [[], [4, 5]] ?_
 iterate 2 refine op1 tok ?_ (h := by intro C; conv => lhs; simp [hwr, hsc])
 refine qA ?_
 exact AW.ret ⟨.inr rfl, _, _, by (conv => lhs; simp), trivial, by simp⟩
end Go.Proofs.YtdojfdaglbphlaaGreatDoor
