import Derived.Test.YtdojfdaglbphlaaGreatDoorSDecAdd
namespace Go.Proofs.YtdojfdaglbphlaaGreatDoor
open Sy Go
set_option maxRecDepth 100000
set_option maxHeartbeats 4000000
set_option linter.unusedSimpArgs false
set_option linter.unusedVariables false
variable {G : qQ}
theorem zCN {l : List Nat} (h : okL l) : qK (yU (9 * l.length) (qM l)) = qM l := by
 rw [uM, Nat.mod_eq_of_lt]
 rw [Nat.pow_mul]
 exact qFA h
theorem qDM (neg : Bool) {l : List Nat} (hl : okL l) (h : l.length ≤ 1000000) (sc : Nat) (hs : sc ≤ 1000000) :
  AFn Tryz.prog G 90 [.bool neg, .str (yU (9 * l.length) (qM l)), .int .i64 sc] (.tup [(jD neg (qM l) sc).1.enc, .int .i64 (jD neg (qM l) sc).2]) := by
 have := qUT (G := G) neg (yU (9 * l.length) (qM l)) sc (by rw [kO]; omega) (by omega)
 rwa [qXZ neg (uN _ _), zCN hl] at this
def qTO (a b : Dc) : Nat := qK (wX a (qY a b))
def qTN (a b : Dc) : Nat := qK (wX b (qY a b))
def qLR (a b : Dc) : Dc × Int :=
 if a.neg = b.neg then jD a.neg (qTO a b + qTN a b) (qY a b).toNat
 else if qTN a b ≤ qTO a b then jD a.neg (qTO a b - qTN a b) (qY a b).toNat else jD b.neg (qTN a b - qTO a b) (qY a b).toNat
theorem zGU {l m : List Nat} (hl : qLO l) (hm : qLO m) : (0 ≤ xJ l m) ↔ qM m ≤ qM l := by
 have h := qLB hl hm
 unfold sgn at h
 constructor
 ·intro h0
  rw [if_neg (show ¬ xJ l m < 0 by omega)] at h
  split at h <;> split at h <;> (try split at h) <;> omega
 ·intro h0
  rw [if_neg (show ¬ ((qM l : Int) - qM m < 0) by omega)] at h
  split at h <;> split at h <;> (try split at h) <;> omega
theorem zEU {l m : List Nat} (hl : qLO l) (hm : qLO m) (h : qM m ≤ qM l) : m.length ≤ l.length := by
 apply Nat.le_of_not_lt
 intro h2
 have := qOD hl hm h2
 omega
theorem qTI (a b : Dc) (ha : okD a) (hb : okD b) : AFn Tryz.prog G 81 [a.enc, b.enc] (.tup [(qLR a b).1.enc, .int .i64 (qLR a b).2]) := by
 refine AFn.introU tok Tryz.func81 (by kernel_rfl) rfl rfl ?_
 simp only [Tryz.f81, qJ, List.map_cons, List.map_nil]
 have hal := qPL (G := G) a b ha hb
 obtain ⟨a1, a2, a3, a4⟩ := ha
 obtain ⟨b1, b2, b3, b4⟩ := hb
 have hm3 : qY a b ≤ 1000 := by unfold qY; split <;> omega
 have hm0 : 0 ≤ qY a b := by unfold qY; split <;> omega
 have hx := qCP (kZ a4 (qY a b - a.scale).toNat)
 have hy := qCP (kZ b4 (qY a b - b.scale).toNat)
 have vx := qCO (kZ a4 (qY a b - a.scale).toNat)
 have vy := qCO (kZ b4 (qY a b - b.scale).toNat)
 have lx : (jE (wX a (qY a b))).length ≤ 2000 := by have := qEV (wX a (qY a b)); simp [wX] at *; omega
 have ly : (jE (wX b (qY a b))).length ≤ 2000 := by have := qEV (wX b (qY a b)); simp [wX] at *; omega
 have hD : qLR a b = if a.neg = b.neg then jD a.neg (qTO a b + qTN a b) (qY a b).toNat else if qTN a b ≤ qTO a b then jD a.neg (qTO a b - qTN a b) (qY a b).toNat else jD b.neg (qTN a b - qTO a b) (qY a b).toNat := rfl
 rw [show qTO a b = qM (jE (wX a (qY a b))) from vx.symm, show qTN a b = qM (jE (wX b (qY a b))) from vy.symm] at hD
 rw [hD]
 change qLO (jE (wX a (qY a b))) at hx
 change qLO (jE (wX b (qY a b))) at hy
 clear vx vy hD
 generalize jE (wX a (qY a b)) = x at *
 generalize jE (wX b (qY a b)) = y at *
 obtain ⟨sc, hsc⟩ : ∃ sc : Nat, qY a b = sc := ⟨(qY a b).toNat, by omega⟩
 rw [hsc] at hal ⊢
 rw [Int.toNat_natCast]
 have hcm := qRM (G := G) x y (by omega) (by omega)
 have hge := zGU hx hy
 generalize xJ x y = c at *
 have hp := zOO (G := G) x y hx.1 hy.1 (by omega) (by omega)
 obtain ⟨op, vp⟩ := zIM hx.1 hy.1
 have lp := zND x y
 generalize qVS x y = p at *
 have dp := qGD (G := G) p op (by omega)
 have mp := qDM (G := G) a.neg op (by omega) sc (by omega)
 have hq := qRN (G := G) x y hx.1 hy.1 (by omega) (by omega)
 have sq := fun h => qQW hx.1 hy.1 (zEU hx hy h) h
 have lq := qWV x y
 generalize qTU x y = q at *
 have hr := qRN (G := G) y x hy.1 hx.1 (by omega) (by omega)
 have sr := fun h => qQW hy.1 hx.1 (zEU hy hx h) h
 have lr := qWV y x
 generalize qTU y x = r at *
 refine rgn [] [[], [], [], [2, 3, 4]] ?_
 iterate 4 refine op1 tok ?_
 refine qA ?_
 refine rgn [.nilp, .tup [.sl 1 (x.map zL), .sl 1 (y.map zL), .int .i64 sc]] [[], [], [], [], [], [], [2, 3, 4, 13, 14, 15], [], [], [2, 3, 4, 6, 7, 8]] ?_
 iterate 10 refine op1 tok ?_ (hv := by first | with_reducible exact True.intro | (exact hal; done) | omega | simp | (simp +contextual; omega))
 refine qA ?_
 refine AW.seq ?_
 refine AW.block ?_
 refine rgn [] [[], [], [], [], [2, 3, 4, 6, 7, 8, 21], [2, 3, 4, 6, 7, 8, 16]] ?_
 iterate 6 refine op1 tok ?_
 refine qA ?_
 refine cnd ?_ ?_
 ·intro h16
  try simp at h16
  rw [if_pos h16, ← vp]
  generalize yU (9 * p.length) (qM p) = dg at *
  generalize jD a.neg (qM p) sc = R at *
  refine AW.seqDrawS tok mixed 10 [[2], [22], [6], [7], [24, 25], [26], [8], [23, 27, 28], [29], [29]] [.nilp, .sl 1 (p.map zL), .nilp, .str dg, .nilp, .tup [R.1.enc, .int .i64 R.2]] [] (by kernel_rfl) ?_
  iterate 10 refine d1 ?_ (hv := by first | with_reducible exact True.intro | (first | exact hp | exact dp | (simpa using mp); done) | omega | simp | (simp +contextual; omega))
  refine DGo.nil (by kernel_rfl) ⟨by kernel_rfl, ?_⟩
  refine qC.run [[], [4, 5]] ?_
  iterate 2 refine op1 tok ?_
  refine qA ?_
  exact AW.ret qI
 ·intro h16
  try simp at h16
  rw [if_neg h16]
  refine rgn [.nilp, .int .i64 c] [[], [], [], [], [2, 3, 4, 6, 7, 8, 32]] ?_
  iterate 5 refine op1 tok ?_ (hv := by first | with_reducible exact True.intro | (exact hcm; done) | omega | simp | (simp +contextual; omega))
  refine qA ?_
  refine cnd ?_ ?_
  ·intro h32
   try simp at h32
   obtain ⟨oq, vq⟩ := sq (hge.1 h32)
   rw [if_pos (hge.1 h32), ← vq]
   have dq := qGD (G := G) q oq (by omega)
   have mq := qDM (G := G) a.neg oq (by omega) sc (by omega)
   generalize yU (9 * q.length) (qM q) = dg at *
   generalize jD a.neg (qM q) sc = R at *
   refine AW.seqDrawS tok mixed 10 [[2], [37], [6], [7], [39, 40], [41], [8], [38, 42, 43], [44], [44]] [.nilp, .sl 1 (q.map zL), .nilp, .str dg, .nilp, .tup [R.1.enc, .int .i64 R.2]] [] (by kernel_rfl) ?_
   iterate 10 refine d1 ?_ (hv := by first | with_reducible exact True.intro | (first | exact hq | exact dq | (simpa using mq); done) | omega | simp | (simp +contextual; omega))
   refine DGo.nil (by kernel_rfl) ⟨by kernel_rfl, ?_⟩
   refine qC.run [[], [4, 5]] ?_
   iterate 2 refine op1 tok ?_
   refine qA ?_
   exact AW.ret qI
  ·intro h32
   try simp at h32
   have hlt : ¬ qM y ≤ qM x := fun h => by have := hge.2 h; omega
   obtain ⟨or, vr⟩ := sr (by omega)
   rw [if_neg hlt, ← vr]
   have dr := qGD (G := G) r or (by omega)
   have mr := qDM (G := G) b.neg or (by omega) sc (by omega)
   generalize yU (9 * r.length) (qM r) = dg at *
   generalize jD b.neg (qM r) sc = R at *
   refine AW.skip ?_
   refine AW.seqDrawS tok mixed 10 [[3], [47], [7], [6], [49, 50], [51], [8], [48, 52, 53], [54], [54]] [.nilp, .sl 1 (r.map zL), .nilp, .str dg, .nilp, .tup [R.1.enc, .int .i64 R.2]] [] (by kernel_rfl) ?_
   iterate 10 refine d1 ?_ (hv := by first | with_reducible exact True.intro | (first | exact hr | exact dr | (simpa using mr); done) | omega | simp | (simp +contextual; omega))
   refine DGo.nil (by kernel_rfl) ⟨by kernel_rfl, ?_⟩
   refine qC.run [[], [4, 5]] ?_
   iterate 2 refine op1 tok ?_
   refine qA ?_
   exact AW.ret qI
def zKQ (b : Dc) : Dc := { b with neg := !b.neg && !decide (b.digits = [48]) }
def qPQ (a b : Dc) : Dc × Int := qLR a (zKQ b)
theorem zOS {b : Dc} (h : okD b) : okD (zKQ b) := h
theorem zIP (a b : Dc) (ha : okD a) (hb : okD b) : AFn Tryz.prog G 83 [a.enc, b.enc] (.tup [(qPQ a b).1.enc, .int .i64 (qPQ a b).2]) := by
 refine AFn.introU tok Tryz.func83 (by kernel_rfl) rfl rfl ?_
 simp only [Tryz.f83, qJ, List.map_cons, List.map_nil]
 have h := qTI (G := G) a (zKQ b) ha (zOS hb)
 rw [show qLR a (zKQ b) = qPQ a b from rfl] at h
 generalize qPQ a b = R at *
 unfold zKQ at h
 refine rgn [] [[], [], [], [2, 3, 4]] ?_
 iterate 4 refine op1 tok ?_
 refine qA ?_
 refine rgn [] [[], [], [], [], [], [2, 3, 4, 9, 11], [], [], [], [2, 3, 4]] ?_
 iterate 4 refine op1 tok ?_
 iterate 3 refine op2 tok ?_
 iterate 3 refine op1 tok ?_
 refine qA ?_
 refine rgn [.nilp, .tup [R.1.enc, .int .i64 R.2]] [[], [], [4, 17], [], [], [], [4, 5]] ?_
 iterate 7 refine op1 tok ?_ (hv := by first | with_reducible exact True.intro | ((simpa using h); done) | omega | simp | (simp +contextual; omega))
 refine qA ?_
 exact AW.ret qI
def qUP (a b : Dc) : Dc × Int := jD (a.neg != b.neg) (qK a.digits * qK b.digits) (a.scale + b.scale).toNat
theorem zIQ (a b : Dc) (ha : okD a) (hb : okD b) : AFn Tryz.prog G 35 [a.enc, b.enc] (.tup [(qUP a b).1.enc, .int .i64 (qUP a b).2]) := by
 refine AFn.introU tok Tryz.func35 (by kernel_rfl) rfl rfl ?_
 simp only [Tryz.f35, qJ, List.map_cons, List.map_nil]
 obtain ⟨a1, a2, a3, a4⟩ := ha
 obtain ⟨b1, b2, b3, b4⟩ := hb
 have na := qNT (G := G) a.digits a4 (by omega)
 have nb := qNT (G := G) b.digits b4 (by omega)
 have hx := qCP a4
 have hy := qCP b4
 have lx := qEV a.digits
 have ly := qEV b.digits
 have hD : qUP a b = jD (a.neg != b.neg) (qK a.digits * qK b.digits) (a.scale + b.scale).toNat := rfl
 rw [hD, ← qCO a4, ← qCO b4]
 generalize jE a.digits = x at *
 generalize jE b.digits = y at *
 obtain ⟨sc, hsc⟩ : ∃ sc : Nat, a.scale + b.scale = sc := ⟨(a.scale + b.scale).toNat, by omega⟩
 rw [hsc, Int.toNat_natCast]
 have ht := zJI (G := G) x y hx.1 hy.1 (by omega) (by omega)
 obtain ⟨op, vp⟩ := zGV hx.1 hy.1
 have lp := zKT x y
 rw [← vp]
 generalize qYD x y = p at *
 have dp := qGD (G := G) p op (by omega)
 have mp := qDM (G := G) (a.neg != b.neg) op (by omega) sc (by omega)
 generalize yU (9 * p.length) (qM p) = dg at *
 generalize jD (a.neg != b.neg) (qM p) sc = R at *
 have hwr : IntKind.i64.wrap (a.scale + b.scale) = sc := by simp [IntKind.wrap, IntKind.bits, IntKind.signed]; omega
 refine rgn [] [[], [], [], [2, 3, 4]] ?_
 iterate 4 refine op1 tok ?_
 refine qA ?_
 refine AW.seqDrawS tok mixed 7 [[2], [7], [8], [3], [10], [11], [9, 12]] [.nilp, .sl 1 (x.map zL), .nilp, .sl 1 (y.map zL), .nilp, .sl 1 (p.map zL)] [] (by kernel_rfl) ?_
 iterate 7 refine d1 ?_ (hv := by first | with_reducible exact True.intro | (first | exact na | exact nb | exact ht; done) | omega | simp | (simp +contextual; omega))
 refine DGo.nil (by kernel_rfl) ⟨by kernel_rfl, ?_⟩
 refine qC.run [[2, 3, 4, 6]] ?_
 refine op1 tok ?_
 refine qA ?_
 refine AW.seqDrawS tok mixed 15 [[2], [14], [3], [16], [15, 17], [6], [19], [2], [21], [3], [23], [22, 24], [18, 20, 25], [26], [26]] [.nilp, .str dg, .nilp, .tup [R.1.enc, .int .i64 R.2]] [] (by kernel_rfl) ?_
 iterate 15 refine d1 ?_ (h := by intro C; conv => lhs; simp [hwr, hsc]) (hv := by first | with_reducible exact True.intro | (first | exact dp | (simpa using mp); done) | omega | simp | (simp +contextual; omega))
 refine DGo.nil (by kernel_rfl) ⟨by kernel_rfl, ?_⟩
 refine qC.run [[], [4, 5]] ?_
 iterate 2 refine op1 tok ?_ (h := by intro C; conv => lhs; simp [hwr, hsc])
 refine qA ?_
 exact AW.ret qI
end Go.Proofs.YtdojfdaglbphlaaGreatDoor
