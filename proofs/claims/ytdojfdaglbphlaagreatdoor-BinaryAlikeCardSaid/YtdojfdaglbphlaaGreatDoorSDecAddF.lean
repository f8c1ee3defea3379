import Derived.Test.YtdojfdaglbphlaaGreatDoorSDecAdd
namespace Go.Proofs.YtdojfdaglbphlaaGreatDoor
open Sy Go
set_option maxRecDepth 100000
set_option maxHeartbeats 4000000
set_option linter.unusedSimpArgs false
set_option linter.unusedVariables false
variable {G : qV}
theorem zDY {l : List Nat} (h : okL l) : qL (yX (9 * l.length) (qP l)) = qP l := by
 rw [uU, Nat.mod_eq_of_lt]
 rw [Nat.pow_mul]
 exact qFO h
theorem qDY (neg : Bool) {l : List Nat} (hl : okL l) (h : l.length ≤ 1000000) (sc : Nat) (hs : sc ≤ 1000000) :
  AFn Tryz.prog G 90 [.bool neg, .str (yX (9 * l.length) (qP l)), .int .i64 sc] (.tup [(jR neg (qP l) sc).1.enc, .int .i64 (jR neg (qP l) sc).2]) := by
 have := qWH (G := G) neg (yX (9 * l.length) (qP l)) sc (by rw [kY]; omega) (by omega)
 rwa [qZK neg (uV _ _), zDY hl] at this
def qVB (a b : Dc) : Nat := qL (wV a (zG a b))
def qVA (a b : Dc) : Nat := qL (wV b (zG a b))
def qMS (a b : Dc) : Dc × Int :=
 if a.neg = b.neg then jR a.neg (qVB a b + qVA a b) (zG a b).toNat
 else if qVA a b ≤ qVB a b then jR a.neg (qVB a b - qVA a b) (zG a b).toNat else jR b.neg (qVA a b - qVB a b) (zG a b).toNat
theorem zIH {l m : List Nat} (hl : qMN l) (hm : qMN m) : (0 ≤ xW l m) ↔ qP m ≤ qP l := by
 have h := qLX hl hm
 unfold sgn at h
 constructor
 ·intro h0
  rw [if_neg (show ¬ xW l m < 0 by omega)] at h
  split at h <;> split at h <;> (try split at h) <;> omega
 ·intro h0
  rw [if_neg (show ¬ ((qP l : Int) - qP m < 0) by omega)] at h
  split at h <;> split at h <;> (try split at h) <;> omega
theorem zGK {l m : List Nat} (hl : qMN l) (hm : qMN m) (h : qP m ≤ qP l) : m.length ≤ l.length := by
 apply Nat.le_of_not_lt
 intro h2
 have := qPG hl hm h2
 omega
theorem qUV (a b : Dc) (ha : okD a) (hb : okD b) : AFn Tryz.prog G 81 [a.enc, b.enc] (.tup [(qMS a b).1.enc, .int .i64 (qMS a b).2]) := by
 refine AFn.introU tok Tryz.func81 (by kernel_rfl) rfl rfl ?_
 simp only [Tryz.f81, qI, List.map_cons, List.map_nil]
 have hal := qQT (G := G) a b ha hb
 obtain ⟨a1, a2, a3, a4⟩ := ha
 obtain ⟨b1, b2, b3, b4⟩ := hb
 have hm3 : zG a b ≤ 1000 := by unfold zG; split <;> omega
 have hm0 : 0 ≤ zG a b := by unfold zG; split <;> omega
 have hx := qCW (xS a4 (zG a b - a.scale).toNat)
 have hy := qCW (xS b4 (zG a b - b.scale).toNat)
 have vx := qCV (xS a4 (zG a b - a.scale).toNat)
 have vy := qCV (xS b4 (zG a b - b.scale).toNat)
 have lx : (jS (wV a (zG a b))).length ≤ 2000 := by have := qFJ (wV a (zG a b)); simp [wV] at *; omega
 have ly : (jS (wV b (zG a b))).length ≤ 2000 := by have := qFJ (wV b (zG a b)); simp [wV] at *; omega
 have hD : qMS a b = if a.neg = b.neg then jR a.neg (qVB a b + qVA a b) (zG a b).toNat else if qVA a b ≤ qVB a b then jR a.neg (qVB a b - qVA a b) (zG a b).toNat else jR b.neg (qVA a b - qVB a b) (zG a b).toNat := rfl
 rw [show qVB a b = qP (jS (wV a (zG a b))) from vx.symm, show qVA a b = qP (jS (wV b (zG a b))) from vy.symm] at hD
 rw [hD]
 change qMN (jS (wV a (zG a b))) at hx
 change qMN (jS (wV b (zG a b))) at hy
 clear vx vy hD
 generalize jS (wV a (zG a b)) = x at *
 generalize jS (wV b (zG a b)) = y at *
 obtain ⟨sc, hsc⟩ : ∃ sc : Nat, zG a b = sc := ⟨(zG a b).toNat, by omega⟩
 rw [hsc] at hal ⊢
 rw [Int.toNat_natCast]
 have hcm := qST (G := G) x y (by omega) (by omega)
 have hge := zIH hx hy
 generalize xW x y = c at *
 have hp := zPU (G := G) x y hx.1 hy.1 (by omega) (by omega)
 obtain ⟨op, vp⟩ := zJV hx.1 hy.1
 have lp := zOL x y
 generalize qXI x y = p at *
 have dp := qGS (G := G) p op (by omega)
 have mp := qDY (G := G) a.neg op (by omega) sc (by omega)
 have hq := qSU (G := G) x y hx.1 hy.1 (by omega) (by omega)
 have sq := fun h => qSE hx.1 hy.1 (zGK hx hy h) h
 have lq := qYL x y
 generalize qVH x y = q at *
 have hr := qSU (G := G) y x hy.1 hx.1 (by omega) (by omega)
 have sr := fun h => qSE hy.1 hx.1 (zGK hy hx h) h
 have lr := qYL y x
 generalize qVH y x = r at *
 refine rgn [] [[], [], [], [2, 3, 4]] ?_
 iterate 4 refine op1 tok ?_
 refine qA ?_
 refine rgn [.nilp, .tup [.sl 1 (x.map zJ), .sl 1 (y.map zJ), .int .i64 sc]] [[], [], [], [], [], [], [2, 3, 4, 13, 14, 15], [], [], [2, 3, 4, 6, 7, 8]] ?_
 iterate 10 refine op1 tok ?_ (hv := by first | with_reducible exact True.intro | (exact hal; done) | omega | simp | (simp +contextual; omega))
 refine qA ?_
 refine AW.seq ?_
 refine AW.block ?_
 refine rgn [] [[], [], [], [], [2, 3, 4, 6, 7, 8, 21], [2, 3, 4, 6, 7, 8, 16]] ?_
 iterate 6 refine op1 tok ?_
 refine qA ?_
 refine cnd ?_ ?_
 ·intro h16
  try simp at h16
  rw [if_pos h16, ← vp]
  generalize yX (9 * p.length) (qP p) = dg at *
  generalize jR a.neg (qP p) sc = R at *
  refine AW.seqDrawS tok mixed 10 [[2], [22], [6], [7], [24, 25], [26], [8], [23, 27, 28], [29], [29]] [.nilp, .sl 1 (p.map zJ), .nilp, .str dg, .nilp, .tup [R.1.enc, .int .i64 R.2]] [] (by kernel_rfl) ?_
  iterate 10 refine d1 ?_ (hv := by first | with_reducible exact True.intro | (first | exact hp | exact dp | (simpa using mp); done) | omega | simp | (simp +contextual; omega))
  refine DGo.nil (by kernel_rfl) ⟨by kernel_rfl, ?_⟩
  refine qC.run [[], [4, 5]] ?_
  iterate 2 refine op1 tok ?_
  refine qA ?_
  exact AW.ret qJ
 ·intro h16
  try simp at h16
  rw [if_neg h16]
  refine rgn [.nilp, .int .i64 c] [[], [], [], [], [2, 3, 4, 6, 7, 8, 32]] ?_
  iterate 5 refine op1 tok ?_ (hv := by first | with_reducible exact True.intro | (exact hcm; done) | omega | simp | (simp +contextual; omega))
  refine qA ?_
  refine cnd ?_ ?_
  ·intro h32
   try simp at h32
   obtain ⟨oq, vq⟩ := sq (hge.1 h32)
   rw [if_pos (hge.1 h32), ← vq]
   have dq := qGS (G := G) q oq (by omega)
   have mq := qDY (G := G) a.neg oq (by omega) sc (by omega)
   generalize yX (9 * q.length) (qP q) = dg at *
   generalize jR a.neg (qP q) sc = R at *
   refine AW.seqDrawS tok mixed 10 [[2], [37], [6], [7], [39, 40], [41], [8], [38, 42, 43], [44], [44]] [.nilp, .sl 1 (q.map zJ), .nilp, .str dg, .nilp, .tup [R.1.enc, .int .i64 R.2]] [] (by kernel_rfl) ?_
   iterate 10 refine d1 ?_ (hv := by first | with_reducible exact True.intro | (first | exact hq | exact dq | (simpa using mq); done) | omega | simp | (simp +contextual; omega))
   refine DGo.nil (by kernel_rfl) ⟨by kernel_rfl, ?_⟩
   refine qC.run [[], [4, 5]] ?_
   iterate 2 refine op1 tok ?_
   refine qA ?_
   exact AW.ret qJ
  ·intro h32
   try simp at h32
   have hlt : ¬ qP y ≤ qP x := fun h => by have := hge.2 h; omega
   obtain ⟨or, vr⟩ := sr (by omega)
   rw [if_neg hlt, ← vr]
   have dr := qGS (G := G) r or (by omega)
   have mr := qDY (G := G) b.neg or (by omega) sc (by omega)
   generalize yX (9 * r.length) (qP r) = dg at *
   generalize jR b.neg (qP r) sc = R at *
   refine AW.skip ?_
   refine AW.seqDrawS tok mixed 10 [[3], [47], [7], [6], [49, 50], [51], [8], [48, 52, 53], [54], [54]] [.nilp, .sl 1 (r.map zJ), .nilp, .str dg, .nilp, .tup [R.1.enc, .int .i64 R.2]] [] (by kernel_rfl) ?_
   iterate 10 refine d1 ?_ (hv := by first | with_reducible exact True.intro | (first | exact hr | exact dr | (simpa using mr); done) | omega | simp | (simp +contextual; omega))
   refine DGo.nil (by kernel_rfl) ⟨by kernel_rfl, ?_⟩
   refine qC.run [[], [4, 5]] ?_
   iterate 2 refine op1 tok ?_
   refine qA ?_
   exact AW.ret qJ
def zMC (b : Dc) : Dc := { b with neg := !b.neg && !decide (b.digits = [48]) }
def qQZ (a b : Dc) : Dc × Int := qMS a (zMC b)
theorem zPZ {b : Dc} (h : okD b) : okD (zMC b) := h
theorem zJY (a b : Dc) (ha : okD a) (hb : okD b) : AFn Tryz.prog G 83 [a.enc, b.enc] (.tup [(qQZ a b).1.enc, .int .i64 (qQZ a b).2]) := by
 refine AFn.introU tok Tryz.func83 (by kernel_rfl) rfl rfl ?_
 simp only [Tryz.f83, qI, List.map_cons, List.map_nil]
 have h := qUV (G := G) a (zMC b) ha (zPZ hb)
 rw [show qMS a (zMC b) = qQZ a b from rfl] at h
 generalize qQZ a b = R at *
 unfold zMC at h
 refine rgn [] [[], [], [], [2, 3, 4]] ?_
 iterate 4 refine op1 tok ?_
 refine qA ?_
 refine rgn [] [[], [], [], [], [], [2, 3, 4, 9, 11], [], [], [], [2, 3, 4]] ?_
 iterate 4 refine op1 tok ?_
 iterate 3 refine op2 tok ?_
 iterate 3 refine op1 tok ?_
 refine qA ?_
 refine rgn [.nilp, .tup [R.1.enc, .int .i64 R.2]] [[], [], [4, 17], [], [], [], [4, 5]] ?_
 iterate 7 refine op1 tok ?_ (hv := by first | with_reducible exact True.intro | ((simpa using h); done) | omega | simp | (simp +contextual; omega))
 refine qA ?_
 exact AW.ret qJ
def qWD (a b : Dc) : Dc × Int := jR (a.neg != b.neg) (qL a.digits * qL b.digits) (a.scale + b.scale).toNat
theorem zJZ (a b : Dc) (ha : okD a) (hb : okD b) : AFn Tryz.prog G 35 [a.enc, b.enc] (.tup [(qWD a b).1.enc, .int .i64 (qWD a b).2]) := by
 refine AFn.introU tok Tryz.func35 (by kernel_rfl) rfl rfl ?_
 simp only [Tryz.f35, qI, List.map_cons, List.map_nil]
 obtain ⟨a1, a2, a3, a4⟩ := ha
 obtain ⟨b1, b2, b3, b4⟩ := hb
 have na := qOX (G := G) a.digits a4 (by omega)
 have nb := qOX (G := G) b.digits b4 (by omega)
 have hx := qCW a4
 have hy := qCW b4
 have lx := qFJ a.digits
 have ly := qFJ b.digits
 have hD : qWD a b = jR (a.neg != b.neg) (qL a.digits * qL b.digits) (a.scale + b.scale).toNat := rfl
 rw [hD, ← qCV a4, ← qCV b4]
 generalize jS a.digits = x at *
 generalize jS b.digits = y at *
 obtain ⟨sc, hsc⟩ : ∃ sc : Nat, a.scale + b.scale = sc := ⟨(a.scale + b.scale).toNat, by omega⟩
 rw [hsc, Int.toNat_natCast]
 have ht := zKR (G := G) x y hx.1 hy.1 (by omega) (by omega)
 obtain ⟨op, vp⟩ := zII hx.1 hy.1
 have lp := zMF x y
 rw [← vp]
 generalize qZO x y = p at *
 have dp := qGS (G := G) p op (by omega)
 have mp := qDY (G := G) (a.neg != b.neg) op (by omega) sc (by omega)
 generalize yX (9 * p.length) (qP p) = dg at *
 generalize jR (a.neg != b.neg) (qP p) sc = R at *
 have hwr : IntKind.i64.wrap (a.scale + b.scale) = sc := by simp [IntKind.wrap, IntKind.bits, IntKind.signed]; omega
 refine rgn [] [[], [], [], [2, 3, 4]] ?_
 iterate 4 refine op1 tok ?_
 refine qA ?_
 refine AW.seqDrawS tok mixed 7 [[2], [7], [8], [3], [10], [11], [9, 12]] [.nilp, .sl 1 (x.map zJ), .nilp, .sl 1 (y.map zJ), .nilp, .sl 1 (p.map zJ)] [] (by kernel_rfl) ?_
 iterate 7 refine d1 ?_ (hv := by first | with_reducible exact True.intro | (first | exact na | exact nb | exact ht; done) | omega | simp | (simp +contextual; omega))
 refine DGo.nil (by kernel_rfl) ⟨by kernel_rfl, ?_⟩
 refine qC.run [[2, 3, 4, 6]] ?_
 refine op1 tok ?_
 refine qA ?_
 refine AW.seqDrawS tok mixed 15 [[2], [14], [3], [16], [15, 17], [6], [19], [2], [21], [3], [23], [22, 24], [18, 20, 25], [26], [26]] [.nilp, .str dg, .nilp, .tup [R.1.enc, .int .i64 R.2]] [] (by kernel_rfl) ?_
 iterate 15 refine d1 ?_ (h := by intro C; conv => lhs; simp [hwr, hsc]) (hv := by first | with_reducible exact True.intro | (first | exact dp | (simpa using mp); done) | omega | simp | (simp +contextual; omega))
 refine DGo.nil (by kernel_rfl) ⟨by kernel_rfl, ?_⟩
 refine qC.run [[], [4, 5]] ?_
 iterate 2 refine op1 tok ?_ (h := by intro C; conv => lhs; simp [hwr, hsc])
 refine qA ?_
 exact AW.ret qJ
end Go.Proofs.YtdojfdaglbphlaaGreatDoor
