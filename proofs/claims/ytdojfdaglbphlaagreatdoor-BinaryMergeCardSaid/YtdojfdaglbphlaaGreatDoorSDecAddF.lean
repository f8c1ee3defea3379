import Derived.Test.YtdojfdaglbphlaaGreatDoorSDecAdd
namespace Go.Proofs.YtdojfdaglbphlaaGreatDoor
open Sy Go
set_option maxRecDepth 100000
set_option maxHeartbeats 4000000
set_option linter.unusedSimpArgs false
set_option linter.unusedVariables false
variable {G : Glob}
theorem digW_limbs {l : List Nat} (h : okL l) : valD (digW (9 * l.length) (limbV l)) = limbV l := by
 rw [digW_val, Nat.mod_eq_of_lt]
 rw [Nat.pow_mul]
 exact limbV_lt h
theorem made_limbs (neg : Bool) {l : List Nat} (hl : okL l) (h : l.length ≤ 1000000) (sc : Nat) (hs : sc ≤ 1000000) :
  AFn Tryz.prog G 90 [.bool neg, .str (digW (9 * l.length) (limbV l)), .int .i64 sc] (.tup [(normV neg (limbV l) sc).1.enc, .int .i64 (normV neg (limbV l) sc).2]) := by
 have := made_ev (G := G) neg (digW (9 * l.length) (limbV l)) sc (by rw [digW_len]; omega) (by omega)
 rwa [norm_val neg (digW_all _ _), digW_limbs hl] at this
def valX (a b : Dc) : Nat := valD (padD a (maxS a b))
def valY (a b : Dc) : Nat := valD (padD b (maxS a b))
def addD (a b : Dc) : Dc × Int :=
 if a.neg = b.neg then normV a.neg (valX a b + valY a b) (maxS a b).toNat
 else if valY a b ≤ valX a b then normV a.neg (valX a b - valY a b) (maxS a b).toNat else normV b.neg (valY a b - valX a b) (maxS a b).toNat
theorem natCmp_ge {l m : List Nat} (hl : canL l) (hm : canL m) : (0 ≤ natCmp l m) ↔ limbV m ≤ limbV l := by
 have h := natCmp_spec hl hm
 unfold sgn at h
 constructor
 ·intro h0
  rw [if_neg (show ¬ natCmp l m < 0 by omega)] at h
  split at h <;> split at h <;> (try split at h) <;> omega
 ·intro h0
  rw [if_neg (show ¬ ((limbV l : Int) - limbV m < 0) by omega)] at h
  split at h <;> split at h <;> (try split at h) <;> omega
theorem can_len {l m : List Nat} (hl : canL l) (hm : canL m) (h : limbV m ≤ limbV l) : m.length ≤ l.length := by
 apply Nat.le_of_not_lt
 intro h2
 have := limb_len hl hm h2
 omega
theorem DecAdd_ev (a b : Dc) (ha : okD a) (hb : okD b) : AFn Tryz.prog G 81 [a.enc, b.enc] (.tup [(addD a b).1.enc, .int .i64 (addD a b).2]) := by
 refine AFn.introU tok Tryz.func81 (by kernel_rfl) rfl rfl ?_
 simp only [Tryz.f81, enumA, List.map_cons, List.map_nil]
 have hal := aligned_ev (G := G) a b ha hb
 obtain ⟨a1, a2, a3, a4⟩ := ha
 obtain ⟨b1, b2, b3, b4⟩ := hb
 have hm3 : maxS a b ≤ 1000 := by unfold maxS; split <;> omega
 have hm0 : 0 ≤ maxS a b := by unfold maxS; split <;> omega
 have hx := natL_can (dig_pad a4 (maxS a b - a.scale).toNat)
 have hy := natL_can (dig_pad b4 (maxS a b - b.scale).toNat)
 have vx := natL_val (dig_pad a4 (maxS a b - a.scale).toNat)
 have vy := natL_val (dig_pad b4 (maxS a b - b.scale).toNat)
 have lx : (natL (padD a (maxS a b))).length ≤ 2000 := by have := natL_len (padD a (maxS a b)); simp [padD] at *; omega
 have ly : (natL (padD b (maxS a b))).length ≤ 2000 := by have := natL_len (padD b (maxS a b)); simp [padD] at *; omega
 have hD : addD a b = if a.neg = b.neg then normV a.neg (valX a b + valY a b) (maxS a b).toNat else if valY a b ≤ valX a b then normV a.neg (valX a b - valY a b) (maxS a b).toNat else normV b.neg (valY a b - valX a b) (maxS a b).toNat := rfl
 rw [show valX a b = limbV (natL (padD a (maxS a b))) from vx.symm, show valY a b = limbV (natL (padD b (maxS a b))) from vy.symm] at hD
 rw [hD]
 change canL (natL (padD a (maxS a b))) at hx
 change canL (natL (padD b (maxS a b))) at hy
 clear vx vy hD
 generalize natL (padD a (maxS a b)) = x at *
 generalize natL (padD b (maxS a b)) = y at *
 obtain ⟨sc, hsc⟩ : ∃ sc : Nat, maxS a b = sc := ⟨(maxS a b).toNat, by omega⟩
 rw [hsc] at hal ⊢
 rw [Int.toNat_natCast]
 have hcm := natCmp_ev (G := G) x y (by omega) (by omega)
 have hge := natCmp_ge hx hy
 generalize natCmp x y = c at *
 have hp := plus_ev (G := G) x y hx.1 hy.1 (by omega) (by omega)
 obtain ⟨op, vp⟩ := addL_spec hx.1 hy.1
 have lp := addL_len x y
 generalize addL x y = p at *
 have dp := digits_ev (G := G) p op (by omega)
 have mp := made_limbs (G := G) a.neg op (by omega) sc (by omega)
 have hq := minusN_ev (G := G) x y hx.1 hy.1 (by omega) (by omega)
 have sq := fun h => subL_spec hx.1 hy.1 (can_len hx hy h) h
 have lq := subL_len x y
 generalize subL x y = q at *
 have hr := minusN_ev (G := G) y x hy.1 hx.1 (by omega) (by omega)
 have sr := fun h => subL_spec hy.1 hx.1 (can_len hy hx h) h
 have lr := subL_len y x
 generalize subL y x = r at *
 refine rgn [] [[], [], [], [2, 3, 4]] ?_
 iterate 4 refine op1 tok ?_
 refine runEnd ?_
 refine rgn [.nilp, .tup [.sl 1 (x.map limbP), .sl 1 (y.map limbP), .int .i64 sc]] [[], [], [], [], [], [], [2, 3, 4, 13, 14, 15], [], [], [2, 3, 4, 6, 7, 8]] ?_
 iterate 10 refine op1 tok ?_ (hv := by first | with_reducible exact True.intro | (exact hal; done) | omega | simp | (simp; omega) | (simp +contextual; omega))
 refine runEnd ?_
 refine AW.seq ?_
 refine AW.block ?_
 refine rgn [] [[], [], [], [], [2, 3, 4, 6, 7, 8, 21], [2, 3, 4, 6, 7, 8, 16]] ?_
 iterate 6 refine op1 tok ?_
 refine runEnd ?_
 refine cnd ?_ ?_
 ·intro h16
  try simp at h16
  rw [if_pos h16, ← vp]
  generalize digW (9 * p.length) (limbV p) = dg at *
  generalize normV a.neg (limbV p) sc = R at *
  refine AW.seqDrawS tok mixed 10 [[2], [22], [6], [7], [24, 25], [26], [8], [23, 27, 28], [29], [29]] [.nilp, .sl 1 (p.map limbP), .nilp, .str dg, .nilp, .tup [R.1.enc, .int .i64 R.2]] [] (by kernel_rfl) ?_
  iterate 10 refine d1 ?_ (hv := by first | with_reducible exact True.intro | (first | exact hp | exact dp | (simpa using mp); done) | omega | simp | (simp; omega) | (simp +contextual; omega))
  refine DGo.nil (by kernel_rfl) ⟨by kernel_rfl, ?_⟩
  refine AOpsO.run [[], [4, 5]] ?_
  iterate 2 refine op1 tok ?_
  refine runEnd ?_
  exact AW.ret ⟨.inr rfl, _, _, by (conv => lhs; simp), trivial, by simp⟩
 ·intro h16
  try simp at h16
  rw [if_neg h16]
  refine rgn [.nilp, .int .i64 c] [[], [], [], [], [2, 3, 4, 6, 7, 8, 32]] ?_
  iterate 5 refine op1 tok ?_ (hv := by first | with_reducible exact True.intro | (exact hcm; done) | omega | simp | (simp; omega) | (simp +contextual; omega))
  refine runEnd ?_
  refine cnd ?_ ?_
  ·intro h32
   try simp at h32
   obtain ⟨oq, vq⟩ := sq (hge.1 h32)
   rw [if_pos (hge.1 h32), ← vq]
   have dq := digits_ev (G := G) q oq (by omega)
   have mq := made_limbs (G := G) a.neg oq (by omega) sc (by omega)
   generalize digW (9 * q.length) (limbV q) = dg at *
   generalize normV a.neg (limbV q) sc = R at *
   refine AW.seqDrawS tok mixed 10 [[2], [37], [6], [7], [39, 40], [41], [8], [38, 42, 43], [44], [44]] [.nilp, .sl 1 (q.map limbP), .nilp, .str dg, .nilp, .tup [R.1.enc, .int .i64 R.2]] [] (by kernel_rfl) ?_
   iterate 10 refine d1 ?_ (hv := by first | with_reducible exact True.intro | (first | exact hq | exact dq | (simpa using mq); done) | omega | simp | (simp; omega) | (simp +contextual; omega))
   refine DGo.nil (by kernel_rfl) ⟨by kernel_rfl, ?_⟩
   refine AOpsO.run [[], [4, 5]] ?_
   iterate 2 refine op1 tok ?_
   refine runEnd ?_
   exact AW.ret ⟨.inr rfl, _, _, by (conv => lhs; simp), trivial, by simp⟩
  ·intro h32
   try simp at h32
   have hlt : ¬ limbV y ≤ limbV x := fun h => by have := hge.2 h; omega
   obtain ⟨or, vr⟩ := sr (by omega)
   rw [if_neg hlt, ← vr]
   have dr := digits_ev (G := G) r or (by omega)
   have mr := made_limbs (G := G) b.neg or (by omega) sc (by omega)
   generalize digW (9 * r.length) (limbV r) = dg at *
   generalize normV b.neg (limbV r) sc = R at *
   refine AW.skip ?_
   refine AW.seqDrawS tok mixed 10 [[3], [47], [7], [6], [49, 50], [51], [8], [48, 52, 53], [54], [54]] [.nilp, .sl 1 (r.map limbP), .nilp, .str dg, .nilp, .tup [R.1.enc, .int .i64 R.2]] [] (by kernel_rfl) ?_
   iterate 10 refine d1 ?_ (hv := by first | with_reducible exact True.intro | (first | exact hr | exact dr | (simpa using mr); done) | omega | simp | (simp; omega) | (simp +contextual; omega))
   refine DGo.nil (by kernel_rfl) ⟨by kernel_rfl, ?_⟩
   refine AOpsO.run [[], [4, 5]] ?_
   iterate 2 refine op1 tok ?_
   refine runEnd ?_
   exact AW.ret ⟨.inr rfl, _, _, by (conv => lhs; simp), trivial, by simp⟩
end Go.Proofs.YtdojfdaglbphlaaGreatDoor
