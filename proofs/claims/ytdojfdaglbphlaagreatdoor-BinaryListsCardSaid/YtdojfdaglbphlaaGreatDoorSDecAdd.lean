import Derived.Test.YtdojfdaglbphlaaGreatDoorK1
import Derived.Test.YtdojfdaglbphlaaGreatDoorK3
import Derived.Test.YtdojfdaglbphlaaGreatDoorSArith
namespace Go.Proofs.YtdojfdaglbphlaaGreatDoor
open Sy Go
set_option maxRecDepth 100000
set_option maxHeartbeats 4000000
set_option linter.unusedSimpArgs false
set_option linter.unusedVariables false
variable {G : qQ}
theorem qLX (l : List Nat) (i : Nat) : AFn Tryz.prog G 145 [.sl 1 (l.map zL), .int .i64 i] (.int .u64 (l.getD i 0 : Nat)) := by
 refine AFn.introU tok Tryz.func145 (by kernel_rfl) rfl rfl ?_
 simp only [Tryz.f145, qJ, List.map_cons, List.map_nil]
 refine rgn [] [[0, 1]] ?_
 refine op1 tok ?_
 refine qA ?_
 refine AW.seq ?_
 refine rgn [] [[], [], [], [0, 1, 8]] ?_
 iterate 4 refine op1 tok ?_
 refine qA ?_
 refine cnd ?_ ?_
 ·intro h8
  try simp at h8
  obtain ⟨x, hx⟩ : ∃ x, l[i]? = some x := ⟨l[i]'(by omega), List.getElem?_eq_getElem _⟩
  rw [show l.getD i 0 = x by rw [List.getD_eq_getElem?_getD, hx]; rfl]
  refine rgn [.int .u64 (x : Nat)] [[], [], [11], [], [4]] ?_
  iterate 5 refine op1 tok ?_ (hv := by first | with_reducible exact True.intro | ((simp [hx]; try omega); done) | omega | simp | (simp +contextual; omega))
  refine qA ?_
  exact AW.ret qI
 ·intro h8
  try simp at h8
  rw [show l.getD i 0 = 0 by rw [List.getD_eq_getElem?_getD, List.getElem?_eq_none (by omega)]; rfl]
  refine AW.skip ?_
  refine rgn [] [[]] ?_
  refine op1 tok ?_
  refine qA ?_
  exact AW.ret qI
theorem zOO (l m : List Nat) (hl : okL l) (hm : okL m) (h1 : l.length ≤ 1000000) (h2 : m.length ≤ 1000000) : AFn Tryz.prog G 139 [.sl 1 (l.map zL), .sl 1 (m.map zL)] (.sl 1 ((qVS l m).map zL)) := by
 refine AFn.introU tok Tryz.func139 (by kernel_rfl) rfl rfl ?_
 simp only [Tryz.f139, qJ, List.map_cons, List.map_nil]
 refine rgn [] [[0, 1]] ?_
 refine op1 tok ?_
 refine qA ?_
 refine rgn [] [[]] ?_
 refine op1 tok ?_
 refine qA ?_
 refine rgn [] [[]] ?_
 refine op1 tok ?_
 refine qA ?_
 refine AW.seq ?_
 refine rgn [] [[], [], [], [], [0, 1, 5, 6, 13], []] ?_
 iterate 6 refine op1 tok ?_
 refine qA ?_
 refine AW.block ?_
 refine AW.beginE 5 90 24 1 (by simp) (by simp) (by conv => lhs; simp) ?_
 refine AW.loop (α := Nat) (fun k => k ≤ max l.length m.length) (fun k => ⟨qW 39 [(0, .p (.sl 1 (l.map zL))), (1, .p (.sl 1 (m.map zL))), (5, .ms 90), (6, .p (.int .u64 ((xC l m k).2 : Nat))), (13, .p (.int .i64 (max l.length m.length : Nat))), (14, .p (.int .i64 k))], [], [(90, .row 24 1 ((xC l m k).1.map zL))], 0⟩) (fun k => max l.length m.length - k) (0) (by omega) ⟨qB (by simp [xC]; split <;> omega), rfl, by simp [xC], by simp [xC]⟩ ?_
 rintro k hk
 obtain ⟨s1, s2, s3⟩ := qKL hl hm k
 have sl := qFP l m k
 have g1 := xE hl k
 have g2 := xE hm k
 unfold qH at g1 g2
 refine rgn [] [[]] ?_
 refine op1 tok ?_
 refine qA ?_
 refine AW.seq ?_
 refine cnd ?_ ?_
 ·intro h15
  try simp at h15
  have hk' : k < max l.length m.length := by omega
  have lv1 := qLX (G := G) l k
  have lv2 := qLX (G := G) m k
  have hst : xC l m (k + 1) = ((xC l m k).1 ++ [(l.getD k 0 + m.getD k 0 + (xC l m k).2) % qH], (l.getD k 0 + m.getD k 0 + (xC l m k).2) / qH) := rfl
  generalize xC l m k = A at *
  generalize l.getD k 0 = x at *
  generalize m.getD k 0 = y at *
  have w1 : IntKind.u64.wrap ((x : Int) + y) = (x : Int) + y := yJ (by omega) (by omega)
  obtain ⟨z, hz⟩ : ∃ z, z = x + y + A.2 := ⟨_, rfl⟩
  rw [← hz] at hst
  have w2 : IntKind.u64.wrap ((x : Int) + y + A.2) = (z : Int) := by rw [yJ (by omega) (by omega)]; omega
  have dm : (z : Int).tmod 1000000000 = ((z % qH : Nat) : Int) := (Int.ofNat_tmod z 1000000000).symm
  have dq : IntKind.u64.wrap ((z : Int) / 1000000000) = ((z / qH : Nat) : Int) := by
   unfold qH
   rw [yJ (by omega) (by omega)]; omega
  generalize z % qH = r at *
  generalize z / qH = q at *
  refine AW.skip ?_
  refine AW.seq ?_
  refine AW.block ?_
  refine rgn [] [[], [0, 1, 5, 6, 7, 13, 14]] ?_
  iterate 2 refine op1 tok ?_
  refine qA ?_
  refine rgn [.nilp, .int .u64 (x : Nat), .nilp, .int .u64 (y : Nat)] [[], [], [], [], [], [0, 1, 5, 6, 13, 14, 19, 22], [], [], [0, 1, 5, 13, 14, 25], [0, 1, 5, 8, 13, 14]] ?_
  iterate 10 refine op1 tok ?_ (h := by intro C; conv => lhs; simp [w1, w2]) (hv := by first | with_reducible exact True.intro | (first | exact lv1 | exact lv2; done) | omega | simp | (simp +contextual; omega))
  refine qA ?_
  refine rgz [.int .u64 (r : Nat)] [[], [], [], [], [0, 1, 8, 13, 14, 30], [], [], [], [0, 1, 5, 6, 13, 14]] ?_
  iterate 9 refine op1 tok ?_ (h := by intro C; conv => lhs; simp [dm, dq]) (hv := by first | with_reducible exact True.intro | ((simp [dm]); done) | omega | simp | (simp +contextual; omega))
  refine qA ?_
  refine rgz [] [[], [0, 1, 5, 6, 13, 14]] ?_
  iterate 2 refine op1 tok ?_
  refine qA ?_
  exact ⟨k + 1, by omega, by omega, qB (by simp [hst]), rfl, by simp [hst], by simp [hst]⟩
 ·intro h15
  try simp at h15
  obtain rfl : k = max l.length m.length := by omega
  have htr := qLS (G := G) ((xC l m (max l.length m.length)).1 ++ [(xC l m (max l.length m.length)).2])
  rw [show yE ((xC l m (max l.length m.length)).1 ++ [(xC l m (max l.length m.length)).2]) = qVS l m from rfl] at htr
  simp only [List.map_append, List.map_cons, List.map_nil, zL] at htr
  refine AW.exit ?_
  simp
  refine rgn [.int .u64 ((xC l m (max l.length m.length)).2 : Nat), .nilp, .sl 1 ((qVS l m).map zL)] [[], [], [], [37], [], [4]] ?_
  iterate 6 refine op1 tok ?_ (h := by intro C; conv => lhs; simp [List.map_append]) (hv := by first | with_reducible exact True.intro | (first | exact htr | (simp; done); done) | omega | simp | (simp +contextual; omega))
  refine qA ?_
  exact AW.ret qI
theorem qRN (l m : List Nat) (hl : okL l) (hm : okL m) (h1 : l.length ≤ 1000000) (h2 : m.length ≤ 1000000) : AFn Tryz.prog G 141 [.sl 1 (l.map zL), .sl 1 (m.map zL)] (.sl 1 ((qTU l m).map zL)) := by
 refine AFn.introU tok Tryz.func141 (by kernel_rfl) rfl rfl ?_
 simp only [Tryz.f141, qJ, List.map_cons, List.map_nil]
 refine rgn [] [[0, 1]] ?_
 refine op1 tok ?_
 refine qA ?_
 refine rgn [] [[]] ?_
 refine op1 tok ?_
 refine qA ?_
 refine rgn [] [[]] ?_
 refine op1 tok ?_
 refine qA ?_
 refine AW.seq ?_
 refine rgn [] [[], [], [0, 1, 5, 6, 10, 11]] ?_
 iterate 3 refine op1 tok ?_
 refine qA ?_
 refine AW.block ?_
 refine AW.beginE 5 90 24 1 (by simp) (by simp) (by conv => lhs; simp) ?_
 refine AW.loop (α := Nat) (fun k => k ≤ l.length) (fun k => ⟨qW 36 [(0, .p (.sl 1 (l.map zL))), (1, .p (.sl 1 (m.map zL))), (5, .ms 90), (6, .p (.int .u64 ((xX l m k).2 : Nat))), (10, .p (.int .i64 l.length)), (11, .p (.int .i64 k))], [], [(90, .row 24 1 ((xX l m k).1.map zL))], 0⟩) (fun k => l.length - k) (0) (by omega) ⟨qB (by simp [xX]), rfl, by simp [xX], by simp [xX]⟩ ?_
 rintro k hk
 obtain ⟨s1, s2, s3⟩ := qJN hl hm k
 have sl := qEM l m k
 have g1 := xE hl k
 have g2 := xE hm k
 unfold qH at g1 g2
 refine rgn [] [[]] ?_
 refine op1 tok ?_
 refine qA ?_
 refine AW.seq ?_
 refine cnd ?_ ?_
 ·intro h12
  try simp at h12
  have lv2 := qLX (G := G) m k
  obtain ⟨x0, hgl⟩ : ∃ x, l[k]? = some x := ⟨l[k]'(by omega), List.getElem?_eq_getElem _⟩
  have hx0 : l.getD k 0 = x0 := by rw [List.getD_eq_getElem?_getD, hgl]; rfl
  have hst : xX l m (k + 1) = ((xX l m k).1 ++ [(l.getD k 0 + qH - m.getD k 0 - (xX l m k).2) % qH], 1 - (l.getD k 0 + qH - m.getD k 0 - (xX l m k).2) / qH) := rfl
  generalize xX l m k = A at *
  rw [hx0] at hst g1
  generalize m.getD k 0 = y at *
  generalize x0 = x at *
  obtain ⟨z, hz⟩ : ∃ z, z = x + qH - y - A.2 := ⟨_, rfl⟩
  rw [← hz] at hst
  have hzd : z / qH ≤ 1 := by
   have : z / qH < 2 := (Nat.div_lt_iff_lt_mul (by decide)).2 (by rw [hz]; unfold qH; omega)
   omega
  unfold qH at hz
  have w1 : IntKind.u64.wrap ((x : Int) + 1000000000) = (x : Int) + 1000000000 := yJ (by omega) (by omega)
  have w2 : IntKind.u64.wrap ((x : Int) + 1000000000 - y) = (x : Int) + 1000000000 - y := yJ (by omega) (by omega)
  have w3 : IntKind.u64.wrap ((x : Int) + 1000000000 - y - A.2) = (z : Int) := by rw [yJ (by omega) (by omega)]; omega
  have dm : (z : Int).tmod 1000000000 = ((z % qH : Nat) : Int) := (Int.ofNat_tmod z 1000000000).symm
  have dq : IntKind.u64.wrap ((z : Int) / 1000000000) = ((z / qH : Nat) : Int) := by
   unfold qH
   rw [yJ (by omega) (by omega)]; omega
  generalize z % qH = r at *
  generalize z / qH = q at *
  have w4 : IntKind.u64.wrap (1 - (q : Int)) = ((1 - q : Nat) : Int) := by
   rw [yJ (by omega) (by omega)]; omega
  generalize 1 - q = b at *
  refine AW.skip ?_
  refine AW.seq ?_
  refine AW.block ?_
  refine rgn [] [[], [0, 1, 5, 6, 7, 10, 11]] ?_
  iterate 2 refine op1 tok ?_
  refine qA ?_
  refine AW.seqDrawS tok mixed 11 [[0], [7], [14, 15], [16], [17], [1], [7], [19, 20], [18, 21], [6], [22, 23]] [.int .u64 (x : Nat), .nilp, .int .u64 (y : Nat)] [] (by kernel_rfl) ?_
  iterate 11 refine d1 ?_ (h := by intro C; conv => lhs; simp [w1, w2, w3]) (hv := by first | with_reducible exact True.intro | (first | exact lv2 | (simp [hgl]; done) | (simp [hgl]; omega); done) | omega | simp | (simp +contextual; omega))
  refine DGo.nil (by kernel_rfl) ⟨by kernel_rfl, ?_⟩
  refine qC.run [[0, 1, 5, 8, 10, 11]] ?_
  refine op1 tok ?_ (h := by intro C; conv => lhs; simp [w1, w2, w3])
  refine qA ?_
  refine rgz [.int .u64 (r : Nat)] [[], [], [], [], [0, 1, 8, 10, 11, 29], [], [], [], [0, 1, 5, 10, 11, 32], [0, 1, 5, 6, 10, 11]] ?_
  iterate 10 refine op1 tok ?_ (h := by intro C; conv => lhs; simp [dm, dq, w4]) (hv := by first | with_reducible exact True.intro | ((simp [dm]); done) | omega | simp | (simp +contextual; omega))
  refine qA ?_
  refine rgz [] [[], [0, 1, 5, 6, 10, 11]] ?_
  iterate 2 refine op1 tok ?_
  refine qA ?_
  exact ⟨k + 1, by omega, by omega, qB (by simp [hst]), rfl, by simp [hst], by simp [hst]⟩
 ·intro h12
  try simp at h12
  obtain rfl : k = l.length := by omega
  have htr := qLS (G := G) (xX l m l.length).1
  refine AW.exit ?_
  simp
  refine rgn [.nilp, .sl 1 ((qTU l m).map zL)] [[], [], [4]] ?_
  iterate 3 refine op1 tok ?_ (hv := by first | with_reducible exact True.intro | (exact htr; done) | omega | simp | (simp +contextual; omega))
  refine qA ?_
  exact AW.ret qI
def vJ (n w V : Nat) : List PD := qO (List.replicate (n - w) 0 ++ yU w V)
theorem qZF (n V : Nat) : vJ n 0 V = List.replicate n (.int .u8 0) := by simp [vJ, yU, qO]
theorem zCP {n w V : Nat} (h : w ≤ n) : (vJ n w V).length = n := by simp [vJ, kO]; omega
theorem zCQ {n w V : Nat} (h : w < n) : (vJ n w V)[n - 1 - w]? = some (.int .u8 0) := by
 unfold vJ
 refine qDV (b := 0) ?_
 rw [List.getElem?_append_left (by simp; omega), List.getElem?_replicate, if_pos (by omega)]
theorem zCO {n w V : Nat} (h : w < n) : (vJ n w V).set (n - 1 - w) (.int .u8 (48 + V / 10 ^ w % 10 : Nat)) = vJ n (w + 1) V := by
 unfold vJ qO
 have hd : V / 10 ^ w % 10 < 10 := Nat.mod_lt _ (by decide)
 rw [show PD.int .u8 (48 + V / 10 ^ w % 10 : Nat) = (fun b : UInt8 => PD.int .u8 b.toNat) (UInt8.ofNat (48 + V / 10 ^ w % 10)) by simp only [vI hd], ← List.map_set]
 congr 1
 rw [show n - w = (n - (w + 1)) + 1 by omega, List.replicate_succ', List.append_assoc, List.set_append_right _ _ (by simp; omega)]
 simp only [List.length_replicate]
 rw [show n - 1 - w - (n - (w + 1)) = 0 by omega]
 rfl
theorem zCR (n V : Nat) : vJ n n V = qO (yU n V) := by simp [vJ]
theorem zKY {l : List Nat} (h : okL l) (i : Nat) : qM l / qH ^ i % qH = l.getD i 0 := by
 induction l generalizing i with
 | nil => simp [qM]
 | cons a l ih =>
  have ha : a < qH := h a (by simp)
  have ih := ih (fun x hx => h x (by simp [hx]))
  have hb : 0 < qH := by decide
  cases i with
  | zero => simp [qM, Nat.add_mul_mod_self_left, Nat.mod_eq_of_lt ha]
  | succ i =>
   simp only [qM, List.getD_cons_succ]
   rw [Nat.pow_succ, Nat.mul_comm (qH ^ i), ← Nat.div_div_eq_div_mul, Nat.add_mul_div_left _ _ hb, Nat.div_eq_of_lt ha, Nat.zero_add]
   exact ih i
theorem zMC {l : List Nat} (h : okL l) (i : Nat) {j : Nat} (hj : j < 9) : qM l / 10 ^ (9 * i + j) % 10 = l.getD i 0 / 10 ^ j % 10 := by
 rw [← zKY h i, Nat.pow_add, Nat.pow_mul, ← Nat.div_div_eq_div_mul, show (10 : Nat) ^ 9 = qH from rfl]
 generalize qM l / qH ^ i = M
 obtain ⟨d, hd⟩ : ∃ d, d + j = 8 := ⟨8 - j, by omega⟩
 rw [show qH = 10 ^ j * (10 * 10 ^ d) by rw [← Nat.pow_succ', ← Nat.pow_add, show j + (d + 1) = 9 by omega]; rfl, Nat.mod_mul_right_div_self, Nat.mod_mul_right_mod]
def qPR (x j : Nat) : Nat := x / 10 ^ j
theorem zFV (x : Nat) : qPR x 0 = x := by simp [qPR]
theorem zFW (x j : Nat) : qPR x j / 10 = qPR x (j + 1) := by unfold qPR; rw [Nat.div_div_eq_div_mul, ← Nat.pow_succ]
theorem qGD (l : List Nat) (hl : okL l) (h1 : l.length ≤ 1000000) : AFn Tryz.prog G 91 [.sl 1 (l.map zL)] (.str (yU (9 * l.length) (qM l))) := by
 refine AFn.introU tok Tryz.func91 (by kernel_rfl) rfl rfl ?_
 simp only [Tryz.f91, qJ, List.map_cons, List.map_nil]
 have hz : vJ (9 * l.length) 0 (qM l) = List.replicate (9 * l.length) (.int .u8 0) := qZF _ _
 have hall := zCR (9 * l.length) (qM l)
 have hdl := fun k j (h : j < 9) => zMC hl k (j := j) h
 have hset := fun w => zCO (n := 9 * l.length) (w := w) (V := qM l)
 have hget := fun w => zCQ (n := 9 * l.length) (w := w) (V := qM l)
 have hlen := fun w => zCP (n := 9 * l.length) (w := w) (V := qM l)
 have hmul : ((l.length : Int) * 9).toNat = 9 * l.length := by omega
 generalize qM l = V at *
 obtain ⟨N, hN⟩ : ∃ N, N = 9 * l.length := ⟨_, rfl⟩
 rw [← hN] at hz hall hset hget hlen hmul ⊢
 refine rgn [] [[0]] ?_
 refine op1 tok ?_
 refine qA ?_
 refine rgn [.int .u8 0] [[], [], [], [], [0, 3]] ?_
 iterate 5 refine op1 tok ?_
 refine qA ?_
 refine AW.seq ?_
 refine rgn [] [[], [], [3, 11, 12, 13]] ?_
 iterate 3 refine op1 tok ?_
 refine qA ?_
 refine AW.block ?_
 refine AW.loop (α := Nat) (fun k => k ≤ l.length) (fun k => ⟨qW 41 [(3, .ms 10), (11, .p (.sl 1 (l.map zL))), (12, .p (.int .i64 l.length)), (13, .p (.int .i64 k))], [], [(10, .row 5 1 (vJ N (9 * k) V))], 0⟩) (fun k => l.length - k) (0) (by omega) ⟨qB (by simp), rfl, by (simp [hz, hmul]), by simp [hz, hmul]⟩ ?_
 rintro k hk
 refine rgn [] [[]] ?_
 refine op1 tok ?_
 refine qA ?_
 refine AW.seq ?_
 refine cnd ?_ ?_
 ·intro h14
  try simp at h14
  obtain ⟨x, hx⟩ : ∃ x, l[k]? = some x := ⟨l[k]'(by omega), List.getElem?_eq_getElem _⟩
  have hxd : l.getD k 0 = x := by rw [List.getD_eq_getElem?_getD, hx]; rfl
  have hxb : x < 1000000000 := hl x (List.mem_of_getElem? hx)
  have hx0 := zFV x
  refine AW.skip ?_
  refine AW.seq ?_
  refine AW.block ?_
  refine rgn [.int .u64 (x : Nat)] [[], [], [], [], [3, 4, 5, 11, 12, 13]] ?_
  iterate 5 refine op1 tok ?_ (hv := by first | with_reducible exact True.intro | (simp [hx]; done) | omega | simp | (simp +contextual; omega))
  refine qA ?_
  refine rgn [] [[]] ?_
  refine op1 tok ?_
  refine qA ?_
  refine AW.block ?_
  refine AW.loop (α := Nat) (fun j => j ≤ 9) (fun j => ⟨qW 41 [(3, .ms 10), (4, .p (.int .i64 k)), (5, .p (.int .u64 (qPR x j : Nat))), (11, .p (.sl 1 (l.map zL))), (12, .p (.int .i64 l.length)), (13, .p (.int .i64 k)), (18, .p (.int .i64 j))], [], [(10, .row 5 1 (vJ N (9 * k + j) V))], 0⟩) (fun j => 9 - j) (0) (by omega) ⟨qB (by simp [hx0]), rfl, by simp, by simp⟩ ?_
  rintro j hj
  refine rgn [] [[]] ?_
  refine op1 tok ?_
  refine qA ?_
  refine AW.seq ?_
  refine cnd ?_ ?_
  ·intro h19
   try simp at h19
   have hdj := hdl k j (by omega)
   rw [hxd, show x / 10 ^ j = qPR x j from rfl] at hdj
   have hset := hset (9 * k + j) (by omega)
   have hget := hget (9 * k + j) (by omega)
   have hlen := hlen (9 * k + j) (by omega)
   rw [hdj] at hset
   have hxj : qPR x j < 1000000000 := Nat.lt_of_le_of_lt (Nat.div_le_self _ _) hxb
   have hnx := zFW x j
   generalize qPR x j = z at *
   have hix : ((N : Int) - 1 - k * 9).toNat - j = N - 1 - (9 * k + j) := by omega
   have dm : (z : Int).tmod 10 = ((z % 10 : Nat) : Int) := (Int.ofNat_tmod z 10).symm
   have dc : IntKind.u8.wrap (IntKind.u64.wrap (48 + ((z % 10 : Nat) : Int))) = ((48 + z % 10 : Nat) : Int) := by
    rw [yJ (by omega) (by omega), qBH (by omega) (by omega)]; omega
   have dq : IntKind.u64.wrap ((z : Int) / 10) = ((qPR x (j + 1) : Nat) : Int) := by rw [← hnx, yJ (by omega) (by omega)]; omega
   generalize hr : z % 10 = r at *
   have e9 : 9 * k + j + 1 = 9 * k + (j + 1) := rfl
   rw [e9, show ((48 + r : Nat) : Int) = 48 + (r : Int) by omega] at hset
   refine AW.skip ?_
   refine AW.seq ?_
   refine AW.block ?_
   refine rgn [] [[], [3, 4, 5, 6, 11, 12, 13, 18]] ?_
   iterate 2 refine op1 tok ?_
   refine qA ?_
   refine rgn [.int .u8 0, .int .u8 (48 + r : Nat)] [[], [], [], [], [], [], [3, 4, 5, 6, 11, 12, 13, 18, 21, 27], [], [], [], [3, 4, 5, 11, 12, 13, 18, 21, 29, 31], [], [], [3, 4, 5, 11, 12, 13, 18, 33, 34], [3, 4, 5, 11, 12, 13, 18]] ?_
   iterate 15 refine op1 tok ?_ (h := by intro C; conv => lhs; simp [hlen, hget, hix, dm, dc]) (hv := by first | with_reducible exact True.intro | (first | (simp [hlen, hget, hix, dm, dc]; done) | (simp [hlen, hget, hix, dm, dc]; omega); done) | omega | simp | (simp +contextual; omega))
   refine qA ?_
   refine rgz [] [[], [], [3, 4, 5, 11, 12, 13, 18]] ?_
   iterate 3 refine op1 tok ?_
   refine qA ?_
   refine rgz [] [[], [3, 4, 5, 11, 12, 13, 18]] ?_
   iterate 2 refine op1 tok ?_
   refine qA ?_
   exact ⟨j + 1, by omega, by omega, qB (by simp [dq, hset, hlen, hix]), rfl, by simp [dq, hset, hlen, hix], by simp [dq, hset, hlen, hix]⟩
  ·intro h19
   try simp at h19
   obtain rfl : j = 9 := by omega
   refine AW.exit ?_
   simp
   refine rgz [] [[], [3, 11, 12, 13]] ?_
   iterate 2 refine op1 tok ?_
   refine qA ?_
   exact ⟨k + 1, by omega, by omega, qB (by simp [show 9 * (k + 1) = 9 * k + 9 from rfl]), rfl, by simp [show 9 * (k + 1) = 9 * k + 9 from rfl], by simp [show 9 * (k + 1) = 9 * k + 9 from rfl]⟩
 ·intro h14
  try simp at h14
  obtain rfl : k = l.length := by omega
  rw [← hN, hall]
  refine AW.exit ?_
  simp
  refine rgn [.str (yU N V)] [[], [], [2]] ?_
  iterate 3 refine op1 tok ?_
  refine qA ?_
  exact AW.ret qI
theorem zHE (l : List Nat) (j r : Nat) : (l.map zL).set j (.int .u64 (r : Nat)) = (l.set j r).map zL := by rw [List.map_set]; rfl
theorem zJI (l m : List Nat) (hl : okL l) (hm : okL m) (h1 : l.length ≤ 1000000) (h2 : m.length ≤ 1000000) : AFn Tryz.prog G 89 [.sl 1 (l.map zL), .sl 1 (m.map zL)] (.sl 1 ((qYD l m).map zL)) := by
 refine AFn.introU tok Tryz.func89 (by kernel_rfl) rfl rfl ?_
 simp only [Tryz.f89, qJ, List.map_cons, List.map_nil]
 have hz : (qBV l m 0).map zL = List.replicate (l.length + m.length + 1) (.int .u64 0) := by simp [qBV]
 have hzl : ((l.length : Int) + m.length + 1).toNat = l.length + m.length + 1 := by omega
 refine rgn [] [[0, 1]] ?_
 refine op1 tok ?_
 refine qA ?_
 refine rgn [.int .u64 0] [[], [], [], [], [0, 1, 15], [], [], [0, 1, 5]] ?_
 iterate 8 refine op1 tok ?_
 refine qA ?_
 refine AW.seq ?_
 refine rgn [] [[], [], [1, 5, 18, 19, 20]] ?_
 iterate 3 refine op1 tok ?_
 refine qA ?_
 refine AW.block ?_
 refine AW.loop (α := Nat) (fun k => k ≤ l.length) (fun k => ⟨qW 58 [(1, .p (.sl 1 (m.map zL))), (5, .ms 17), (18, .p (.sl 1 (l.map zL))), (19, .p (.int .i64 l.length)), (20, .p (.int .i64 k))], [], [(17, .row 24 1 ((qBV l m k).map zL))], 0⟩) (fun k => l.length - k) (0) (by omega) ⟨qB (by simp), rfl, by (simp only [hz]; simp [hzl]), by simp⟩ ?_
 rintro k hk
 refine rgn [] [[]] ?_
 refine op1 tok ?_
 refine qA ?_
 refine AW.seq ?_
 refine cnd ?_ ?_
 ·intro h21
  try simp at h21
  obtain ⟨x, hx⟩ : ∃ x, l[k]? = some x := ⟨l[k]'(by omega), List.getElem?_eq_getElem _⟩
  have hxd : l.getD k 0 = x := by rw [List.getD_eq_getElem?_getD, hx]; rfl
  have hxb : x < qH := hl x (List.mem_of_getElem? hx)
  obtain ⟨hok, _, _⟩ := qJT hl hm k hk
  have hml := qIF l m k
  have hst : qBV l m (k + 1) = (uI m x k (qBV l m k) (m.length + 1)).1 := by rw [← hxd]; rfl
  generalize qBV l m k = O at *
  have hrow0 : uI m x k O 0 = (O, 0) := rfl
  refine AW.skip ?_
  refine AW.seq ?_
  refine AW.block ?_
  refine rgn [.int .u64 (x : Nat)] [[], [], [], [], [1, 5, 6, 7, 18, 19, 20]] ?_
  iterate 5 refine op1 tok ?_ (hv := by first | with_reducible exact True.intro | (simp [hx]; done) | omega | simp | (simp +contextual; omega))
  refine qA ?_
  refine rgn [] [[]] ?_
  refine op1 tok ?_
  refine qA ?_
  refine rgn [] [[], [], [], [1, 5, 6, 7, 8, 18, 19, 20, 27, 28]] ?_
  iterate 4 refine op1 tok ?_
  refine qA ?_
  refine AW.block ?_
  refine AW.loop (α := Nat) (fun j => j ≤ m.length + 1) (fun j => ⟨qW 58 [(1, .p (.sl 1 (m.map zL))), (5, .ms 17), (6, .p (.int .i64 k)), (7, .p (.int .u64 x)), (8, .p (.int .u64 ((uI m x k O j).2 : Nat))), (18, .p (.sl 1 (l.map zL))), (19, .p (.int .i64 l.length)), (20, .p (.int .i64 k)), (27, .p (.int .i64 ((m.length : Int) + 1))), (28, .p (.int .i64 j))], [], [(17, .row 24 1 ((uI m x k O j).1.map zL))], 0⟩) (fun j => m.length + 1 - j) (0) (by omega) ⟨qB (by simp [hrow0]), rfl, by simp [hrow0], by simp [hrow0]⟩ ?_
  rintro j hj
  refine rgn [] [[]] ?_
  refine op1 tok ?_
  refine qA ?_
  refine AW.seq ?_
  refine cnd ?_ ?_
  ·intro h29
   try simp at h29
   obtain ⟨ha, hc, _⟩ := qFX (i := k) hm hxb hok j (by omega)
   have hal := qHW m x k O j
   have hs1 : uI m x k O (j + 1) = ((uI m x k O j).1.set (k + j) (((uI m x k O j).1.getD (k + j) 0 + x * m.getD j 0 + (uI m x k O j).2) % qH), ((uI m x k O j).1.getD (k + j) 0 + x * m.getD j 0 + (uI m x k O j).2) / qH) := rfl
   have lv := qLX (G := G) m j
   have hy := xE hm j
   generalize uI m x k O j = A at *
   generalize m.getD j 0 = y at *
   obtain ⟨o, ho⟩ : ∃ o, A.1[k + j]? = some o := ⟨A.1[k + j]'(by omega), List.getElem?_eq_getElem _⟩
   have hod : A.1.getD (k + j) 0 = o := by rw [List.getD_eq_getElem?_getD, ho]; rfl
   have hob : o < qH := ha o (List.mem_of_getElem? ho)
   rw [hod] at hs1
   have hxy : x * y ≤ 999999999 * 999999999 := Nat.mul_le_mul (by unfold qH at hxb; omega) (by unfold qH at hy; omega)
   have hcast : (x : Int) * y = ((x * y : Nat) : Int) := by simp
   unfold qH at hob hc
   obtain ⟨z, hzz⟩ : ∃ z, z = o + x * y + A.2 := ⟨_, rfl⟩
   rw [← hzz] at hs1
   have w1 : IntKind.u64.wrap ((x : Int) * y) = ((x * y : Nat) : Int) := by rw [hcast, yJ (by omega) (by omega)]
   generalize x * y = p at *
   have w2 : IntKind.u64.wrap ((o : Int) + p) = (o : Int) + p := yJ (by omega) (by omega)
   have w3 : IntKind.u64.wrap ((o : Int) + p + A.2) = (z : Int) := by rw [yJ (by omega) (by omega)]; omega
   have dm : (z : Int).tmod 1000000000 = ((z % qH : Nat) : Int) := (Int.ofNat_tmod z 1000000000).symm
   have dq : IntKind.u64.wrap ((z : Int) / 1000000000) = ((z / qH : Nat) : Int) := by
    unfold qH
    rw [yJ (by omega) (by omega)]; omega
   generalize z % qH = r at *
   generalize z / qH = q at *
   have hset := zHE A.1 (k + j) r
   have hkj : ((k : Int) + j).toNat = k + j := by omega
   refine AW.skip ?_
   refine AW.seq ?_
   refine AW.block ?_
   refine rgn [] [[], [1, 5, 6, 7, 8, 9, 18, 19, 20, 27, 28]] ?_
   iterate 2 refine op1 tok ?_
   refine qA ?_
   refine AW.seqDrawS tok mixed 14 [[5], [6], [9], [32, 33], [31, 34], [35], [7], [1], [9], [38, 39], [37, 40], [36, 41], [8], [42, 43]] [.int .u64 (o : Nat), .nilp, .int .u64 (y : Nat)] [] (by kernel_rfl) ?_
   iterate 14 refine d1 ?_ (h := by intro C; conv => lhs; simp [w1, w2, w3]) (hv := by first | with_reducible exact True.intro | (first | exact lv | (simp [ho, hkj]; done) | (simp [ho, hkj]; omega); done) | omega | simp | (simp +contextual; omega))
   refine DGo.nil (by kernel_rfl) ⟨by kernel_rfl, ?_⟩
   refine qC.run [[1, 5, 6, 7, 9, 10, 18, 19, 20, 27, 28]] ?_
   refine op1 tok ?_ (h := by intro C; conv => lhs; simp [w1, w2, w3])
   refine qA ?_
   refine rgz [.int .u64 (o : Nat), .int .u64 (r : Nat)] [[], [], [], [], [], [1, 5, 6, 7, 10, 18, 19, 20, 27, 28, 45, 48, 50], [], [], [1, 5, 6, 7, 18, 19, 20, 27, 28, 50, 52, 53], [], [1, 5, 6, 7, 8, 18, 19, 20, 27, 28]] ?_
   iterate 11 refine op1 tok ?_ (h := by intro C; conv => lhs; simp [dm, dq, hkj]) (hv := by first | with_reducible exact True.intro | (first | (simp [ho, hkj, dm]; done) | (simp [ho, hkj, dm]; omega); done) | omega | simp | (simp +contextual; omega))
   refine qA ?_
   refine rgz [] [[], [1, 5, 6, 7, 8, 18, 19, 20, 27, 28]] ?_
   iterate 2 refine op1 tok ?_
   refine qA ?_
   exact ⟨j + 1, by omega, by omega, qB (by simp [hs1, hkj]), rfl, by simp [hs1, hkj], by simp [hs1, hkj]⟩
  ·intro h29
   try simp at h29
   obtain rfl : j = m.length + 1 := by omega
   refine AW.exit ?_
   simp
   refine rgz [] [[], [1, 5, 18, 19, 20]] ?_
   iterate 2 refine op1 tok ?_
   refine qA ?_
   exact ⟨k + 1, by omega, by omega, qB (by simp [hst]), rfl, by simp [hst], by simp [hst]⟩
 ·intro h21
  try simp at h21
  obtain rfl : k = l.length := by omega
  have htr := qLS (G := G) (qBV l m l.length)
  refine AW.exit ?_
  simp
  refine rgn [.nilp, .sl 1 ((qYD l m).map zL)] [[], [], [4]] ?_
  iterate 3 refine op1 tok ?_ (hv := by first | with_reducible exact True.intro | (exact htr; done) | omega | simp | (simp +contextual; omega))
  refine qA ?_
  exact AW.ret qI
end Go.Proofs.YtdojfdaglbphlaaGreatDoor
