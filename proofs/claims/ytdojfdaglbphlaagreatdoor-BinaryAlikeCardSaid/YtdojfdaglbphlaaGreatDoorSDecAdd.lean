import Derived.Test.YtdojfdaglbphlaaGreatDoorK2
import Derived.Test.YtdojfdaglbphlaaGreatDoorK3
import Derived.Test.YtdojfdaglbphlaaGreatDoorSArith
namespace Go.Proofs.YtdojfdaglbphlaaGreatDoor
open Sy Go
set_option maxRecDepth 100000
set_option maxHeartbeats 4000000
set_option linter.unusedSimpArgs false
set_option linter.unusedVariables false
variable {G : qV}
theorem qNA (l : List Nat) (i : Nat) : AFn Tryz.prog G 145 [.sl 1 (l.map zJ), .int .i64 i] (.int .u64 (l.getD i 0 : Nat)) := by
 refine AFn.introU tok Tryz.func145 (by kernel_rfl) rfl rfl ?_
 simp only [Tryz.f145, qI, List.map_cons, List.map_nil]
 refine rgn [] [[0, 1]] ?_
 refine op1 tok ?_
 refine qA ?_
 refine AW.seq ?_
 refine rgn [] [[], [], [], [0, 1, 8]] ?_
 iterate 4 refine op1 tok ?_
 refine qA ?_
 refine cnd ?_ ?_
 ·intro h8
  try simp at h8
  obtain ⟨x, hx⟩ : ∃ x, l[i]? = some x := ⟨l[i]'(by omega), List.getElem?_eq_getElem _⟩
  rw [show l.getD i 0 = x by rw [List.getD_eq_getElem?_getD, hx]; rfl]
  refine rgn [.int .u64 (x : Nat)] [[], [], [11], [], [4]] ?_
  iterate 5 refine op1 tok ?_ (hv := by first | with_reducible exact True.intro | ((simp [hx]; try omega); done) | omega | simp | (simp +contextual; omega))
  refine qA ?_
  exact AW.ret qJ
 ·intro h8
  try simp at h8
  rw [show l.getD i 0 = 0 by rw [List.getD_eq_getElem?_getD, List.getElem?_eq_none (by omega)]; rfl]
  refine AW.skip ?_
  refine rgn [] [[]] ?_
  refine op1 tok ?_
  refine qA ?_
  exact AW.ret qJ
theorem zPU (l m : List Nat) (hl : okL l) (hm : okL m) (h1 : l.length ≤ 1000000) (h2 : m.length ≤ 1000000) : AFn Tryz.prog G 139 [.sl 1 (l.map zJ), .sl 1 (m.map zJ)] (.sl 1 ((qXI l m).map zJ)) := by
 refine AFn.introU tok Tryz.func139 (by kernel_rfl) rfl rfl ?_
 simp only [Tryz.f139, qI, List.map_cons, List.map_nil]
 refine rgn [] [[0, 1]] ?_
 refine op1 tok ?_
 refine qA ?_
 refine rgn [] [[]] ?_
 refine op1 tok ?_
 refine qA ?_
 refine rgn [] [[]] ?_
 refine op1 tok ?_
 refine qA ?_
 refine AW.seq ?_
 refine rgn [] [[], [], [], [], [0, 1, 5, 6, 13], []] ?_
 iterate 6 refine op1 tok ?_
 refine qA ?_
 refine AW.block ?_
 refine AW.beginE 5 90 24 1 (by simp) (by simp) (by conv => lhs; simp) ?_
 refine AW.loop (α := Nat) (fun k => k ≤ max l.length m.length) (fun k => ⟨qY 39 [(0, .p (.sl 1 (l.map zJ))), (1, .p (.sl 1 (m.map zJ))), (5, .ms 90), (6, .p (.int .u64 ((xQ l m k).2 : Nat))), (13, .p (.int .i64 (max l.length m.length : Nat))), (14, .p (.int .i64 k))], [], [(90, .row 24 1 ((xQ l m k).1.map zJ))], 0⟩) (fun k => max l.length m.length - k) (0) (by omega) ⟨qB (by simp [xQ]; split <;> omega), rfl, by simp [xQ], by simp [xQ]⟩ ?_
 rintro k hk
 obtain ⟨s1, s2, s3⟩ := qLJ hl hm k
 have sl := qGF l m k
 have g1 := xR hl k
 have g2 := xR hm k
 unfold qH at g1 g2
 refine rgn [] [[]] ?_
 refine op1 tok ?_
 refine qA ?_
 refine AW.seq ?_
 refine cnd ?_ ?_
 ·intro h15
  try simp at h15
  have hk' : k < max l.length m.length := by omega
  have lv1 := qNA (G := G) l k
  have lv2 := qNA (G := G) m k
  have hst : xQ l m (k + 1) = ((xQ l m k).1 ++ [(l.getD k 0 + m.getD k 0 + (xQ l m k).2) % qH], (l.getD k 0 + m.getD k 0 + (xQ l m k).2) / qH) := rfl
  generalize xQ l m k = A at *
  generalize l.getD k 0 = x at *
  generalize m.getD k 0 = y at *
  have w1 : IntKind.u64.wrap ((x : Int) + y) = (x : Int) + y := yH (by omega) (by omega)
  obtain ⟨z, hz⟩ : ∃ z, z = x + y + A.2 := ⟨_, rfl⟩
  rw [← hz] at hst
  have w2 : IntKind.u64.wrap ((x : Int) + y + A.2) = (z : Int) := by rw [yH (by omega) (by omega)]; omega
  have dm : (z : Int).tmod 1000000000 = ((z % qH : Nat) : Int) := (Int.ofNat_tmod z 1000000000).symm
  have dq : IntKind.u64.wrap ((z : Int) / 1000000000) = ((z / qH : Nat) : Int) := by
   unfold qH
   rw [yH (by omega) (by omega)]; omega
  generalize z % qH = r at *
  generalize z / qH = q at *
  refine AW.skip ?_
  refine AW.seq ?_
  refine AW.block ?_
  refine rgn [] [[], [0, 1, 5, 6, 7, 13, 14]] ?_
  iterate 2 refine op1 tok ?_
  refine qA ?_
  refine rgn [.nilp, .int .u64 (x : Nat), .nilp, .int .u64 (y : Nat)] [[], [], [], [], [], [0, 1, 5, 6, 13, 14, 19, 22], [], [], [0, 1, 5, 13, 14, 25], [0, 1, 5, 8, 13, 14]] ?_
  iterate 10 refine op1 tok ?_ (h := by intro C; conv => lhs; simp [w1, w2]) (hv := by first | with_reducible exact True.intro | (first | exact lv1 | exact lv2; done) | omega | simp | (simp +contextual; omega))
  refine qA ?_
  refine rgz [.int .u64 (r : Nat)] [[], [], [], [], [0, 1, 8, 13, 14, 30], [], [], [], [0, 1, 5, 6, 13, 14]] ?_
  iterate 9 refine op1 tok ?_ (h := by intro C; conv => lhs; simp [dm, dq]) (hv := by first | with_reducible exact True.intro | ((simp [dm]); done) | omega | simp | (simp +contextual; omega))
  refine qA ?_
  refine rgz [] [[], [0, 1, 5, 6, 13, 14]] ?_
  iterate 2 refine op1 tok ?_
  refine qA ?_
  exact ⟨k + 1, by omega, by omega, qB (by simp [hst]), rfl, by simp [hst], by simp [hst]⟩
 ·intro h15
  try simp at h15
  obtain rfl : k = max l.length m.length := by omega
  have htr := qMT (G := G) ((xQ l m (max l.length m.length)).1 ++ [(xQ l m (max l.length m.length)).2])
  rw [show yD ((xQ l m (max l.length m.length)).1 ++ [(xQ l m (max l.length m.length)).2]) = qXI l m from rfl] at htr
  simp only [List.map_append, List.map_cons, List.map_nil, zJ] at htr
  refine AW.exit ?_
  simp
  refine rgn [.int .u64 ((xQ l m (max l.length m.length)).2 : Nat), .nilp, .sl 1 ((qXI l m).map zJ)] [[], [], [], [37], [], [4]] ?_
  iterate 6 refine op1 tok ?_ (h := by intro C; conv => lhs; simp [List.map_append]) (hv := by first | with_reducible exact True.intro | (first | exact htr | (simp; done); done) | omega | simp | (simp +contextual; omega))
  refine qA ?_
  exact AW.ret qJ
theorem qSU (l m : List Nat) (hl : okL l) (hm : okL m) (h1 : l.length ≤ 1000000) (h2 : m.length ≤ 1000000) : AFn Tryz.prog G 141 [.sl 1 (l.map zJ), .sl 1 (m.map zJ)] (.sl 1 ((qVH l m).map zJ)) := by
 refine AFn.introU tok Tryz.func141 (by kernel_rfl) rfl rfl ?_
 simp only [Tryz.f141, qI, List.map_cons, List.map_nil]
 refine rgn [] [[0, 1]] ?_
 refine op1 tok ?_
 refine qA ?_
 refine rgn [] [[]] ?_
 refine op1 tok ?_
 refine qA ?_
 refine rgn [] [[]] ?_
 refine op1 tok ?_
 refine qA ?_
 refine AW.seq ?_
 refine rgn [] [[], [], [0, 1, 5, 6, 10, 11]] ?_
 iterate 3 refine op1 tok ?_
 refine qA ?_
 refine AW.block ?_
 refine AW.beginE 5 90 24 1 (by simp) (by simp) (by conv => lhs; simp) ?_
 refine AW.loop (α := Nat) (fun k => k ≤ l.length) (fun k => ⟨qY 36 [(0, .p (.sl 1 (l.map zJ))), (1, .p (.sl 1 (m.map zJ))), (5, .ms 90), (6, .p (.int .u64 ((vI l m k).2 : Nat))), (10, .p (.int .i64 l.length)), (11, .p (.int .i64 k))], [], [(90, .row 24 1 ((vI l m k).1.map zJ))], 0⟩) (fun k => l.length - k) (0) (by omega) ⟨qB (by simp [vI]), rfl, by simp [vI], by simp [vI]⟩ ?_
 rintro k hk
 obtain ⟨s1, s2, s3⟩ := qKK hl hm k
 have sl := qEZ l m k
 have g1 := xR hl k
 have g2 := xR hm k
 unfold qH at g1 g2
 refine rgn [] [[]] ?_
 refine op1 tok ?_
 refine qA ?_
 refine AW.seq ?_
 refine cnd ?_ ?_
 ·intro h12
  try simp at h12
  have lv2 := qNA (G := G) m k
  obtain ⟨x0, hgl⟩ : ∃ x, l[k]? = some x := ⟨l[k]'(by omega), List.getElem?_eq_getElem _⟩
  have hx0 : l.getD k 0 = x0 := by rw [List.getD_eq_getElem?_getD, hgl]; rfl
  have hst : vI l m (k + 1) = ((vI l m k).1 ++ [(l.getD k 0 + qH - m.getD k 0 - (vI l m k).2) % qH], 1 - (l.getD k 0 + qH - m.getD k 0 - (vI l m k).2) / qH) := rfl
  generalize vI l m k = A at *
  rw [hx0] at hst g1
  generalize m.getD k 0 = y at *
  generalize x0 = x at *
  obtain ⟨z, hz⟩ : ∃ z, z = x + qH - y - A.2 := ⟨_, rfl⟩
  rw [← hz] at hst
  have hzd : z / qH ≤ 1 := by
   have : z / qH < 2 := (Nat.div_lt_iff_lt_mul (by decide)).2 (by rw [hz]; unfold qH; omega)
   omega
  unfold qH at hz
  have w1 : IntKind.u64.wrap ((x : Int) + 1000000000) = (x : Int) + 1000000000 := yH (by omega) (by omega)
  have w2 : IntKind.u64.wrap ((x : Int) + 1000000000 - y) = (x : Int) + 1000000000 - y := yH (by omega) (by omega)
  have w3 : IntKind.u64.wrap ((x : Int) + 1000000000 - y - A.2) = (z : Int) := by rw [yH (by omega) (by omega)]; omega
  have dm : (z : Int).tmod 1000000000 = ((z % qH : Nat) : Int) := (Int.ofNat_tmod z 1000000000).symm
  have dq : IntKind.u64.wrap ((z : Int) / 1000000000) = ((z / qH : Nat) : Int) := by
   unfold qH
   rw [yH (by omega) (by omega)]; omega
  generalize z % qH = r at *
  generalize z / qH = q at *
  have w4 : IntKind.u64.wrap (1 - (q : Int)) = ((1 - q : Nat) : Int) := by
   rw [yH (by omega) (by omega)]; omega
  generalize 1 - q = b at *
  refine AW.skip ?_
  refine AW.seq ?_
  refine AW.block ?_
  refine rgn [] [[], [0, 1, 5, 6, 7, 10, 11]] ?_
  iterate 2 refine op1 tok ?_
  refine qA ?_
  refine AW.seqDrawS tok mixed 11 [[0], [7], [14, 15], [16], [17], [1], [7], [19, 20], [18, 21], [6], [22, 23]] [.int .u64 (x : Nat), .nilp, .int .u64 (y : Nat)] [] (by kernel_rfl) ?_
  iterate 11 refine d1 ?_ (h := by intro C; conv => lhs; simp [w1, w2, w3]) (hv := by first | with_reducible exact True.intro | (first | exact lv2 | (simp [hgl]; done) | (simp [hgl]; omega); done) | omega | simp | (simp +contextual; omega))
  refine DGo.nil (by kernel_rfl) ⟨by kernel_rfl, ?_⟩
  refine qC.run [[0, 1, 5, 8, 10, 11]] ?_
  refine op1 tok ?_ (h := by intro C; conv => lhs; simp [w1, w2, w3])
  refine qA ?_
  refine rgz [.int .u64 (r : Nat)] [[], [], [], [], [0, 1, 8, 10, 11, 29], [], [], [], [0, 1, 5, 10, 11, 32], [0, 1, 5, 6, 10, 11]] ?_
  iterate 10 refine op1 tok ?_ (h := by intro C; conv => lhs; simp [dm, dq, w4]) (hv := by first | with_reducible exact True.intro | ((simp [dm]); done) | omega | simp | (simp +contextual; omega))
  refine qA ?_
  refine rgz [] [[], [0, 1, 5, 6, 10, 11]] ?_
  iterate 2 refine op1 tok ?_
  refine qA ?_
  exact ⟨k + 1, by omega, by omega, qB (by simp [hst]), rfl, by simp [hst], by simp [hst]⟩
 ·intro h12
  try simp at h12
  obtain rfl : k = l.length := by omega
  have htr := qMT (G := G) (vI l m l.length).1
  refine AW.exit ?_
  simp
  refine rgn [.nilp, .sl 1 ((qVH l m).map zJ)] [[], [], [4]] ?_
  iterate 3 refine op1 tok ?_ (hv := by first | with_reducible exact True.intro | (exact htr; done) | omega | simp | (simp +contextual; omega))
  refine qA ?_
  exact AW.ret qJ
def vW (n w V : Nat) : List PD := qR (List.replicate (n - w) 0 ++ yX w V)
theorem zAP (n V : Nat) : vW n 0 V = List.replicate n (.int .u8 0) := by simp [vW, yX, qR]
theorem zEA {n w V : Nat} (h : w ≤ n) : (vW n w V).length = n := by simp [vW, kY]; omega
theorem zEB {n w V : Nat} (h : w < n) : (vW n w V)[n - 1 - w]? = some (.int .u8 0) := by
 unfold vW
 refine qEH (b := 0) ?_
 rw [List.getElem?_append_left (by simp; omega), List.getElem?_replicate, if_pos (by omega)]
theorem zDZ {n w V : Nat} (h : w < n) : (vW n w V).set (n - 1 - w) (.int .u8 (48 + V / 10 ^ w % 10 : Nat)) = vW n (w + 1) V := by
 unfold vW qR
 have hd : V / 10 ^ w % 10 < 10 := Nat.mod_lt _ (by decide)
 rw [show PD.int .u8 (48 + V / 10 ^ w % 10 : Nat) = (fun b : UInt8 => PD.int .u8 b.toNat) (UInt8.ofNat (48 + V / 10 ^ w % 10)) by simp only [vV hd], ← List.map_set]
 congr 1
 rw [show n - w = (n - (w + 1)) + 1 by omega, List.replicate_succ', List.append_assoc, List.set_append_right _ _ (by simp; omega)]
 simp only [List.length_replicate]
 rw [show n - 1 - w - (n - (w + 1)) = 0 by omega]
 rfl
theorem zEC (n V : Nat) : vW n n V = qR (yX n V) := by simp [vW]
theorem zML {l : List Nat} (h : okL l) (i : Nat) : qP l / qH ^ i % qH = l.getD i 0 := by
 induction l generalizing i with
 | nil => simp [qP]
 | cons a l ih =>
  have ha : a < qH := h a (by simp)
  have ih := ih (fun x hx => h x (by simp [hx]))
  have hb : 0 < qH := by decide
  cases i with
  | zero => simp [qP, Nat.add_mul_mod_self_left, Nat.mod_eq_of_lt ha]
  | succ i =>
   simp only [qP, List.getD_cons_succ]
   rw [Nat.pow_succ, Nat.mul_comm (qH ^ i), ← Nat.div_div_eq_div_mul, Nat.add_mul_div_left _ _ hb, Nat.div_eq_of_lt ha, Nat.zero_add]
   exact ih i
theorem zNJ {l : List Nat} (h : okL l) (i : Nat) {j : Nat} (hj : j < 9) : qP l / 10 ^ (9 * i + j) % 10 = l.getD i 0 / 10 ^ j % 10 := by
 rw [← zML h i, Nat.pow_add, Nat.pow_mul, ← Nat.div_div_eq_div_mul, show (10 : Nat) ^ 9 = qH from rfl]
 generalize qP l / qH ^ i = M
 obtain ⟨d, hd⟩ : ∃ d, d + j = 8 := ⟨8 - j, by omega⟩
 rw [show qH = 10 ^ j * (10 * 10 ^ d) by rw [← Nat.pow_succ', ← Nat.pow_add, show j + (d + 1) = 9 by omega]; rfl, Nat.mod_mul_right_div_self, Nat.mod_mul_right_mod]
def qRA (x j : Nat) : Nat := x / 10 ^ j
theorem zHM (x : Nat) : qRA x 0 = x := by simp [qRA]
theorem zHN (x j : Nat) : qRA x j / 10 = qRA x (j + 1) := by unfold qRA; rw [Nat.div_div_eq_div_mul, ← Nat.pow_succ]
theorem qGS (l : List Nat) (hl : okL l) (h1 : l.length ≤ 1000000) : AFn Tryz.prog G 91 [.sl 1 (l.map zJ)] (.str (yX (9 * l.length) (qP l))) := by
 refine AFn.introU tok Tryz.func91 (by kernel_rfl) rfl rfl ?_
 simp only [Tryz.f91, qI, List.map_cons, List.map_nil]
 have hz : vW (9 * l.length) 0 (qP l) = List.replicate (9 * l.length) (.int .u8 0) := zAP _ _
 have hall := zEC (9 * l.length) (qP l)
 have hdl := fun k j (h : j < 9) => zNJ hl k (j := j) h
 have hset := fun w => zDZ (n := 9 * l.length) (w := w) (V := qP l)
 have hget := fun w => zEB (n := 9 * l.length) (w := w) (V := qP l)
 have hlen := fun w => zEA (n := 9 * l.length) (w := w) (V := qP l)
 have hmul : ((l.length : Int) * 9).toNat = 9 * l.length := by omega
 generalize qP l = V at *
 obtain ⟨N, hN⟩ : ∃ N, N = 9 * l.length := ⟨_, rfl⟩
 rw [← hN] at hz hall hset hget hlen hmul ⊢
 refine rgn [] [[0]] ?_
 refine op1 tok ?_
 refine qA ?_
 refine rgn [.int .u8 0] [[], [], [], [], [0, 3]] ?_
 iterate 5 refine op1 tok ?_
 refine qA ?_
 refine AW.seq ?_
 refine rgn [] [[], [], [3, 11, 12, 13]] ?_
 iterate 3 refine op1 tok ?_
 refine qA ?_
 refine AW.block ?_
 refine AW.loop (α := Nat) (fun k => k ≤ l.length) (fun k => ⟨qY 41 [(3, .ms 10), (11, .p (.sl 1 (l.map zJ))), (12, .p (.int .i64 l.length)), (13, .p (.int .i64 k))], [], [(10, .row 5 1 (vW N (9 * k) V))], 0⟩) (fun k => l.length - k) (0) (by omega) ⟨qB (by simp), rfl, by (simp [hz, hmul]), by simp [hz, hmul]⟩ ?_
 rintro k hk
 refine rgn [] [[]] ?_
 refine op1 tok ?_
 refine qA ?_
 refine AW.seq ?_
 refine cnd ?_ ?_
 ·intro h14
  try simp at h14
  obtain ⟨x, hx⟩ : ∃ x, l[k]? = some x := ⟨l[k]'(by omega), List.getElem?_eq_getElem _⟩
  have hxd : l.getD k 0 = x := by rw [List.getD_eq_getElem?_getD, hx]; rfl
  have hxb : x < 1000000000 := hl x (List.mem_of_getElem? hx)
  have hx0 := zHM x
  refine AW.skip ?_
  refine AW.seq ?_
  refine AW.block ?_
  refine rgn [.int .u64 (x : Nat)] [[], [], [], [], [3, 4, 5, 11, 12, 13]] ?_
  iterate 5 refine op1 tok ?_ (hv := by first | with_reducible exact True.intro | (simp [hx]; done) | omega | simp | (simp +contextual; omega))
  refine qA ?_
  refine rgn [] [[]] ?_
  refine op1 tok ?_
  refine qA ?_
  refine AW.block ?_
  refine AW.loop (α := Nat) (fun j => j ≤ 9) (fun j => ⟨qY 41 [(3, .ms 10), (4, .p (.int .i64 k)), (5, .p (.int .u64 (qRA x j : Nat))), (11, .p (.sl 1 (l.map zJ))), (12, .p (.int .i64 l.length)), (13, .p (.int .i64 k)), (18, .p (.int .i64 j))], [], [(10, .row 5 1 (vW N (9 * k + j) V))], 0⟩) (fun j => 9 - j) (0) (by omega) ⟨qB (by simp [hx0]), rfl, by simp, by simp⟩ ?_
  rintro j hj
  refine rgn [] [[]] ?_
  refine op1 tok ?_
  refine qA ?_
  refine AW.seq ?_
  refine cnd ?_ ?_
  ·intro h19
   try simp at h19
   have hdj := hdl k j (by omega)
   rw [hxd, show x / 10 ^ j = qRA x j from rfl] at hdj
   have hset := hset (9 * k + j) (by omega)
   have hget := hget (9 * k + j) (by omega)
   have hlen := hlen (9 * k + j) (by omega)
   rw [hdj] at hset
   have hxj : qRA x j < 1000000000 := Nat.lt_of_le_of_lt (Nat.div_le_self _ _) hxb
   have hnx := zHN x j
   generalize qRA x j = z at *
   have hix : ((N : Int) - 1 - k * 9).toNat - j = N - 1 - (9 * k + j) := by omega
   have dm : (z : Int).tmod 10 = ((z % 10 : Nat) : Int) := (Int.ofNat_tmod z 10).symm
   have dc : IntKind.u8.wrap (IntKind.u64.wrap (48 + ((z % 10 : Nat) : Int))) = ((48 + z % 10 : Nat) : Int) := by
    rw [yH (by omega) (by omega), qBO (by omega) (by omega)]; omega
   have dq : IntKind.u64.wrap ((z : Int) / 10) = ((qRA x (j + 1) : Nat) : Int) := by rw [← hnx, yH (by omega) (by omega)]; omega
   generalize hr : z % 10 = r at *
   have e9 : 9 * k + j + 1 = 9 * k + (j + 1) := rfl
   rw [e9, show ((48 + r : Nat) : Int) = 48 + (r : Int) by omega] at hset
   refine AW.skip ?_
   refine AW.seq ?_
   refine AW.block ?_
   refine rgn [] [[], [3, 4, 5, 6, 11, 12, 13, 18]] ?_
   iterate 2 refine op1 tok ?_
   refine qA ?_
   refine rgn [.int .u8 0, .int .u8 (48 + r : Nat)] [[], [], [], [], [], [], [3, 4, 5, 6, 11, 12, 13, 18, 21, 27], [], [], [], [3, 4, 5, 11, 12, 13, 18, 21, 29, 31], [], [], [3, 4, 5, 11, 12, 13, 18, 33, 34], [3, 4, 5, 11, 12, 13, 18]] ?_
   iterate 15 refine op1 tok ?_ (h := by intro C; conv => lhs; simp [hlen, hget, hix, dm, dc]) (hv := by first | with_reducible exact True.intro | (first | (simp [hlen, hget, hix, dm, dc]; done) | (simp [hlen, hget, hix, dm, dc]; omega); done) | omega | simp | (simp +contextual; omega))
   refine qA ?_
   refine rgz [] [[], [], [3, 4, 5, 11, 12, 13, 18]] ?_
   iterate 3 refine op1 tok ?_
   refine qA ?_
   refine rgz [] [[], [3, 4, 5, 11, 12, 13, 18]] ?_
   iterate 2 refine op1 tok ?_
   refine qA ?_
   exact ⟨j + 1, by omega, by omega, qB (by simp [dq, hset, hlen, hix]), rfl, by simp [dq, hset, hlen, hix], by simp [dq, hset, hlen, hix]⟩
  ·intro h19
   try simp at h19
   obtain rfl : j = 9 := by omega
   refine AW.exit ?_
   simp
   refine rgz [] [[], [3, 11, 12, 13]] ?_
   iterate 2 refine op1 tok ?_
   refine qA ?_
   exact ⟨k + 1, by omega, by omega, qB (by simp [show 9 * (k + 1) = 9 * k + 9 from rfl]), rfl, by simp [show 9 * (k + 1) = 9 * k + 9 from rfl], by simp [show 9 * (k + 1) = 9 * k + 9 from rfl]⟩
 ·intro h14
  try simp at h14
  obtain rfl : k = l.length := by omega
  rw [← hN, hall]
  refine AW.exit ?_
  simp
  refine rgn [.str (yX N V)] [[], [], [2]] ?_
  iterate 3 refine op1 tok ?_
  refine qA ?_
  exact AW.ret qJ
theorem zIR (l : List Nat) (j r : Nat) : (l.map zJ).set j (.int .u64 (r : Nat)) = (l.set j r).map zJ := by rw [List.map_set]; rfl
theorem zKR (l m : List Nat) (hl : okL l) (hm : okL m) (h1 : l.length ≤ 1000000) (h2 : m.length ≤ 1000000) : AFn Tryz.prog G 89 [.sl 1 (l.map zJ), .sl 1 (m.map zJ)] (.sl 1 ((qZO l m).map zJ)) := by
 refine AFn.introU tok Tryz.func89 (by kernel_rfl) rfl rfl ?_
 simp only [Tryz.f89, qI, List.map_cons, List.map_nil]
 have hz : (qCF l m 0).map zJ = List.replicate (l.length + m.length + 1) (.int .u64 0) := by simp [qCF]
 have hzl : ((l.length : Int) + m.length + 1).toNat = l.length + m.length + 1 := by omega
 refine rgn [] [[0, 1]] ?_
 refine op1 tok ?_
 refine qA ?_
 refine rgn [.int .u64 0] [[], [], [], [], [0, 1, 15], [], [], [0, 1, 5]] ?_
 iterate 8 refine op1 tok ?_
 refine qA ?_
 refine AW.seq ?_
 refine rgn [] [[], [], [1, 5, 18, 19, 20]] ?_
 iterate 3 refine op1 tok ?_
 refine qA ?_
 refine AW.block ?_
 refine AW.loop (α := Nat) (fun k => k ≤ l.length) (fun k => ⟨qY 58 [(1, .p (.sl 1 (m.map zJ))), (5, .ms 17), (18, .p (.sl 1 (l.map zJ))), (19, .p (.int .i64 l.length)), (20, .p (.int .i64 k))], [], [(17, .row 24 1 ((qCF l m k).map zJ))], 0⟩) (fun k => l.length - k) (0) (by omega) ⟨qB (by simp), rfl, by (simp only [hz]; simp [hzl]), by simp⟩ ?_
 rintro k hk
 refine rgn [] [[]] ?_
 refine op1 tok ?_
 refine qA ?_
 refine AW.seq ?_
 refine cnd ?_ ?_
 ·intro h21
  try simp at h21
  obtain ⟨x, hx⟩ : ∃ x, l[k]? = some x := ⟨l[k]'(by omega), List.getElem?_eq_getElem _⟩
  have hxd : l.getD k 0 = x := by rw [List.getD_eq_getElem?_getD, hx]; rfl
  have hxb : x < qH := hl x (List.mem_of_getElem? hx)
  obtain ⟨hok, _, _⟩ := qKQ hl hm k hk
  have hml := qJF l m k
  have hst : qCF l m (k + 1) = (uP m x k (qCF l m k) (m.length + 1)).1 := by rw [← hxd]; rfl
  generalize qCF l m k = O at *
  have hrow0 : uP m x k O 0 = (O, 0) := rfl
  refine AW.skip ?_
  refine AW.seq ?_
  refine AW.block ?_
  refine rgn [.int .u64 (x : Nat)] [[], [], [], [], [1, 5, 6, 7, 18, 19, 20]] ?_
  iterate 5 refine op1 tok ?_ (hv := by first | with_reducible exact True.intro | (simp [hx]; done) | omega | simp | (simp +contextual; omega))
  refine qA ?_
  refine rgn [] [[]] ?_
  refine op1 tok ?_
  refine qA ?_
  refine rgn [] [[], [], [], [1, 5, 6, 7, 8, 18, 19, 20, 27, 28]] ?_
  iterate 4 refine op1 tok ?_
  refine qA ?_
  refine AW.block ?_
  refine AW.loop (α := Nat) (fun j => j ≤ m.length + 1) (fun j => ⟨qY 58 [(1, .p (.sl 1 (m.map zJ))), (5, .ms 17), (6, .p (.int .i64 k)), (7, .p (.int .u64 x)), (8, .p (.int .u64 ((uP m x k O j).2 : Nat))), (18, .p (.sl 1 (l.map zJ))), (19, .p (.int .i64 l.length)), (20, .p (.int .i64 k)), (27, .p (.int .i64 ((m.length : Int) + 1))), (28, .p (.int .i64 j))], [], [(17, .row 24 1 ((uP m x k O j).1.map zJ))], 0⟩) (fun j => m.length + 1 - j) (0) (by omega) ⟨qB (by simp [hrow0]), rfl, by simp [hrow0], by simp [hrow0]⟩ ?_
  rintro j hj
  refine rgn [] [[]] ?_
  refine op1 tok ?_
  refine qA ?_
  refine AW.seq ?_
  refine cnd ?_ ?_
  ·intro h29
   try simp at h29
   obtain ⟨ha, hc, _⟩ := qGN (i := k) hm hxb hok j (by omega)
   have hal := qIT m x k O j
   have hs1 : uP m x k O (j + 1) = ((uP m x k O j).1.set (k + j) (((uP m x k O j).1.getD (k + j) 0 + x * m.getD j 0 + (uP m x k O j).2) % qH), ((uP m x k O j).1.getD (k + j) 0 + x * m.getD j 0 + (uP m x k O j).2) / qH) := rfl
   have lv := qNA (G := G) m j
   have hy := xR hm j
   generalize uP m x k O j = A at *
   generalize m.getD j 0 = y at *
   obtain ⟨o, ho⟩ : ∃ o, A.1[k + j]? = some o := ⟨A.1[k + j]'(by omega), List.getElem?_eq_getElem _⟩
   have hod : A.1.getD (k + j) 0 = o := by rw [List.getD_eq_getElem?_getD, ho]; rfl
   have hob : o < qH := ha o (List.mem_of_getElem? ho)
   rw [hod] at hs1
   have hxy : x * y ≤ 999999999 * 999999999 := Nat.mul_le_mul (by unfold qH at hxb; omega) (by unfold qH at hy; omega)
   have hcast : (x : Int) * y = ((x * y : Nat) : Int) := by simp
   unfold qH at hob hc
   obtain ⟨z, hzz⟩ : ∃ z, z = o + x * y + A.2 := ⟨_, rfl⟩
   rw [← hzz] at hs1
   have w1 : IntKind.u64.wrap ((x : Int) * y) = ((x * y : Nat) : Int) := by rw [hcast, yH (by omega) (by omega)]
   generalize x * y = p at *
   have w2 : IntKind.u64.wrap ((o : Int) + p) = (o : Int) + p := yH (by omega) (by omega)
   have w3 : IntKind.u64.wrap ((o : Int) + p + A.2) = (z : Int) := by rw [yH (by omega) (by omega)]; omega
   have dm : (z : Int).tmod 1000000000 = ((z % qH : Nat) : Int) := (Int.ofNat_tmod z 1000000000).symm
   have dq : IntKind.u64.wrap ((z : Int) / 1000000000) = ((z / qH : Nat) : Int) := by
    unfold qH
    rw [yH (by omega) (by omega)]; omega
   generalize z % qH = r at *
   generalize z / qH = q at *
   have hset := zIR A.1 (k + j) r
   have hkj : ((k : Int) + j).toNat = k + j := by omega
   refine AW.skip ?_
   refine AW.seq ?_
   refine AW.block ?_
   refine rgn [] [[], [1, 5, 6, 7, 8, 9, 18, 19, 20, 27, 28]] ?_
   iterate 2 refine op1 tok ?_
   refine qA ?_
   refine AW.seqDrawS tok mixed 14 [[5], [6], [9], [32, 33], [31, 34], [35], [7], [1], [9], [38, 39], [37, 40], [36, 41], [8], [42, 43]] [.int .u64 (o : Nat), .nilp, .int .u64 (y : Nat)] [] (by kernel_rfl) ?_
   iterate 14 refine d1 ?_ (h := by intro C; conv => lhs; simp [w1, w2, w3]) (hv := by first | with_reducible exact True.intro | (first | exact lv | (simp [ho, hkj]; done) | (simp [ho, hkj]; omega); done) | omega | simp | (simp +contextual; omega))
   refine DGo.nil (by kernel_rfl) ⟨by kernel_rfl, ?_⟩
   refine qC.run [[1, 5, 6, 7, 9, 10, 18, 19, 20, 27, 28]] ?_
   refine op1 tok ?_ (h := by intro C; conv => lhs; simp [w1, w2, w3])
   refine qA ?_
   refine rgz [.int .u64 (o : Nat), .int .u64 (r : Nat)] [[], [], [], [], [], [1, 5, 6, 7, 10, 18, 19, 20, 27, 28, 45, 48, 50], [], [], [1, 5, 6, 7, 18, 19, 20, 27, 28, 50, 52, 53], [], [1, 5, 6, 7, 8, 18, 19, 20, 27, 28]] ?_
   iterate 11 refine op1 tok ?_ (h := by intro C; conv => lhs; simp [dm, dq, hkj]) (hv := by first | with_reducible exact True.intro | (first | (simp [ho, hkj, dm]; done) | (simp [ho, hkj, dm]; omega); done) | omega | simp | (simp +contextual; omega))
   refine qA ?_
   refine rgz [] [[], [1, 5, 6, 7, 8, 18, 19, 20, 27, 28]] ?_
   iterate 2 refine op1 tok ?_
   refine qA ?_
   exact ⟨j + 1, by omega, by omega, qB (by simp [hs1, hkj]), rfl, by simp [hs1, hkj], by simp [hs1, hkj]⟩
  ·intro h29
   try simp at h29
   obtain rfl : j = m.length + 1 := by omega
   refine AW.exit ?_
   simp
   refine rgz [] [[], [1, 5, 18, 19, 20]] ?_
   iterate 2 refine op1 tok ?_
   refine qA ?_
   exact ⟨k + 1, by omega, by omega, qB (by simp [hst]), rfl, by simp [hst], by simp [hst]⟩
 ·intro h21
  try simp at h21
  obtain rfl : k = l.length := by omega
  have htr := qMT (G := G) (qCF l m l.length)
  refine AW.exit ?_
  simp
  refine rgn [.nilp, .sl 1 ((qZO l m).map zJ)] [[], [], [4]] ?_
  iterate 3 refine op1 tok ?_ (hv := by first | with_reducible exact True.intro | (exact htr; done) | omega | simp | (simp +contextual; omega))
  refine qA ?_
  exact AW.ret qJ
end Go.Proofs.YtdojfdaglbphlaaGreatDoor
