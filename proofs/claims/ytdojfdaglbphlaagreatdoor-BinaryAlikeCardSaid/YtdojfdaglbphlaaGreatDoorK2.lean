import Derived.Test.YtdojfdaglbphlaaGreatDoorK1
import Derived.Test.YtdojfdaglbphlaaGreatDoorM3
import Derived.Test.YtdojfdaglbphlaaGreatDoorM4
import Derived.Lib.ValidLaws
import Derived.Shelf.Unicode.ValidAny
namespace Go.Proofs.YtdojfdaglbphlaaGreatDoor
open Sy Go
set_option maxRecDepth 100000
set_option maxHeartbeats 4000000
set_option linter.unusedSimpArgs false
set_option linter.unusedVariables false
variable {G : qV}
@[simp] def zJ (n : Nat) : PD := .int .u64 n
theorem qMT (l : List Nat) : AFn Tryz.prog G 144 [.sl 1 (l.map zJ)] (.sl 1 ((yD l).map zJ)) := by
 refine AFn.introU tok Tryz.func144 (by kernel_rfl) rfl rfl ?_
 simp only [Tryz.f144, qI, List.map_cons, List.map_nil]
 refine rgn [] [[0]] ?_
 refine op1 tok ?_
 refine qA ?_
 refine AW.seq ?_
 refine AW.block ?_
 refine AW.loop (α := List Nat) (fun r => yD r = yD l) (fun r => ⟨qY 21 [(0, .p (.sl 1 (r.map zJ)))], [], [], 0⟩) (fun r => r.length) (l) rfl ⟨qB (by simp), rfl, by simp, by simp⟩ ?_
 rintro r hr
 refine AW.slFactU (i := 0) rfl (by decide) ?_
 intro hlen
 simp at hlen
 have hlast : 0 < r.length → r[r.length - 1]? = some (r.getD (r.length - 1) 0) := fun h => by simp [List.getD_eq_getElem?_getD, show r.length - 1 < r.length by omega]
 refine AW.seq ?_
 refine rgn [.int .u64 (r.getD (r.length - 1) 0 : Nat)] [[], [], [], [], [], [], [0, 6, 7, 9], [], [], [0, 6, 12], [], [0, 14]] ?_
 iterate 4 refine op1 tok ?_ (hv := by first | with_reducible exact True.intro | ((intro h; refine ⟨h, by omega, _, hlast h, ?_⟩; simp); done) | omega | simp | (simp +contextual; omega))
 iterate 7 refine op2 tok ?_ (hv := by first | with_reducible exact True.intro | ((intro h; refine ⟨h, by omega, _, hlast h, ?_⟩; simp); done) | omega | simp | (simp +contextual; omega))
 refine op1 tok ?_ (hv := by first | with_reducible exact True.intro | ((intro h; refine ⟨h, by omega, _, hlast h, ?_⟩; simp); done) | omega | simp | (simp +contextual; omega))
 refine qA ?_
 refine cnd ?_ ?_
 ·intro h14
  try simp at h14
  obtain ⟨s, x, rfl⟩ : ∃ s x, r = s ++ [x] := ⟨r.dropLast, r.getLast (by rintro rfl; simp at h14), (List.dropLast_concat_getLast _).symm⟩
  simp at h14
  subst h14
  have hr' : yD s = yD l := by rw [← hr, qBP]; simp
  have hsl : (s.length : Int) ≤ 9223372036854775807 := by simp at hlen; omega
  refine AW.skip ?_
  refine AW.block ?_
  refine rgz [] [[], [], [], [], [19], [0]] ?_
  iterate 6 refine op1 tok ?_
  refine qA ?_
  exact ⟨s, hr', by simp, qB (by simp), rfl, by simp, by simp⟩
 ·intro h14
  try simp at h14
  have hN : yD r = r := by
   refine qVJ (p := fun r => (0 < r.length → ¬ r.getD (r.length - 1) 0 = 0) → yD r = r) (fun _ => rfl) (fun s x _ h => ?_) r (fun h => by have := h14 h; simpa using this)
   have := h (by simp)
   rw [qBP, if_neg (by simpa using this)]
  rw [← hr, hN]
  refine AW.exit ?_
  simp
  refine rgn [] [[], [2]] ?_
  iterate 2 refine op1 tok ?_
  refine qA ?_
  exact AW.ret qJ
theorem yH {x : Int} (h0 : 0 ≤ x) (h1 : x < 18446744073709551616) : IntKind.u64.wrap x = x := by simp [IntKind.wrap, IntKind.bits, IntKind.signed]; omega
theorem qBO {x : Int} (h0 : 0 ≤ x) (h1 : x < 256) : IntKind.u8.wrap x = x := by simp [IntKind.wrap, IntKind.bits, IntKind.signed]; omega
theorem qOX (s : List UInt8) (hs : s.all qG = true) (hl : s.length ≤ 1000000) : AFn Tryz.prog G 88 [.str s] (.sl 1 ((jS s).map zJ)) := by
 refine AFn.introU tok Tryz.func88 (by kernel_rfl) rfl rfl ?_
 simp only [Tryz.f88, qI, List.map_cons, List.map_nil]
 refine rgn [] [[0]] ?_
 refine op1 tok ?_
 refine qA ?_
 refine rgn [] [[]] ?_
 refine op1 tok ?_
 refine qA ?_
 refine AW.seq ?_
 refine rgn [] [[], [], [0, 3, 4]] ?_
 iterate 3 refine op1 tok ?_
 refine qA ?_
 refine AW.block ?_
 refine AW.beginE 3 36 24 1 (by simp) (by simp) (by conv => lhs; simp) ?_
 refine AW.loop (α := Int × List Nat) (fun a => a.1 ≤ s.length ∧ -9 < a.1 ∧ a.2.length ≤ s.length - a.1.toNat ∧ a.2 ++ qBB s a.1.toNat = qBB s s.length) (fun a => ⟨qY 39 [(0, .p (.str s)), (3, .ms 36), (4, .p (.int .i64 a.1))], [], [(36, .row 24 1 (a.2.map zJ))], 0⟩) (fun a => a.1.toNat) (((s.length : Int), [])) ⟨by simp, by simp only []; omega, by simp, by simp⟩ ⟨qB (by simp), rfl, by simp, by simp⟩ ?_
 rintro ⟨e, acc⟩ ⟨h1, h2, hal, h3⟩
 simp only at h1 h2 h3 hal
 refine AW.seq ?_
 refine rgn [] [[], [0, 3, 4, 11]] ?_
 iterate 2 refine op1 tok ?_
 refine qA ?_
 refine cnd ?_ ?_
 ·intro h11
  try simp at h11
  obtain ⟨n, rfl⟩ : ∃ n : Nat, e = n := ⟨e.toNat, by omega⟩
  obtain ⟨c, hc⟩ : ∃ c, c = (s.take n).drop (n - 9) := ⟨_, rfl⟩
  have hcd : c.all qG = true := by rw [hc]; exact qGD (qDL hs n) _
  have hcl : c.length ≤ 9 := by rw [hc]; simp; omega
  have hvc : qL c = qDZ s n := by rw [hc]; rfl
  have hmx : (if 9 < (n : Int) then (n : Int) - 9 else 0).toNat = n - 9 := by split <;> omega
  refine AW.skip ?_
  refine AW.seq ?_
  refine AW.block ?_
  refine rgn [] [[]] ?_
  refine op1 tok ?_
  refine qA ?_
  refine AW.seq ?_
  refine rgn [] [[], [], [], [], [], [0, 3, 4, 5, 19], [], [], [0, 3, 4, 5, 20, 21, 22]] ?_
  iterate 9 refine op1 tok ?_
  refine qA ?_
  refine AW.block ?_
  refine AW.loop (α := Nat) (fun k => k ≤ c.length) (fun k => ⟨qY 39 [(0, .p (.str s)), (3, .ms 36), (4, .p (.int .i64 n)), (5, .p (.int .u64 (qL (c.take k) : Nat))), (20, .p (.sl 1 (qR c))), (21, .p (.int .i64 c.length)), (22, .p (.int .i64 k))], [], [(36, .row 24 1 (acc.map zJ))], 0⟩) (fun k => c.length - k) (0) (by omega) ⟨qB (by simp [hmx, hc, qL]), rfl, by simp, by simp⟩ ?_
  rintro k hk
  have hck := kP (qDL hcd k)
  have hck2 : (c.take k).length ≤ 8 → qL (c.take k) < 100000000 := fun h => Nat.lt_of_lt_of_le hck (Nat.pow_le_pow_right (n := 10) (by omega) h)
  have hix : ∀ k : Nat, k < c.length → c[k]? = some (c.getD k 0) := fun k h => jY h
  refine rgn [] [[]] ?_
  refine op1 tok ?_
  refine qA ?_
  refine AW.seq ?_
  refine cnd ?_ ?_
  ·intro h23
   try simp at h23
   have hdk := (zS _).1 (List.all_eq_true.1 hcd _ (List.mem_of_getElem? (hix k h23)))
   have hv8 : qL (c.take k) < 100000000 := hck2 (by simp; omega)
   have hsn : qL (c.take (k + 1)) = qL (c.take k) * 10 + ((c.getD k 0).toNat - 48) := by rw [List.take_add_one, hix k h23]; exact qAP _ _
   have hbk : qT c k = ((c.getD k 0).toNat : Int) := rfl
   have hw1 : IntKind.u8.wrap (qT c k - 48) = qT c k - 48 := qBO (by omega) (by omega)
   have hw2 : IntKind.u64.wrap ((qL (c.take k) : Int) * 10) = (qL (c.take k) : Int) * 10 := yH (by omega) (by omega)
   have hw3 : IntKind.u64.wrap ((qL (c.take k) : Int) * 10 + (qT c k - 48)) = (qL (c.take (k + 1)) : Int) := by rw [yH (by omega) (by omega), hsn]; omega
   refine AW.skip ?_
   refine AW.seq ?_
   refine AW.block ?_
   refine rgn [.int .u8 (qT c k)] [[], [], [0, 3, 4, 5, 7, 20, 21, 22]] ?_
   iterate 3 refine op1 tok ?_ (hv := by first | with_reducible exact True.intro | (first | exact qEH (hix k h23) | simp; done) | omega | simp | (simp +contextual; omega))
   refine qA ?_
   refine rgz [] [[], [], [], [0, 3, 4, 20, 21, 22, 27, 29], [], [], [0, 3, 4, 5, 20, 21, 22]] ?_
   iterate 7 refine op1 tok ?_
   refine qA ?_
   refine rgz [] [[], [0, 3, 4, 5, 20, 21, 22]] ?_
   iterate 2 refine op1 tok ?_
   refine qA ?_
   exact ⟨k + 1, by omega, by omega, qB (by simp [hw1, hw2, hw3]), rfl, by simp [hw1, hw2, hw3], by simp [hw1, hw2, hw3]⟩
  ·intro h23
   try simp at h23
   have hkc : k = c.length := by omega
   subst hkc
   simp only [List.take_length, hvc]
   have hlz := qGQ (s := s) (e := n) (by omega)
   have h3' : acc ++ [qDZ s n] ++ qBB s ((n : Int) - 9).toNat = qBB s s.length := by
    rw [← h3, show ((n : Int)).toNat = n by omega, hlz, show ((n : Int) - 9).toNat = n - 9 by omega]; simp
   refine AW.exit ?_
   simp
   refine rgz [.int .u64 (qDZ s n : Nat)] [[], [], [], [0, 4, 36], [0, 3, 4]] ?_
   iterate 5 refine op1 tok ?_ (hv := by first | with_reducible exact True.intro | ((simp; omega); done) | omega | simp | (simp +contextual; omega))
   refine qA ?_
   refine rgz [] [[], [], [0, 3, 4]] ?_
   iterate 3 refine op1 tok ?_
   refine qA ?_
   exact ⟨(n : Int) - 9, acc ++ [qDZ s n], ⟨by omega, by omega, by simp; omega, h3'⟩, by omega, qB (by simp), rfl, by simp, by simp⟩
 ·intro h11
  try simp at h11
  have hacc : acc = qBB s s.length := by rw [← h3, show e.toNat = 0 by omega, xZ]; simp
  subst hacc
  refine AW.exit ?_
  simp
  refine rgn [.nilp, .sl 1 ((jS s).map zJ)] [[], [], [2]] ?_
  iterate 3 refine op1 tok ?_ (hv := by first | with_reducible exact True.intro | (exact qMT _; done) | omega | simp | (simp +contextual; omega))
  refine qA ?_
  exact AW.ret qJ
theorem qST (l m : List Nat) (h1 : l.length ≤ 1000000) (h2 : m.length ≤ 1000000) : AFn Tryz.prog G 140 [.sl 1 (l.map zJ), .sl 1 (m.map zJ)] (.int .i64 (xW l m)) := by
 refine AFn.introU tok Tryz.func140 (by kernel_rfl) rfl rfl ?_
 simp only [Tryz.f140, qI, List.map_cons, List.map_nil]
 have hixl : ∀ k : Nat, k < l.length → l[k]? = some (l.getD k 0) := fun k h => by simp [List.getD_eq_getElem?_getD, h]
 have hixm : ∀ k : Nat, k < m.length → m[k]? = some (m.getD k 0) := fun k h => by simp [List.getD_eq_getElem?_getD, h]
 refine rgn [] [[0, 1]] ?_
 refine op1 tok ?_
 refine qA ?_
 refine AW.seq ?_
 refine rgn [] [[], [], [], [], [0, 1, 10]] ?_
 iterate 5 refine op1 tok ?_
 refine qA ?_
 refine cnd ?_ ?_
 ·intro h10
  try simp at h10
  have hN : xW l m = (l.length : Int) - m.length := by simp only [xW]; rw [if_pos (by omega)]
  refine rgn [] [[], [], [], [12, 14], [], [4]] ?_
  iterate 6 refine op1 tok ?_
  refine qA ?_
  exact AW.ret (qJ (k := by simp [hN]))
 ·intro h10
  try simp at h10
  have hlen : l.length = m.length := by omega
  have hN : xW l m = vH l m l.length := by simp only [xW]; rw [if_neg (by omega)]
  rw [hN]
  refine AW.skip ?_
  refine AW.seq ?_
  refine rgn [] [[], [], [], [0, 1, 5]] ?_
  iterate 4 refine op1 tok ?_
  refine qA ?_
  refine AW.block ?_
  refine AW.loop (α := Nat) (fun k => k ≤ l.length ∧ vH l m l.length = vH l m k) (fun k => ⟨qY 41 [(0, .p (.sl 1 (l.map zJ))), (1, .p (.sl 1 (m.map zJ))), (5, .p (.int .i64 (k - 1)))], [], [], 0⟩) (fun k => k) (l.length) ⟨Nat.le_refl _, rfl⟩ ⟨qB (by simp), rfl, by simp, by simp⟩ ?_
  rintro k ⟨hk, ht⟩
  refine AW.seq ?_
  refine rgn [] [[], [0, 1, 5, 20]] ?_
  iterate 2 refine op1 tok ?_
  refine qA ?_
  refine cnd ?_ ?_
  ·intro h20
   try simp at h20
   obtain ⟨k, rfl⟩ : ∃ j, k = j + 1 := ⟨k - 1, by omega⟩
   have hkl : k < l.length := by omega
   have hkm : k < m.length := by omega
   have hgl := hixl k hkl
   have hgm := hixm k hkm
   have hti : ((k + 1 : Nat) : Int) - 1 = k := by omega
   simp only [hti]
   generalize hx : l.getD k 0 = x at *
   generalize hy : m.getD k 0 = y at *
   simp only [vH, hx, hy] at ht
   rw [ht]
   refine AW.skip ?_
   refine AW.seq ?_
   refine AW.block ?_
   refine AW.seqRunDrawK tok mixed [0, 1, 5, 31] 9 [[0], [5], [23, 24], [25], [1], [5], [27, 28], [29], [26, 30]] [.int .u64 x, .int .u64 y] [] (by kernel_rfl) (by intro C; conv => lhs; simp) (by simp [hgl, hgm]) (by simp [Sm.sum, Sm.foot, Sm.tch, Sm.refs]; kernel_rfl) (by intro C; conv => lhs; simp) (by first | with_reducible exact True.intro | omega | simp | (simp +contextual; omega)) ?_
   refine cnd ?_ ?_
   ·intro h31
    try simp at h31
    rw [if_neg (by omega)]
    refine AW.seq ?_
    refine AW.seqRunDrawK tok mixed [40] 9 [[0], [5], [32, 33], [34], [1], [5], [36, 37], [38], [35, 39]] [.int .u64 x, .int .u64 y] [] (by kernel_rfl) (by intro C; conv => lhs; simp) (by simp [hgl, hgm]) (by simp [Sm.sum, Sm.foot, Sm.tch, Sm.refs]; kernel_rfl) (by intro C; conv => lhs; simp) (by first | with_reducible exact True.intro | omega | simp | (simp +contextual; omega)) ?_
    refine cnd ?_ ?_
    ·intro h40
     try simp at h40
     rw [if_pos (by omega)]
     refine rgn [] [[]] ?_
     refine op1 tok ?_
     refine qA ?_
     exact AW.ret qJ
    ·intro h40
     try simp at h40
     rw [if_neg (by omega)]
     refine AW.skip ?_
     refine rgn [] [[]] ?_
     refine op1 tok ?_
     refine qA ?_
     exact AW.ret qJ
   ·intro h31
    try simp at h31
    refine AW.skip ?_
    refine rgz [] [[], [], [0, 1, 5]] ?_
    iterate 3 refine op1 tok ?_
    refine qA ?_
    exact ⟨k, ⟨by omega, by rw [if_pos (by omega)]⟩, by omega, qB (by simp), rfl, by simp, by simp⟩
  ·intro h20
   try simp at h20
   have hk0 : k = 0 := by omega
   subst hk0
   rw [ht]
   simp only [vH]
   refine AW.exit ?_
   simp
   refine rgn [] [[]] ?_
   refine op1 tok ?_
   refine qA ?_
   exact AW.ret qJ
def wV (d : Dc) (sc : Int) : List UInt8 := d.digits ++ List.replicate (sc - d.scale).toNat 48
theorem zBQ (d : Dc) (sc : Int) (h1 : d.digits.length ≤ 1000) (h2 : 0 ≤ d.scale) (h3 : d.scale ≤ sc) (h4 : sc ≤ 1000) (hd : d.digits.all qG = true) : AFn Tryz.prog G 189 [d.enc, .ref [.int .i64 sc]] (.sl 1 ((jS (wV d sc)).map zJ)) := by
 refine AFn.introU tok Tryz.func189 (by kernel_rfl) rfl rfl ?_
 simp only [Tryz.f189, qI, List.map_cons, List.map_nil]
 have hre := qDN (G := G) [48] (sc - d.scale).toNat (by simp; omega)
 rw [qGH, show (((sc - d.scale).toNat : Nat) : Int) = sc - d.scale by omega] at hre
 have hna := qOX (G := G) (wV d sc) (xS hd _) (by simp [wV]; omega)
 unfold wV at hna
 unfold wV
 refine rgn [] [[], [1, 2]] ?_
 iterate 2 refine op1 tok ?_
 refine qA ?_
 refine AW.seqRunDrawK tok mixed [3] 9 [[2], [4], [1], [2], [7], [6, 8], [9], [5, 10], [11]] [.nilp, .str (List.replicate (sc - d.scale).toNat 48), .nilp, .sl 1 ((jS (d.digits ++ List.replicate (sc - d.scale).toNat 48)).map zJ)] [] (by kernel_rfl) (by intro C; conv => lhs; simp) (by ((repeat' (first | with_reducible apply And.intro | intro _)) <;> first | exact (hre) | exact (hna) | assumption | omega | contradiction | simp_all)) (by simp [Sm.sum, Sm.foot, Sm.tch, Sm.refs]; kernel_rfl) (by intro C; conv => lhs; simp) (by first | with_reducible exact True.intro | omega | simp | (simp +contextual; omega)) ?_
 exact AW.ret qJ
def zG (a b : Dc) : Int := if a.scale < b.scale then b.scale else a.scale
def okD (d : Dc) : Prop := d.digits.length ≤ 1000 ∧ 0 ≤ d.scale ∧ d.scale ≤ 1000 ∧ d.digits.all qG = true
theorem qQT (a b : Dc) (ha : okD a) (hb : okD b) : AFn Tryz.prog G 138 [a.enc, b.enc] (.tup [.sl 1 ((jS (wV a (zG a b))).map zJ), .sl 1 ((jS (wV b (zG a b))).map zJ), .int .i64 (zG a b)]) := by
 refine AFn.introU tok Tryz.func138 (by kernel_rfl) rfl rfl ?_
 simp only [Tryz.f138, qI, List.map_cons, List.map_nil]
 obtain ⟨a1, a2, a3, a4⟩ := ha
 obtain ⟨b1, b2, b3, b4⟩ := hb
 have hm1 : a.scale ≤ zG a b := by unfold zG; split <;> omega
 have hm2 : b.scale ≤ zG a b := by unfold zG; split <;> omega
 have hm3 : zG a b ≤ 1000 := by unfold zG; split <;> omega
 have e1 := zBQ (G := G) a (zG a b) a1 a2 hm1 hm3 a4
 have e2 := zBQ (G := G) b (zG a b) b1 b2 hm2 hm3 b4
 have hmx : (if a.scale < b.scale then b.scale else a.scale) = zG a b := rfl
 refine rgn [] [[], [], [], [2, 3], [2, 3]] ?_
 iterate 5 refine op1 tok ?_
 refine qA ?_
 refine rgn [] [[], [], [], [], [2, 3, 13], [], [2, 3, 7]] ?_
 iterate 7 refine op1 tok ?_
 refine qA ?_
 refine rgn [] [[], [2, 3, 7, 8]] ?_
 iterate 2 refine op1 tok ?_
 refine qA ?_
 refine AW.freezeV 7 (by conv => lhs; simp [hmx]) ?_
 refine AW.seqRunDrawK tok mixed [4, 5, 6] 9 [[8], [2], [15, 16], [8], [3], [18, 19], [7], [17], [20]] [.nilp, .sl 1 ((jS (wV a (zG a b))).map zJ), .nilp, .sl 1 ((jS (wV b (zG a b))).map zJ)] [] (by kernel_rfl) (by intro C; conv => lhs; simp) (by ((repeat' (first | with_reducible apply And.intro | intro _)) <;> first | exact (e1) | exact (e2) | assumption | omega | contradiction | simp_all)) (by simp [Sm.sum, Sm.foot, Sm.tch, Sm.refs]; kernel_rfl) (by intro C; conv => lhs; simp) (by first | with_reducible exact True.intro | omega | simp | (simp +contextual; omega)) ?_
 exact AW.ret qJ
def qCC (a b : Dc) : Int := xW (jS (wV a (zG a b))) (jS (wV b (zG a b)))
def qFW (a b : Dc) : Int := if a.neg = b.neg then (if a.neg = true then sgn (- qCC a b) else sgn (qCC a b)) else if a.neg = true then -1 else 1
theorem zHO (n : Int) : (if 1 < (if n < -1 then -1 else n) then 1 else (if n < -1 then -1 else n)) = sgn n := by unfold sgn; split <;> split <;> (try split) <;> omega
theorem zQR (a b : Dc) (ha : okD a) (hb : okD b) : AFn Tryz.prog G 103 [a.enc, b.enc] (.int .i64 (qFW a b)) := by
 refine AFn.introU tok Tryz.func103 (by kernel_rfl) rfl rfl ?_
 simp only [Tryz.f103, qI, List.map_cons, List.map_nil]
 have hal := qQT (G := G) a b ha hb
 have hl : ∀ (d : Dc), okD d → ∀ sc : Int, sc ≤ 1000 → (jS (wV d sc)).length ≤ 1000000 := fun d hd sc hs => by
  have := qFJ (wV d sc); have := hd.1; have := hd.2.1; simp [wV] at *; omega
 have hm3 : zG a b ≤ 1000 := by have := ha.2.2.1; have := hb.2.2.1; unfold zG; split <;> omega
 have hcm := qST (G := G) (jS (wV a (zG a b))) (jS (wV b (zG a b))) (hl a ha _ hm3) (hl b hb _ hm3)
 have hrg := qWC (jS (wV a (zG a b))) (jS (wV b (zG a b))) (hl a ha _ hm3) (hl b hb _ hm3)
 rw [show xW (jS (wV a (zG a b))) (jS (wV b (zG a b))) = qCC a b from rfl] at hcm hrg
 have hwn : IntKind.i64.wrap (- qCC a b) = - qCC a b := by simp [IntKind.wrap, IntKind.bits, IntKind.signed]; omega
 refine rgn [] [[], [], [2, 3]] ?_
 iterate 3 refine op1 tok ?_
 refine qA ?_
 refine rgn [.nilp, .tup [.sl 1 ((jS (wV a (zG a b))).map zJ), .sl 1 ((jS (wV b (zG a b))).map zJ), .int .i64 (zG a b)]] [[], [], [], [], [], [], [2, 3, 13, 14, 15], [], [], [2, 3, 5, 6]] ?_
 iterate 10 refine op1 tok ?_ (hv := by first | with_reducible exact True.intro | (exact hal; done) | omega | simp | (simp +contextual; omega))
 refine qA ?_
 refine rgn [.nilp, .int .i64 (qCC a b)] [[], [], [2, 3, 18], [2, 3, 8]] ?_
 iterate 4 refine op1 tok ?_ (hv := by first | with_reducible exact True.intro | (exact hcm; done) | omega | simp | (simp +contextual; omega))
 refine qA ?_
 refine AW.seq ?_
 refine AW.block ?_
 refine rgn [] [[], [], [], [], [2, 8, 24], [2, 8, 19]] ?_
 iterate 6 refine op1 tok ?_
 refine qA ?_
 refine cnd ?_ ?_
 ·intro h19
  try simp at h19
  refine rgn [] [[]] ?_
  refine op1 tok ?_
  refine qA ?_
  refine rgn [] [[], [8, 26]] ?_
  iterate 2 refine op1 tok ?_
  refine qA ?_
  refine cnd ?_ ?_
  ·intro h26
   try simp at h26
   have hC : qFW a b = -1 := by unfold qFW; rw [if_neg h19, if_pos h26]
   refine rgz [] [[]] ?_
   refine op1 tok ?_
   refine qA ?_
   refine rgn [] [[], [], [], [4]] ?_
   iterate 4 refine op1 tok ?_
   refine qA ?_
   exact AW.ret (qJ (k := by simp [hC]))
  ·intro h26
   try simp at h26
   have hC : qFW a b = 1 := by unfold qFW; rw [if_neg h19, if_neg (by simp [h26])]
   refine AW.skip ?_
   refine rgn [] [[], [], [], [4]] ?_
   iterate 4 refine op1 tok ?_
   refine qA ?_
   exact AW.ret (qJ (k := by simp [hC]))
 ·intro h19
  try simp at h19
  refine rgn [] [[], [], [8, 27]] ?_
  iterate 3 refine op1 tok ?_
  refine qA ?_
  refine cnd ?_ ?_
  ·intro h27
   try simp at h27
   have hC : qFW a b = sgn (- qCC a b) := by unfold qFW; rw [if_pos h19, if_pos h27]
   refine rgz [] [[], [], [8]] ?_
   iterate 3 refine op1 tok ?_
   refine qA ?_
   refine rgn [] [[], [], [], [4]] ?_
   iterate 4 refine op1 tok ?_
   refine qA ?_
   exact AW.ret (qJ (k := by (simp [hwn, hC]; unfold sgn; (repeat' split) <;> omega)))
  ·intro h27
   try simp at h27
   have hC : qFW a b = sgn (qCC a b) := by unfold qFW; rw [if_pos h19, if_neg (by simp [h27])]
   refine AW.skip ?_
   refine rgn [] [[], [], [], [4]] ?_
   iterate 4 refine op1 tok ?_
   refine qA ?_
   exact AW.ret (qJ (k := by simp [zHO, hC]))
theorem yJ {d : Dc} (h : zZ d = true) : okD d ∧ d.digits.length ≤ 60 ∧ d.scale ≤ 60 := by
 unfold zZ at h
 simp only [Bool.and_eq_true, decide_eq_true_eq] at h
 obtain ⟨⟨h1, h2⟩, _⟩ := h
 exact ⟨⟨by omega, by omega, by omega, h1⟩, by omega, by omega⟩
def qN (d : Dc) : Nat := qL d.digits * 10 ^ (60 - d.scale.toNat)
def qD (d : Dc) : Int := if d.neg = true then - (qN d : Int) else qN d
theorem zPQ {a : Int} {k : Int} (hk : 0 < k) : sgn (a * k) = sgn a := by
 unfold sgn
 by_cases h1 : a < 0
 ·rw [if_pos h1, if_pos (Int.mul_neg_of_neg_of_pos h1 hk)]
 ·rw [if_neg h1]
  by_cases h2 : a = 0
  ·subst h2; simp
  ·have := Int.mul_pos (show 0 < a by omega) hk
   rw [if_neg h2, if_neg (by omega), if_neg (by omega)]
theorem zLM {a b : Dc} (ha : zZ a = true) (hb : zZ b = true) : sgn (qCC a b) = sgn ((qN a : Int) - qN b) := by
 obtain ⟨⟨a1, a2, a3, a4⟩, a5, a6⟩ := yJ ha
 obtain ⟨⟨b1, b2, b3, b4⟩, b5, b6⟩ := yJ hb
 have hm1 : a.scale ≤ zG a b := by unfold zG; split <;> omega
 have hm2 : b.scale ≤ zG a b := by unfold zG; split <;> omega
 have hm3 : zG a b ≤ 60 := by unfold zG; split <;> omega
 unfold qCC wV
 rw [qLX (qCW (xS a4 _)) (qCW (xS b4 _)), qCV (xS a4 _), qCV (xS b4 _), qIK, qIK]
 have ea : (qN a : Int) = ((qL a.digits * 10 ^ (zG a b - a.scale).toNat : Nat) : Int) * ((10 ^ (60 - (zG a b).toNat) : Nat) : Int) := by
  rw [← Int.natCast_mul, Nat.mul_assoc, ← Nat.pow_add, show (zG a b - a.scale).toNat + (60 - (zG a b).toNat) = 60 - a.scale.toNat by omega]; rfl
 have eb : (qN b : Int) = ((qL b.digits * 10 ^ (zG a b - b.scale).toNat : Nat) : Int) * ((10 ^ (60 - (zG a b).toNat) : Nat) : Int) := by
  rw [← Int.natCast_mul, Nat.mul_assoc, ← Nat.pow_add, show (zG a b - b.scale).toNat + (60 - (zG a b).toNat) = 60 - b.scale.toNat by omega]; rfl
 rw [ea, eb, ← Int.sub_mul, zPQ (by have := Nat.pow_pos (n := 60 - (zG a b).toNat) (show 0 < 10 by omega); omega)]
theorem zFF (n : Int) : sgn (- n) = - sgn n := by unfold sgn; split <;> split <;> (try split) <;> omega
theorem qAW {s : List UInt8} (hd : s.all qG = true) (hl : 0 < s.length) (h : qT s 0 ≠ 48) : 10 ^ (s.length - 1) ≤ qL s := by
 cases s with
 | nil => simp at hl
 | cons b s =>
  simp only [List.all_cons, Bool.and_eq_true] at hd
  have h1 := (zS b).1 hd.1
  have h2 : b.toNat ≠ 48 := by simp [qT] at h; omega
  rw [yM]
  have := Nat.mul_le_mul_right (10 ^ s.length) (show 1 ≤ b.toNat - 48 by omega)
  simp; omega
theorem zFK {d : Dc} (h : zZ d = true) (h0 : qN d = 0) : d.neg = false := by
 have hk := yJ h
 unfold zZ at h
 simp only [Bool.and_eq_true, decide_eq_true_eq] at h
 obtain ⟨⟨h1, h2⟩, h3⟩ := h
 by_cases hz : d.digits = [48]
 ·rw [if_pos hz] at h3; simp at h3; exact h3.2
 ·rw [if_neg hz] at h3
  simp at h3
  have := qAW h1 (by omega) h3.1
  have hp := Nat.pow_pos (n := d.digits.length - 1) (show 0 < 10 by omega)
  have hq : 0 < qN d := Nat.mul_pos (by omega) (Nat.pow_pos (by omega))
  omega
theorem zJE {a b : Dc} (ha : zZ a = true) (hb : zZ b = true) : qFW a b = sgn (qD a - qD b) := by
 have hr := zLM ha hb
 unfold qFW
 by_cases h : a.neg = b.neg
 ·rw [if_pos h]
  unfold qD
  rw [← h]
  split
  ·rw [zFF, hr, ← zFF]; congr 1; omega
  ·exact hr
 ·rw [if_neg h]
  have hz1 := fun h0 => zFK ha h0
  have hz2 := fun h0 => zFK hb h0
  unfold qD
  cases hna : a.neg with
  | true =>
   have hnb : b.neg = false := by rw [hna] at h; simpa using h
   have : qN a ≠ 0 := fun e => by have := hz1 e; rw [hna] at this; cases this
   rw [hnb]; simp [sgn]; omega
  | false =>
   have hnb : b.neg = true := by rw [hna] at h; simpa using h
   have : qN b ≠ 0 := fun e => by have := hz2 e; rw [hnb] at this; cases this
   rw [hnb]; simp [sgn]; omega
def vK (s : List UInt8) (i : Nat) : Nat → Nat → Int → Option Int
 | 0, _, v => some v
 | r + 1, j, v => match s[i + j]? with
  | none => none
  | some c => if (c.toNat : Int) < 128 ∨ 192 ≤ (c.toNat : Int) then none else vK s i r (j + 1) (64 * v + c.toNat - 128)
def kC (c : Int) : Nat × Int × Int :=
 if 194 ≤ c ∧ c < 224 then (2, 128, c - 192) else if 224 ≤ c ∧ c < 240 then (3, 2048, c - 224) else if 240 ≤ c ∧ c < 245 then (4, 65536, c - 240) else (0, 0, 0)
def qMK (low : Int) (need : Nat) : Option Int → Int × Int
 | none => (0, 0)
 | some v => if v < low ∨ v > 1114111 ∨ (55296 ≤ v ∧ v < 57344) then (0, 0) else (v, need)
def kW (s : List UInt8) (i : Nat) (x : Nat × Int × Int) : Int × Int := if x.1 = 0 ∨ s.length < i + x.1 then (0, 0) else qMK x.2.1 x.1 (vK s i (x.1 - 1) 1 x.2.2)
def zT (s : List UInt8) (i : Nat) : Int × Int := match s[i]? with
 | none => (0, 0)
 | some b => if (b.toNat : Int) < 128 then (b.toNat, 1) else kW s i (kC b.toNat)
def rS (s : List UInt8) (i : Nat) (x : Nat × Int × Int) : St := ⟨[.p (.str s), .p (.int .i64 i), .dead, .dead, .p (.int .i64 0), .p (.int .i64 0), .dead, .p (.int .i64 x.1), .p (.int .i64 x.2.1), .p (.int .i64 x.2.2)] ++ List.replicate 86 .dead, [], [], 0⟩
def rS2 (s : List UInt8) (i : Nat) (need : Nat) (low : Int) (a : Nat × Int) : St := ⟨[.p (.str s), .p (.int .i64 i), .dead, .dead, .p (.int .i64 0), .p (.int .i64 0), .dead, .p (.int .i64 need), .p (.int .i64 low), .p (.int .i64 a.2), .p (.int .i64 a.1)] ++ List.replicate 85 .dead, [], [], 0⟩
theorem zGU (s : List UInt8) (i : Nat) (hi : i < s.length) (hs : s.length ≤ 1000000000) : AFn Tryz.prog G 133 [.str s, .int .i64 i] (.tup [.int .i64 (zT s i).1, .int .i64 (zT s i).2]) := by
 refine AFn.intro tok Tryz.func133 (by kernel_rfl) rfl ?_
 simp only [Tryz.f133, St.start]
 obtain ⟨b, hb⟩ : ∃ b, s[i]? = some b := ⟨s[i], by simp [hi]⟩
 have hblt : b.toNat < 256 := b.toNat_lt
 have hrune : zT s i = if (b.toNat : Int) < 128 then ((b.toNat : Int), 1) else kW s i (kC b.toNat) := by simp only [zT, hb]
 refine AW.seqRun tok [] (by intro C; conv => lhs; simp) trivial ?_
 refine AW.seqRun tok [.int .u8 b.toNat] (by intro C; conv => lhs; simp) (by simp [hb]) ?_
 refine AW.seqRun tok [] (by intro C; conv => lhs; simp) trivial ?_
 refine AW.seqRun tok [] (by intro C; conv => lhs; simp) trivial ?_
 refine AW.seqRun tok [] (by intro C; conv => lhs; simp) trivial ?_
 refine AW.join (α := Nat × Int × Int) (fun x => zT s i = kW s i x ∧ x.1 ≤ 4 ∧ 0 ≤ x.2.2 ∧ x.2.2 ≤ 40) (fun x => rS s i x) ?_ ?_
 ·refine AW.block ?_
  refine AW.seqRun tok [] (by intro C; conv => lhs; simp) trivial ?_
  refine AW.cond (c := .tmp 16) (by conv => lhs; simp) trivial ?_ ?_
  ·intro h1
   simp at h1
   refine AW.seqRun tok [] (by intro C; conv => lhs; simp) trivial ?_
   exact AW.ret ⟨.inr rfl, _, _, by (conv => lhs; simp), trivial, by rw [hrune, if_pos h1]; simp⟩
  ·intro h1
   simp at h1
   have hr2 : zT s i = kW s i (kC b.toNat) := by rw [hrune, if_neg (by omega)]
   refine AW.seqRun tok [] (by intro C; conv => lhs; simp) (by simp) ?_
   refine AW.cond (c := .tmp 20) (by conv => lhs; simp) trivial ?_ ?_
   ·intro h2
    simp at h2
    refine AW.seqRun tok [] (by intro C; conv => lhs; simp) trivial ?_
    refine AW.seqRun tok [] (by intro C; conv => lhs; simp) trivial ?_
    refine AW.run tok [] (by intro C; conv => lhs; simp) (by omega) ?_
    exact ⟨(2, 128, b.toNat - 192), ⟨by rw [hr2]; simp [kC, h2], by simp, by simp; omega, by simp; omega⟩, by simp [rS], rfl, by simp [rS], by simp [rS]⟩
   ·intro h2
    refine AW.seqRun tok [] (by intro C; conv => lhs; simp) (by simp) ?_
    refine AW.cond (c := .tmp 29) (by conv => lhs; simp) trivial ?_ ?_
    ·intro h3
     simp at h3
     refine AW.seqRun tok [] (by intro C; conv => lhs; simp) trivial ?_
     refine AW.seqRun tok [] (by intro C; conv => lhs; simp) trivial ?_
     refine AW.run tok [] (by intro C; conv => lhs; simp) (by omega) ?_
     exact ⟨(3, 2048, b.toNat - 224), ⟨by rw [hr2]; simp [kC, h3, show ¬ ((b.toNat : Int) < 224) by omega], by simp, by simp; omega, by simp; omega⟩, by simp [rS], rfl, by simp [rS], by simp [rS]⟩
    ·intro h3
     refine AW.seqRun tok [] (by intro C; conv => lhs; simp) (by simp) ?_
     refine AW.cond (c := .tmp 38) (by conv => lhs; simp) trivial ?_ ?_
     ·intro h4
      simp at h4
      refine AW.seqRun tok [] (by intro C; conv => lhs; simp) trivial ?_
      refine AW.seqRun tok [] (by intro C; conv => lhs; simp) trivial ?_
      refine AW.run tok [] (by intro C; conv => lhs; simp) (by omega) ?_
      exact ⟨(4, 65536, b.toNat - 240), ⟨by rw [hr2]; simp [kC, h4, show ¬ ((b.toNat : Int) < 224) by omega, show ¬ ((b.toNat : Int) < 240) by omega], by simp, by simp; omega, by simp; omega⟩, by simp [rS], rfl, by simp [rS], by simp [rS]⟩
     ·intro h4
      simp at h2 h3 h4
      refine AW.skip ?_
      exact ⟨(0, 0, 0), ⟨by rw [hr2]; simp [kC, show ¬ (194 ≤ (b.toNat : Int) ∧ (b.toNat : Int) < 224) by omega, show ¬ (224 ≤ (b.toNat : Int) ∧ (b.toNat : Int) < 240) by omega, show ¬ (240 ≤ (b.toNat : Int) ∧ (b.toNat : Int) < 245) by omega],
       by simp, by simp, by simp⟩, by simp [rS], rfl, by simp [rS], by simp [rS]⟩
 ·rintro ⟨need, low, v0⟩ ⟨hr, hneed, hv0, hv1⟩
  simp only at hneed hv0 hv1
  simp only [rS]
  rw [hr]
  refine AW.seq ?_
  refine AW.seqRun tok [] (by intro C; conv => lhs; simp) (by simp +contextual; omega) ?_
  refine AW.cond (c := .tmp 56) (by conv => lhs; simp) trivial ?_ ?_
  ·intro h1
   simp at h1
   refine AW.seqRun tok [] (by intro C; conv => lhs; simp) trivial ?_
   exact AW.ret ⟨.inr rfl, _, _, by (conv => lhs; simp), trivial, by simp [kW, show need = 0 ∨ s.length < i + need by omega]⟩
  ·intro h1
   simp at h1
   have hfit : ¬ (need = 0 ∨ s.length < i + need) := by omega
   have htl : kW s i (need, low, v0) = qMK low need (vK s i (need - 1) 1 v0) := by simp only [kW]; rw [if_neg hfit]
   rw [htl]
   refine AW.skip ?_
   refine AW.seq ?_
   refine AW.seqRun tok [] (by intro C; conv => lhs; simp) trivial ?_
   refine AW.block ?_
   refine AW.loop (α := Nat × Int) (fun a => 1 ≤ a.1 ∧ a.1 ≤ need ∧ vK s i (need - 1) 1 v0 = vK s i (need - a.1) a.1 a.2 ∧ 0 ≤ a.2 ∧ (a.1 = 1 → a.2 ≤ 40) ∧ (a.1 = 2 → a.2 ≤ 3000) ∧ (a.1 = 3 → a.2 ≤ 200000) ∧ (a.1 = 4 → a.2 ≤ 14000000))
    (fun a => rS2 s i need low a) (fun a => need - a.1) (1, v0) ⟨by simp, by omega, rfl, hv0, fun _ => hv1, by simp, by simp, by simp⟩ ⟨by simp [rS2], rfl, by simp [rS2], by simp [rS2]⟩ ?_
   rintro ⟨j, v⟩ ⟨hj1, hj2, hlp, hv, hb1, hb2, hb3, hb4⟩
   simp only at hj1 hj2 hlp hv hb1 hb2 hb3 hb4
   simp only [rS2]
   refine AW.seq ?_
   refine AW.seqRun tok [] (by intro C; conv => lhs; simp) trivial ?_
   refine AW.cond (c := .tmp 59) (by conv => lhs; simp) trivial ?_ ?_
   ·intro h4
    simp at h4
    obtain ⟨c, hc⟩ : ∃ c, s[i + j]? = some c := ⟨s[i + j]'(by omega), by simp [show i + j < s.length by omega]⟩
    have hclt : c.toNat < 256 := c.toNat_lt
    have hstep : vK s i (need - j) j v = if (c.toNat : Int) < 128 ∨ 192 ≤ (c.toNat : Int) then none else vK s i (need - (j + 1)) (j + 1) (64 * v + c.toNat - 128) := by
     rw [show need - j = (need - (j + 1)) + 1 by omega]; simp only [vK, hc]
    refine AW.skip ?_
    refine AW.seq ?_
    refine AW.block ?_
    refine AW.seqRun tok [.int .u8 c.toNat] (by intro C; conv => lhs; simp) (by rw [show ((i : Int) + j).toNat = i + j by omega]; simp [hc]; omega) ?_
    refine AW.seq ?_
    refine AW.seqRun tok [] (by intro C; conv => lhs; simp) (by simp) ?_
    refine AW.cond (c := .tmp 73) (by conv => lhs; simp) trivial ?_ ?_
    ·intro h5
     simp at h5
     refine AW.seqRun tok [] (by intro C; conv => lhs; simp) trivial ?_
     exact AW.ret ⟨.inr rfl, _, _, by (conv => lhs; simp), trivial, by rw [hlp, hstep, if_pos (by omega)]; simp [qMK]⟩
    ·intro h5
     simp at h5
     refine AW.skip ?_
     refine AW.run tok [] (by intro C; conv => lhs; simp) (by omega) ?_
     refine AW.run tok [] (by intro C; conv => lhs; simp) (by omega) ?_
     exact ⟨(j + 1, 64 * v + c.toNat - 128), ⟨by simp, by simp; omega, by rw [hlp, hstep, if_neg (by omega)], by simp; omega, by simp; omega, by simp; omega, by simp; omega, by simp; omega⟩, by simp; omega, by simp [rS2], rfl, by simp [rS2], by simp [rS2]⟩
   ·intro h4
    simp at h4
    have hjn : j = need := by omega
    subst hjn
    rw [hlp]
    simp only [Nat.sub_self, vK]
    refine AW.exit ?_
    simp
    refine AW.seq ?_
    refine AW.seqRun tok [] (by intro C; conv => lhs; simp) (by omega) ?_
    refine AW.cond (c := .tmp 93) (by conv => lhs; simp) trivial ?_ ?_
    ·intro h5
     simp at h5
     refine AW.seqRun tok [] (by intro C; conv => lhs; simp) trivial ?_
     exact AW.ret ⟨.inr rfl, _, _, by (conv => lhs; simp), trivial, by simp only [qMK]; rw [if_pos (by omega)]; simp⟩
    ·intro h5
     simp at h5
     refine AW.skip ?_
     refine AW.seqRun tok [] (by intro C; conv => lhs; simp) trivial ?_
     exact AW.ret ⟨.inr rfl, _, _, by (conv => lhs; simp), trivial, by simp only [qMK]; rw [if_neg (by omega)]; simp⟩
theorem qGL (s : List UInt8) (i : Nat) (hi : i < s.length) : 0 ≤ (zT s i).2 ∧ (i : Int) + (zT s i).2 ≤ s.length ∧ (zT s i).2 ≤ 4 := by
 unfold zT
 split
 ·simp; omega
 ·rename_i b hb
  split
  ·simp; omega
  ·have h4 : (kC b.toNat).1 ≤ 4 := by
    unfold kC; split
    ·simp
    ·split
     ·simp
     ·split <;> simp
   generalize kC b.toNat = x at h4
   unfold kW
   split
   ·simp; omega
   ·rename_i h
    have h' : i + x.1 ≤ s.length := by omega
    unfold qMK
    split
    ·simp; omega
    ·split
     ·simp; omega
     ·simp only; omega
def qLM (s : List UInt8) : Nat → Nat → Bool
 | 0, _ => true
 | f + 1, i => if i < s.length then (if (zT s i).2 = 0 then false else qLM s f (i + (zT s i).2.toNat)) else true
def qEY (s : List UInt8) : Bool := qLM s (s.length + 1) 0
def vS (s : List UInt8) (i : Nat) : St := ⟨[.p (.str s), .dead, .p (.bool false), .p (.int .i64 i)] ++ List.replicate 17 .dead, [], [], 0⟩
theorem qBS (s : List UInt8) (hs : s.length ≤ 1000000000) : AFn Tryz.prog G 75 [.str s] (.bool (qEY s)) := by
 refine AFn.intro tok Tryz.func75 (by kernel_rfl) rfl ?_
 simp only [Tryz.f75, St.start]
 refine AW.seqRun tok [] (by intro C; conv => lhs; simp) trivial ?_
 refine AW.seqRun tok [] (by intro C; conv => lhs; simp) trivial ?_
 refine AW.seq ?_
 refine AW.block ?_
 refine AW.loop (α := Nat × Nat) (fun a => qEY s = qLM s a.2 a.1 ∧ a.1 ≤ s.length ∧ s.length + 1 ≤ a.2 + a.1) (fun a => vS s a.1) (fun a => s.length - a.1) (0, s.length + 1) ⟨rfl, by simp, by simp⟩ ⟨by simp [vS], rfl, by simp [vS], by simp [vS]⟩ ?_
 rintro ⟨i, f⟩ ⟨hI, hi, hf⟩
 simp only at hI hi hf
 simp only [vS]
 refine AW.seq ?_
 refine AW.seqRun tok [] (by intro C; conv => lhs; simp) trivial ?_
 refine AW.cond (c := .tmp 9) (by conv => lhs; simp) trivial ?_ ?_
 ·intro h1
  simp at h1
  obtain ⟨f, rfl⟩ : ∃ f', f = f' + 1 := ⟨f - 1, by omega⟩
  have hl := qGL s i h1
  have hR := zGU (G := G) s i h1 hs
  simp only [qLM, h1, if_true] at hI
  refine AW.skip ?_
  refine AW.block ?_
  refine AW.seqRun tok [.tup [.str s, .int .i64 i], .tup [.int .i64 (zT s i).1, .int .i64 (zT s i).2]] (by intro C; conv => lhs; simp) (by simp [hR]) ?_
  refine AW.seq ?_
  refine AW.seqRun tok [] (by intro C; conv => lhs; simp) trivial ?_
  refine AW.cond (c := .tmp 17) (by conv => lhs; simp) trivial ?_ ?_
  ·intro h2
   simp at h2
   refine AW.seqRun tok [] (by intro C; conv => lhs; simp) trivial ?_
   exact AW.ret ⟨.inr rfl, _, _, by (conv => lhs; simp), trivial, by rw [hI]; simp [h2]⟩
  ·intro h2
   simp at h2
   rw [if_neg h2] at hI
   refine AW.skip ?_
   refine AW.run tok [] (by intro C; conv => lhs; simp) (by omega) ?_
   exact ⟨(i + (zT s i).2.toNat, f), ⟨hI, by simp; omega, by simp; omega⟩, by simp; omega, by simp [vS]; omega, rfl, by simp [vS], by simp [vS]⟩
 ·intro h1
  simp at h1
  refine AW.exit ?_
  simp
  refine AW.seqRun tok [] (by intro C; conv => lhs; simp) trivial ?_
  exact AW.ret ⟨.inr rfl, _, _, by (conv => lhs; simp), trivial, by
   rw [hI]
   cases f with
   | zero => simp [qLM]
   | succ f => simp only [qLM]; rw [if_neg (by omega)]; simp⟩
theorem zEM {s : List UInt8} {j : Nat} {c : UInt8} (h : s[j]? = some c) : (⟨s.toArray⟩ : ByteArray).get! j = c := by
 have hj := (List.getElem?_eq_some_iff.1 h).1
 have hc := (List.getElem?_eq_some_iff.1 h).2
 show s.toArray[j]! = c
 rw [getElem!_pos s.toArray j (by simpa using hj)]
 simpa using hc
def xE (o : Option UInt8) : Nat := match o with
 | some c => c.toNat
 | none => 0
def wP (o : Option UInt8) : Bool := match o with
 | some c => c.toNat / 64 == 2
 | none => false
def qHB (b0 : Nat) (o1 o2 o3 : Option UInt8) : Nat × Nat :=
 if b0 < 0x80 then (b0, 1)
 else if b0 / 32 == 6 && wP o1 then
  if (b0 % 32) * 64 + xE o1 % 64 ≥ 0x80 then ((b0 % 32) * 64 + xE o1 % 64, 2) else (65533, 1)
 else if b0 / 16 == 14 && wP o1 && wP o2 then
  if (b0 % 16) * 4096 + (xE o1 % 64) * 64 + xE o2 % 64 ≥ 0x800 && Utf8.valid ((b0 % 16) * 4096 + (xE o1 % 64) * 64 + xE o2 % 64 : Nat) then ((b0 % 16) * 4096 + (xE o1 % 64) * 64 + xE o2 % 64, 3) else (65533, 1)
 else if b0 / 8 == 30 && wP o1 && wP o2 && wP o3 then
  if (b0 % 8) * 262144 + (xE o1 % 64) * 4096 + (xE o2 % 64) * 64 + xE o3 % 64 ≥ 0x10000 && Utf8.valid ((b0 % 8) * 262144 + (xE o1 % 64) * 4096 + (xE o2 % 64) * 64 + xE o3 % 64 : Nat) then
   ((b0 % 8) * 262144 + (xE o1 % 64) * 4096 + (xE o2 % 64) * 64 + xE o3 % 64, 4) else (65533, 1)
 else (65533, 1)
theorem zAS {s : List UInt8} {i : Nat} {b : UInt8} (h : s[i]? = some b) : Utf8.decode ⟨s.toArray⟩ i = qHB b.toNat s[i + 1]? s[i + 2]? s[i + 3]? := by
 have hsz : (⟨s.toArray⟩ : ByteArray).size = s.length := by simp [ByteArray.size]
 have cont : ∀ k, (decide (i + k < (⟨s.toArray⟩ : ByteArray).size) && ((⟨s.toArray⟩ : ByteArray).get! (i + k)).toNat / 64 == 2) = wP s[i + k]? := by
  intro k
  rw [hsz]
  cases hk : s[i + k]? with
  | none =>
   have : ¬ i + k < s.length := by have := List.getElem?_eq_none_iff.1 hk; omega
   simp [wP, this]
  | some c =>
   have := (List.getElem?_eq_some_iff.1 hk).1
   simp [wP, this, zEM hk]
 have byt : ∀ k, wP s[i + k]? = true → ((⟨s.toArray⟩ : ByteArray).get! (i + k)).toNat = xE s[i + k]? := by
  intro k hk
  cases hc : s[i + k]? with
  | none => rw [hc] at hk; cases hk
  | some c => rw [zEM hc]; rfl
 have b0 : ((⟨s.toArray⟩ : ByteArray).get! (i + 0)).toNat = b.toNat := by rw [Nat.add_zero, zEM h]
 unfold Utf8.decode qHB
 simp only [cont, b0]
 by_cases h1 : wP s[i + 1]? = true
 ·rw [byt 1 h1]
  by_cases h2 : wP s[i + 2]? = true
  ·rw [byt 2 h2]
   by_cases h3 : wP s[i + 3]? = true
   ·rw [byt 3 h3]; simp only [h1, h2, h3]; rfl
   ·simp only [h1, h2, h3, Bool.and_false, Bool.false_eq_true, if_false]; rfl
  ·simp only [h1, h2, Bool.and_false, Bool.false_and, Bool.false_eq_true, if_false]; rfl
 ·simp only [h1, Bool.and_false, Bool.false_and, Bool.false_eq_true, if_false]; rfl
theorem zNC (low v : Int) (m k : Nat) (hk : k ≠ 0) (hv : v = (m : Int)) : (if (qMK low k (some v)).2 = 0 then ((65533 : Nat), (1 : Nat)) else ((qMK low k (some v)).1.toNat, (qMK low k (some v)).2.toNat)) =
  if (m : Int) < low ∨ (m : Int) > 1114111 ∨ (55296 ≤ (m : Int) ∧ (m : Int) < 57344) then (65533, 1) else (m, k) := by
 subst hv
 unfold qMK
 by_cases h : (m : Int) < low ∨ (m : Int) > 1114111 ∨ (55296 ≤ (m : Int) ∧ (m : Int) < 57344)
 ·simp only [h, if_true]
 ·simp only [h, if_false]
  rw [if_neg (by omega)]
  rfl
theorem qHM (m : Nat) : Utf8.valid (m : Int) = decide (¬ ((m : Int) > 1114111 ∨ (55296 ≤ (m : Int) ∧ (m : Int) < 57344))) := by
 rw [Bool.eq_iff_iff]; simp only [Utf8.valid, Bool.or_eq_true, Bool.and_eq_true, decide_eq_true_eq]; omega
theorem isC (c : UInt8) : (c.toNat / 64 == 2) = decide (128 ≤ c.toNat ∧ c.toNat < 192) := by rw [Bool.eq_iff_iff]; simp only [beq_iff_eq, decide_eq_true_eq]; omega
theorem yF (c : UInt8) : wP (some c) = decide (128 ≤ c.toNat ∧ c.toNat < 192) := isC c
theorem xM {s : List UInt8} {i r j : Nat} {v : Int} {c : UInt8} (h : s[i + j]? = some c) (hc : 128 ≤ c.toNat ∧ c.toNat < 192) : vK s i (r + 1) j v = vK s i r (j + 1) (64 * v + c.toNat - 128) := by
 simp only [vK, h]; rw [if_neg (by omega)]
theorem qCR {s : List UInt8} {i r j : Nat} {v : Int} {c : UInt8} (h : s[i + j]? = some c) (hc : ¬ (128 ≤ c.toNat ∧ c.toNat < 192)) : vK s i (r + 1) j v = none := by
 simp only [vK, h]; rw [if_pos (by omega)]
theorem xO {n : Nat} {o1 o2 o3 : Option UInt8} (h0 : ¬ n < 128) (h : (n / 32 = 6 → wP o1 = true → n % 32 * 64 + xE o1 % 64 < 128) ∧ (n / 16 = 14 → wP o1 = true → wP o2 = false) ∧ (n / 8 = 30 → wP o1 = true → wP o2 = true → wP o3 = true → 1114111 < n % 8 * 262144)) :
  qHB n o1 o2 o3 = (65533, 1) := by
 obtain ⟨h1, h2, h3⟩ := h
 unfold qHB
 rw [if_neg h0]
 by_cases a : n / 32 = 6
 ·have b : ¬ n / 16 = 14 := by omega
  have c : ¬ n / 8 = 30 := by omega
  cases hc : wP o1 with
  | true => simp only [a, beq_self_eq_true, Bool.and_self, if_true]; rw [if_neg (by have := h1 a hc; omega)]
  | false => simp [a, b, c]
 ·by_cases b : n / 16 = 14
  ·have c : ¬ n / 8 = 30 := by omega
   cases hc : wP o1 with
   | true => simp [a, b, c, h2 b hc]
   | false => simp [a, b, c]
  ·by_cases c : n / 8 = 30
   ·cases hc1 : wP o1 with
    | false => simp [a, b]
    | true =>
     cases hc2 : wP o2 with
     | false => simp [a, b]
     | true =>
      cases hc3 : wP o3 with
      | false => simp [a, b]
      | true =>
       have hb := h3 c hc1 hc2 hc3
       simp only [a, b, c, beq_iff_eq, beq_self_eq_true, Bool.false_and, Bool.and_self, Bool.and_true, if_false, if_true, Bool.false_eq_true]
       rw [if_neg]
       rw [qHM]
       simp only [Bool.and_eq_true, decide_eq_true_eq]
       omega
   ·simp [a, b, c]
theorem zTN {n : Nat} {c : UInt8} {o2 o3 : Option UInt8} (h0 : ¬ n < 128) (hn : n / 32 = 6) (hc : 128 ≤ c.toNat ∧ c.toNat < 192) :
  qHB n (some c) o2 o3 = if n % 32 * 64 + c.toNat % 64 ≥ 128 then (n % 32 * 64 + c.toNat % 64, 2) else (65533, 1) := by
 have h1 : wP (some c) = true := by rw [yF]; exact decide_eq_true hc
 unfold qHB
 rw [if_neg h0, if_pos (by rw [h1, hn]; rfl)]
 rfl
theorem zTM {n : Nat} {c d : UInt8} {o3 : Option UInt8} (h0 : ¬ n < 128) (hn : n / 16 = 14) (hc : 128 ≤ c.toNat ∧ c.toNat < 192) (hd : 128 ≤ d.toNat ∧ d.toNat < 192) {m : Nat} (hm : m = n % 16 * 4096 + c.toNat % 64 * 64 + d.toNat % 64) :
  qHB n (some c) (some d) o3 = if (m : Int) < 2048 ∨ (m : Int) > 1114111 ∨ (55296 ≤ (m : Int) ∧ (m : Int) < 57344) then (65533, 1) else (m, 3) := by
 have h1 : wP (some c) = true := by rw [yF]; exact decide_eq_true hc
 have h2 : wP (some d) = true := by rw [yF]; exact decide_eq_true hd
 have e1 : ¬ n / 32 = 6 := by omega
 unfold qHB
 rw [if_neg h0, if_neg (by rw [h1]; simp [e1]), if_pos (by rw [h1, h2, hn]; rfl)]
 simp only [xE, ← hm, qHM]
 clear hm
 by_cases hb : (m : Int) < 2048 ∨ (m : Int) > 1114111 ∨ 55296 ≤ (m : Int) ∧ (m : Int) < 57344
 ·rw [if_pos hb, if_neg]; simp only [Bool.and_eq_true, decide_eq_true_eq]; omega
 ·rw [if_neg hb, if_pos]; simp only [Bool.and_eq_true, decide_eq_true_eq]; omega
theorem zTL {n : Nat} {c d e : UInt8} (h0 : ¬ n < 128) (hn : n / 8 = 30) (hc : 128 ≤ c.toNat ∧ c.toNat < 192) (hd : 128 ≤ d.toNat ∧ d.toNat < 192) (he : 128 ≤ e.toNat ∧ e.toNat < 192) {m : Nat}
  (hm : m = n % 8 * 262144 + c.toNat % 64 * 4096 + d.toNat % 64 * 64 + e.toNat % 64) :
  qHB n (some c) (some d) (some e) = if (m : Int) < 65536 ∨ (m : Int) > 1114111 ∨ (55296 ≤ (m : Int) ∧ (m : Int) < 57344) then (65533, 1) else (m, 4) := by
 have h1 : wP (some c) = true := by rw [yF]; exact decide_eq_true hc
 have h2 : wP (some d) = true := by rw [yF]; exact decide_eq_true hd
 have h3 : wP (some e) = true := by rw [yF]; exact decide_eq_true he
 have e1 : ¬ n / 32 = 6 := by omega
 have e2 : ¬ n / 16 = 14 := by omega
 unfold qHB
 rw [if_neg h0, if_neg (by rw [h1]; simp [e1]), if_neg (by rw [h1, h2]; simp [e2]), if_pos (by rw [h1, h2, h3, hn]; rfl)]
 simp only [xE, ← hm, qHM]
 clear hm
 by_cases hb : (m : Int) < 65536 ∨ (m : Int) > 1114111 ∨ 55296 ≤ (m : Int) ∧ (m : Int) < 57344
 ·rw [if_pos hb, if_neg]; simp only [Bool.and_eq_true, decide_eq_true_eq]; omega
 ·rw [if_neg hb, if_pos]; simp only [Bool.and_eq_true, decide_eq_true_eq]; omega
theorem qLS {s : List UInt8} {i : Nat} (hi : i < s.length) : Utf8.decode ⟨s.toArray⟩ i = if (zT s i).2 = 0 then (65533, 1) else ((zT s i).1.toNat, (zT s i).2.toNat) := by
 obtain ⟨b, hb⟩ : ∃ b, s[i]? = some b := ⟨s[i], by simp [hi]⟩
 rw [zAS hb]
 have hblt : b.toNat < 256 := b.toNat_lt
 have hr : zT s i = if (b.toNat : Int) < 128 then ((b.toNat : Int), 1) else kW s i (kC b.toNat) := by simp only [zT, hb]
 have in1 : ∀ k, s[i + k]? = none ↔ s.length ≤ i + k := fun k => List.getElem?_eq_none_iff
 have has : ∀ k, i + k < s.length → ∃ c, s[i + k]? = some c := fun k hk => ⟨s[i + k], by simp [hk]⟩
 generalize b.toNat = n at hblt hr
 by_cases h0 : n < 128
 ·rw [if_pos (by omega)] at hr
  rw [hr]
  simp [qHB, h0]
 rw [if_neg (by omega)] at hr
 rw [hr]
 clear hr
 have tail0 : ∀ x : Nat × Int × Int, (x.1 = 0 ∨ s.length < i + x.1) → (if (kW s i x).2 = 0 then ((65533 : Nat), (1 : Nat)) else ((kW s i x).1.toNat, (kW s i x).2.toNat)) = (65533, 1) := by
  intro x hx; unfold kW; rw [if_pos hx]; rfl
 have tailn : ∀ x : Nat × Int × Int, ¬ (x.1 = 0 ∨ s.length < i + x.1) → vK s i (x.1 - 1) 1 x.2.2 = none → (if (kW s i x).2 = 0 then ((65533 : Nat), (1 : Nat)) else ((kW s i x).1.toNat, (kW s i x).2.toNat)) = (65533, 1) := by
  intro x hx hn; unfold kW; rw [if_neg hx, hn]; rfl
 have tails : ∀ (x : Nat × Int × Int) (v : Int) (m : Nat), ¬ (x.1 = 0 ∨ s.length < i + x.1) → vK s i (x.1 - 1) 1 x.2.2 = some v → v = m → (if (kW s i x).2 = 0 then ((65533 : Nat), (1 : Nat)) else ((kW s i x).1.toNat, (kW s i x).2.toNat)) =
   if (m : Int) < x.2.1 ∨ (m : Int) > 1114111 ∨ (55296 ≤ (m : Int) ∧ (m : Int) < 57344) then (65533, 1) else (m, x.1) := by
  intro x v m hx hl hv; unfold kW; rw [if_neg hx, hl]; exact zNC _ _ _ _ (by omega) hv
 by_cases hA : 194 ≤ n ∧ n < 224
 ·have hrc : kC n = (2, 128, (n : Int) - 192) := by unfold kC; rw [if_pos (by omega)]
  rw [hrc]
  by_cases hl : s.length < i + 2
  ·rw [tail0 _ (Or.inr hl)]
   refine xO h0 ⟨fun _ h => ?_, fun h => by omega, fun h => by omega⟩
   rw [(in1 1).2 (by omega)] at h; cases h
  obtain ⟨c, h1⟩ := has 1 (by omega)
  rw [h1]
  by_cases hc : 128 ≤ c.toNat ∧ c.toNat < 192
  ·rw [tails (2, 128, (n : Int) - 192) _ (n % 32 * 64 + c.toNat % 64) (by simp; omega) (by rw [show (2 : Nat) - 1 = 0 + 1 from rfl, xM h1 hc]; rfl) (by simp only []; omega)]
   rw [zTN h0 (by omega) hc, if_pos (by omega), if_neg (by simp only []; omega)]
  ·rw [tailn _ (by simp; omega) (by rw [show ((2 : Nat), (128 : Int), (n : Int) - 192).1 - 1 = 0 + 1 from rfl, qCR h1 hc])]
   refine xO h0 ⟨fun _ h => ?_, fun h => by omega, fun h => by omega⟩
   rw [yF] at h; exact (hc (of_decide_eq_true h)).elim
 by_cases hB : 224 ≤ n ∧ n < 240
 ·have hrc : kC n = (3, 2048, (n : Int) - 224) := by unfold kC; rw [if_neg (by omega), if_pos (by omega)]
  rw [hrc]
  by_cases hl : s.length < i + 3
  ·rw [tail0 _ (Or.inr hl)]
   refine xO h0 ⟨fun h => by omega, fun _ _ => ?_, fun h => by omega⟩
   rw [(in1 2).2 (by omega)]; rfl
  obtain ⟨c, h1⟩ := has 1 (by omega)
  obtain ⟨d, h2⟩ := has 2 (by omega)
  rw [h1, h2]
  by_cases hc : 128 ≤ c.toNat ∧ c.toNat < 192
  ·by_cases hd : 128 ≤ d.toNat ∧ d.toNat < 192
   ·rw [tails (3, 2048, (n : Int) - 224) _ (n % 16 * 4096 + c.toNat % 64 * 64 + d.toNat % 64) (by simp; omega) (by rw [show (3 : Nat) - 1 = 1 + 1 from rfl, xM h1 hc, show (1 : Nat) = 0 + 1 from rfl, xM h2 hd]; rfl) (by simp only []; omega)]
    exact zTM h0 (by omega) hc hd rfl
   ·rw [tailn _ (by simp; omega) (by rw [show ((3 : Nat), (2048 : Int), (n : Int) - 224).1 - 1 = 1 + 1 from rfl, xM h1 hc, show (1 : Nat) = 0 + 1 from rfl, qCR h2 hd])]
    refine xO h0 ⟨fun h => by omega, fun _ _ => ?_, fun h => by omega⟩
    rw [yF]; exact decide_eq_false hd
  ·rw [tailn _ (by simp; omega) (by rw [show ((3 : Nat), (2048 : Int), (n : Int) - 224).1 - 1 = 1 + 1 from rfl, qCR h1 hc])]
   refine xO h0 ⟨fun h => by omega, fun _ h => ?_, fun h => by omega⟩
   rw [yF] at h; exact (hc (of_decide_eq_true h)).elim
 by_cases hC : 240 ≤ n ∧ n < 245
 ·have hrc : kC n = (4, 65536, (n : Int) - 240) := by unfold kC; rw [if_neg (by omega), if_neg (by omega), if_pos (by omega)]
  rw [hrc]
  by_cases hl : s.length < i + 4
  ·rw [tail0 _ (Or.inr hl)]
   refine xO h0 ⟨fun h => by omega, fun h => by omega, fun _ _ _ h => ?_⟩
   rw [(in1 3).2 (by omega)] at h; cases h
  obtain ⟨c, h1⟩ := has 1 (by omega)
  obtain ⟨d, h2⟩ := has 2 (by omega)
  obtain ⟨e, h3⟩ := has 3 (by omega)
  rw [h1, h2, h3]
  by_cases hc : 128 ≤ c.toNat ∧ c.toNat < 192
  ·by_cases hd : 128 ≤ d.toNat ∧ d.toNat < 192
   ·by_cases he : 128 ≤ e.toNat ∧ e.toNat < 192
    ·rw [tails (4, 65536, (n : Int) - 240) _ (n % 8 * 262144 + c.toNat % 64 * 4096 + d.toNat % 64 * 64 + e.toNat % 64) (by simp; omega)
      (by rw [show (4 : Nat) - 1 = 2 + 1 from rfl, xM h1 hc, show (2 : Nat) = 1 + 1 from rfl, xM h2 hd, show (1 : Nat) = 0 + 1 from rfl, xM h3 he]; rfl) (by simp only []; omega)]
     exact zTL h0 (by omega) hc hd he rfl
    ·rw [tailn _ (by simp; omega) (by rw [show ((4 : Nat), (65536 : Int), (n : Int) - 240).1 - 1 = 2 + 1 from rfl, xM h1 hc, show (2 : Nat) = 1 + 1 from rfl, xM h2 hd, show (1 : Nat) = 0 + 1 from rfl, qCR h3 he])]
     refine xO h0 ⟨fun h => by omega, fun h => by omega, fun _ _ _ h => ?_⟩
     rw [yF] at h; exact (he (of_decide_eq_true h)).elim
   ·rw [tailn _ (by simp; omega) (by rw [show ((4 : Nat), (65536 : Int), (n : Int) - 240).1 - 1 = 2 + 1 from rfl, xM h1 hc, show (2 : Nat) = 1 + 1 from rfl, qCR h2 hd])]
    refine xO h0 ⟨fun h => by omega, fun h => by omega, fun _ _ h => ?_⟩
    rw [yF] at h; exact (hd (of_decide_eq_true h)).elim
  ·rw [tailn _ (by simp; omega) (by rw [show ((4 : Nat), (65536 : Int), (n : Int) - 240).1 - 1 = 2 + 1 from rfl, qCR h1 hc])]
   refine xO h0 ⟨fun h => by omega, fun h => by omega, fun _ h => ?_⟩
   rw [yF] at h; exact (hc (of_decide_eq_true h)).elim
 ·have hrc : kC n = (0, 0, 0) := by unfold kC; rw [if_neg (by omega), if_neg (by omega), if_neg (by omega)]
  rw [hrc, tail0 _ (.inl rfl)]
  refine xO h0 ⟨fun h _ => ?_, fun h => by omega, fun h _ _ _ => by omega⟩
  have : xE s[i + 1]? % 64 < 64 := Nat.mod_lt _ (by omega)
  omega
theorem qOD (s : List UInt8) (i : Nat) : zT s i = zT (s.drop i) 0 := by
 have h : ∀ k, (s.drop i)[k]? = s[i + k]? := fun k => by rw [List.getElem?_drop]
 have hl : ∀ (f : Nat) (j : Nat) (v : Int), vK s i f j v = vK (s.drop i) 0 f j v := by
  intro f
  induction f with
  | zero => intro j v; rfl
  | succ f ih =>
   intro j v
   simp only [vK, Nat.zero_add, h, ih]
 unfold zT
 rw [h 0, Nat.add_zero]
 cases hb : s[i]? with
 | none => rfl
 | some b =>
  have hi := (List.getElem?_eq_some_iff.1 hb).1
  simp only [kW, hl, List.length_drop]
  have e : (s.length < i + (kC ↑b.toNat).1) ↔ (s.length - i < 0 + (kC ↑b.toNat).1) := by omega
  simp only [e]
theorem qEX (s : List UInt8) : Lib.validD s = qEY s := by
 have key : ∀ (n : Nat) (s : List UInt8) (i f : Nat), n = s.length - i → i ≤ s.length → s.length + 1 ≤ f + i → qLM s f i = Lib.validD (s.drop i) := by
  intro n
  induction n using Nat.strongRecOn with
  | _ n ih =>
   intro s i f hn hi hf
   cases f with
   | zero => omega
   | succ f =>
    simp only [qLM]
    by_cases hlt : i < s.length
    ·rw [if_pos hlt]
     have hne : s.drop i ≠ [] := by simp; omega
     rw [Lib.validD_step _ hne]
     have hd := qLS (s := s.drop i) (i := 0) (by simp; omega)
     rw [← qOD] at hd
     have hl := qGL s i hlt
     have hdl : Lib.decodeL (s.drop i) = Utf8.decode ⟨(s.drop i).toArray⟩ 0 := rfl
     rw [hdl, hd]
     by_cases h0 : (zT s i).2 = 0
     ·rw [if_pos h0, if_pos h0, if_pos ⟨rfl, rfl⟩]
     ·rw [if_neg h0, if_neg h0]
      have hne2 : ¬ ((zT s i).1.toNat = 65533 ∧ (zT s i).2.toNat = 1) := by
       rintro ⟨h1, h2⟩
       have : (zT s i).1 = 65533 := by omega
       have h3 : (zT s i).2 = 1 := by omega
       obtain ⟨b, hb⟩ : ∃ b, s[i]? = some b := ⟨s[i], by simp [hlt]⟩
       have hb256 : b.toNat < 256 := b.toNat_lt
       have hr : zT s i = if (b.toNat : Int) < 128 then ((b.toNat : Int), 1) else kW s i (kC b.toNat) := by simp only [zT, hb]
       rw [hr] at this h3
       split at this
       ·simp only [] at this; omega
       ·rename_i hge
        rw [if_neg hge] at h3
        unfold kW at h3
        split at h3
        ·simp at h3
        ·rename_i hx
         have : (kC b.toNat).1 = 0 ∨ 2 ≤ (kC b.toNat).1 := by
          unfold kC; repeat' split
          all_goals simp
         unfold qMK at h3
         split at h3
         ·simp at h3
         ·split at h3
          ·simp at h3
          ·simp only [] at h3; omega
      simp only []
      rw [if_neg hne2, List.drop_drop]
      exact ih _ (by omega) s (i + (zT s i).2.toNat) f rfl (by omega) (by omega)
    ·rw [if_neg hlt, List.drop_eq_nil_of_le (by omega)]; rfl
 exact (key _ s 0 (s.length + 1) rfl (by omega) (by omega)).symm
def xF (s : List UInt8) : List UInt8 := s.take 100
theorem qYS (s : List UInt8) : AFn Tryz.prog G 27 [.str s] (.str (xF s)) := by
 refine AFn.introU tok Tryz.func27 (by kernel_rfl) rfl rfl ?_
 simp only [Tryz.f27, qI, List.map_cons, List.map_nil]
 refine rgn [] [[0]] ?_
 refine op1 tok ?_
 refine qA ?_
 refine AW.seq ?_
 refine rgn [] [[], [], [0, 5]] ?_
 iterate 3 refine op1 tok ?_
 refine qA ?_
 refine cnd ?_ ?_
 ·intro h5
  try simp at h5
  refine rgn [] [[], [], [2]] ?_
  iterate 3 refine op1 tok ?_
  refine qA ?_
  exact AW.ret (qJ (k := by simp [xF]))
 ·intro h5
  try simp at h5
  refine AW.skip ?_
  refine rgn [] [[], [2]] ?_
  iterate 2 refine op1 tok ?_
  refine qA ?_
  exact AW.ret (qJ (k := by simp [xF]; rw [List.take_of_length_le (by omega)]))
def qCL (s : List UInt8) : List UInt8 := if qEY (xF s) = true then xF s else [97]
theorem qHQ (s : List UInt8) : (xF s).length ≤ 100 := by simp [xF]; omega
theorem qRS (s : List UInt8) : (qCL s).length ≤ 100 := by
 unfold qCL; split
 ·exact qHQ s
 ·simp
theorem zEV (s : List UInt8) : AFn Tryz.prog G 28 [.str s] (.str (qCL s)) := by
 refine AFn.introU tok Tryz.func28 (by kernel_rfl) rfl rfl ?_
 simp only [Tryz.f28, qI, List.map_cons, List.map_nil]
 have h1 := qYS (G := G) s
 have hl := qHQ s
 have h2 := qBS (G := G) (xF s) (by omega)
 refine rgn [] [[0]] ?_
 refine op1 tok ?_
 refine qA ?_
 refine rgn [.nilp, .str (xF s)] [[], [], [0]] ?_
 iterate 3 refine op1 tok ?_ (hv := by first | with_reducible exact True.intro | (simp [h1]; done) | omega | simp | (simp +contextual; omega))
 refine qA ?_
 refine AW.seq ?_
 refine rgn [.nilp, .bool (qEY (xF s))] [[], [], [0, 7]] ?_
 iterate 3 refine op1 tok ?_ (hv := by first | with_reducible exact True.intro | (simp [h2]; done) | omega | simp | (simp +contextual; omega))
 refine qA ?_
 refine cnd ?_ ?_
 ·intro h7
  try simp at h7
  refine rgn [] [[]] ?_
  refine op1 tok ?_
  refine qA ?_
  exact AW.ret (qJ (k := by simp [qCL, h7]))
 ·intro h7
  try simp at h7
  refine AW.skip ?_
  refine rgn [] [[], [2]] ?_
  iterate 2 refine op1 tok ?_
  refine qA ?_
  exact AW.ret (qJ (k := by simp [qCL, h7]))
def qBD (n : Nat) : List UInt8 := List.replicate n 107
def xX (l : List (List UInt8)) (i : Nat) : List UInt8 := if h : i < l.length then qCL l[i] else qBD (i - l.length + 1)
def qLI (out : List (List UInt8)) (s : List UInt8) : List (List UInt8) := if s ∈ out then out else out ++ [s]
def vO (l : List (List UInt8)) (many : Nat) : Nat → Nat → List (List UInt8) → List (List UInt8)
 | 0, _, out => out
 | f + 1, i, out => if out.length < many then vO l many f (i + 1) (qLI out (xX l i)) else out
def qFK (l : List (List UInt8)) (many : Nat) : List (List UInt8) := vO l many (l.length + many + 1) 0 []
theorem qZL {α : Type} [DecidableEq α] : ∀ {l m : List α}, l.Nodup → (∀ x ∈ l, x ∈ m) → l.length ≤ m.length
 | [], m, _, _ => by simp
 | a :: l, m, hn, hs => by
  have ha := hs a (by simp)
  have hn' := List.nodup_cons.1 hn
  have := qZL (l := l) (m := m.erase a) hn'.2 fun x hx => (List.mem_erase_of_ne (by rintro rfl; exact hn'.1 hx)).2 (hs x (by simp [hx]))
  rw [List.length_erase_of_mem ha] at this
  have := List.length_pos_of_mem ha
  simp; omega
theorem zFZ {out : List (List UInt8)} {n : Nat} (h : ∀ t, 1 ≤ t → t ≤ n → qBD t ∈ out) : n ≤ out.length := by
 have hs : ((List.range n).map fun t => qBD (t + 1)).Nodup := by
  unfold List.Nodup
  refine List.Pairwise.map _ (fun a b hab => ?_) List.nodup_range
  intro he; have := congrArg List.length he; simp [qBD] at this; exact hab this
 have := qZL hs (m := out) (by
  intro x hx; obtain ⟨t, ht, rfl⟩ := List.mem_map.1 hx
  simp at ht; exact h _ (by omega) (by omega))
 simpa using this
theorem qZN {l : List (List UInt8)} {many : Nat} {out : List (List UInt8)} (h : ¬ out.length < many) : ∀ f i, vO l many f i out = out
 | 0, _ => rfl
 | f + 1, i => by simp only [vO]; rw [if_neg h]
theorem zME (l : List (List UInt8)) (many : Nat) (hl : l.length ≤ 140737488351232) (hm : many ≤ 100000) : AFn Tryz.prog G 29 [.sl 1 (l.map PD.str), .int .i64 many] (.sl 1 ((qFK l many).map PD.str)) := by
 refine AFn.introU tok Tryz.func29 (by kernel_rfl) rfl rfl ?_
 simp only [Tryz.f29, qI, List.map_cons, List.map_nil]
 have hw := fun s => zEV (G := G) s
 refine rgn [] [[0, 1]] ?_
 refine op1 tok ?_
 refine qA ?_
 refine rgn [] [[], [0, 1, 5]] ?_
 iterate 2 refine op1 tok ?_
 refine qA ?_
 refine rgn [] [[]] ?_
 refine op1 tok ?_
 refine qA ?_
 refine AW.seq ?_
 refine rgn [] [[]] ?_
 refine op1 tok ?_
 refine qA ?_
 refine AW.block ?_
 refine AW.loop (α := Nat × List (List UInt8)) (fun a => a.1 ≤ l.length + many ∧ qFK l many = vO l many (l.length + many + 1 - a.1) a.1 a.2 ∧ a.2.length ≤ many ∧ (∀ t, 1 ≤ t → t + l.length ≤ a.1 → qBD t ∈ a.2)) (fun a => ⟨qY 52 [(0, .p (.sl 1 (l.map PD.str))), (1, .p (.int .i64 many)), (5, .ms 11), (6, .p (.str (qBD (a.1 - l.length + 1)))), (7, .p (.int .i64 a.1))], [], [(11, .row 9 1 (a.2.map PD.str))], 0⟩) (fun a => l.length + many - a.1) ((0, [])) ⟨by simp, rfl, by simp, by intro t h1 h2; simp at h2; omega⟩ ⟨qB (by simp [qBD]), rfl, by simp, by simp⟩ ?_
 rintro ⟨i, out⟩ ⟨hi, hn, ho, hk⟩
 simp only at hi hn ho hk
 have hkl : i - l.length ≤ out.length := zFZ fun t h1 h2 => hk t h1 (by omega)
 refine AW.seq ?_
 refine rgn [] [[], [], [], [0, 1, 5, 6, 7, 15]] ?_
 iterate 4 refine op1 tok ?_
 refine qA ?_
 refine cnd ?_ ?_
 ·intro h15
  try simp at h15
  have hstep : qFK l many = vO l many (l.length + many + 1 - (i + 1)) (i + 1) (qLI out (xX l i)) := by
   rw [hn, show l.length + many + 1 - i = (l.length + many + 1 - (i + 1)) + 1 by omega]; simp only [vO]; rw [if_pos h15]
  refine AW.skip ?_
  refine AW.seq ?_
  refine AW.block ?_
  refine rgn [] [[], [0, 1, 5, 6, 7, 8]] ?_
  iterate 2 refine op1 tok ?_
  refine qA ?_
  refine AW.join (α := Unit) (fun _ => True) (fun a => ⟨qY 52 [(0, .p (.sl 1 (l.map PD.str))), (1, .p (.int .i64 many)), (5, .ms 11), (6, .p (.str (qBD (i + 1 - l.length + 1)))), (7, .p (.int .i64 i)), (8, .p (.str (xX l i)))], [], [(11, .row 9 1 (out.map PD.str))], 0⟩) ?_ ?_
  ·
   refine rgn [] [[], [], [], [0, 1, 5, 6, 7, 8, 22]] ?_
   iterate 4 refine op1 tok ?_
   refine qA ?_
   refine cnd ?_ ?_
   ·intro h22
    try simp at h22
    have hs : xX l i = qCL l[i] := by simp [xX, h22]
    have hsl := qRS l[i]
    refine rgz [.str l[i], .nilp, .str (qCL l[i])] [[], [], [], [], [0, 1, 5, 6, 7, 27], [0, 1, 5, 6, 7, 8]] ?_
    iterate 6 refine op1 tok ?_ (hv := by first | with_reducible exact True.intro | (simp [hw, h22]; done) | omega | simp | (simp +contextual; omega))
    refine qA ?_
    exact ⟨(), trivial, qB (by simp [hs, show i + 1 - l.length = i - l.length from by omega]), rfl, by simp [hs, show i + 1 - l.length = i - l.length from by omega], by simp [hs, show i + 1 - l.length = i - l.length from by omega]⟩
   ·intro h22
    try simp at h22
    have hs : xX l i = qBD (i - l.length + 1) := by simp [xX]; omega
    refine rgz [] [[], [], [0, 1, 5, 6, 7, 8]] ?_
    iterate 3 refine op1 tok ?_ (hv := by first | with_reducible exact True.intro | (simp [qBD]; omega; done) | omega | simp | (simp +contextual; omega))
    refine qA ?_
    exact ⟨(), trivial, qB (by simp [hs, show i + 1 - l.length + 1 = i - l.length + 1 + 1 from by omega, qBD, List.replicate_succ']), rfl, by simp [hs, show i + 1 - l.length + 1 = i - l.length + 1 + 1 from by omega, qBD, List.replicate_succ'], by simp [hs, show i + 1 - l.length + 1 = i - l.length + 1 + 1 from by omega, qBD, List.replicate_succ']⟩
  ·
   rintro a hI
   generalize hns : xX l i = s at *
   have hkay : ∀ t, 1 ≤ t → t + l.length ≤ i + 1 → qBD t ∈ qLI out s := by
    intro t h1 h2
    by_cases h3 : t + l.length ≤ i
    ·have := hk t h1 h3
     unfold qLI; split
     ·exact this
     ·simp [this]
    ·have : qBD t = s := by rw [← hns]; simp only [xX]; rw [dif_neg (by omega)]; congr 1; omega
     rw [this]; unfold qLI; split
     ·assumption
     ·simp
   refine rgn [] [[]] ?_
   refine op1 tok ?_
   refine qA ?_
   refine AW.seq ?_
   refine rgn [] [[]] ?_
   refine op1 tok ?_
   refine qA ?_
   refine AW.block ?_
   refine AW.loop (α := Nat) (fun k => k ≤ out.length) (fun k => ⟨qY 52 [(0, .p (.sl 1 (l.map PD.str))), (1, .p (.int .i64 many)), (5, .ms 11), (6, .p (.str (qBD (i + 1 - l.length + 1)))), (7, .p (.int .i64 i)), (8, .p (.str s)), (9, .p (.bool (decide (s ∈ out.take k)))), (10, .p (.int .i64 k))], [], [(11, .row 9 1 (out.map PD.str))], 0⟩) (fun k => out.length - k) (0) (by omega) ⟨qB (by simp), rfl, by simp, by simp⟩ ?_
   rintro k hko
   refine AW.seq ?_
   refine rgn [] [[], [], [], [0, 1, 5, 6, 7, 8, 9, 10, 33]] ?_
   iterate 4 refine op1 tok ?_
   refine qA ?_
   refine cnd ?_ ?_
   ·intro h33
    try simp at h33
    have hsn : (decide (s ∈ out.take k) || decide (out[k] = s)) = decide (s ∈ out.take (k + 1)) := by
     rw [List.take_succ_eq_append_getElem h33, Bool.eq_iff_iff]; simp only [Bool.or_eq_true, decide_eq_true_eq, List.mem_append, List.mem_singleton]; exact ⟨fun h => h.imp id Eq.symm, fun h => h.imp id Eq.symm⟩
    refine AW.skip ?_
    refine AW.seq ?_
    refine AW.block ?_
    refine rgz [.str out[k]] [[], [], [], [], [0, 1, 5, 6, 7, 8, 10, 37, 40], [], [], [], [0, 1, 5, 6, 7, 8, 10, 44], [0, 1, 5, 6, 7, 8, 9, 10]] ?_
    iterate 2 refine op1 tok ?_ (hv := by first | with_reducible exact True.intro | (simp [h33]; done) | omega | simp | (simp +contextual; omega))
    iterate 6 refine op2 tok ?_ (hv := by first | with_reducible exact True.intro | (simp [h33]; done) | omega | simp | (simp +contextual; omega))
    iterate 2 refine op1 tok ?_ (hv := by first | with_reducible exact True.intro | (simp [h33]; done) | omega | simp | (simp +contextual; omega))
    refine qA ?_
    refine rgz [] [[], [], [0, 1, 5, 6, 7, 8, 9, 10]] ?_
    iterate 3 refine op1 tok ?_
    refine qA ?_
    exact ⟨k + 1, by omega, by omega, qB (by simp [hsn]), rfl, by simp [hsn], by simp [hsn]⟩
   ·intro h33
    try simp at h33
    have hkk : k = out.length := by omega
    subst hkk
    simp only [List.take_length]
    refine AW.exit ?_
    simp
    refine rgn [] [[], [0, 1, 5, 6, 7, 8, 46]] ?_
    iterate 2 refine op1 tok ?_
    refine qA ?_
    refine cnd ?_ ?_
    ·intro h46
     try simp at h46
     have had : qLI out s = out ++ [s] := by unfold qLI; rw [if_neg h46]
     rw [had] at hstep hkay
     refine rgz [.str s] [[], [], [], [0, 1, 6, 7, 50], [0, 1, 5, 6, 7]] ?_
     iterate 5 refine op1 tok ?_
     refine qA ?_
     refine rgz [] [[], [], [0, 1, 5, 6, 7]] ?_
     iterate 3 refine op1 tok ?_
     refine qA ?_
     exact ⟨i + 1, out ++ [s], ⟨by omega, hstep, by simp; omega, hkay⟩, by omega, qB (by simp), rfl, by simp, by simp⟩
    ·intro h46
     try simp at h46
     have had : qLI out s = out := by unfold qLI; rw [if_pos h46]
     rw [had] at hstep hkay
     refine AW.skip ?_
     refine rgz [] [[], [], [0, 1, 5, 6, 7]] ?_
     iterate 3 refine op1 tok ?_
     refine qA ?_
     exact ⟨i + 1, out, ⟨by omega, hstep, by omega, hkay⟩, by omega, qB (by simp), rfl, by simp, by simp⟩
 ·intro h15
  try simp at h15
  have hn2 : qFK l many = out := by rw [hn]; exact qZN (by omega) _ _
  refine AW.exit ?_
  simp
  refine rgn [] [[], [4]] ?_
  iterate 2 refine op1 tok ?_
  refine qA ?_
  exact AW.ret (qJ (k := by simp [hn2]))
theorem qOK (s : List UInt8) : AFn Tryz.prog G 49 [.str s] (.bool (kB s)) := by
 refine AFn.introU tok Tryz.func49 (by kernel_rfl) rfl rfl ?_
 simp only [Tryz.f49, qI, List.map_cons, List.map_nil]
 refine rgn [] [[0]] ?_
 refine op1 tok ?_
 refine qA ?_
 refine rgn [.nilp, .bool (Lib.validD s)] [[], [], [], [], [6, 7], [], [], [2]] ?_
 iterate 4 refine op1 tok ?_ (hv := by first | with_reducible exact True.intro | (((repeat' (first | with_reducible apply And.intro | intro _)) <;> first | exact (by rw [qEX]; exact qBS s (by omega)) | assumption | omega | contradiction | simp_all); done) | omega | simp | (simp +contextual; omega))
 iterate 2 refine op2 tok ?_ (hv := by first | with_reducible exact True.intro | (((repeat' (first | with_reducible apply And.intro | intro _)) <;> first | exact (by rw [qEX]; exact qBS s (by omega)) | assumption | omega | contradiction | simp_all); done) | omega | simp | (simp +contextual; omega))
 iterate 2 refine op1 tok ?_ (hv := by first | with_reducible exact True.intro | (((repeat' (first | with_reducible apply And.intro | intro _)) <;> first | exact (by rw [qEX]; exact qBS s (by omega)) | assumption | omega | contradiction | simp_all); done) | omega | simp | (simp +contextual; omega))
 refine qA ?_
 exact AW.ret (qJ (k := by simp [kB]))
theorem zCU (l : List (List UInt8)) : AFn Tryz.prog G 50 [.sl 1 (l.map PD.str)] (.bool (kX l)) := by
 refine AFn.introU tok Tryz.func50 (by kernel_rfl) rfl rfl ?_
 simp only [Tryz.f50, qI, List.map_cons, List.map_nil]
 refine rgn [] [[0]] ?_
 refine op1 tok ?_
 refine qA ?_
 refine AW.seq ?_
 refine rgn [] [[]] ?_
 refine op1 tok ?_
 refine qA ?_
 refine AW.block ?_
 refine AW.slFactU (i := 0) rfl (by decide) ?_; intro hlen; simp at hlen
 refine AW.loop (α := Nat) (fun k => k ≤ l.length ∧ kX (l.take k) = true) (fun k => ⟨qY 31 [(0, .p (.sl 1 (l.map PD.str))), (3, .p (.int .i64 k))], [], [], 0⟩) (fun k => l.length - k) (0) ⟨by omega, rfl⟩ ⟨qB (by simp), rfl, by simp, by simp⟩ ?_
 rintro k ⟨hk, hall⟩
 refine AW.seq ?_
 refine rgn [] [[], [], [], [0, 3, 8]] ?_
 iterate 4 refine op1 tok ?_
 refine qA ?_
 refine cnd ?_ ?_
 ·intro h8
  try simp at h8
  obtain ⟨s, hs⟩ : ∃ s, l[k]? = some s := ⟨l[k], by simp [h8]⟩
  refine AW.skip ?_
  refine AW.seq ?_
  refine AW.block ?_
  refine AW.seq ?_
  refine rgn [.str s, .nilp, .bool (kB s)] [[], [], [], [], [0, 3, 15], [0, 3, 16]] ?_
  iterate 6 refine op1 tok ?_ (hv := by first | with_reducible exact True.intro | (((repeat' (first | with_reducible apply And.intro | intro _)) <;> first | exact (qOK s) | exact (⟨_, hs, rfl⟩) | assumption | omega | contradiction | simp_all); done) | omega | simp | (simp +contextual; omega))
  refine qA ?_
  refine cnd ?_ ?_
  ·intro h16
   try simp at h16
   have hb : kX l = false := qTJ hs (.inl (by simpa using h16))
   refine rgn [] [[]] ?_
   refine op1 tok ?_
   refine qA ?_
   exact AW.ret (qJ (k := by simp [hb]))
  ·intro h16
   try simp at h16
   refine AW.skip ?_
   refine rgn [] [[]] ?_
   refine op1 tok ?_
   refine qA ?_
   refine AW.block ?_
   refine AW.loop (α := Nat) (fun j => j ≤ k ∧ s ∉ l.take j) (fun j => ⟨qY 31 [(0, .p (.sl 1 (l.map PD.str))), (3, .p (.int .i64 k)), (4, .p (.int .i64 j))], [], [], 0⟩) (fun j => k - j) (0) ⟨by omega, by simp⟩ ⟨qB (by simp), rfl, by simp, by simp⟩ ?_
   rintro j ⟨hj, hno⟩
   refine AW.seq ?_
   refine rgn [] [[], [], [0, 3, 4, 19]] ?_
   iterate 3 refine op1 tok ?_
   refine qA ?_
   refine cnd ?_ ?_
   ·intro h19
    try simp at h19
    obtain ⟨x, hx⟩ : ∃ x, l[j]? = some x := ⟨l[j], by simp [show j < l.length by omega]⟩
    refine AW.skip ?_
    refine AW.seq ?_
    refine AW.block ?_
    refine AW.seqRunDrawK tok mixed [0, 3, 4, 30] 9 [[0], [4], [22, 23], [24], [0], [3], [26, 27], [28], [25, 29]] [.str x, .str s] [] (by kernel_rfl) (by intro C; conv => lhs; simp) (by simp [hs, hx]) (by simp [Sm.sum, Sm.foot, Sm.tch, Sm.refs]; kernel_rfl) (by intro C; conv => lhs; simp) (by first | with_reducible exact True.intro | omega | simp | (simp +contextual; omega)) ?_
    refine cnd ?_ ?_
    ·intro h30
     try simp at h30
     have hb : kX l = false := qTJ hs (.inr (by rw [← h30]; exact List.mem_of_getElem? (i := j) (by rw [List.getElem?_take]; simp [h19, hx])))
     refine rgn [] [[]] ?_
     refine op1 tok ?_
     refine qA ?_
     exact AW.ret (qJ (k := by simp [hb]))
    ·intro h30
     try simp at h30
     refine AW.skip ?_
     refine rgz [] [[], [], [0, 3, 4]] ?_
     iterate 3 refine op1 tok ?_
     refine qA ?_
     exact ⟨j + 1, ⟨by omega, by rw [List.take_add_one, hx]; simp; exact ⟨hno, fun e => h30 e.symm⟩⟩, by omega, qB (by simp), rfl, by simp, by simp⟩
   ·intro h19
    try simp at h19
    have hjk : j = k := by omega
    subst hjk
    refine AW.exit ?_
    simp
    refine rgz [] [[], [], [0, 3]] ?_
    iterate 3 refine op1 tok ?_
    refine qA ?_
    exact ⟨j + 1, ⟨by omega, zDM hs hall h16 hno⟩, by omega, qB (by simp), rfl, by simp, by simp⟩
 ·intro h8
  try simp at h8
  rw [List.take_of_length_le h8] at hall
  refine AW.exit ?_
  simp
  refine rgn [] [[]] ?_
  refine op1 tok ?_
  refine qA ?_
  exact AW.ret (qJ (k := by simp [hall]))
def yB (v : Val) : List Val := (zR v.keys).map (qJJ v)
theorem qSG {ks : List (List UInt8)} {s : List UInt8} : s ∈ zR ks ↔ s ∈ ks := (List.mergeSort_perm ks _).mem_iff
theorem zHA (ks : List (List UInt8)) : AX Tryz.prog G 163 [.p (.sl 1 (ks.map PD.str))] [] (.func (.func 209) [] [.ptr 901 0]) [] [(901, .vars 27 [.p (.sl 1 (ks.map PD.str))])] := by
 refine AX.introU tok 900 Tryz.func163 (by kernel_rfl) rfl rfl ?_
 simp only [Tryz.f163, qI, List.map_cons, List.map_nil]
 refine rgn [] [[], [1]] ?_
 iterate 2 refine op1 tok ?_
 refine qA ?_
 refine rgn [] [[], [2]] ?_
 iterate 2 refine op1 tok ?_
 refine qA ?_
 exact AW.ret zU
theorem qNX (v : Val) (hl : v.keys.length ≤ v.kids.length) (hn : v.keys.length ≤ 1000000) : AFn Tryz.prog G 107 [v.enc] (.tup [.sl 1 ((zR v.keys).map PD.str), .sl 9 ((yB v).map Val.enc)]) := by
 refine AFn.introU tok Tryz.func107 (by kernel_rfl) rfl rfl ?_
 simp only [Tryz.f107, qI, List.map_cons, List.map_nil]
 have hsl := qSH v.keys
 have hix := zQG (G := G) v.keys
 refine rgn [] [[], [], [1]] ?_
 iterate 3 refine op1 tok ?_
 refine qA ?_
 refine rgn [] [[], []] ?_
 iterate 2 refine op1 tok ?_
 refine qX ?_
 refine qC.stepK [1, 10] (yG rfl (zHA v.keys) (by simp)) (by conv => lhs; simp) rfl ?_
 refine qC.stepK [1, 11] (yG rfl (zHK 901 v.keys (by omega)) (by simp)) (by conv => lhs; simp) rfl ?_
 refine qC.run [[1, 4]] ?_
 refine op1 tok ?_
 refine qA ?_
 refine rgn [] [[]] ?_
 refine op1 tok ?_
 refine qA ?_
 refine AW.seq ?_
 refine rgn [] [[], [], []] ?_
 iterate 3 refine op1 tok ?_
 refine qA ?_
 refine AW.block ?_
 refine AW.beginE 5 5 31 9 (by simp) (by simp) (by conv => lhs; simp) ?_
 refine AW.loop (α := Nat) (fun k => k ≤ v.keys.length) (fun k => ⟨qY 32 [(1, .ptr 1 0), (4, .p (.sl 1 ((zR v.keys).map PD.str))), (5, .ms 5), (12, .p (.sl 1 ((zR v.keys).map PD.str))), (13, .p (.int .i64 v.keys.length)), (14, .p (.int .i64 k))], [], [(1, .vars 31 v.cells), (5, .row 31 9 (((yB v).take k).map Val.enc))], 0⟩) (fun k => v.keys.length - k) (0) (by omega) ⟨qB (by simp [hsl]), rfl, by simp, by simp⟩ ?_
 rintro k hk
 refine rgn [] [[]] ?_
 refine op1 tok ?_
 refine qA ?_
 refine AW.seq ?_
 refine cnd ?_ ?_
 ·intro h15
  try simp at h15
  obtain ⟨s, hs⟩ : ∃ s, (zR v.keys)[k]? = some s := ⟨(zR v.keys)[k]'(by omega), by simp [show k < (zR v.keys).length by omega]⟩
  have hm : s ∈ v.keys := qSG.1 (List.mem_of_getElem? hs)
  have hkid := qTI hl hm
  have hi := hix s
  unfold zIY at hi
  rw [if_pos hm] at hi
  refine AW.skip ?_
  refine AW.seq ?_
  refine AW.block ?_
  have hks : (yB v)[k]? = some (qJJ v s) := by simp [yB, hs]
  generalize hkv : yB v = kv at *
  have hkl : (kv.take k).length ≤ k := List.length_take_le _ _
  refine rgn [.str s] [[], [], [1, 4, 5, 7, 12, 13, 14]] ?_
  iterate 3 refine op1 tok ?_ (hv := by first | with_reducible exact True.intro | (simp [hs]; done) | omega | simp | (simp +contextual; omega))
  refine qA ?_
  refine AW.runDrawK tok mixed [1, 4, 5, 12, 13, 14] 11 [[5], [1], [19], [1], [21], [7], [22, 23], [20, 24], [25], [26], [18, 27]] [.nilp, .int .i64 (v.keys.idxOf s), (qJJ v s).enc, (qJJ v s).enc] [] (by kernel_rfl) (by intro C; conv => lhs; simp) (by (simp [hkid]; exact ⟨hi, by omega⟩)) (by simp [Sm.sum, Sm.foot, Sm.tch, Sm.refs]; kernel_rfl) (by intro C; conv => lhs; simp) (by first | with_reducible exact True.intro | omega | simp | (simp +contextual; omega)) ?_
  refine AW.renE 28 5 (by simp) (by conv => lhs; simp) ?_
  refine rgz [] [[], [1, 4, 5, 12, 13, 14]] ?_
  iterate 2 refine op1 tok ?_
  refine qA ?_
  exact ⟨k + 1, by omega, by omega, qB (by simp [List.take_add_one, hks]), rfl, by simp [List.take_add_one, hks], by simp [List.take_add_one, hks]⟩
 ·intro h15
  try simp at h15
  have hkl : (yB v).length = v.keys.length := by simp [yB, hsl]
  refine AW.exit ?_
  simp
  refine AW.freezeE 5 (by conv => lhs; simp) ?_
  refine rgn [] [[], [], [], [2, 3]] ?_
  iterate 4 refine op1 tok ?_
  refine qA ?_
  exact AW.ret (qJ (k := by simp; rw [List.take_of_length_le (by simp; omega)]))
def wZ : Nat → Val → Val → Int
 | 0, _, _ => 0
 | f + 1, a, b => if a.kind ≠ b.kind then kF a.kind b.kind else if a.kind = 4 then qFW a.num b.num else if a.kind = 5 then Lib.compareBytes a.text b.text else if a.kind = 6 then wC (wZ f) a.kids b.kids
  else if a.kind = 8 then kF a.code b.code
  else if a.kind = 7 then (if wC jH (zR a.keys) (zR b.keys) ≠ 0 then wC jH (zR a.keys) (zR b.keys) else wC (wZ f) (yB a) (yB b)) else 0
theorem qCZ {v x : Val} (hl : v.keys.length ≤ v.kids.length) (h : x ∈ yB v) : x ∈ v.kids := by
 obtain ⟨s, hs, rfl⟩ := List.mem_map.1 h
 exact List.mem_of_getElem? (qTI hl (qSG.1 hs))
theorem zBA (f : Nat) (a b : Val) (ha : qQ a = true) (hb : qQ b = true) (ih : ∀ x ∈ a.kids, ∀ y ∈ b.kids, AFn Tryz.prog G 41 [x.enc, y.enc] (.int .i64 (wZ f x y))) : AFn Tryz.prog G 41 [a.enc, b.enc] (.int .i64 (wZ (f + 1) a b)) := by
 refine AFn.introU tok Tryz.func41 (by kernel_rfl) rfl rfl ?_
 simp only [Tryz.f41, qI, List.map_cons, List.map_nil]
 have hki := zQP (G := G) a.kind b.kind
 have hce := zQQ (G := G) a.code b.code
 have hst := zET (G := G) a.text b.text
 refine rgn [] [[], [], [2, 3]] ?_
 iterate 3 refine op1 tok ?_
 refine qA ?_
 refine AW.seq ?_
 refine rgn [] [[], [], [], [], [2, 3, 13]] ?_
 iterate 5 refine op1 tok ?_
 refine qA ?_
 refine cnd ?_ ?_
 ·intro h13
  try simp at h13
  have hR : wZ (f + 1) a b = kF a.kind b.kind := by simp only [wZ]; rw [if_pos h13]
  refine rgn [.nilp, .int .i64 (kF a.kind b.kind)] [[], [], [], [15, 17], [], [4]] ?_
  iterate 6 refine op1 tok ?_ (hv := by first | with_reducible exact True.intro | (exact hki; done) | omega | simp | (simp +contextual; omega))
  refine qA ?_
  exact AW.ret (qJ (k := by simp [hR]))
 ·intro h13
  try simp at h13
  have hkd : ¬ a.kind ≠ b.kind := by simpa using h13
  refine AW.skip ?_
  refine AW.seq ?_
  refine rgn [] [[], [2, 3, 20]] ?_
  iterate 2 refine op1 tok ?_
  refine qA ?_
  refine AW.block ?_
  refine rgn [] [[], [2, 3, 20, 21]] ?_
  iterate 2 refine op1 tok ?_
  refine qA ?_
  refine cnd ?_ ?_
  ·intro h21
   try simp at h21
   have hR : wZ (f + 1) a b = qFW a.num b.num := by simp only [wZ]; rw [if_neg hkd, if_pos h21]
   have hnum := zQR (G := G) a.num b.num (yJ (jL ha h21)).1 (yJ (jL hb (by omega))).1
   refine rgn [.nilp, .int .i64 (qFW a.num b.num)] [[], [], [], [24, 26], [], [4]] ?_
   iterate 6 refine op1 tok ?_ (hv := by first | with_reducible exact True.intro | ((simp at hnum ⊢; exact hnum); done) | omega | simp | (simp +contextual; omega))
   refine qA ?_
   exact AW.ret (qJ (k := by simp [hR]))
  ·intro h21
   try simp at h21
   refine rgn [] [[], [2, 3, 20, 28]] ?_
   iterate 2 refine op1 tok ?_
   refine qA ?_
   refine cnd ?_ ?_
   ·intro h28
    try simp at h28
    have hR : wZ (f + 1) a b = Lib.compareBytes a.text b.text := by simp only [wZ]; rw [if_neg hkd, if_neg h21, if_pos h28]
    refine rgn [.nilp, .int .i64 (Lib.compareBytes a.text b.text)] [[], [], [], [31, 33], [], [4]] ?_
    iterate 6 refine op1 tok ?_ (hv := by first | with_reducible exact True.intro | (exact hst; done) | omega | simp | (simp +contextual; omega))
    refine qA ?_
    exact AW.ret (qJ (k := by simp [hR]))
   ·intro h28
    try simp at h28
    refine rgn [] [[], [2, 3, 20, 35]] ?_
    iterate 2 refine op1 tok ?_
    refine qA ?_
    refine cnd ?_ ?_
    ·intro h35
     try simp at h35
     have hR : wZ (f + 1) a b = wC (wZ f) a.kids b.kids := by simp only [wZ]; rw [if_neg hkd, if_neg h21, if_neg h28, if_pos h35]
     have hcl := zBB (G := G) a.kids b.kids 41 (wZ f) ih
     refine rgn [.nilp, .int .i64 (wC (wZ f) a.kids b.kids)] [[], [], [], [38, 40], [], [4]] ?_
     iterate 6 refine op1 tok ?_ (hv := by first | with_reducible exact True.intro | (exact hcl; done) | omega | simp | (simp +contextual; omega))
     refine qA ?_
     exact AW.ret (qJ (k := by simp [hR]))
    ·intro h35
     try simp at h35
     refine rgn [] [[], [2, 3, 20, 42]] ?_
     iterate 2 refine op1 tok ?_
     refine qA ?_
     refine cnd ?_ ?_
     ·intro h42
      try simp at h42
      have hR : wZ (f + 1) a b = kF a.code b.code := by simp only [wZ]; rw [if_neg hkd, if_neg h21, if_neg h28, if_neg h35, if_pos h42]
      refine rgn [.nilp, .int .i64 (kF a.code b.code)] [[], [], [], [45, 47], [], [4]] ?_
      iterate 6 refine op1 tok ?_ (hv := by first | with_reducible exact True.intro | (exact hce; done) | omega | simp | (simp +contextual; omega))
      refine qA ?_
      exact AW.ret (qJ (k := by simp [hR]))
     ·intro h42
      try simp at h42
      refine rgn [] [[], [2, 3, 49]] ?_
      iterate 2 refine op1 tok ?_
      refine qA ?_
      refine cnd ?_ ?_
      ·intro h49
       try simp at h49
       have hR : wZ (f + 1) a b = (if wC jH (zR a.keys) (zR b.keys) ≠ 0 then wC jH (zR a.keys) (zR b.keys) else wC (wZ f) (yB a) (yB b)) := by simp only [wZ]; rw [if_neg hkd, if_neg h21, if_neg h28, if_neg h35, if_neg h42, if_pos h49]
       have hoa := vP ha h49
       have hob := vP hb (by omega)
       have hsa := qNX (G := G) a (by omega) (by omega)
       have hsb := qNX (G := G) b (by omega) (by omega)
       have hcs := zNP (G := G) (zR a.keys) (zR b.keys)
       have hcl := zBB (G := G) (yB a) (yB b) 41 (wZ f) fun x hx y hy => ih x (qCZ (by omega) hx) y (qCZ (by omega) hy)
       have hor := zTF (G := G) (wC jH (zR a.keys) (zR b.keys)) (wC (wZ f) (yB a) (yB b))
       rw [← hR] at hor
       refine rgn [.nilp, .tup [.sl 1 ((zR a.keys).map PD.str), .sl 9 ((yB a).map Val.enc)]] [[], [], [], [], [3, 54, 55], [], [3, 5, 6]] ?_
       iterate 7 refine op1 tok ?_ (hv := by first | with_reducible exact True.intro | ((simp at hsa ⊢; exact hsa); done) | omega | simp | (simp +contextual; omega))
       refine qA ?_
       refine rgn [.nilp, .tup [.sl 1 ((zR b.keys).map PD.str), .sl 9 ((yB b).map Val.enc)]] [[], [], [], [], [5, 6, 59, 60], [], [5, 6, 7, 8]] ?_
       iterate 7 refine op1 tok ?_ (hv := by first | with_reducible exact True.intro | ((simp at hsb ⊢; exact hsb); done) | omega | simp | (simp +contextual; omega))
       refine qA ?_
       refine rgn [.nilp, .int .i64 (wC jH (zR a.keys) (zR b.keys)), .nilp, .int .i64 (wC (wZ f) (yB a) (yB b)), .int .i64 (wC jH (zR a.keys) (zR b.keys)), .int .i64 (wC (wZ f) (yB a) (yB b)), .nilp, .int .i64 (wZ (f + 1) a b)] [[], [], [6, 8, 63], [], [], [63, 66], [], [], [4]] ?_
       iterate 9 refine op1 tok ?_ (hv := by first | with_reducible exact True.intro | (first | exact hcs | exact hcl | exact hor | simp; done) | omega | simp | (simp +contextual; omega))
       refine qA ?_
       exact AW.ret qJ
      ·intro h49
       try simp at h49
       have hR : wZ (f + 1) a b = 0 := by simp only [wZ]; rw [if_neg hkd, if_neg h21, if_neg h28, if_neg h35, if_neg h42, if_neg h49]
       refine AW.skip ?_
       refine rgn [] [[]] ?_
       refine op1 tok ?_
       refine qA ?_
       exact AW.ret (qJ (k := by simp [hR]))
theorem zGJ : ∀ (f : Nat) (a b : Val), qQ a = true → qQ b = true → Val.sz a ≤ f → AFn Tryz.prog G 41 [a.enc, b.enc] (.int .i64 (wZ (f + 1) a b))
 | 0, a, b, ha, hb, h => zBA 0 a b ha hb fun x hx => by have := Val.sz_kid hx; omega
 | f + 1, a, b, ha, hb, h => zBA (f + 1) a b ha hb fun x hx y hy => zGJ f x y (wJ ha hx) (wJ hb hy) (by have := Val.sz_kid hx; omega)
def uX (a b : Val) : Int := wZ (Val.sz a + 1) a b
theorem zGF (a b : Val) (ha : qQ a = true) (hb : qQ b = true) : AFn Tryz.prog G 41 [a.enc, b.enc] (.int .i64 (uX a b)) := zGJ _ a b ha hb (Nat.le_refl _)
structure Ord {α : Type} (p : α → α → Int) (S : α → Prop) : Prop where
 anti : ∀ x y, S x → S y → p x y = - p y x
 tr : ∀ x y z, S x → S y → S z → p x y ≤ 0 → p y z ≤ 0 → p x z ≤ 0
theorem Ord.refl {α : Type} {p : α → α → Int} {S : α → Prop} (h : Ord p S) {x : α} (hx : S x) : p x x = 0 := by have := h.anti x x hx hx; omega
theorem Ord.lt_le {α : Type} {p : α → α → Int} {S : α → Prop} (h : Ord p S) {x y z : α} (hx : S x) (hy : S y) (hz : S z) (h1 : p x y < 0) (h2 : p y z ≤ 0) : p x z < 0 := by
 have h3 := h.tr x y z hx hy hz (by omega) h2
 by_cases h4 : p x z = 0
 ·have a1 := h.anti x z hx hz
  have a2 := h.anti x y hx hy
  have := h.tr y z x hy hz hx h2 (by omega)
  omega
 ·omega
theorem Ord.le_lt {α : Type} {p : α → α → Int} {S : α → Prop} (h : Ord p S) {x y z : α} (hx : S x) (hy : S y) (hz : S z) (h1 : p x y ≤ 0) (h2 : p y z < 0) : p x z < 0 := by
 have h3 := h.tr x y z hx hy hz h1 (by omega)
 by_cases h4 : p x z = 0
 ·have a1 := h.anti x z hx hz
  have a2 := h.anti y z hy hz
  have := h.tr z x y hz hx hy (by omega) h1
  omega
 ·omega
theorem Ord.eq_eq {α : Type} {p : α → α → Int} {S : α → Prop} (h : Ord p S) {x y z : α} (hx : S x) (hy : S y) (hz : S z) (h1 : p x y = 0) (h2 : p y z = 0) : p x z = 0 := by
 have a1 := h.anti x y hx hy
 have a2 := h.anti y z hy hz
 have a3 := h.anti x z hx hz
 have := h.tr x y z hx hy hz (by omega) (by omega)
 have := h.tr z y x hz hy hx (by omega) (by omega)
 omega
theorem Ord.then {α : Type} {p q : α → α → Int} {S : α → Prop} (hp : Ord p S) (hq : Ord q S) : Ord (fun x y => if p x y ≠ 0 then p x y else q x y) S := by
 refine ⟨fun x y hx hy => ?_, fun x y z hx hy hz h1 h2 => ?_⟩
 ·have a1 := hp.anti x y hx hy
  have a2 := hq.anti x y hx hy
  by_cases h : p x y = 0
  ·rw [if_neg (by omega), if_neg (by omega)]; exact a2
  ·rw [if_pos h, if_pos (by omega)]; exact a1
 ·by_cases e1 : p x y = 0
  ·rw [if_neg (by omega)] at h1
   by_cases e2 : p y z = 0
   ·rw [if_neg (by omega)] at h2
    rw [if_neg (by have := hp.eq_eq hx hy hz e1 e2; omega)]
    exact hq.tr x y z hx hy hz h1 h2
   ·rw [if_pos e2] at h2
    have := hp.le_lt hx hy hz (by omega) (show p y z < 0 by omega)
    rw [if_pos (by omega)]; omega
  ·rw [if_pos e1] at h1
   by_cases e2 : p y z = 0
   ·have := hp.lt_le hx hy hz (show p x y < 0 by omega) (by omega)
    rw [if_pos (by omega)]; omega
   ·rw [if_pos e2] at h2
    have := hp.lt_le hx hy hz (show p x y < 0 by omega) h2
    rw [if_pos (by omega)]; omega
theorem Ord.of_key {α : Type} {p : α → α → Int} {S : α → Prop} (k : α → Int) (h : ∀ x y, S x → S y → p x y = sgn (k x - k y)) : Ord p S := by
 refine ⟨fun x y hx hy => ?_, fun x y z hx hy hz h1 h2 => ?_⟩
 ·rw [h x y hx hy, h y x hy hx]; unfold sgn; (repeat' split) <;> omega
 ·rw [h x y hx hy] at h1; rw [h y z hy hz] at h2; rw [h x z hx hz]
  have e1 : k x ≤ k y := by unfold sgn at h1; split at h1; · omega
                            ·split at h1 <;> omega
  have e2 : k y ≤ k z := by unfold sgn at h2; split at h2; · omega
                            ·split at h2 <;> omega
  unfold sgn; split; · omega
  ·split <;> omega
theorem qQE (a b : Int) : kF a b = sgn (a - b) := by unfold kF sgn; (repeat' split) <;> omega
theorem Ord.map {α β : Type} {p : β → β → Int} {S : β → Prop} (h : Ord p S) (f : α → β) {S' : α → Prop} (hS : ∀ x, S' x → S (f x)) : Ord (fun x y => p (f x) (f y)) S' :=
 ⟨fun x y hx hy => h.anti _ _ (hS x hx) (hS y hy), fun x y z hx hy hz => h.tr _ _ _ (hS x hx) (hS y hy) (hS z hz)⟩
theorem Ord.list {α : Type} {p : α → α → Int} {S : α → Prop} (h : Ord p S) : Ord (wC p) (fun l => ∀ x ∈ l, S x) := by
 constructor
 ·intro l
  induction l with
  | nil => intro m _ _; cases m <;> simp [wC]
  | cons x l ih =>
   intro m hl hm
   cases m with
   | nil => simp [wC]
   | cons y m =>
    simp only [wC]
    have a := h.anti x y (hl x (by simp)) (hm y (by simp))
    have := ih m (fun z hz => hl z (by simp [hz])) (fun z hz => hm z (by simp [hz]))
    by_cases e : p x y = 0
    ·rw [if_neg (by omega), if_neg (by omega)]; exact this
    ·rw [if_pos e, if_pos (by omega)]; exact a
 ·intro l
  induction l with
  | nil => intro m n _ _ _ _ _; cases n <;> simp [wC]
  | cons x l ih =>
   intro m n hl hm hn h1 h2
   cases m with
   | nil => simp [wC] at h1
   | cons y m =>
    cases n with
    | nil => simp [wC] at h2
    | cons z n =>
     have sx := hl x (by simp); have sy := hm y (by simp); have sz := hn z (by simp)
     simp only [wC] at h1 h2 ⊢
     by_cases e1 : p x y = 0
     ·rw [if_neg (by omega)] at h1
      by_cases e2 : p y z = 0
      ·rw [if_neg (by omega)] at h2
       rw [if_neg (by have := h.eq_eq sx sy sz e1 e2; omega)]
       exact ih m n (fun w hw => hl w (by simp [hw])) (fun w hw => hm w (by simp [hw])) (fun w hw => hn w (by simp [hw])) h1 h2
      ·rw [if_pos e2] at h2
       have := h.le_lt sx sy sz (by omega) (show p y z < 0 by omega)
       rw [if_pos (by omega)]; omega
     ·rw [if_pos e1] at h1
      by_cases e2 : p y z = 0
      ·have := h.lt_le sx sy sz (show p x y < 0 by omega) (by omega)
       rw [if_pos (by omega)]; omega
      ·rw [if_pos e2] at h2
       have := h.lt_le sx sy sz (show p x y < 0 by omega) h2
       rw [if_pos (by omega)]; omega
def qEI (a b : List UInt8) : Int := wC (fun x y : UInt8 => kF x.toNat y.toNat) a b
theorem qQK : Ord qEI (fun _ => True) :=
 let h := (Ord.of_key (p := fun x y : UInt8 => kF x.toNat y.toNat) (S := fun _ => True) (fun x => (x.toNat : Int)) fun x y _ _ => qQE _ _).list
 ⟨fun x y _ _ => h.anti x y (fun _ _ => trivial) (fun _ _ => trivial), fun x y z _ _ _ => h.tr x y z (fun _ _ => trivial) (fun _ _ => trivial) (fun _ _ => trivial)⟩
theorem qMH (a b : UInt8) (al bs : List UInt8) : qEI (a :: al) (b :: bs) = if kF a.toNat b.toNat ≠ 0 then kF a.toNat b.toNat else qEI al bs := rfl
theorem zGH {a b : Int} (h : a < b) : kF a b = -1 := if_pos h
theorem zGI {a b : Int} (h : b < a) : kF a b = 1 := by unfold kF; rw [if_neg (by omega), if_pos h]
theorem qLD (a : Int) : kF a a = 0 := by unfold kF; rw [if_neg (by omega), if_neg (by omega)]
theorem qES : ∀ a b : List UInt8, Lib.compareBytes a b = qEI a b
 | [], [] => rfl
 | [], _ :: _ => rfl
 | _ :: _, [] => rfl
 | a :: al, b :: bs => by
  simp only [Lib.compareBytes, qMH, UInt8.lt_iff_toNat_lt]
  by_cases h1 : a.toNat < b.toNat
  ·rw [if_pos h1, zGH (by omega)]; simp
  ·by_cases h2 : b.toNat < a.toNat
   ·rw [if_neg h1, if_pos h2, zGI (by omega)]; simp
   ·rw [if_neg h1, if_neg h2, show a.toNat = b.toNat by omega, qLD]; simpa using qES al bs
theorem zGG : ∀ a b : List UInt8, jH a b = qEI a b
 | [], [] => rfl
 | [], b :: bs => by simp [jH, Op.bytesLess, qEI, wC]
 | a :: al, [] => by simp [jH, Op.bytesLess, qEI, wC]
 | a :: al, b :: bs => by
  have ih := zGG al bs
  rw [qMH, ← ih]
  by_cases h1 : a.toNat < b.toNat
  ·rw [zGH (by omega)]; simp [jH, Op.bytesLess, UInt8.lt_iff_toNat_lt, h1]
  ·by_cases h2 : b.toNat < a.toNat
   ·have hne : a ≠ b := by rintro rfl; omega
    rw [zGI (by omega)]; simp [jH, Op.bytesLess, UInt8.lt_iff_toNat_lt, h1, hne]
   ·have he : a = b := UInt8.toNat_inj.1 (by omega)
    subst he
    rw [qLD]; simp [jH, Op.bytesLess]
theorem zNO : Ord jH (fun _ => True) := by
 rw [show jH = qEI from funext fun a => funext fun b => zGG a b]; exact qQK
theorem zAW : Ord Lib.compareBytes (fun _ => True) := by
 rw [show Lib.compareBytes = qEI from funext fun a => funext fun b => qES a b]; exact qQK
theorem zNR : Ord qFW (fun d => zZ d = true) := Ord.of_key qD fun x y hx hy => zJE hx hy
def qAI (f : Nat) (k : Int) (a b : Val) : Int :=
 if k = 4 then qFW a.num b.num else if k = 5 then Lib.compareBytes a.text b.text else if k = 6 then wC (wZ f) a.kids b.kids
 else if k = 8 then kF a.code b.code
 else if k = 7 then (if wC jH (zR a.keys) (zR b.keys) ≠ 0 then wC jH (zR a.keys) (zR b.keys) else wC (wZ f) (yB a) (yB b)) else 0
theorem qDE (f : Nat) (a b : Val) : wZ (f + 1) a b = if kF a.kind b.kind ≠ 0 then kF a.kind b.kind else qAI f a.kind a b := by
 simp only [wZ, qAI]
 by_cases h : a.kind = b.kind
 ·rw [if_neg (by simpa using h), h, qLD]; simp
 ·rw [if_pos h, if_pos (by unfold kF; split; · omega
                           ·split <;> omega)]
theorem zNX {f : Nat} (ih : Ord (wZ f) (fun v => qQ v = true)) (k : Int) : Ord (qAI f k) (fun v => qQ v = true ∧ v.kind = k) := by
 by_cases h4 : k = 4
 ·have : qAI f k = fun a b => qFW a.num b.num := by funext a b; simp [qAI, h4]
  rw [this]; exact zNR.map Val.num fun x hx => jL hx.1 (by omega)
 by_cases h5 : k = 5
 ·have : qAI f k = fun a b => Lib.compareBytes a.text b.text := by funext a b; simp [qAI, h5]
  rw [this]; exact zAW.map Val.text fun x hx => trivial
 by_cases h6 : k = 6
 ·have : qAI f k = fun a b => wC (wZ f) a.kids b.kids := by funext a b; simp [qAI, h6]
  rw [this]; exact ih.list.map Val.kids fun x hx y hy => wJ hx.1 hy
 by_cases h8 : k = 8
 ·have : qAI f k = fun a b => kF a.code b.code := by funext a b; simp [qAI, h8]
  rw [this]; exact Ord.of_key Val.code fun x y _ _ => qQE _ _
 by_cases h7 : k = 7
 ·have : qAI f k = fun a b => if wC jH (zR a.keys) (zR b.keys) ≠ 0 then wC jH (zR a.keys) (zR b.keys) else wC (wZ f) (yB a) (yB b) := by funext a b; simp [qAI, h7]
  rw [this]
  refine Ord.then (p := fun a b : Val => wC jH (zR a.keys) (zR b.keys)) (q := fun a b => wC (wZ f) (yB a) (yB b)) ?_ ?_
  ·exact zNO.list.map (fun v : Val => zR v.keys) fun x hx y hy => trivial
  ·exact ih.list.map yB fun x hx y hy => wJ hx.1 (qCZ (by have := vP hx.1 (by omega); omega) hy)
 ·have : qAI f k = fun a b => 0 := by funext a b; simp [qAI, h4, h5, h6, h7, h8]
  rw [this]; exact ⟨fun _ _ _ _ => by simp, fun _ _ _ _ _ _ _ _ => by simp⟩
theorem qGT {a b : Int} (h : kF a b = 0) : a = b := by unfold kF at h; split at h; · omega
                                                       ·split at h <;> omega
theorem qQF : ∀ f, Ord (wZ f) (fun v => qQ v = true)
 | 0 => ⟨fun _ _ _ _ => by simp [wZ], fun _ _ _ _ _ _ _ _ => by simp [wZ]⟩
 | f + 1 => by
  have ihb := zNX (qQF f)
  have hk : Ord (fun a b : Val => kF a.kind b.kind) (fun v => qQ v = true) := Ord.of_key Val.kind fun x y _ _ => qQE _ _
  refine ⟨fun x y hx hy => ?_, fun x y z hx hy hz h1 h2 => ?_⟩
  ·rw [qDE, qDE]
   have a1 := hk.anti x y hx hy
   by_cases e : kF x.kind y.kind = 0
   ·have he := qGT e
    rw [if_neg (by omega), if_neg (by omega), he]
    exact (ihb y.kind).anti x y ⟨hx, he⟩ ⟨hy, rfl⟩
   ·rw [if_pos e, if_pos (by omega)]; exact a1
  ·rw [qDE] at h1 h2 ⊢
   by_cases e1 : kF x.kind y.kind = 0
   ·rw [if_neg (by omega)] at h1
    by_cases e2 : kF y.kind z.kind = 0
    ·rw [if_neg (by omega)] at h2
     have := hk.eq_eq hx hy hz e1 e2
     rw [if_neg (by omega)]
     have k1 := qGT e1
     have k2 := qGT e2
     rw [← k1] at h2
     exact (ihb x.kind).tr x y z ⟨hx, rfl⟩ ⟨hy, k1.symm⟩ ⟨hz, by omega⟩ h1 h2
    ·rw [if_pos e2] at h2
     have := hk.le_lt hx hy hz (by show kF x.kind y.kind ≤ 0; omega) (show kF y.kind z.kind < 0 by omega)
     rw [if_pos (by omega)]; omega
   ·rw [if_pos e1] at h1
    have e3 : kF y.kind z.kind ≤ 0 := by
     by_cases e2 : kF y.kind z.kind = 0
     ·omega
     ·rw [if_pos e2] at h2; exact h2
    have := hk.lt_le hx hy hz (show kF x.kind y.kind < 0 by omega) e3
    rw [if_pos (by omega)]; omega
theorem zO (v : Val) : qK v = .mk v.kind 0 v.num v.text v.keys (v.kids.map qK) v.code := by
 unfold qK; rw [qMZ]; rfl
theorem zQZ (v : Val) : Val.sz (qK v) = Val.sz v := by
 have hsz : ∀ l : List Val, Val.szL l = (l.map Val.sz).sum := by
  intro l; induction l with
  | nil => simp [Val.szL]
  | cons x l ih => simp [Val.szL, ih]
 refine Val.induct (p := fun v => Val.sz (qK v) = Val.sz v) (fun v ih => ?_) v
 rw [zO]
 cases v with
 | mk k m n t ks vs c =>
  simp only [Val.sz, hsz, Val.kids_mk, List.map_map] at ih ⊢
  congr 2
  exact List.map_congr_left fun x hx => ih x hx
theorem qGB (v : Val) : qQ (qK v) = qQ v := by
 refine Val.induct (p := fun v => qQ (qK v) = qQ v) (fun v ih => ?_) v
 have e : qQ (qK v) = (yY v && jA v && (v.kids.map qK).all qQ) := by
  have h0 : yY (qK v) = yY v := by rw [zO]; simp [yY]
  have h1 : qHJ (qK v) = qHJ v := by rw [zO]; rfl
  have h2 : qEU (qK v) = qEU v := by rw [zO]; rfl
  have h3 : uB (qK v) = uB v := by rw [zO]; rfl
  have h4 : jC (qK v) = jC v := by
   rw [zO]
   show (if v.kind = 7 then decide ((v.keys.length : Int) = ((v.kids.map qK).length : Int)) && kX v.keys else decide (v.keys = [])) = jC v
   rw [List.length_map]; rfl
  have h5 : qEP (qK v) = qEP v := by
   rw [zO]
   show (decide (v.kids.map qK = []) || decide (v.kind = 6) || decide (v.kind = 7)) = qEP v
   rw [qEP, show decide (v.kids.map qK = []) = decide (v.kids = []) by simp]
  have h6 : (qK v).kids = v.kids.map qK := by rw [zO]; rfl
  rw [yV, h0, h6, jA, h1, h2, h3, h4, h5]; rfl
 rw [e, yV]
 congr 1
 rw [List.all_map]
 rw [Bool.eq_iff_iff, List.all_eq_true, List.all_eq_true]
 exact ⟨fun h k hk => by rw [← ih k hk]; exact h k hk, fun h k hk => by simp only [Function.comp]; rw [ih k hk]; exact h k hk⟩
theorem zJS (v : Val) : qK (qK v) = qK v := by
 induction v using Val.induct with
 | h v ih =>
  refine Val.ext ?_ ?_ ?_ ?_ ?_ ?_ ?_ <;> simp
  exact fun k hk => ih k hk
theorem qIF {α : Type} {p q : α → α → Int} : ∀ {l m : List α}, (∀ x ∈ l, ∀ y ∈ m, p x y = q x y) → wC p l m = wC q l m
 | [], [], _ => rfl
 | [], _ :: _, _ => rfl
 | _ :: _, [], _ => rfl
 | x :: l, y :: m, h => by
  simp only [wC]
  rw [h x (by simp) y (by simp), qIF (fun a ha b hb => h a (by simp [ha]) b (by simp [hb]))]
theorem zBD {α β : Type} {p : β → β → Int} (g : α → β) : ∀ {l m : List α}, wC p (l.map g) (m.map g) = wC (fun x y => p (g x) (g y)) l m
 | [], [] => rfl
 | [], _ :: _ => rfl
 | _ :: _, [] => rfl
 | x :: l, y :: m => by simp only [List.map_cons, wC, zBD g]
theorem qUF : ∀ (f g : Nat) (a b : Val), qQ a = true → qQ b = true → Val.sz a < f → Val.sz a < g → wZ f a b = wZ g a b
 | 0, _, a, _, _, _, h, _ => by omega
 | _ + 1, 0, a, _, _, _, _, h => by omega
 | f + 1, g + 1, a, b, ha, hb, hf, hg => by
  have key : ∀ l m : List Val, (∀ x ∈ l, x ∈ a.kids) → (∀ y ∈ m, y ∈ b.kids) → wC (wZ f) l m = wC (wZ g) l m := fun l m hl hm => qIF fun x hx y hy => by
   have := Val.sz_kid (hl x hx)
   exact qUF f g x y (wJ ha (hl x hx)) (wJ hb (hm y hy)) (by omega) (by omega)
  rw [qDE, qDE]
  by_cases hk : kF a.kind b.kind = 0
  ·rw [if_neg (by omega), if_neg (by omega)]
   have hkk := qGT hk
   unfold qAI
   rw [key a.kids b.kids (fun _ h => h) (fun _ h => h)]
   by_cases h7 : a.kind = 7
   ·rw [key (yB a) (yB b) (fun x hx => qCZ (by have := vP ha h7; omega) hx) (fun y hy => qCZ (by have := vP hb (by omega); omega) hy)]
   ·by_cases h4 : a.kind = 4
    ·simp [h4]
    by_cases h5 : a.kind = 5
    ·simp [h5]
    by_cases h6 : a.kind = 6
    ·simp [h6]
    by_cases h8 : a.kind = 8
    ·simp [h8]
    simp [h4, h5, h6, h7, h8]
  ·rw [if_pos hk, if_pos hk]
theorem uI {a b : Val} (ha : qQ a = true) (hb : qQ b = true) {n : Nat} (h : Val.sz a < n) : uX a b = wZ n a b := qUF _ _ a b ha hb (by omega) h
theorem zBC : Ord uX (fun v => qQ v = true) := by
 refine ⟨fun x y hx hy => ?_, fun x y z hx hy hz h1 h2 => ?_⟩
 ·rw [uI (n := Val.sz x + Val.sz y + 1) hx hy (by omega), uI (n := Val.sz x + Val.sz y + 1) hy hx (by omega)]
  exact (qQF _).anti x y hx hy
 ·rw [uI (n := Val.sz x + Val.sz y + 1) hx hy (by omega)] at h1
  rw [uI (n := Val.sz x + Val.sz y + 1) hy hz (by omega)] at h2
  rw [uI (n := Val.sz x + Val.sz y + 1) hx hz (by omega)]
  exact (qQF _).tr x y z hx hy hz h1 h2
theorem zJQ : qK qOV = qOV := by rw [zO]; rfl
theorem zDL (v : Val) (s : List UInt8) : qJJ (qK v) s = qK (qJJ v s) := by
 unfold qJJ
 rw [zO v]
 simp only [Val.kids_mk, Val.keys_mk, List.getD_eq_getElem?_getD, List.getElem?_map]
 cases v.kids[v.keys.idxOf s]? with
 | none => simp [zJQ]
 | some x => rfl
theorem zDK (v : Val) : yB (qK v) = (yB v).map qK := by
 have : (qK v).keys = v.keys := by rw [zO]; rfl
 unfold yB
 rw [this, List.map_map]
 exact List.map_congr_left fun s _ => zDL v s
theorem qLE : ∀ (f : Nat) (a b : Val), wZ f (qK a) (qK b) = wZ f a b
 | 0, _, _ => rfl
 | f + 1, a, b => by
  have hl : ∀ l m : List Val, wC (wZ f) (l.map qK) (m.map qK) = wC (wZ f) l m := fun l m => by
   rw [zBD]; exact qIF fun x _ y _ => qLE f x y
  have e : ∀ v : Val, (qK v).kind = v.kind ∧ (qK v).num = v.num ∧ (qK v).text = v.text ∧ (qK v).keys = v.keys ∧ (qK v).kids = v.kids.map qK ∧ (qK v).code = v.code := fun v => by
   rw [zO]; exact ⟨rfl, rfl, rfl, rfl, rfl, rfl⟩
  obtain ⟨a1, a2, a3, a4, a5, a6⟩ := e a
  obtain ⟨b1, b2, b3, b4, b5, b6⟩ := e b
  simp only [wZ, a1, a2, a3, a4, a5, a6, b1, b2, b3, b4, b5, b6, zDK, hl]
theorem zEF (f : Nat) (a b : Val) : wZ f (qK a) b = wZ f a b := by
 rw [← qLE f (qK a) b, zJS, qLE]
@[simp] def prC (a b : Val) (top deep : Int) : List PD := [.int .i64 a.kind, .int .u64 a.mask, .bool a.num.neg, .str a.num.digits, .int .i64 a.num.scale, .str a.text, .sl 1 (a.keys.map PD.str), .sl 9 (a.kids.map Val.enc), .int .i64 a.code,
 .int .i64 b.kind, .int .u64 b.mask, .bool b.num.neg, .str b.num.digits, .int .i64 b.num.scale, .str b.text, .sl 1 (b.keys.map PD.str), .sl 9 (b.kids.map Val.enc), .int .i64 b.code, .int .u64 top, .int .u64 deep]
def kE (code m : Int) : Val := .mk 8 m dc0 [] [] [] code
def qAC (b : Bool) (m : Int) : Val := .mk (if b = true then 3 else 2) m dc0 [] [] [] 0
def zY (b : Val) : Nat → List (List UInt8) → List Val → List (List UInt8) × List Val
 | 0, ks, vs => (ks, vs)
 | k + 1, ks, vs => kK (zY b k ks vs).1 (zY b k ks vs).2 (b.keys.getD k []) (b.kids.getD k wU)
def kL (a b : Val) (m : Int) : Val := .mk a.kind m a.num a.text (zY b b.keys.length a.keys a.kids).1 (zY b b.keys.length a.keys a.kids).2 a.code
def qFP (a b : Val) (m : Int) : Val := .mk a.kind m a.num a.text a.keys (a.kids.filter fun v => !(b.kids.any fun w => decide (uX v w = 0))) a.code
def zFH (op : List UInt8) (c : Int) : Bool :=
 (decide (c = 0) && (decide (op = [61, 61]) || decide (op = [60, 61]) || decide (op = [62, 61]))) || ((!decide (c = 0)) && decide (op = [33, 61])) || (decide (c < 0) && (decide (op = [60]) || decide (op = [60, 61]))) || (decide (0 < c) && (decide (op = [62]) || decide (op = [62, 61])))
def zXS (op : List UInt8) : Prop := op ≠ [43] ∧ op ≠ [45] ∧ op ≠ [42] ∧ op ≠ [47] ∧ op ≠ [37] ∧ op ≠ [97, 110, 100] ∧ op ≠ [111, 114]
theorem qPA (b : Val) (k : Nat) {ks : List (List UInt8)} {vs : List Val} (h : ks.length = vs.length) : (zY b k ks vs).1.length = (zY b k ks vs).2.length ∧ (zY b k ks vs).2.length ≤ vs.length + k := by
 induction k with
 | zero => exact ⟨h, by simp [zY]⟩
 | succ k ih =>
  simp only [zY]
  unfold kK
  split
  ·simp; omega
  ·simp; omega
theorem zDR (l : List Val) (g : FuncId) (cs : List PD) (p : Val → Bool) (hg : ∀ v ∈ l, AFn Tryz.prog G g [v.enc, .ref cs] (.bool (p v))) : AFn Tryz.prog G 143 [.sl 9 (l.map Val.enc), .clo g [.ref cs]] (.int .i64 (match l.findIdx? p with | some i => (i : Int) | none => -1)) := by
 refine AFn.introU tok Tryz.func143 (by kernel_rfl) rfl rfl ?_
 simp only [Tryz.f143, qI, List.map_cons, List.map_nil]
 refine rgn [] [[0, 1]] ?_
 refine op1 tok ?_
 refine qA ?_
 refine AW.seq ?_
 refine rgn [] [[], [], [0, 1, 7, 8]] ?_
 iterate 3 refine op1 tok ?_
 refine qA ?_
 refine AW.block ?_
 refine AW.intFactU (i := 7) rfl (by decide) ?_; intro hlen; simp at hlen
 refine AW.loop (α := Nat) (fun k => k ≤ l.length ∧ (l.take k).all (fun v => !p v) = true) (fun k => ⟨qY 19 [(0, .p (.sl 9 (l.map Val.enc))), (1, .p (.clo g [.ref cs])), (7, .p (.int .i64 l.length)), (8, .p (.int .i64 k))], [], [], 0⟩) (fun k => l.length - k) (0) ⟨by omega, rfl⟩ ⟨qB (by simp), rfl, by simp, by simp⟩ ?_
 rintro k ⟨hk, hall⟩
 refine rgn [] [[]] ?_
 refine op1 tok ?_
 refine qA ?_
 refine AW.seq ?_
 refine cnd ?_ ?_
 ·intro h9
  try simp at h9
  obtain ⟨v, hv⟩ : ∃ v, l[k]? = some v := ⟨l[k], by simp [h9]⟩
  have hgv := hg v (List.mem_of_getElem? hv)
  refine AW.skip ?_
  refine AW.seq ?_
  refine AW.block ?_
  refine rgn [] [[], [0, 1, 5, 7, 8]] ?_
  iterate 2 refine op1 tok ?_
  refine qA ?_
  refine rgn [v.enc, .nilp, .bool (p v)] [[], [], [], [], [], [0, 1, 5, 7, 8, 16]] ?_
  iterate 6 refine op1 tok ?_ (hv := by first | with_reducible exact True.intro | (first | (simp [hv]; done) | (simp at hgv ⊢; exact hgv); done) | omega | simp | (simp +contextual; omega))
  refine qA ?_
  refine cnd ?_ ?_
  ·intro h16
   try simp at h16
   have hf : l.findIdx? p = some k := by
    rw [List.findIdx?_eq_some_iff_getElem]
    have h9' := h9
    refine ⟨h9, ?_, fun j hj => ?_⟩
    ·rw [List.getElem?_eq_getElem h9] at hv; cases hv; exact h16
    ·have := List.all_eq_true.1 hall (l[j]'(by omega)) (List.mem_iff_getElem.2 ⟨j, by simp; omega, by simp⟩)
     simpa using this
   refine rgn [] [[], [4]] ?_
   iterate 2 refine op1 tok ?_
   refine qA ?_
   exact AW.ret (qJ (k := by simp [hf]))
  ·intro h16
   try simp at h16
   refine AW.skip ?_
   refine rgz [] [[], [0, 1, 7, 8]] ?_
   iterate 2 refine op1 tok ?_
   refine qA ?_
   exact ⟨k + 1, ⟨by omega, by rw [List.take_add_one, hv, List.all_append, hall]; simpa using h16⟩, by omega, qB (by simp), rfl, by simp, by simp⟩
 ·intro h9
  try simp at h9
  rw [List.take_of_length_le h9] at hall
  have hf : l.findIdx? p = none := by
   rw [List.findIdx?_eq_none_iff]; intro x hx; simpa using List.all_eq_true.1 hall x hx
  refine AW.exit ?_
  simp
  refine rgn [] [[]] ?_
  refine op1 tok ?_
  refine qA ?_
  exact AW.ret (qJ (k := by simp [hf]))
theorem qRL (l : List Val) (g : FuncId) (cs : List PD) (p : Val → Bool) (hg : ∀ v ∈ l, AFn Tryz.prog G g [v.enc, .ref cs] (.bool (p v))) : AFn Tryz.prog G 86 [.sl 9 (l.map Val.enc), .clo g [.ref cs]] (.bool (l.any p)) := by
 refine AFn.introU tok Tryz.func86 (by kernel_rfl) rfl rfl ?_
 simp only [Tryz.f86, qI, List.map_cons, List.map_nil]
 have hi := zDR l g cs p hg
 have ha : l.any p = decide (0 ≤ (match l.findIdx? p with | some i => (i : Int) | none => -1)) := by
  cases h : l.findIdx? p with
  | none => simp; intro x hx; simpa using List.findIdx?_eq_none_iff.1 h x hx
  | some i =>
   obtain ⟨h1, h2, _⟩ := List.findIdx?_eq_some_iff_getElem.1 h
   simp; exact ⟨_, List.getElem_mem h1, h2⟩
 rw [ha]
 generalize (match l.findIdx? p with | some i => (i : Int) | none => -1) = n at *
 refine rgn [] [[0, 1]] ?_
 refine op1 tok ?_
 refine qA ?_
 refine rgn [.nilp, .int .i64 n] [[], [], [7], [], [4]] ?_
 iterate 5 refine op1 tok ?_ (hv := by first | with_reducible exact True.intro | (first | exact hi | simp; done) | omega | simp | (simp +contextual; omega))
 refine qA ?_
 exact AW.ret qJ
def qHI (p : Val → Bool) (l : List Val) : Int := match l.findIdx? p with
 | none => -1
 | some i => i
theorem zMY {p : Val → Bool} {l : List Val} {k : Nat} {s : Val} (hs : l[k]? = some s) (hall : ((l.take k).all fun s => !p s) = true) (hp : p s = true) : qHI p l = k := by
 have h : l.findIdx? p = some k := by
  rw [List.findIdx?_eq_some_iff_getElem]
  obtain ⟨hk, rfl⟩ := List.getElem?_eq_some_iff.1 hs
  refine ⟨hk, hp, fun j hj => ?_⟩
  have := List.all_eq_true.1 hall l[j] (List.mem_of_getElem? (i := j) (by rw [List.getElem?_take, if_pos hj]; simp [show j < l.length by omega]))
  simpa using this
 unfold qHI; rw [h]
theorem zMX {p : Val → Bool} {l : List Val} (hall : (l.all fun s => !p s) = true) : qHI p l = -1 := by
 have h : l.findIdx? p = none := by
  rw [List.findIdx?_eq_none_iff]
  intro x hx
  have := List.all_eq_true.1 hall x hx
  simpa using this
 unfold qHI; rw [h]
theorem zDS {p : Val → Bool} {l : List Val} (h : qHI p l ≠ -1) : ∃ (k : Nat) (s : Val), qHI p l = k ∧ l[k]? = some s ∧ ((l.take k).all fun s => !p s) = true ∧ p s = true := by
 unfold qHI at h ⊢
 cases e : l.findIdx? p with
 | none => rw [e] at h; exact absurd rfl h
 | some k =>
  rw [List.findIdx?_eq_some_iff_getElem] at e
  obtain ⟨hk, hp, hn⟩ := e
  refine ⟨k, l[k], rfl, by simp [hk], List.all_eq_true.2 fun x hx => ?_, hp⟩
  obtain ⟨j, hj⟩ := List.mem_iff_getElem?.1 hx
  rw [List.getElem?_take] at hj
  split at hj
  ·rename_i hjk
   obtain ⟨_, rfl⟩ := List.getElem?_eq_some_iff.1 hj
   simpa using hn j hjk
  ·cases hj
theorem zDT {p : Val → Bool} {l : List Val} (h : qHI p l = -1) : (l.all fun s => !p s) = true := by
 unfold qHI at h
 cases e : l.findIdx? p with
 | none =>
  rw [List.findIdx?_eq_none_iff] at e
  exact List.all_eq_true.2 fun x hx => by simpa using e x hx
 | some k => rw [e] at h; simp only at h; omega
theorem zMW (g : FuncId) (cs : List PD) (p : Val → Bool) (l : List Val) (hg : ∀ s ∈ l, AFn Tryz.prog G g [s.enc, .ref cs] (.bool (p s))) (hl : l.length ≤ 1000000000) : AX Tryz.prog G 143 [.ms 930, .func (.func g) [] [.cptr cs]] [(930, .row 31 9 (l.map Val.enc))] (.p (.int .i64 (qHI p l))) [930] [(930, .row 31 9 (l.map Val.enc))] := by
 refine AX.introU tok 300 Tryz.func143 (by kernel_rfl) rfl rfl ?_
 simp only [Tryz.f143, qI, List.map_cons, List.map_nil]
 refine rgn [] [[0, 1]] ?_
 refine op1 tok ?_
 refine qA ?_
 refine AW.seq ?_
 refine rgn [] [[], [], [0, 1, 7, 8]] ?_
 iterate 3 refine op1 tok ?_
 refine qA ?_
 refine AW.block ?_
 refine AW.loop (α := Nat) (fun k => k ≤ l.length ∧ ((l.take k).all fun s => !p s) = true) (fun k => ⟨qY 19 [(0, .ms 930), (1, .func (.func g) [] [.cptr cs]), (7, .p (.int .i64 l.length)), (8, .p (.int .i64 k))], [930], [(930, .row 31 9 (l.map Val.enc))], 300⟩) (fun k => l.length - k) (0) ⟨by omega, rfl⟩ ⟨qB (by simp), rfl, by simp, by simp⟩ ?_
 rintro k ⟨hk, hall⟩
 refine rgn [] [[]] ?_
 refine op1 tok ?_
 refine qA ?_
 refine AW.seq ?_
 refine cnd ?_ ?_
 ·intro h9
  try simp at h9
  obtain ⟨s, hs⟩ : ∃ s, l[k]? = some s := ⟨l[k], by simp [h9]⟩
  have hgs := hg s (List.mem_of_getElem? hs)
  simp only [Val.enc_def] at hgs
  refine AW.skip ?_
  refine AW.seq ?_
  refine AW.block ?_
  refine rgn [] [[], [0, 1, 5, 7, 8]] ?_
  iterate 2 refine op1 tok ?_
  refine qA ?_
  refine rgn [s.enc, .nilp, .bool (p s)] [[], [], [], [], [], [0, 1, 5, 7, 8, 16]] ?_
  iterate 6 refine op1 tok ?_ (hv := by first | with_reducible exact True.intro | (first | exact hgs | (simp [hs]; done) | (simp [hs]; omega); done) | omega | simp | (simp +contextual; omega))
  refine qA ?_
  refine cnd ?_ ?_
  ·intro h16
   try simp at h16
   have hi := zMY hs hall h16
   refine rgn [] [[], [4]] ?_
   iterate 2 refine op1 tok ?_
   refine qA ?_
   exact AW.ret (zU (k := by simp [hi]))
  ·intro h16
   try simp at h16
   refine AW.skip ?_
   refine rgz [] [[], [0, 1, 7, 8]] ?_
   iterate 2 refine op1 tok ?_
   refine qA ?_
   exact ⟨k + 1, ⟨by omega, by rw [List.take_add_one, hs, List.all_append, hall]; simp [h16]⟩, by omega, qB (by simp), rfl, by simp, by simp⟩
 ·intro h9
  try simp at h9
  rw [List.take_of_length_le h9] at hall
  have hi := zMX hall
  refine AW.exit ?_
  simp
  refine rgn [] [[]] ?_
  refine op1 tok ?_
  refine qA ?_
  exact AW.ret (zU (k := by simp [hi]))
def uQ (F J C : List Val) : List PD := F.map Val.enc ++ (J.map Val.enc ++ C.map Val.enc)
@[simp] theorem zUZ (F J C : List Val) : (uQ F J C).length = F.length + (J.length + C.length) := by simp [uQ]
theorem zHW {F J C : List Val} {j : Nat} {v : Val} (h : F.length + J.length = j) : (uQ F J (v :: C))[j]? = some v.enc := by
 unfold uQ
 rw [List.getElem?_append_right (by simp; omega), List.getElem?_append_right (by simp; omega)]
 simp only [List.length_map]
 rw [show j - F.length - J.length = 0 by omega]; simp
theorem zCQ {F J C : List Val} {x : Val} : (uQ F (x :: J) C)[F.length]? = some x.enc := by
 unfold uQ
 rw [List.getElem?_append_right (by simp)]; simp
theorem zHV {F J C : List Val} {x v : Val} : (uQ F (x :: J) (v :: C)).set F.length v.enc = uQ (F ++ [v]) (J ++ [v]) C := by
 unfold uQ
 rw [List.set_append_right _ _ (by simp)]; simp
theorem qHR {F J C : List Val} {v : Val} : uQ F J (v :: C) = uQ F (J ++ [v]) C := by simp [uQ]
theorem zHX (F J C : List Val) (r : List PD) : ((uQ F J C).take F.length ++ r).take F.length = F.map Val.enc := by
 unfold uQ
 rw [List.take_append_of_le_length (by simp), List.take_of_length_le (by simp), List.take_append_of_le_length (by simp), List.take_of_length_le (by simp)]
theorem zQN (g : FuncId) (cs : List PD) (p : Val → Bool) (l : List Val) (hg : ∀ s ∈ l, AFn Tryz.prog G g [s.enc, .ref cs] (.bool (p s))) (hl : l.length ≤ 1000000000) : AX Tryz.prog G 84 [.ms 930, .func (.func g) [] [.cptr cs]] [(930, .row 31 9 (l.map Val.enc))] (.ms 930) [] [(930, .row 31 9 ((l.filter fun s => !p s).map Val.enc))] := by
 refine AX.introU tok 400 Tryz.func84 (by kernel_rfl) rfl rfl ?_
 simp only [Tryz.f84, qI, List.map_cons, List.map_nil]
 refine rgn [] [[0, 1]] ?_
 refine op1 tok ?_
 refine qA ?_
 refine rgn [] [[], []] ?_
 iterate 2 refine op1 tok ?_
 refine qX ?_
 refine qC.stepK [0, 1, 10] (yG rfl (zMW g cs p l hg hl) (by simp)) (by conv => lhs; simp) rfl ?_
 refine qC.run [[0, 1, 5]] ?_
 refine op1 tok ?_
 refine qA ?_
 refine AW.seq ?_
 refine rgn [] [[], [0, 1, 5, 12]] ?_
 iterate 2 refine op1 tok ?_
 refine qA ?_
 refine cnd ?_ ?_
 ·intro h12
  try simp at h12
  have hall := zDT h12
  have hf : (l.filter fun s => !p s) = l := List.filter_eq_self.2 fun x hx => List.all_eq_true.1 hall x hx
  rw [hf]
  refine rgn [] [[], [4]] ?_
  iterate 2 refine op1 tok ?_
  refine qA ?_
  exact AW.ret zU
 ·intro h12
  try simp at h12
  obtain ⟨i0, s0, hi0, hs0, hall0, hp0⟩ := zDS h12
  rw [hi0]
  have hi0l := (List.getElem?_eq_some_iff.1 hs0).1
  have hf0 : ((l.take (i0 + 1)).filter fun s => !p s) = l.take i0 := by
   rw [List.take_add_one, hs0, List.filter_append, List.filter_eq_self.2 fun x hx => List.all_eq_true.1 hall0 x hx]
   simp [hp0]
  have hrow0 : l.map Val.enc = uQ ((l.take (i0 + 1)).filter fun s => !p s) [s0] (l.drop (i0 + 1)) := by
   have e : l = l.take i0 ++ s0 :: l.drop (i0 + 1) := by
    obtain ⟨h, rfl⟩ := List.getElem?_eq_some_iff.1 hs0
    rw [← List.drop_eq_getElem_cons h, List.take_append_drop]
   rw [hf0]
   conv => lhs; rw [e]
   simp [uQ]
  have hfl0 : ((l.take (i0 + 1)).filter fun s => !p s).length = i0 := by rw [hf0]; simp; omega
  refine AW.skip ?_
  refine AW.seq ?_
  refine rgn [] [[], [], [0, 1, 5, 6]] ?_
  iterate 3 refine op1 tok ?_
  refine qA ?_
  refine AW.block ?_
  refine AW.loop (α := Nat × List Val) (fun a => a.1 ≤ l.length ∧ ((l.take a.1).filter fun s => !p s).length + a.2.length = a.1 ∧ 1 ≤ a.2.length) (fun a => ⟨qY 42 [(0, .ms 930), (1, .func (.func g) [] [.cptr cs]), (5, .p (.int .i64 ((l.take a.1).filter fun s => !p s).length)), (6, .p (.int .i64 a.1))], [930], [(930, .row 31 9 (uQ ((l.take a.1).filter fun s => !p s) a.2 (l.drop a.1)))], 400⟩) (fun a => l.length - a.1) ((i0 + 1, [s0])) ⟨by simp only []; omega, by simp only [hfl0]; simp, by simp⟩ ⟨qB (by simp [hfl0]), rfl, by simp [← hrow0], by simp⟩ ?_
  rintro ⟨j, J⟩ ⟨hj, hlen, hJ⟩
  simp only at hj hlen hJ
  have hdl : (l.drop j).length = l.length - j := by simp
  generalize hF : ((l.take j).filter fun s => !p s) = F at *
  generalize hD : l.drop j = D at *
  refine AW.seq ?_
  refine rgn [] [[], [], [], [0, 1, 5, 6, 19]] ?_
  iterate 4 refine op1 tok ?_
  refine qA ?_
  refine cnd ?_ ?_
  ·intro h19
   try simp at h19
   obtain ⟨v, C, rfl⟩ : ∃ v C, D = v :: C := by
    cases D with
    | nil => simp only [List.length_nil] at hdl h19; omega
    | cons v C => exact ⟨v, C, rfl⟩
   obtain ⟨x, J, rfl⟩ : ∃ x J', J = x :: J' := by
    cases J with
    | nil => simp at hJ
    | cons x J => exact ⟨x, J, rfl⟩
   have hv : l[j]? = some v := by
    have := congrArg List.head? hD
    rwa [List.head?_drop] at this
   have hC : l.drop (j + 1) = C := by
    rw [← List.drop_drop, hD]; rfl
   have hgv := hg v (List.mem_of_getElem? hv)
   have hget := zHW (C := C) (v := v) hlen
   have hset := zHV (F := F) (J := J) (C := C) (x := x) (v := v)
   have hget0 := zCQ (F := F) (J := J) (C := v :: C) (x := x)
   have hF1 : ((l.take (j + 1)).filter fun s => !p s) = F ++ (if p v = true then [] else [v]) := by
    rw [List.take_add_one, hv, List.filter_append, hF]
    by_cases hp : p v = true <;> simp [hp]
   simp only [List.length_cons] at hdl hlen hJ
   simp only [Val.enc_def] at hgv hget hset hget0
   refine AW.skip ?_
   refine AW.seq ?_
   refine AW.block ?_
   refine rgn [v.enc] [[], [], [], [], [], [0, 1, 5, 6, 7]] ?_
   iterate 6 refine op1 tok ?_ (hv := by first | with_reducible exact True.intro | (first | exact ⟨_, hget, rfl⟩ | (simp [hget]; done) | (simp; omega); done) | omega | simp | (simp +contextual; omega))
   refine qA ?_
   refine rgn [.nilp, .bool (p v)] [[], [], [], [0, 1, 5, 6, 7, 29]] ?_
   iterate 4 refine op1 tok ?_ (hv := by first | with_reducible exact True.intro | (exact hgv; done) | omega | simp | (simp +contextual; omega))
   refine qA ?_
   refine cnd ?_ ?_
   ·intro h29
    try simp at h29
    refine rgn [x.enc, v.enc] [[], [], [], [], [0, 1, 5, 6]] ?_
    iterate 5 refine op1 tok ?_ (hv := by first | with_reducible exact True.intro | (first | (simp [hget0]; done) | (simp [hget0]; omega); done) | omega | simp | (simp +contextual; omega))
    refine qA ?_
    refine rgz [] [[], [], [0, 1, 5, 6]] ?_
    iterate 3 refine op1 tok ?_
    refine qA ?_
    refine rgz [] [[], [], [0, 1, 5, 6]] ?_
    iterate 3 refine op1 tok ?_
    refine qA ?_
    exact ⟨(j + 1, J ++ [v]), ⟨by simp only []; omega, by simp [hF1, h29]; omega, by simp⟩, by simp only []; omega, qB (by simp [hF1, h29, hC, hset]), rfl, by simp [hF1, h29, hC, hset], by simp [hF1, h29, hC, hset]⟩
   ·intro h29
    try simp at h29
    refine AW.skip ?_
    refine rgz [] [[], [], [0, 1, 5, 6]] ?_
    iterate 3 refine op1 tok ?_
    refine qA ?_
    exact ⟨(j + 1, (x :: J) ++ [v]), ⟨by simp only []; omega, by simp [hF1, h29]; omega, by simp⟩, by simp only []; omega, qB (by simp [hF1, h29, hC, qHR]), rfl, by simp [hF1, h29, hC, qHR], by simp [hF1, h29, hC, qHR]⟩
  ·intro h19
   try simp at h19
   have hjl : j = l.length := by omega
   subst hjl
   rw [List.take_length] at hF
   rw [hF]
   have hcut := zHX F J D
   refine AW.exit ?_
   simp
   refine rgn [] [[], []] ?_
   iterate 2 refine op1 tok ?_
   refine qX ?_
   refine qC.clearFrom tok [0, 5, 38] (e0 := wU.enc) F.length rfl rfl rfl rfl rfl rfl rfl rfl rfl rfl (by simp) (by conv => lhs; simp) trivial (by conv => lhs; simp) trivial (by conv => lhs; simp) rfl (by first | (simp; done) | (simp; omega)) (by omega) (by simp) ?_
   simp only [St.put, zKH, zDQ, St.keep, zHB, qMC, zW]
   refine qC.nil ?_
   refine rgn [] [[], []] ?_
   iterate 2 refine op1 tok ?_
   refine qX ?_
   refine qC.stepK [41] (qXU tok rfl rfl F.length (by conv => lhs; simp) trivial (by conv => lhs; simp) trivial rfl (by conv => lhs; simp) (by first | (simp; done) | (simp; omega)) (by omega)) (by conv => lhs; simp [hcut]) rfl ?_
   refine qC.run [[4]] ?_
   refine op1 tok ?_
   refine qA ?_
   exact AW.ret zU
structure Item where
 kind : Int
 many : Int
 mask : Int
 num : List UInt8
 text : List UInt8
 keys : List (List UInt8)
@[simp] def Item.enc (x : Item) : PD := .agg [.int .i64 x.kind, .int .i64 x.many, .int .u64 x.mask, .str x.num, .str x.text, .sl 1 (x.keys.map PD.str)]
def wQ (a : Int) : Nat := (a % 2 ^ 64).toNat &&& 7
theorem qJH (a : Int) : wQ a < 8 := Nat.and_lt_two_pow _ (n := 3) (by decide)
theorem qSZ (a : Int) : IntKind.i64.wrap (((a % 2 ^ IntKind.i64.bits).toNat &&& 7 % 2 ^ IntKind.i64.bits : Nat) : Int) = (wQ a : Int) := by
 have h := qJH a
 have e : ((a % 2 ^ IntKind.i64.bits).toNat &&& 7 % 2 ^ IntKind.i64.bits : Nat) = wQ a := rfl
 rw [e]
 simp [IntKind.wrap, IntKind.bits, IntKind.signed]; omega
def qCE (s : List UInt8) : Dc := if (vB (xF s)).2 = 0 then (vB (xF s)).1 else ⟨false, [55], 0⟩
def zAD (alone : List Val) (x : Item) : Nat := min (wQ x.many) alone.length
def zF (alone : List Val) (x : Item) : List Val := if wQ x.kind = 5 ∨ wQ x.kind = 6 then alone.drop (alone.length - zAD alone x) else []
def zQ (alone : List Val) (x : Item) : List Val := if wQ x.kind = 5 ∨ wQ x.kind = 6 then alone.take (alone.length - zAD alone x) else alone
def wL (alone : List Val) (x : Item) : Val :=
 .mk (wQ x.kind + 1) x.mask (if wQ x.kind = 3 then qCE x.num else dc0) (if wQ x.kind = 4 then qCL x.text else [])
  (if wQ x.kind = 6 then qFK x.keys (zF alone x).length else []) (zF alone x) (if wQ x.kind = 7 then 40 else 0)
def qDB (alone : List Val) (x : Item) : List Val := zQ alone x ++ [wL alone x]
def qLH (l : List Item) : List Val := (l.take 80).foldl qDB []
def xH (l : List Item) : Val := (qLH l).getLastD qOV
def uK (l : List Item) (k : Nat) : List Val := (l.take k).foldl qDB []
theorem qBX {l : List Item} {k : Nat} {x : Item} (h : l[k]? = some x) : uK l (k + 1) = qDB (uK l k) x := by
 unfold uK; rw [List.take_add_one, h]; simp
theorem zIW (a : List Val) (x : Item) : (qDB a x).length ≤ a.length + 1 := by
 unfold qDB zQ; split <;> simp <;> omega
theorem qII (l : List Item) : ∀ k, (uK l k).length ≤ k
 | 0 => by simp [uK]
 | k + 1 => by
  cases h : l[k]? with
  | none =>
   have h1 : uK l (k + 1) = uK l k := by unfold uK; rw [List.take_add_one, h]; simp
   have := qII l k
   rw [h1]; omega
  | some x =>
   rw [qBX h]
   have := zIW (uK l k) x
   have := qII l k
   omega
theorem qDO (l : List Item) (hl : ∀ x ∈ l, x.keys.length ≤ 140737488351232) : AFn Tryz.prog G 10 [.sl 6 (l.map Item.enc)] ((xH l).enc) := by
 refine AFn.introU tok Tryz.func10 (by kernel_rfl) rfl rfl ?_
 simp only [Tryz.f10, qI, List.map_cons, List.map_nil]
 refine rgn [] [[]] ?_
 refine op1 tok ?_
 refine qA ?_
 refine rgn [] [[], [0, 2, 3]] ?_
 iterate 2 refine op1 tok ?_
 refine qA ?_
 refine AW.seq ?_
 refine rgn [] [[]] ?_
 refine op1 tok ?_
 refine qA ?_
 refine AW.block ?_
 refine AW.loop (α := Nat) (fun k => k ≤ l.length ∧ k ≤ 80) (fun k => ⟨qY 121 [(0, .p (.sl 6 (l.map Item.enc))), (2, .ptr 2 0), (3, .ms 11), (4, .p (.int .i64 k))], [], [(11, .row 31 9 ((uK l k).map Val.enc)), (2, .vars 31 [.p (.int .i64 0), .p (.int .u64 0), .p (.bool false), .p (.str []), .p (.int .i64 0), .p (.str []), .nilsl, .nilsl, .p (.int .i64 0)])], 0⟩) (fun k => l.length - k) (0) ⟨by omega, by omega⟩ ⟨qB (by simp), rfl, by simp [uK], by simp⟩ ?_
 rintro k ⟨hk, hk8⟩
 have hal := qII l k
 generalize haa : uK l k = alone at *
 refine AW.seq ?_
 refine rgn [] [[], [], [], [], [0, 2, 3, 4, 16], [], [], [0, 2, 3, 4, 19]] ?_
 iterate 5 refine op1 tok ?_
 iterate 2 refine op2 tok ?_
 refine op1 tok ?_
 refine qA ?_
 refine cnd ?_ ?_
 ·intro h19
  try simp at h19
  obtain ⟨x, hx⟩ : ∃ x, l[k]? = some x := ⟨l[k], by simp [h19.1]⟩
  have hsh := qYS (G := G) x.num
  have hpa := zBU (G := G) (xF x.num) (by have := qHQ x.num; omega)
  have hwo := zEV (G := G) x.text
  have h3k := qJH x.kind
  have hxl := hl x (List.mem_of_getElem? hx)
  refine AW.skip ?_
  refine AW.seq ?_
  refine AW.block ?_
  refine rgn [x.enc] [[], [], [], [], [0, 2, 3, 4, 26], [], [0, 2, 3, 4, 5]] ?_
  iterate 7 refine op1 tok ?_ (h := by intro C; conv => lhs; simp [qSZ]) (hv := by first | with_reducible exact True.intro | (simp [hx]; done) | omega | simp | (simp +contextual; omega))
  refine qA ?_
  refine rgn [x.enc] [[], [], [], [], [0, 2, 3, 4, 29, 32], [], [], [0, 2, 3, 4, 35], [], [0, 2, 3, 4, 6]] ?_
  iterate 10 refine op1 tok ?_ (hv := by first | with_reducible exact True.intro | (simp [hx]; done) | omega | simp | (simp +contextual; omega))
  refine qA ?_
  refine AW.join (α := Unit) (fun _ => True) (fun a => ⟨qY 121 [(0, .p (.sl 6 (l.map Item.enc))), (2, .ptr 2 0), (3, .ms 11), (4, .p (.int .i64 k)), (6, .ptr 6 0)], [], [(11, .row 31 9 ((zQ alone x).map Val.enc)), (2, .vars 31 [.p (.int .i64 0), .p (.int .u64 0), .p (.bool false), .p (.str []), .p (.int .i64 0), .p (.str []), .nilsl, .nilsl, .p (.int .i64 0)]), (6, .vars 31 [.p (.int .i64 (wQ x.kind + 1)), .p (.int .u64 x.mask), .p (.bool (wL alone x).num.neg), .p (.str (wL alone x).num.digits), .p (.int .i64 (wL alone x).num.scale), .p (.str (wL alone x).text), .p (.sl 1 []), .p (.sl 9 ((zF alone x).map Val.enc)), .p (.int .i64 (wL alone x).code)])], 0⟩) ?_ ?_
  ·
   refine AW.seqRegionO [] ?_
   refine qC.fill 6 [none, none, none, none, none, none, some 1, some 9] (by conv => lhs; simp) ?_
   refine qC.run [[], [0, 2, 3, 4, 6, 37]] ?_
   iterate 2 refine op1 tok ?_
   refine qA ?_
   refine AW.block ?_
   refine rgn [] [[], [0, 2, 3, 4, 6, 37, 38]] ?_
   iterate 2 refine op1 tok ?_
   refine qA ?_
   refine cnd ?_ ?_
   ·intro h38
    try simp at h38
    have hq : wQ x.kind = 3 := by omega
    refine rgn [x.enc, .nilp, .str (xF x.num), .nilp, .tup [(vB (xF x.num)).1.enc, .int .i64 (vB (xF x.num)).2]] [[], [], [], [], [0, 2, 3, 4, 6, 45], [], [], [], [], [0, 2, 3, 4, 6, 48, 49], [], [], [0, 2, 3, 4, 6, 7, 8]] ?_
    iterate 13 refine op1 tok ?_ (hv := by first | with_reducible exact True.intro | (first | exact hsh | exact hpa | simp [hx]; done) | omega | simp | (simp +contextual; omega))
    refine qA ?_
    refine AW.seq ?_
    refine rgn [] [[], [0, 2, 3, 4, 6, 7, 51]] ?_
    iterate 2 refine op1 tok ?_
    refine qA ?_
    refine cnd ?_ ?_
    ·intro h51
     try simp at h51
     refine rgz [] [[], [0, 2, 3, 4, 6, 7]] ?_
     iterate 2 refine op1 tok ?_
     refine qA ?_
     refine rgz [] [[], [], [0, 2, 3, 4, 6]] ?_
     iterate 3 refine op1 tok ?_
     refine qA ?_
     exact ⟨(), trivial, qB (by simp [zQ, wL, zF, qCE, dc0, Val.num, Val.text, Val.code, Val.keys, Val.kids, hq, h51]), rfl, by simp [zQ, wL, zF, qCE, dc0, Val.num, Val.text, Val.code, Val.keys, Val.kids, hq, h51], by simp [zQ, wL, zF, qCE, dc0, Val.num, Val.text, Val.code, Val.keys, Val.kids, hq, h51]⟩
    ·intro h51
     try simp at h51
     refine AW.skip ?_
     refine rgz [] [[], [], [0, 2, 3, 4, 6]] ?_
     iterate 3 refine op1 tok ?_
     refine qA ?_
     exact ⟨(), trivial, qB (by simp [zQ, wL, zF, qCE, dc0, Val.num, Val.text, Val.code, Val.keys, Val.kids, hq, h51]), rfl, by simp [zQ, wL, zF, qCE, dc0, Val.num, Val.text, Val.code, Val.keys, Val.kids, hq, h51], by simp [zQ, wL, zF, qCE, dc0, Val.num, Val.text, Val.code, Val.keys, Val.kids, hq, h51]⟩
   ·intro h38
    try simp at h38
    refine rgn [] [[], [0, 2, 3, 4, 6, 37, 55]] ?_
    iterate 2 refine op1 tok ?_
    refine qA ?_
    refine cnd ?_ ?_
    ·intro h55
     try simp at h55
     have hq : wQ x.kind = 4 := by omega
     refine rgz [x.enc, .nilp, .str (qCL x.text)] [[], [], [], [], [0, 2, 3, 4, 6, 61], [], [], [0, 2, 3, 4, 6]] ?_
     iterate 8 refine op1 tok ?_ (hv := by first | with_reducible exact True.intro | (first | exact hwo | simp [hx]; done) | omega | simp | (simp +contextual; omega))
     refine qA ?_
     exact ⟨(), trivial, qB (by simp [zQ, wL, zF, qCE, dc0, Val.num, Val.text, Val.code, Val.keys, Val.kids, hq]), rfl, by simp [zQ, wL, zF, qCE, dc0, Val.num, Val.text, Val.code, Val.keys, Val.kids, hq], by simp [zQ, wL, zF, qCE, dc0, Val.num, Val.text, Val.code, Val.keys, Val.kids, hq]⟩
    ·intro h55
     try simp at h55
     refine rgn [] [[], [0, 2, 3, 4, 6, 37, 64]] ?_
     iterate 2 refine op1 tok ?_
     refine qA ?_
     refine cnd ?_ ?_
     ·intro h64
      try simp at h64
      have hq : wQ x.kind = 7 := by omega
      refine rgz [] [[], [0, 2, 3, 4, 6]] ?_
      iterate 2 refine op1 tok ?_
      refine qA ?_
      exact ⟨(), trivial, qB (by simp [zQ, wL, zF, qCE, dc0, Val.num, Val.text, Val.code, Val.keys, Val.kids, hq]), rfl, by simp [zQ, wL, zF, qCE, dc0, Val.num, Val.text, Val.code, Val.keys, Val.kids, hq], by simp [zQ, wL, zF, qCE, dc0, Val.num, Val.text, Val.code, Val.keys, Val.kids, hq]⟩
     ·intro h64
      try simp at h64
      refine AW.join (α := Unit) (fun _ => True) (fun a => ⟨qY 121 [(0, .p (.sl 6 (l.map Item.enc))), (2, .ptr 2 0), (3, .ms 11), (4, .p (.int .i64 k)), (6, .ptr 6 0), (67, .p (.bool (decide (wQ x.kind = 5 ∨ wQ x.kind = 6))))], [], [(11, .row 31 9 (alone.map Val.enc)), (2, .vars 31 [.p (.int .i64 0), .p (.int .u64 0), .p (.bool false), .p (.str []), .p (.int .i64 0), .p (.str []), .nilsl, .nilsl, .p (.int .i64 0)]), (6, .vars 31 [.p (.int .i64 (wQ x.kind + 1)), .p (.int .u64 x.mask), .p (.bool false), .p (.str []), .p (.int .i64 0), .p (.str []), .p (.sl 1 []), .p (.sl 9 []), .p (.int .i64 0)])], 0⟩) ?_ ?_
      ·
       refine rgn [] [[], [0, 2, 3, 4, 6, 37, 67]] ?_
       iterate 2 refine op1 tok ?_
       refine qA ?_
       refine cnd ?_ ?_
       ·intro h67
        try simp at h67
        refine AW.skip ?_
        exact ⟨(), trivial, qB (by simp [show (wQ x.kind = 5 ∨ wQ x.kind = 6) = True from eq_true (by omega), h67]), rfl, by simp [show (wQ x.kind = 5 ∨ wQ x.kind = 6) = True from eq_true (by omega), h67], by simp [show (wQ x.kind = 5 ∨ wQ x.kind = 6) = True from eq_true (by omega), h67]⟩
       ·intro h67
        try simp at h67
        refine rgz [] [[], [0, 2, 3, 4, 6, 67]] ?_
        iterate 2 refine op1 tok ?_
        refine qA ?_
        exact ⟨(), trivial, qB (by simp [show (wQ x.kind = 5 ∨ wQ x.kind = 6) = (wQ x.kind = 6) from propext (by omega), show ((wQ x.kind : Int) + 1 = 7) = (wQ x.kind = 6) from propext (by omega)]), rfl, by simp [show (wQ x.kind = 5 ∨ wQ x.kind = 6) = (wQ x.kind = 6) from propext (by omega), show ((wQ x.kind : Int) + 1 = 7) = (wQ x.kind = 6) from propext (by omega)], by simp [show (wQ x.kind = 5 ∨ wQ x.kind = 6) = (wQ x.kind = 6) from propext (by omega), show ((wQ x.kind : Int) + 1 = 7) = (wQ x.kind = 6) from propext (by omega)]⟩
      ·
       rintro a hI
       refine cnd ?_ ?_
       ·intro h67
        try simp at h67
        have hmany := qJH x.many
        have hkn : ((alone.length : Int) - if alone.length < wQ x.many then (alone.length : Int) else (wQ x.many : Int)).toNat = alone.length - zAD alone x := by unfold zAD; split <;> omega
        have hq3 : ¬ wQ x.kind = 3 := by omega
        have hq4 : ¬ wQ x.kind = 4 := by omega
        have hq7 : ¬ wQ x.kind = 7 := by omega
        refine rgn [x.enc] [[], [], [], [], [0, 2, 3, 4, 6, 74], [], [], [], [0, 2, 3, 4, 6, 78], [0, 2, 3, 4, 6, 9]] ?_
        iterate 10 refine op1 tok ?_ (h := by intro C; conv => lhs; simp [qSZ]) (hv := by first | with_reducible exact True.intro | (simp [hx]; done) | omega | simp | (simp +contextual; omega))
        refine qA ?_
        refine rgn [] [[], [], [], [0, 2, 3, 4, 6, 82], [0, 2, 3, 4, 6, 10]] ?_
        iterate 5 refine op1 tok ?_
        refine qA ?_
        refine AW.seqRegionO [] ?_
        refine qC.freeze 11 (by conv => lhs; simp) ?_
        refine qC.run [[], [], [], [], [0, 2, 3, 4, 6, 10, 87], [], [0, 2, 3, 4, 6, 10]] ?_
        iterate 7 refine op1 tok ?_
        refine qA ?_
        refine rgz [] [[], [], [], [0, 2, 4, 6, 89, 92], []] ?_
        iterate 5 refine op1 tok ?_
        refine qX ?_
        refine qC.take 89 11 (by conv => lhs; simp) ?_
        refine qC.freeze 83 (by conv => lhs; simp) ?_
        refine qC.run [[0, 2, 3, 4, 6]] ?_
        refine op1 tok ?_
        refine qA ?_
        exact ⟨(), trivial, qB (by simp [zQ, wL, zF, qCE, dc0, Val.num, Val.text, Val.code, Val.keys, Val.kids, hq3, hq4, hq7, hkn, h67, show List.take alone.length (alone.map Val.enc) = alone.map Val.enc from List.take_of_length_le (by simp)]), rfl, by simp [zQ, wL, zF, qCE, dc0, Val.num, Val.text, Val.code, Val.keys, Val.kids, hq3, hq4, hq7, hkn, h67, show List.take alone.length (alone.map Val.enc) = alone.map Val.enc from List.take_of_length_le (by simp)], by simp [zQ, wL, zF, qCE, dc0, Val.num, Val.text, Val.code, Val.keys, Val.kids, hq3, hq4, hq7, hkn, h67, show List.take alone.length (alone.map Val.enc) = alone.map Val.enc from List.take_of_length_le (by simp)]⟩
       ·intro h67
        try simp at h67
        have hq3 : ¬ wQ x.kind = 3 := by omega
        have hq4 : ¬ wQ x.kind = 4 := by omega
        have hq7 : ¬ wQ x.kind = 7 := by omega
        refine AW.skip ?_
        exact ⟨(), trivial, qB (by simp [zQ, wL, zF, qCE, dc0, Val.num, Val.text, Val.code, Val.keys, Val.kids, hq3, hq4, hq7, h67]), rfl, by simp [zQ, wL, zF, qCE, dc0, Val.num, Val.text, Val.code, Val.keys, Val.kids, hq3, hq4, hq7, h67], by simp [zQ, wL, zF, qCE, dc0, Val.num, Val.text, Val.code, Val.keys, Val.kids, hq3, hq4, hq7, h67]⟩
  ·
   rintro a hI
   refine AW.join (α := Unit) (fun _ => True) (fun a => ⟨qY 121 [(0, .p (.sl 6 (l.map Item.enc))), (2, .ptr 2 0), (3, .ms 11), (4, .p (.int .i64 k)), (6, .ptr 6 0)], [], [(11, .row 31 9 ((zQ alone x).map Val.enc)), (2, .vars 31 [.p (.int .i64 0), .p (.int .u64 0), .p (.bool false), .p (.str []), .p (.int .i64 0), .p (.str []), .nilsl, .nilsl, .p (.int .i64 0)]), (6, .vars 31 [.p (.int .i64 (wL alone x).kind), .p (.int .u64 (wL alone x).mask), .p (.bool (wL alone x).num.neg), .p (.str (wL alone x).num.digits), .p (.int .i64 (wL alone x).num.scale), .p (.str (wL alone x).text), .p (.sl 1 ((wL alone x).keys.map PD.str)), .p (.sl 9 ((wL alone x).kids.map Val.enc)), .p (.int .i64 (wL alone x).code)])], 0⟩) ?_ ?_
   ·
    refine rgn [] [[], [], [0, 2, 3, 4, 6, 96]] ?_
    iterate 3 refine op1 tok ?_
    refine qA ?_
    refine cnd ?_ ?_
    ·intro h96
     try simp at h96
     have hq : wQ x.kind = 6 := by omega
     have hkl : (zF alone x).length ≤ 100000 := by unfold zF; split <;> simp <;> omega
     have hna := zME (G := G) x.keys (zF alone x).length hxl hkl
     refine AW.runDrawK tok mixed [0, 2, 3, 4, 6] 9 [[0], [4], [97, 98], [99], [100], [6], [102], [103], [101, 104]] [x.enc, .nilp, .sl 1 ((qFK x.keys (zF alone x).length).map PD.str)] [] (by kernel_rfl) (by intro C; conv => lhs; simp) (by first | (simp [hx]; done) | (simp [hx]; exact hna)) (by simp [Sm.sum, Sm.foot, Sm.tch, Sm.refs]; kernel_rfl) (by intro C; conv => lhs; simp) (by first | with_reducible exact True.intro | omega | simp | (simp +contextual; omega)) ?_
     exact ⟨(), trivial, qB (by simp [wL, Val.kind, Val.mask, Val.keys, Val.kids, hq]), rfl, by simp [wL, Val.kind, Val.mask, Val.keys, Val.kids, hq], by simp [wL, Val.kind, Val.mask, Val.keys, Val.kids, hq]⟩
    ·intro h96
     try simp at h96
     have hq : ¬ wQ x.kind = 6 := by omega
     refine AW.skip ?_
     exact ⟨(), trivial, qB (by simp [wL, Val.kind, Val.mask, Val.keys, Val.kids, hq]), rfl, by simp [wL, Val.kind, Val.mask, Val.keys, Val.kids, hq], by simp [wL, Val.kind, Val.mask, Val.keys, Val.kids, hq]⟩
   ·
    rintro a hI
    have hrl : (zQ alone x).length ≤ alone.length := by unfold zQ; split <;> simp <;> omega
    refine rgz [(wL alone x).enc] [[], [], [], [0, 2, 4, 110], [0, 2, 3, 4]] ?_
    iterate 5 refine op1 tok ?_ (hv := by first | with_reducible exact True.intro | (first | (simp; done) | (simp; omega) | omega; done) | omega | simp | (simp +contextual; omega))
    refine qA ?_
    refine rgz [] [[], [], [0, 2, 3, 4]] ?_
    iterate 3 refine op1 tok ?_
    refine qA ?_
    exact ⟨k + 1, ⟨by omega, by omega⟩, by omega, qB (by simp [haa, qBX hx, qDB]), rfl, by simp [haa, qBX hx, qDB], by simp [haa, qBX hx, qDB]⟩
 ·intro h19
  try simp at h19
  have hfin : qLH l = alone := by
   rw [← haa]; unfold qLH uK
   congr 1
   by_cases h : k = 80
   ·rw [h]
   ·have hkl : k = l.length := by omega
    rw [hkl, List.take_length, List.take_of_length_le (by omega)]
  refine AW.exit ?_
  simp
  refine AW.seq ?_
  refine rgn [] [[], [], [2, 3, 113]] ?_
  iterate 3 refine op1 tok ?_
  refine qA ?_
  refine cnd ?_ ?_
  ·intro h113
   try simp at h113
   have hB : xH l = qOV := by simp [xH, hfin, h113]
   refine rgn [] [[], [2]] ?_
   iterate 2 refine op1 tok ?_
   refine qA ?_
   exact AW.ret (qJ (k := by simp [hB, qOV, dc0, Val.kind, Val.mask, Val.num, Val.text, Val.keys, Val.kids, Val.code]))
  ·intro h113
   try simp at h113
   have hlast : alone[alone.length - 1]? = some (xH l) := by
    rw [xH, hfin, List.getLastD_eq_getLast?, List.getLast?_eq_getElem?]
    have : alone.length - 1 < alone.length := by
     have : alone ≠ [] := h113
     have := List.length_pos_iff.2 this; omega
    simp [this]
   have hpos : 0 < alone.length := List.length_pos_iff.2 h113
   refine AW.skip ?_
   refine rgn [(xH l).enc] [[], [], [], [], [2, 119], [], [2]] ?_
   iterate 7 refine op1 tok ?_ (hv := by first | with_reducible exact True.intro | (simp [hlast]; done) | omega | simp | (simp +contextual; omega))
   refine qA ?_
   exact AW.ret qJ
theorem jT {v : Val} (h1 : 1 ≤ v.kind ∧ v.kind ≤ 8 ∧ v.kids.length ≤ 200) (h2 : v.kind = 8 ↔ v.code ≠ 0) (h3 : v.kind = 4 → zZ v.num = true) (h3' : v.kind ≠ 4 → v.num = dc0)
  (h4 : v.kind = 5 → kB v.text = true) (h4' : v.kind ≠ 5 → v.text = []) (h5 : v.kind = 7 → v.keys.length = v.kids.length ∧ kX v.keys = true) (h5' : v.kind ≠ 7 → v.keys = []) (h6 : v.kids = [] ∨ v.kind = 6 ∨ v.kind = 7)
  (h7 : ∀ k ∈ v.kids, qQ k = true) : qQ v = true := by
 rw [yV]
 simp only [Bool.and_eq_true, jA]
 refine ⟨⟨by simp [yY]; omega, ⟨⟨⟨⟨?_, ?_⟩, ?_⟩, ?_⟩, ?_⟩⟩, List.all_eq_true.2 h7⟩
 ·unfold qHJ
  by_cases h : v.kind = 8
  ·simp [h, h2.1 h]
  ·have : v.code = 0 := by by_cases hc : v.code = 0; · exact hc
                           ·exact (h (h2.2 hc)).elim
   simp [h, this]
 ·unfold qEU
  by_cases h : v.kind = 4
  ·rw [if_pos h]; exact h3 h
  ·rw [if_neg h, h3' h]; simp [dc0]
 ·unfold uB
  by_cases h : v.kind = 5
  ·rw [if_pos h]; exact h4 h
  ·rw [if_neg h, h4' h]; simp
 ·unfold jC
  by_cases h : v.kind = 7
  ·rw [if_pos h, (h5 h).1, (h5 h).2]; simp
  ·rw [if_neg h, h5' h]; simp
 ·unfold qEP
  rcases h6 with h | h | h <;> simp [h]
theorem qXY (s : List UInt8) : kB (qCL s) = true := by
 have hl := qRS s
 unfold kB
 rw [qEX]
 have : qEY (qCL s) = true := by
  unfold qCL
  split
  ·assumption
  ·decide +kernel
 rw [this]; simp; omega
theorem zCD {n : Nat} (h : n ≤ 4096) (hv : qEY (qBD n) = true) : kB (qBD n) = true := by
 unfold kB; rw [qEX, hv]; simp [qBD]; omega
theorem zDO : ∀ n, n ≤ 9 → qEY (qBD n) = true := by decide +kernel
theorem zDE {l : List (List UInt8)} {i many : Nat} (hi : i ≤ l.length + many) (hm : many ≤ 8) : kB (xX l i) = true := by
 unfold xX
 split
 ·exact qXY _
 ·exact zCD (by omega) (zDO _ (by omega))
theorem qDW {l : List (List UInt8)} {many : Nat} (hm : many ≤ 8) : ∀ (f i : Nat) (out : List (List UInt8)), i + f = l.length + many + 1 → out.Nodup → (∀ s ∈ out, kB s = true) → out.length ≤ many → (∀ t, 1 ≤ t → t + l.length ≤ i → qBD t ∈ out) →
  (vO l many f i out).Nodup ∧ (∀ s ∈ vO l many f i out, kB s = true) ∧ (vO l many f i out).length = many
 | 0, i, out, hf, _, _, h3, h4 => by
  have := zFZ (out := out) (n := many + 1) fun t h1 h2 => h4 t h1 (by omega)
  omega
 | f + 1, i, out, hf, h1, h2, h3, h4 => by
  simp only [vO]
  split
  ·rename_i hlt
   have hw := zDE (l := l) (i := i) (many := many) (by omega) hm
   have hk : ∀ t, 1 ≤ t → t + l.length ≤ i + 1 → qBD t ∈ qLI out (xX l i) := by
    intro t h5 h6
    by_cases h7 : t + l.length ≤ i
    ·have := h4 t h5 h7
     unfold qLI; split
     ·exact this
     ·simp [this]
    ·have : qBD t = xX l i := by simp only [xX]; rw [dif_neg (by omega)]; congr 1; omega
     rw [this]; unfold qLI; split
     ·assumption
     ·simp
   unfold qLI at hk ⊢
   split at hk
   ·rename_i hin
    rw [if_pos hin]
    exact qDW hm f (i + 1) out (by omega) h1 h2 h3 hk
   ·rename_i hin
    rw [if_neg hin]
    refine qDW hm f (i + 1) (out ++ [xX l i]) (by omega) ?_ (fun s hs => ?_) (by simp; omega) hk
    ·rw [List.nodup_append]
     exact ⟨h1, by simp, by intro a ha b hb; simp at hb; subst hb; rintro rfl; exact hin ha⟩
    ·rcases List.mem_append.1 hs with h | h
     ·exact h2 s h
     ·simp at h; rw [h]; exact hw
  ·exact ⟨h1, h2, by omega⟩
theorem zDF {l : List (List UInt8)} {many : Nat} (hm : many ≤ 8) : kX (qFK l many) = true ∧ (qFK l many).length = many := by
 obtain ⟨h1, h2, h3⟩ := qDW (l := l) hm (l.length + many + 1) 0 [] (by omega) List.nodup_nil (by simp) (by simp) (by intro t h1 h2; omega)
 exact ⟨by unfold kX; simp only [Bool.and_eq_true, List.all_eq_true, decide_eq_true_eq]; exact ⟨h2, h1⟩, h3⟩
theorem zCK {s : List UInt8} (h : s.all qG = true) : (qU s).all qG = true := by
 rw [List.all_eq_true] at h ⊢
 exact fun b hb => h b ((List.dropWhile_sublist _).subset hb)
theorem qYQ {s : List UInt8} (h : qU s ≠ []) : qT (qU s) 0 ≠ 48 := by
 induction s with
 | nil => exact (h rfl).elim
 | cons b s ih =>
  by_cases hb : b = 48
  ·have e : qU (b :: s) = qU s := by simp [qU, hb]
   rw [e] at h ⊢; exact ih h
  ·have e : qU (b :: s) = b :: s := by simp [qU, hb]
   rw [e]
   intro h2
   simp [qT] at h2
   exact hb (UInt8.toNat_inj.1 (by show b.toNat = 48; omega))
theorem qNQ : ∀ (k : Nat) (d : List UInt8), (∃ r, d = (kI d k).1 ++ r) ∧ ((kI d k).2 = 0 ∨ (kI d k).1.getLast? ≠ some 48)
 | 0, d => ⟨⟨[], by simp [kI]⟩, .inl rfl⟩
 | k + 1, d => by
  simp only [kI]
  split
  ·obtain ⟨⟨r, hr⟩, h2⟩ := qNQ k d.dropLast
   refine ⟨⟨r ++ d.drop (d.length - 1), ?_⟩, h2⟩
   have e : d.dropLast ++ d.drop (d.length - 1) = d := by rw [List.dropLast_eq_take, List.take_append_drop]
   rw [← List.append_assoc, ← hr, e]
  ·rename_i h; exact ⟨⟨[], by simp⟩, .inr h⟩
theorem qLK {neg : Bool} {digits : List UInt8} {scale : Nat} (hd : digits.all qG = true) (h : (yL neg digits scale).2 = 0) : zZ (yL neg digits scale).1 = true := by
 unfold yL at h ⊢
 simp only at h ⊢
 obtain ⟨⟨r, hr⟩, hl⟩ := qNQ scale (qU digits)
 generalize kI (qU digits) scale = x at *
 split
 ·decide +kernel
 ·rename_i hne
  rw [if_neg hne] at h
  split
  ·rename_i hb; rw [if_pos hb] at h; simp at h
  ·rename_i hb
   have hpos : 0 < x.1.length := List.length_pos_iff.2 hne
   have hall : x.1.all qG = true := by
    have := zCK hd
    rw [hr, List.all_append, Bool.and_eq_true] at this; exact this.1
   have hh : qT x.1 0 ≠ 48 := by
    have h1 := qYQ (s := digits) (by rw [hr]; simp [hne])
    rw [hr] at h1
    obtain ⟨c, d, hx⟩ : ∃ c d, x.1 = c :: d := by
     cases hx : x.1 with
     | nil => exact (hne hx).elim
     | cons c d => exact ⟨c, d, rfl⟩
    rw [hx] at h1 ⊢
    simpa [qT] using h1
   rw [qUB (by simp only []; omega) hall]
   simp only
   rw [if_neg (by intro e; rw [e] at hh; exact hh rfl)]
   have hlast : x.2 = 0 ∨ qT x.1 (x.1.length - 1) ≠ 48 := hl.imp id fun h h2 => h ((qFZ hpos).1 h2)
   simp [hh]
   exact hlast
theorem zBX (n : Nat) : (wD n).all qG = true := List.all_eq_true.2 fun b hb => by rw [(List.mem_replicate.1 hb).2]; rfl
theorem zIU {neg : Bool} {digits : List UInt8} {sc : Int} (hd : digits.all qG = true) (h : (vQ neg digits sc).2 = 0) : zZ (vQ neg digits sc).1 = true := by
 unfold vQ at h ⊢
 split
 ·rename_i hs; rw [if_pos hs] at h; exact qLK (by rw [List.all_append, hd, zBX]; rfl) h
 ·rename_i hs; rw [if_neg hs] at h; exact qLK hd h
theorem zFI (s : List UInt8) (k : Nat) : ((s.take (k + wK s k)).drop k).all qG = true := by
 have e : (s.take (k + wK s k)).drop k = (s.drop k).takeWhile fun b => kS b.toNat := by
  rw [List.drop_take, show k + wK s k - k = wK s k by omega]
  unfold wK
  have : ∀ (l : List UInt8) (p : UInt8 → Bool), l.take (l.takeWhile p).length = l.takeWhile p := by
   intro l p
   induction l with
   | nil => rfl
   | cons a l ih => rw [List.takeWhile_cons]; split
                    ·simp [ih]
                    ·rfl
  exact this _ _
 rw [e, List.all_eq_true]
 have : ∀ (l : List UInt8) (p : UInt8 → Bool) (b : UInt8), b ∈ l.takeWhile p → p b = true := by
  intro l p b
  induction l with
  | nil => intro h; simp at h
  | cons a l ih =>
   intro h
   rw [List.takeWhile_cons] at h
   split at h
   ·rename_i ha
    rcases List.mem_cons.1 h with rfl | h
    ·exact ha
    ·exact ih h
   ·simp at h
 exact fun b hb => this _ _ b hb
theorem qSM {s : List UInt8} {neg : Bool} {digits : List UInt8} {scale : Nat} (hd : digits.all qG = true) : ∀ o, (qFD s neg digits scale o).2 = 0 → zZ (qFD s neg digits scale o).1 = true
 | none, h => by simp [qFD, xP] at h
 | some (k, up), h => by
  simp only [qFD] at h ⊢
  split
  ·rename_i hk; rw [if_pos hk] at h; exact zIU hd h
  ·rename_i hk; rw [if_neg hk] at h; simp [xP] at h
theorem zES {s : List UInt8} (h : (vB s).2 = 0) : zZ (vB s).1 = true := by
 unfold vB at h ⊢
 split
 ·rename_i hb; rw [if_pos hb] at h; simp [xP] at h
 ·rename_i hb
  rw [if_neg hb] at h
  have hd := zFI s (a0M s)
  revert h
  generalize (s.take (a0M s + wK s (a0M s))).drop (a0M s) = d0 at *
  generalize a0M s + wK s (a0M s) = k
  intro h
  unfold qIZ at h ⊢
  split
  ·rename_i hp
   rw [if_pos hp] at h
   split
   ·rename_i hz; rw [if_pos hz] at h; simp [qYJ, xP] at h
   ·rename_i hz
    rw [if_neg hz] at h
    exact qSM (by rw [List.all_append, hd, zFI]; rfl) _ h
  ·rename_i hp
   rw [if_neg hp] at h
   exact qSM hd _ h
theorem zMB (s : List UInt8) : zZ (qCE s) = true := by
 unfold qCE
 split
 ·rename_i h; exact zES h
 ·decide +kernel
theorem qJM (alone : List Val) (x : Item) : (zF alone x).length ≤ 8 := by
 have := qJH x.many
 unfold zF zAD; split
 ·simp; omega
 ·simp
theorem qJL {alone : List Val} {x : Item} {k : Val} (h : k ∈ zF alone x) : k ∈ alone := by
 unfold zF at h; split at h
 ·exact List.mem_of_mem_drop h
 ·cases h
theorem zIV {alone : List Val} (x : Item) (ha : ∀ v ∈ alone, qQ v = true) : qQ (wL alone x) = true := by
 have hk := qJH x.kind
 have hn := zDF (l := x.keys) (qJM alone x)
 have hl := qJM alone x
 have hkid : ¬ (wQ x.kind = 5 ∨ wQ x.kind = 6) → zF alone x = [] := fun h => by unfold zF; rw [if_neg h]
 have hmem := fun k (hk : k ∈ zF alone x) => ha k (qJL hk)
 unfold wL
 generalize zF alone x = kids at *
 refine jT ?_ ?_ ?_ ?_ ?_ ?_ ?_ ?_ ?_ ?_ <;> simp only [Val.kind_mk, Val.num_mk, Val.text_mk, Val.keys_mk, Val.kids_mk, Val.code_mk]
 ·omega
 ·by_cases h : wQ x.kind = 7
  ·simp [h]
  ·simp [h]; omega
 ·intro h; rw [if_pos (by omega)]; exact zMB _
 ·intro h; rw [if_neg (by omega)]
 ·intro h; rw [if_pos (by omega)]; exact qXY _
 ·intro h; rw [if_neg (by omega)]
 ·intro h; rw [if_pos (by omega)]; exact ⟨hn.2, hn.1⟩
 ·intro h; rw [if_neg (by omega)]
 ·by_cases h : wQ x.kind = 5 ∨ wQ x.kind = 6
  ·right; omega
  ·left; exact hkid h
 ·exact hmem
theorem qAS (l : List Item) : qQ (xH l) = true := by
 have key : ∀ (l : List Item) (alone : List Val), (∀ v ∈ alone, qQ v = true) → ∀ v ∈ l.foldl qDB alone, qQ v = true := by
  intro l
  induction l with
  | nil => exact fun alone h => h
  | cons x l ih =>
   intro alone h
   refine ih _ fun v hv => ?_
   unfold qDB at hv
   rcases List.mem_append.1 hv with hv | hv
   ·unfold zQ at hv; split at hv
    ·exact h v (List.mem_of_mem_take hv)
    ·exact h v hv
   ·simp at hv; rw [hv]; exact zIV x h
 unfold xH
 rw [List.getLastD_eq_getLast?]
 cases hx : (qLH l).getLast? with
 | none => decide +kernel
 | some v => exact key _ [] (by simp) v (List.mem_of_getLast? hx)
theorem zJG (a b c d e f g : V) (ks kids : List PD) : AX Tryz.prog G 135 [.ptr 902 0] [(902, .vars 31 [a, b, c, d, e, f, .ms 909, .ms 912, g]), (909, .row 9 1 ks), (912, .row 31 9 kids)] (.tuple []) [902, 909, 912] [(902, .vars 31 [a, b, c, d, e, f, .ms 909, .ms 912, g]), (909, .row 9 1 ks), (912, .row 31 9 kids)] := by
 refine AX.introU tok 800 Tryz.func135 (by kernel_rfl) rfl rfl ?_
 simp only [Tryz.f135, qI, List.map_cons, List.map_nil]
 refine AW.skip ?_
 exact zGA
theorem zDI (v : Val) (hv : qQ v = true) : AX Tryz.prog G 134 [.p v.enc, .p (.fn 135)] [] (.agg [.p (.int .i64 v.kind), .p (.int .u64 v.mask), .p (.bool v.num.neg), .p (.str v.num.digits), .p (.int .i64 v.num.scale), .p (.str v.text), .ms 909, .ms 912, .p (.int .i64 v.code)]) [] [(909, .row 9 1 (v.keys.map PD.str)), (912, .row 31 9 (v.kids.map Val.enc))] := by
 refine AX.introU tok 900 Tryz.func134 (by kernel_rfl) rfl rfl ?_
 simp only [Tryz.f134, qI, List.map_cons, List.map_nil]
 have hsm := yU hv
 have hck := qUI (G := G) v.keys (by omega)
 have hcv := qUG (G := G) v.kids (by omega)
 have ih : ∀ k ∈ v.kids, AFn Tryz.prog G 134 [k.enc, .fn 135] (qBA id k).enc := fun k hk => zIP (G := G) 135 id qUK k (wJ hv hk)
 refine rgn [] [[], [1, 2, 4]] ?_
 iterate 2 refine op1 tok ?_
 refine qA ?_
 refine AW.seqRunDrawK tok mixed [1, 2, 4] 8 [[2], [7], [8], [2], [10], [11], [2], [13, 9]] [.nilf, .sl 1 (v.keys.map PD.str), .clo 9 [], .nilf, .sl 9 (v.kids.map Val.enc), .clo 31 []] [] (by kernel_rfl) (by intro C; conv => lhs; simp) (by first | exact hck | exact hcv | ((repeat' (first | with_reducible apply And.intro | intro _)) <;> first | exact (hck) | exact (hcv) | assumption | omega | contradiction | simp_all)) (by simp [Sm.sum, Sm.foot, Sm.tch, Sm.refs]; kernel_rfl) (by intro C; conv => lhs; simp) (by first | with_reducible exact True.intro | omega | simp | (simp +contextual; omega)) ?_
 refine AW.seq ?_
 refine rgn [] [[], [], [], [1, 2, 4, 16, 17, 18]] ?_
 iterate 4 refine op1 tok ?_
 refine qA ?_
 refine AW.block ?_
 refine AW.loop (α := Nat) (fun k => k ≤ v.kids.length) (fun k => ⟨qY 34 [(1, .p (.fn 135)), (2, .ptr 902 0), (4, .ptr 904 0), (16, .ms 912), (17, .p (.int .i64 v.kids.length)), (18, .p (.int .i64 k))], [], [(902, .vars 31 [.p (.int .i64 v.kind), .p (.int .u64 v.mask), .p (.bool v.num.neg), .p (.str v.num.digits), .p (.int .i64 v.num.scale), .p (.str v.text), .ms 909, .ms 912, .p (.int .i64 v.code)]), (904, .vars 31 zRI), (909, .row 9 1 (v.keys.map PD.str)), (912, .row 31 9 (xG id v k))], 900⟩) (fun k => v.kids.length - k) (0) (by simp) ⟨qB (by simp), rfl, by simp, by simp⟩ ?_
 rintro k hk
 refine rgn [] [[]] ?_
 refine op1 tok ?_
 refine qA ?_
 refine AW.seq ?_
 refine cnd ?_ ?_
 ·intro h19
  try simp at h19
  obtain ⟨x, hx⟩ : ∃ x, v.kids[k]? = some x := ⟨v.kids[k], by simp [h19]⟩
  have hix := ih x (List.mem_of_getElem? hx)
  have hx' := qPL (ch := id) hx
  have hkl := qPK id v k
  have hset := qPJ (ch := id) hx
  rw [qWG] at hix hset
  simp only [Val.enc_def] at hx' hix hset
  refine AW.skip ?_
  refine AW.seq ?_
  refine AW.block ?_
  refine rgn [x.enc] [[], [], [], [], [], [1, 2, 4, 5, 6, 16, 17, 18]] ?_
  iterate 6 refine op1 tok ?_ (hv := by first | with_reducible exact True.intro | (simpa using hx'; done) | omega | simp | (simp +contextual; omega))
  refine qA ?_
  refine AW.runDrawK tok mixed [1, 2, 4, 16, 17, 18] 6 [[2], [23], [5], [6], [1], [26, 27]] [.nilp, x.enc] [x.enc, x.enc] (by kernel_rfl) (by intro C; conv => lhs; simp) (by first | exact hix | ((repeat' (first | with_reducible apply And.intro | intro _)) <;> first | exact (hix) | exact (hx') | assumption | omega | contradiction | simp_all)) (by simp [Sm.sum, Sm.foot, Sm.tch, Sm.refs]; kernel_rfl) (by intro C; conv => lhs; simp) (by exact ⟨by omega, hx'⟩) ?_
  refine rgz [] [[], [1, 2, 4, 16, 17, 18]] ?_
  iterate 2 refine op1 tok ?_
  refine qA ?_
  exact ⟨k + 1, (by omega), (by omega), qB (by simp [hset]), rfl, by simp [hset], by simp [hset]⟩
 ·intro h19
  try simp at h19
  obtain rfl : k = v.kids.length := by omega
  have hfull : xG id v v.kids.length = v.kids.map Val.enc := by simp only [xG, List.take_length, List.drop_length, List.map_nil, List.append_nil, qWG]
  rw [hfull]
  refine AW.exit ?_
  simp
  refine rgn [] [[]] ?_
  refine op1 tok ?_
  refine qX ?_
  refine qC.stepK [2, 4] (yG rfl (zJG (.p (.int .i64 v.kind)) (.p (.int .u64 v.mask)) (.p (.bool v.num.neg)) (.p (.str v.num.digits)) (.p (.int .i64 v.num.scale)) (.p (.str v.text)) (.p (.int .i64 v.code)) (v.keys.map PD.str) (v.kids.map Val.enc)) (by simp)) (by conv => lhs; simp) rfl ?_
  refine qC.nil ?_
  refine rgn [] [[], [4]] ?_
  iterate 2 refine op1 tok ?_
  refine qA ?_
  exact AW.ret zU
theorem qUH (v : Val) (hv : qQ v = true) : AX Tryz.prog G 78 [.p v.enc] [] (.agg [.p (.int .i64 v.kind), .p (.int .u64 v.mask), .p (.bool v.num.neg), .p (.str v.num.digits), .p (.int .i64 v.num.scale), .p (.str v.text), .ms 909, .ms 912, .p (.int .i64 v.code)]) [] [(909, .row 9 1 (v.keys.map PD.str)), (912, .row 31 9 (v.kids.map Val.enc))] := by
 refine AX.introU tok 1900 Tryz.func78 (by kernel_rfl) rfl rfl ?_
 simp only [Tryz.f78, qI, List.map_cons, List.map_nil]
 have hm := zDI (G := G) v hv
 simp only [Val.enc_def] at hm
 refine rgn [] [[], [1, 2]] ?_
 iterate 2 refine op1 tok ?_
 refine qA ?_
 refine rgn [] [[]] ?_
 refine op1 tok ?_
 refine qX ?_
 refine qC.stepK [2, 4] (yG rfl hm (by simp)) (by conv => lhs; simp) rfl ?_
 refine qC.run [[2]] ?_
 refine op1 tok ?_
 refine qA ?_
 exact AW.ret zU
def jG (s p : List UInt8) : Bool := decide (p.length ≤ s.length) && decide (s.take p.length = p)
@[simp] theorem zOT (s p : List UInt8) : AFn Tryz.prog G 203 [.str s, .str p] (.bool (jG s p)) := by
 refine AFn.intro tok Tryz.func203 (by kernel_rfl) rfl ?_
 simp only [Tryz.f203, St.start]
 refine AW.seqRun tok [] (by intro C; conv => lhs; simp) trivial ?_
 refine AW.seqRun tok [] (by intro C; conv => lhs; simp) (by simp +contextual) ?_
 exact AW.ret ⟨.inr rfl, _, _, by (conv => lhs; simp), trivial, by simp [jG]⟩
@[simp] theorem zRE (s p : List UInt8) : AFn Tryz.prog G 153 [.str s, .str p] (.bool (jG s p)) := by
 refine AFn.intro tok Tryz.func153 (by kernel_rfl) rfl ?_
 simp only [Tryz.f153, St.start]
 refine AW.seqRun tok [] (by intro C; conv => lhs; simp) trivial ?_
 refine AW.seqRun tok [.tup [.str s, .str p], .bool (jG s p)] (by intro C; conv => lhs; simp) (by simp) ?_
 exact AW.ret ⟨.inr rfl, _, _, by (conv => lhs; simp), trivial, by simp⟩
def qCH (s p : List UInt8) : List UInt8 := if jG s p then s.drop p.length else s
@[simp] theorem zOU (s p : List UInt8) : AFn Tryz.prog G 225 [.str s, .str p] (.tup [.str (qCH s p), .bool (jG s p)]) := by
 refine AFn.intro tok Tryz.func225 (by kernel_rfl) rfl ?_
 simp only [Tryz.f225, St.start]
 refine AW.seqRun tok [] (by intro C; conv => lhs; simp) trivial ?_
 refine AW.seq ?_
 refine AW.seqRun tok [.tup [.str s, .str p], .bool (jG s p)] (by intro C; conv => lhs; simp) (by simp) ?_
 refine AW.cond (c := .tmp 9) (by conv => lhs; simp) trivial ?_ ?_
 ·intro h1
  simp at h1
  refine AW.seqRun tok [] (by intro C; conv => lhs; simp) trivial ?_
  exact AW.ret ⟨.inr rfl, _, _, by (conv => lhs; simp), trivial, by simp [qCH, h1]⟩
 ·intro h1
  simp at h1
  refine AW.skip ?_
  refine AW.seqRun tok [] (by intro C; conv => lhs; simp) (by simp [jG] at h1 ⊢; omega) ?_
  exact AW.ret ⟨.inr rfl, _, _, by (conv => lhs; simp), trivial, by simp [qCH, h1]⟩
@[simp] theorem qKB (s p : List UInt8) : AFn Tryz.prog G 198 [.str s, .str p] (.tup [.str (qCH s p), .bool (jG s p)]) := by
 refine AFn.intro tok Tryz.func198 (by kernel_rfl) rfl ?_
 simp only [Tryz.f198, St.start]
 refine AW.seqRun tok [] (by intro C; conv => lhs; simp) trivial ?_
 refine AW.seqRun tok [.tup [.str s, .str p], .tup [.str (qCH s p), .bool (jG s p)]] (by intro C; conv => lhs; simp) (by simp) ?_
 exact AW.ret ⟨.inr rfl, _, _, by (conv => lhs; simp), trivial, by simp⟩
theorem zXV : zRT Tryz.prog 281 Extern.BytealgIndexByte.indexByte := fun args w => run_callFunc_extern Tryz.func281 (by kernel_rfl) (by kernel_rfl) (by kernel_rfl) (by kernel_rfl) args w
@[simp] theorem zOS (s : List UInt8) (n : Int) : AFn Tryz.prog G 276 [.str s, .int .u8 n] (.int .i64 (Lib.indexByte s n.toNat.toUInt8)) := by
 refine AFn.intro tok Tryz.func276 (by kernel_rfl) rfl ?_
 simp only [Tryz.f276, St.start]
 refine AW.seqRun tok [] (by intro C; conv => lhs; simp) trivial ?_
 refine AW.seqRunX tok 2 [] [] rfl rfl (by intro C; conv => lhs; simp) trivial (qXT (s := s) (n := n) (p := True) (q := True) (r := True) zXV rfl (by simp) trivial (by simp) trivial (by simp) trivial) (by intro C; conv => lhs; simp) trivial ?_
 exact AW.ret ⟨.inr rfl, _, _, by (conv => lhs; simp), trivial, by simp⟩
@[simp] theorem zRD (s : List UInt8) (n : Int) : AFn Tryz.prog G 265 [.str s, .int .u8 n] (.int .i64 (Lib.indexByte s n.toNat.toUInt8)) := by
 refine AFn.intro tok Tryz.func265 (by kernel_rfl) rfl ?_
 simp only [Tryz.f265, St.start]
 refine AW.seqRun tok [] (by intro C; conv => lhs; simp) trivial ?_
 refine AW.seqRun tok [.tup [.str s, .int .u8 n], .int .i64 (Lib.indexByte s n.toNat.toUInt8)] (by intro C; conv => lhs; simp) (by simp) ?_
 exact AW.ret ⟨.inr rfl, _, _, by (conv => lhs; simp), trivial, by simp⟩
theorem qPQ {s : List UInt8} {k : Nat} (h : k < s.length) : s[k]? = some (s.getD k 0) := by simp [List.getD_eq_getElem?_getD, h]
theorem qEO (s : List UInt8) (c : UInt8) : AFn Tryz.prog G 190 [.str s, .int .u8 c.toNat] (.str (s.dropWhile (fun b => b == c))) := by
 refine AFn.introU tok Tryz.func190 (by kernel_rfl) rfl rfl ?_
 simp only [Tryz.f190, qI, List.map_cons, List.map_nil]
 refine rgn [] [[0, 1]] ?_
 refine op1 tok ?_
 refine qA ?_
 refine AW.seq ?_
 refine AW.block ?_
 refine AW.loop (α := List UInt8) (fun r => r.dropWhile (fun b => b == c) = s.dropWhile (fun b => b == c)) (fun r => ⟨qY 17 [(0, .p (.str r)), (1, .p (.int .u8 c.toNat))], [], [], 0⟩) (fun r => r.length) (s) rfl ⟨qB (by simp), rfl, by simp, by simp⟩ ?_
 rintro r hr
 have hix : 0 < r.length → r[0]? = some (r.getD 0 0) := fun h => qPQ h
 refine AW.seq ?_
 refine rgn [.int .u8 (r.getD 0 0).toNat] [[], [], [], [], [], [0, 1, 8, 10], [], [], [0, 1, 13]] ?_
 iterate 4 refine op1 tok ?_ (hv := by first | with_reducible exact True.intro | (first | exact fun h => ⟨h, _, hix (by omega), rfl⟩ | simp; done) | omega | simp | (simp +contextual; omega))
 iterate 4 refine op2 tok ?_ (hv := by first | with_reducible exact True.intro | (first | exact fun h => ⟨h, _, hix (by omega), rfl⟩ | simp; done) | omega | simp | (simp +contextual; omega))
 refine op1 tok ?_ (hv := by first | with_reducible exact True.intro | (first | exact fun h => ⟨h, _, hix (by omega), rfl⟩ | simp; done) | omega | simp | (simp +contextual; omega))
 refine qA ?_
 refine cnd ?_ ?_
 ·intro h13
  try simp at h13
  obtain ⟨b, r, rfl⟩ : ∃ b r', r = b :: r' := by
   cases r with
   | nil => simp at h13
   | cons b r => exact ⟨b, r, rfl⟩
  have hb : b = c := UInt8.toNat_inj.1 (by have := h13.2; simp at this; omega)
  subst hb
  have hr2 : List.dropWhile (fun b' => b' == b) r = List.dropWhile (fun b' => b' == b) s := by rw [← hr]; simp
  refine AW.skip ?_
  refine AW.block ?_
  refine rgz [] [[], [], [0, 1]] ?_
  iterate 3 refine op1 tok ?_
  refine qA ?_
  exact ⟨r, hr2, by simp, qB (by simp), rfl, by simp, by simp⟩
 ·intro h13
  try simp at h13
  have hr3 : s.dropWhile (fun b => b == c) = r := by
   rw [← hr]
   cases r with
   | nil => rfl
   | cons b r =>
    have hb : b ≠ c := by rintro rfl; simp at h13
    simp [hb]
  rw [hr3]
  refine AW.exit ?_
  simp
  refine rgn [] [[], [4]] ?_
  iterate 2 refine op1 tok ?_
  refine qA ?_
  exact AW.ret qJ
theorem qYK (s : List UInt8) (c : UInt8) : (decide (1 ≤ (s.length : Int)) && decide (List.drop (s.length - 1) s = [c])) = decide (s.getLast? = some c) := by
 by_cases h : s = []
 ·subst h; simp
 ·obtain ⟨a, b, rfl⟩ : ∃ a b, s = a ++ [b] := ⟨s.dropLast, s.getLast h, (List.dropLast_concat_getLast h).symm⟩
  rw [Bool.eq_iff_iff]
  simp
  intro _; omega
theorem qRB (s : List UInt8) (c : UInt8) : AFn Tryz.prog G 194 [.str s, .str [c]] (.bool (decide (s.getLast? = some c))) := by
 refine AFn.introU tok Tryz.func194 (by kernel_rfl) rfl rfl ?_
 simp only [Tryz.f194, qI, List.map_cons, List.map_nil]
 refine AW.strFactU (i := 0) rfl (by decide) ?_
 intro hlen
 have hsuf : (decide (1 ≤ (s.length : Int)) && decide (List.drop (s.length - 1) s = [c])) = decide (s.getLast? = some c) := qYK s c
 refine rgn [] [[0, 1]] ?_
 refine op1 tok ?_
 refine qA ?_
 refine rgn [] [[], [], [], [], [0, 1, 9], [], [], [], [], [], [1, 10, 11, 13, 15], [], [1, 10, 17], [], [], [20], [4]] ?_
 iterate 6 refine op1 tok ?_
 iterate 9 refine op2 tok ?_
 iterate 2 refine op1 tok ?_
 refine qA ?_
 exact AW.ret (qJ (k := by simp [hsuf]))
theorem qXN (s : List UInt8) (c : UInt8) : AFn Tryz.prog G 147 [.str s, .str [c]] (.bool (decide (s.getLast? = some c))) := by
 refine AFn.introU tok Tryz.func147 (by kernel_rfl) rfl rfl ?_
 simp only [Tryz.f147, qI, List.map_cons, List.map_nil]
 refine rgn [] [[0, 1]] ?_
 refine op1 tok ?_
 refine qA ?_
 refine rgn [.nilp, .bool (decide (s.getLast? = some c))] [[], [], [7], [4]] ?_
 iterate 4 refine op1 tok ?_ (hv := by first | with_reducible exact True.intro | (exact qRB s c; done) | omega | simp | (simp +contextual; omega))
 refine qA ?_
 exact AW.ret qJ
theorem qAO (s : List UInt8) (c : UInt8) (hc : c.toNat < 128) : AFn Tryz.prog G 146 [.str s, .str [c]] (.str (s.dropWhile (fun b => b == c))) := by
 refine AFn.introU tok Tryz.func146 (by kernel_rfl) rfl rfl ?_
 simp only [Tryz.f146, qI, List.map_cons, List.map_nil]
 refine rgn [] [[0, 1]] ?_
 refine op1 tok ?_
 refine qA ?_
 refine AW.seq ?_
 refine rgn [] [[], [], [], [], [], [0, 1, 12]] ?_
 iterate 3 refine op1 tok ?_
 iterate 2 refine op2 tok ?_
 refine op1 tok ?_
 refine qA ?_
 refine cnd ?_ ?_
 ·intro h12
  try simp at h12
  subst h12
  refine rgn [] [[], [4]] ?_
  iterate 2 refine op1 tok ?_
  refine qA ?_
  exact AW.ret qJ
 ·intro h12
  try simp at h12
  refine AW.skip ?_
  refine AW.seq ?_
  refine rgn [.int .u8 c.toNat] [[], [], [], [], [], [0, 1, 17, 19], [], [0, 1, 21]] ?_
  iterate 4 refine op1 tok ?_ (hv := by first | with_reducible exact True.intro | (simp; done) | omega | simp | (simp +contextual; omega))
  iterate 3 refine op2 tok ?_ (hv := by first | with_reducible exact True.intro | (simp; done) | omega | simp | (simp +contextual; omega))
  refine op1 tok ?_ (hv := by first | with_reducible exact True.intro | (simp; done) | omega | simp | (simp +contextual; omega))
  refine qA ?_
  refine cnd ?_ ?_
  ·intro h21
   try simp at h21
   refine rgn [.int .u8 c.toNat, .nilp, .str (s.dropWhile (fun b => b == c))] [[], [], [], [25], [4]] ?_
   iterate 5 refine op1 tok ?_ (hv := by first | with_reducible exact True.intro | (first | exact qEO s c | simp; done) | omega | simp | (simp +contextual; omega))
   refine qA ?_
   exact AW.ret qJ
  ·intro h21
   try simp at h21
   omega
end Go.Proofs.YtdojfdaglbphlaaGreatDoor
