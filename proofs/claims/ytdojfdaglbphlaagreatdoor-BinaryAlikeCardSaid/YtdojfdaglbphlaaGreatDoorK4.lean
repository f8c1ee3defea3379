import Derived.Test.YtdojfdaglbphlaaGreatDoorK3
import Derived.Test.YtdojfdaglbphlaaGreatDoorK1
import Derived.Test.YtdojfdaglbphlaaGreatDoorM4
import Derived.Test.YtdojfdaglbphlaaGreatDoorM3
import Derived.Test.YtdojfdaglbphlaaGreatDoorK2
import Derived.Shelf.Strings.OnBuilder
namespace Go.Proofs.YtdojfdaglbphlaaGreatDoor
open Sy Go
set_option maxRecDepth 100000
set_option maxHeartbeats 4000000
set_option linter.unusedSimpArgs false
set_option linter.unusedVariables false
variable {G : qV}
attribute [local simp] wM
theorem qAE {s : List UInt8} {q : RQ} {k : Nat} (h : q.pos ≤ s.length + k) : (blQ s q).pos ≤ s.length + k := by
 rcases Nat.lt_or_ge s.length q.pos with h1 | h1
 ·have : s.drop q.pos = [] := List.drop_of_length_le (by omega)
  simp only [blQ, this]; show q.pos + 0 ≤ _; omega
 ·have := (qJZ h1).2; omega
theorem qLG (s : List UInt8) (q : RQ) : q.pos ≤ (blQ s q).pos := by simp only [blQ]; omega
theorem qOS {s : List UInt8} {q : RQ} (h : nxQ s q ≠ 0) : q.pos < s.length := by
 rcases Nat.lt_or_ge q.pos s.length with h1 | h1
 ·exact h1
 ·exfalso; apply h; unfold nxQ; rw [List.getD_eq_getElem?_getD, List.getElem?_eq_none h1]; rfl
theorem qFG {s : List UInt8} {q : RQ} (h : q.pos ≤ s.length) : (zI s q).1.pos ≤ s.length ∧ q.pos ≤ (zI s q).1.pos := by
 have hp := qCA (s.drop q.pos)
 have hk := qNZ (s.drop q.pos)
 rw [List.length_drop] at hp hk
 unfold zI
 split
 ·simp only; omega
 ·simp only; omega
theorem qQM {s : List UInt8} {q : RQ} {c : UInt8} {many k : Nat} (hc : c ≠ 0) (h : q.pos ≤ s.length + k) : (qCI s c many q).2.pos ≤ s.length + k + 1 ∧ ((qCI s c many q).2.bad = false → (qCI s c many q).2.pos ≤ s.length) ∧ q.pos + 1 ≤ (qCI s c many q).2.pos := by
 have h1 := qAE (s := s) (q := { q with big := Bool.or q.big (decide (200 < many)) }) (k := k) h
 have h2 := qLG s { q with big := Bool.or q.big (decide (200 < many)) }
 unfold qCI
 simp only at h1 h2 ⊢
 generalize blQ s { q with big := Bool.or q.big (decide (200 < many)) } = a at *
 split
 ·rename_i e
  have := qOS (s := s) (q := a) (by rw [e]; exact hc)
  simp only [wM]; exact ⟨by omega, fun _ => by omega, by omega⟩
 ·refine ⟨by simp only; omega, fun hb => ?_, by simp only; omega⟩
  simp only [Bool.or_eq_false_iff, decide_eq_false_iff_not, Decidable.not_not] at hb
  have := qOS (s := s) (q := a) (by rw [hb.2]; decide)
  simp only; omega
theorem zMT {s : List UInt8} {q : RQ} (h : q.pos ≤ s.length) : (qJK s q).1.pos ≤ s.length + 1 ∧ ((qJK s q).1.bad = false → (qJK s q).1.pos ≤ s.length) ∧ q.pos + 1 ≤ (qJK s q).1.pos := by
 obtain ⟨h1, h2⟩ := qFG h
 have h3 := qAE (s := s) (q := (zI s q).1) (k := 0) (by omega)
 have h4 := qLG s (zI s q).1
 unfold qJK
 simp only
 generalize blQ s (zI s q).1 = a at *
 refine ⟨by omega, fun hb => ?_, by omega⟩
 simp only [Bool.or_eq_false_iff, decide_eq_false_iff_not, Decidable.not_not] at hb
 have := qOS (s := s) (q := a) (by rw [hb.2]; decide)
 omega
theorem qKU {s : List UInt8} {obj : Bool} {q : RQ} (h : q.pos ≤ s.length) : (kD s obj q).1.pos ≤ s.length + 1 ∧ ((kD s obj q).1.bad = false → (kD s obj q).1.pos ≤ s.length) ∧ q.pos ≤ (kD s obj q).1.pos := by
 have h1 := qAE (s := s) (q := q) (k := 0) (by omega)
 have h2 := qLG s q
 unfold kD
 split
 ·obtain ⟨h3, h4, h5⟩ := zMT (s := s) (q := blQ s q) (by omega)
  exact ⟨h3, h4, by omega⟩
 ·exact ⟨by simp only; omega, fun _ => by simp only; omega, h2⟩
theorem zIQ {s : List UInt8} {n : Nat} {q : RQ} {d : Nat} {obj : Bool} {c : UInt8} {many : Nat} {ks : List (List UInt8)} {vs : List Val} (h : q.bad = true) : (yP s n q d obj c many ks vs).1.pos = q.pos := by
 cases n with
 | zero => simp [yP]
 | succ n => rw [xY, if_pos h]
theorem zTA (s : List UInt8) : ∀ n : Nat, (∀ q d, q.pos ≤ s.length → (kV s n q d).1.pos ≤ s.length + n + 1 ∧ ((kV s n q d).1.bad = false → (kV s n q d).1.pos ≤ s.length)) ∧
  (∀ q d obj c many ks vs, c ≠ 0 → q.pos ≤ s.length → (yP s n q d obj c many ks vs).1.pos ≤ s.length + n + 1 ∧ ((yP s n q d obj c many ks vs).1.bad = false → (yP s n q d obj c many ks vs).1.pos ≤ s.length))
 | 0 => ⟨fun q d h => by simp only [kV]; exact ⟨by omega, fun _ => h⟩, fun q d obj c many ks vs _ h => by simp only [yP]; exact ⟨by omega, fun _ => h⟩⟩
 | n + 1 => by
  obtain ⟨ih1, ih2⟩ := zTA s n
  refine ⟨fun q d h => ?_, fun q d obj c many ks vs hc h => ?_⟩
  ·have hE : (zN s q d).pos ≤ s.length := by have := qAE (s := s) (q := q) (k := 0) (by omega); exact this
   rw [qKE]
   generalize zN s q d = E at *
   have hk : ∀ obj c, c ≠ 0 → E.pos < s.length → (vD s n E d obj c).1.pos ≤ s.length + n + 1 ∧ ((vD s n E d obj c).1.bad = false → (vD s n E d obj c).1.pos ≤ s.length) := fun obj c hc hl => by
    have h1 := qAE (s := s) (q := wM E 1) (k := 0) (by simp only [wM]; omega)
    unfold vD
    split
    ·rename_i e
     have := qOS (s := s) (q := blQ s (wM E 1)) (by rw [e]; exact hc)
     simp only [wM] at this ⊢; exact ⟨by omega, fun _ => by omega⟩
    ·exact ih2 _ _ _ _ _ _ _ hc h1
   split
   ·have := (qFG hE).1
    exact ⟨by simp only; omega, fun _ => by simp only; omega⟩
   ·split
    ·rename_i e
     have := hk false 93 (by decide) (qOS (by rw [e]; decide))
     exact ⟨by simp only; omega, this.2⟩
    ·split
     ·rename_i e
      have := hk true 125 (by decide) (qOS (by rw [e]; decide))
      exact ⟨by simp only; omega, this.2⟩
     ·split
      ·have := (qZI (s.drop E.pos)).2
       rw [List.length_drop] at this
       have : (vM s E).1.pos ≤ s.length := by simp only [vM]; omega
       exact ⟨by omega, fun _ => this⟩
      ·have hw : ∀ w : List UInt8, (qAF s w E).2.pos ≤ s.length := fun w => by
        unfold qAF
        split
        ·rename_i e
         have := congrArg List.length e
         simp only [wM]; simp at this; omega
        ·exact hE
       have : (qDP s E).1.pos ≤ s.length := by
        unfold qDP
        split
        ·exact hw _
        ·split
         ·exact hw _
         ·split
          ·exact hw _
          ·exact hE
       exact ⟨by omega, fun _ => this⟩
  ·obtain ⟨g1, g2, g3⟩ := qKU (s := s) (obj := obj) (q := q) h
   rw [xY]
   split
   ·exact ⟨by simp only; omega, fun _ => h⟩
   ·split
    ·rename_i hb
     exact ⟨by simp only; omega, fun h' => by simp only at h'; rw [hb] at h'; cases h'⟩
    ·rename_i hb
     have g := g2 (by simpa using hb)
     obtain ⟨v1, v2⟩ := ih1 (kD s obj q).1 (d + 1) g
     generalize kV s n (kD s obj q).1 (d + 1) = A at *
     obtain ⟨b1, b2, b3⟩ := qQM (s := s) (q := A.1) (c := c) (many := many + 1) (k := n + 1) hc (by omega)
     split
     ·exact ⟨by simp only; omega, b2⟩
     ·by_cases hx : (qCI s c (many + 1) A.1).2.bad = true
      ·rw [zIQ hx]
       exact ⟨by omega, fun h' => by rw [qFM hx] at h'; cases h'⟩
      ·have := ih2 (qCI s c (many + 1) A.1).2 d obj c (many + 1) (qRG obj ks vs (kD s obj q).2 A.2).1 (qRG obj ks vs (kD s obj q).2 A.2).2 hc (b2 (by simpa using hx))
       exact ⟨by omega, this.2⟩
theorem qNN {s : List UInt8} {q : RQ} (n d : Nat) (h1 : q.bad = false) (h2 : q.pos ≤ s.length) (h : (kV s n q d).1.bad = false) : q.pos < (kV s n q d).1.pos ∧ (kV s n q d).1.pos ≤ s.length ∧ (kV s n q d).1.nodes + (s.length - (kV s n q d).1.pos) ≤ q.nodes + (s.length - q.pos) := by
 have h0 : SameR s q ⟨s.drop q.pos, q.nodes, false, q.deep, q.big⟩ := ⟨rfl, h2, rfl, h1, rfl, rfl, rfl⟩
 obtain ⟨e1, e2⟩ := (qSO s n).1 q _ d h0.bl
 rw [h] at e1
 obtain ⟨e3, _⟩ := e2 e1.symm
 have l1 := ((zXR n).1 ⟨s.drop q.pos, q.nodes, false, q.deep, q.big⟩ d).2 e1.symm
 have l2 := ((zRN n).1 ⟨s.drop q.pos, q.nodes, false, q.deep, q.big⟩ d e1.symm).2
 have e4 := congrArg List.length e3.left
 have e5 := e3.le
 have e6 := e3.nodes
 simp only [List.length_drop] at l1 l2 e4
 omega
def qNF (G : qV) (s : List UInt8) (N d : Nat) : Prop := ∀ (m : Nat) (q : RQ), m < N → q.bad = false → q.pos ≤ s.length → 2 * (s.length - q.pos) + 2 ≤ m → q.nodes + (s.length - q.pos) ≤ 10000000000 → d + (s.length - q.pos) ≤ 10000000000 →
 AX Tryz.prog G 131 [.ptr 2 0, .p (.int .i64 d)] [(2, .vars 137 (rqC s q))] (.agg (kV s m q d).2.cells) [2] [(2, .vars 137 (rqC s (kV s m q d).1))]
theorem zMR (N : Nat) (s : List UInt8) (q : RQ) (d : Nat) (hs : s.length ≤ 100000) (hp : q.pos < s.length) (hb0 : q.bad = false) (hN : 2 * (s.length - q.pos) + 1 ≤ N) (hN2 : N ≤ 1000000) (hk : q.nodes + (s.length - q.pos) ≤ 10000000001) (hd : d + (s.length - q.pos) ≤ 10000000000) (hv : qNF G s N (d + 1)) : AX Tryz.prog G 183 [.ptr 2 0, .agg [.p (.int .i64 6), .p (.int .u64 0), .p (.bool false), .p (.str []), .p (.int .i64 0), .p (.str []), .nilsl, .nilsl, .p (.int .i64 0)], .p (.int .i64 d), .p (.int .u8 93)] [(2, .vars 137 (rqC s q))] (.agg (Val.mk 6 0 dc0 [] (vD s N q d false 93).2.1 (vD s N q d false 93).2.2 0).cells) [2] [(2, .vars 137 (rqC s (vD s N q d false 93).1))] := by
 refine AX.introU tok 900 Tryz.func183 (by kernel_rfl) rfl rfl ?_
 simp only [Tryz.f183, qI, List.map_cons, List.map_nil]
 have hM : vD s N q d false 93 = if nxQ s (blQ s (wM q 1)) = 93 then (wM (blQ s (wM q 1)) 1, [], []) else yP s N (blQ s (wM q 1)) d false 93 0 [] [] := rfl
 rw [hM]
 have hbx := jZ (G := G) s (wM q 1) (by omega) (by simp only [wM]; omega)
 have h1 := qAE (s := s) (q := wM q 1) (k := 0) (by simp only [wM]; omega)
 have h2 : q.pos + 1 ≤ (blQ s (wM q 1)).pos := qLG s (wM q 1)
 have h3 : (blQ s (wM q 1)).bad = false := hb0
 have h4 : (blQ s (wM q 1)).nodes = q.nodes := rfl
 generalize blQ s (wM q 1) = Q at *
 have hnx := qCU (G := G) s Q (by omega) (by omega)
 have lC : (((nxQ s Q).toNat : Int) = 93) ↔ nxQ s Q = 93 := yR _ 93 (by decide)
 refine rgn [] [[], [0, 2, 3, 5, 8]] ?_
 iterate 2 refine op1 tok ?_
 refine qA ?_
 refine AW.beginBox 905 3 6 9 1 (by simp; exact ⟨rfl, rfl⟩) (by simp) (by simp) (by conv => lhs; simp) ?_
 refine AW.beginBox 905 8 7 31 9 (by simp; exact ⟨rfl, rfl⟩) (by simp) (by simp) (by conv => lhs; simp) ?_
 refine rgn [] [[], [], [], [], [], [0, 2, 3, 5, 8, 17, 18], [], [0, 2, 3, 5, 8]] ?_
 iterate 8 refine op1 tok ?_
 refine qA ?_
 refine rgn [] [[]] ?_
 refine op1 tok ?_
 refine qX ?_
 refine qC.stepK [0, 2, 3, 5, 8] (yG rfl hbx (by simp)) (by conv => lhs; simp) rfl ?_
 refine qC.nil ?_
 refine AW.seq ?_
 refine rgn [] [[]] ?_
 refine op1 tok ?_
 refine qX ?_
 refine qC.stepK [0, 2, 3, 5, 8, 23] (yG rfl hnx (by simp)) (by conv => lhs; simp) rfl ?_
 refine qC.run [[], [0, 2, 3, 5, 8, 25]] ?_
 iterate 2 refine op1 tok ?_
 refine qA ?_
 refine cnd ?_ ?_
 ·intro h25
  try simp at h25
  rw [if_pos (lC.1 h25)]
  refine rgn [] [[], [], [], [], [5, 8, 26, 30], [], [], [5, 8]] ?_
  iterate 8 refine op1 tok ?_
  refine qA ?_
  refine AW.freeze 3 ?_
  refine AW.freeze 8 ?_
  refine rgn [] [[], [8]] ?_
  iterate 2 refine op1 tok ?_
  refine qA ?_
  exact AW.ret (zU (k := by simp [dc0]))
 ·intro h25
  try simp at h25
  rw [if_neg (fun e => h25 (lC.2 e))]
  refine AW.skip ?_
  refine rgn [] [[]] ?_
  refine op1 tok ?_
  refine qA ?_
  refine AW.seq ?_
  refine AW.block ?_
  refine AW.loop (α := Nat × RQ × Nat × List (List UInt8) × List Val) (fun a => yP s N Q d false 93 0 [] [] = yP s a.1 a.2.1 d false 93 a.2.2.1 a.2.2.2.1 a.2.2.2.2 ∧ 1 ≤ a.1 ∧ a.1 ≤ N ∧ (a.2.1.bad = false → 2 * (s.length - a.2.1.pos) + 3 ≤ a.1 ∧ a.2.1.pos ≤ s.length ∧ a.2.1.nodes + (s.length - a.2.1.pos) ≤ 10000000000 ∧ q.pos + 1 ≤ a.2.1.pos) ∧ a.2.2.1 + a.1 ≤ N ∧ a.2.2.2.2.length + a.1 ≤ N) (fun a => ⟨qY 117 [(0, .ptr 2 0), (2, .p (.int .i64 d)), (3, .p (.int .u8 93)), (5, .ptr 905 0), (8, .ptr 908 0), (9, .p (.int .i64 a.2.2.1))], [2], [(2, .vars 137 (rqC s a.2.1)), (905, .vars 31 [.p (.int .i64 6), .p (.int .u64 0), .p (.bool false), .p (.str []), .p (.int .i64 0), .p (.str []), .ms 3, .ms 8, .p (.int .i64 0)]), (908, .vars 31 [.p (.int .i64 0), .p (.int .u64 0), .p (.bool false), .p (.str []), .p (.int .i64 0), .p (.str []), .nilsl, .nilsl, .p (.int .i64 0)]), (3, .row 9 1 (a.2.2.2.1.map PD.str)), (8, .row 31 9 (a.2.2.2.2.map Val.enc))], 900⟩) (fun a => a.1) ((N, Q, 0, [], [])) ⟨rfl, by simp only; omega, by simp, fun _ => by simp only; omega, by simp, by simp⟩ ⟨qB (by simp), rfl, by simp, by simp⟩ ?_
  rintro ⟨n, p, many, ks, vs⟩ ⟨hq, hf, hfN, hpl, hml, hvl⟩
  simp only at hq hf hfN hpl hml hvl
  rw [hq]
  clear hq
  obtain ⟨n, rfl⟩ : ∃ g, n = g + 1 := ⟨n - 1, by omega⟩
  rw [xY]
  refine AW.seq ?_
  refine rgn [] [[], [], [], [], [0, 2, 3, 5, 8, 9, 38]] ?_
  iterate 5 refine op1 tok ?_
  refine qA ?_
  refine cnd ?_ ?_
  ·intro h38
   try simp at h38
   have hb : p.bad = false := by simpa using h38
   rw [if_neg (show ¬ p.bad = true by rw [hb]; simp)]
   obtain ⟨f1, f2, f3, f4⟩ := hpl hb
   have hbl1 := jZ (G := G) s p (by omega) (by omega)
   have hh := qKU (s := s) (obj := false) (q := p) f2
   have hd1 : kD s false p = (blQ s p, []) := rfl
   rw [hd1] at hh ⊢
   have hbn : (blQ s p).nodes = p.nodes := rfl
   simp only at hh ⊢
   generalize blQ s p = H at *
   have hmm := fun (A : RQ × Val) => (show qRG false ks vs [] A.2 = (ks, vs ++ [A.2]) from rfl)
   simp only [hmm]
   refine AW.skip ?_
   refine AW.block ?_
   refine rgn [] [[]] ?_
   refine op1 tok ?_
   refine qX ?_
   refine qC.stepK [0, 2, 3, 5, 8, 9] (yG rfl hbl1 (by simp)) (by conv => lhs; simp) rfl ?_
   refine qC.nil ?_
   refine rgn [] [[]] ?_
   refine op1 tok ?_
   refine qA ?_
   refine AW.seq ?_
   refine rgn [] [[], [], [0, 2, 3, 5, 8, 9, 10, 43]] ?_
   iterate 3 refine op1 tok ?_
   refine qA ?_
   refine cnd ?_ ?_
   ·intro h43
    try simp at h43
   ·intro h43
    try simp at h43
    refine AW.skip ?_
    refine AW.seq ?_
    refine rgn [] [[], [], [], [0, 2, 3, 5, 8, 9, 10, 64]] ?_
    iterate 4 refine op1 tok ?_
    refine qA ?_
    refine cnd ?_ ?_
    ·intro h64
     try simp at h64
     rw [if_pos h64]
     refine AW.freeze 3 ?_
     refine AW.freeze 8 ?_
     refine rgn [] [[], [8]] ?_
     iterate 2 refine op1 tok ?_
     refine qA ?_
     exact AW.ret (zU (k := by simp [dc0]))
    ·intro h64
     try simp at h64
     have hhb : H.bad = false := by simpa using h64
     rw [if_neg (show ¬ H.bad = true by rw [hhb]; simp)]
     have g2 := hh.2.1 hhb
     have hvn := hv n H (by omega) hhb g2 (by (try simp only); omega) (by (try simp only); omega) (by (try simp only); omega)
     have hps := ((zTA s n).1 H (d + 1) g2).1
     have hvf := qNN (s := s) (q := H) n (d + 1) hhb g2
     rw [show (((d + 1 : Nat) : Int)) = (d : Int) + 1 from by omega] at hvn
     generalize kV s n H (d + 1) = A at *
     obtain ⟨a1, v⟩ := A
     simp only at hvn hps hvf ⊢
     have hdm : decide ((200 : Int) < (many : Int) + 1) = decide (200 < many + 1) := by rw [decide_eq_decide]; omega
     have hbp := qQM (s := s) (q := a1) (c := 93) (many := many + 1) (k := n + 1) (by decide) (by omega)
     have hbeh : qCI s 93 (many + 1) a1 = if nxQ s (blQ s ⟨a1.pos, a1.nodes, a1.bad, a1.deep, Bool.or a1.big (decide (200 < many + 1))⟩) = 93 then (true, wM (blQ s ⟨a1.pos, a1.nodes, a1.bad, a1.deep, Bool.or a1.big (decide (200 < many + 1))⟩) 1) else (false, { (blQ s ⟨a1.pos, a1.nodes, a1.bad, a1.deep, Bool.or a1.big (decide (200 < many + 1))⟩) with pos := (blQ s ⟨a1.pos, a1.nodes, a1.bad, a1.deep, Bool.or a1.big (decide (200 < many + 1))⟩).pos + 1, bad := Bool.or (blQ s ⟨a1.pos, a1.nodes, a1.bad, a1.deep, Bool.or a1.big (decide (200 < many + 1))⟩).bad (decide (nxQ s (blQ s ⟨a1.pos, a1.nodes, a1.bad, a1.deep, Bool.or a1.big (decide (200 < many + 1))⟩) ≠ 44)) }) := rfl
     rw [hbeh] at hbp
     rw [hbeh]
     have hbl2 := jZ (G := G) s ⟨a1.pos, a1.nodes, a1.bad, a1.deep, Bool.or a1.big (decide (200 < many + 1))⟩ (by omega) (by simp only; omega)
     have hx1 := qAE (s := s) (q := ⟨a1.pos, a1.nodes, a1.bad, a1.deep, Bool.or a1.big (decide (200 < many + 1))⟩) (k := n + 1) (by simp only; omega)
     have hx2 : (blQ s ⟨a1.pos, a1.nodes, a1.bad, a1.deep, Bool.or a1.big (decide (200 < many + 1))⟩).bad = a1.bad := rfl
     have hx3 : (blQ s ⟨a1.pos, a1.nodes, a1.bad, a1.deep, Bool.or a1.big (decide (200 < many + 1))⟩).nodes = a1.nodes := rfl
     generalize blQ s ⟨a1.pos, a1.nodes, a1.bad, a1.deep, Bool.or a1.big (decide (200 < many + 1))⟩ = B at *
     have hnx2 := qCU (G := G) s B (by omega) (by omega)
     have l44 : (((nxQ s B).toNat : Int) = 44) ↔ nxQ s B = 44 := yR _ 44 (by decide)
     have lC2 : (((nxQ s B).toNat : Int) = 93) ↔ nxQ s B = 93 := yR _ 93 (by decide)
     generalize nxQ s B = c at *
     refine AW.skip ?_
     refine rgn [] [[], [], []] ?_
     iterate 3 refine op1 tok ?_
     refine qX ?_
     refine qC.stepK [0, 2, 3, 5, 8, 9, 10, 69] (yG rfl hvn (by simp)) (by conv => lhs; simp) rfl ?_
     refine qC.run [[], [0, 2, 3, 5, 8, 9, 10, 11]] ?_
     iterate 2 refine op1 tok ?_
     refine qA ?_
     refine rgn [] [[], [], [0, 2, 3, 5, 8, 9, 10, 11]] ?_
     iterate 3 refine op1 tok ?_
     refine qA ?_
     refine rgn [] [[], [], [], [], [], [0, 2, 3, 5, 8, 9, 10, 11, 72, 77], [], [], [], [0, 2, 3, 5, 8, 9, 10, 11, 80, 81], [], [0, 2, 3, 5, 8, 9, 10, 11]] ?_
     iterate 6 refine op1 tok ?_ (h := by intro C; conv => lhs; simp [hdm])
     iterate 2 refine op2 tok ?_ (h := by intro C; conv => lhs; simp [hdm])
     iterate 4 refine op1 tok ?_ (h := by intro C; conv => lhs; simp [hdm])
     refine qA ?_
     refine AW.seq ?_
     refine rgn [] [[], [], [0, 2, 3, 5, 8, 9, 10, 11, 85]] ?_
     iterate 3 refine op1 tok ?_
     refine qA ?_
     refine cnd ?_ ?_
     ·intro h85
      try simp at h85
     ·intro h85
      try simp at h85
      refine rgz [v.enc] [[], [], [], [], [0, 2, 3, 5, 8, 9, 94], [], [0, 2, 3, 5, 8, 9]] ?_
      iterate 7 refine op1 tok ?_
      refine qA ?_
      refine rgn [] [[]] ?_
      refine op1 tok ?_
      refine qX ?_
      refine qC.stepK [0, 2, 3, 5, 8, 9] (yG rfl hbl2 (by simp)) (by conv => lhs; simp) rfl ?_
      refine qC.nil ?_
      refine rgn [] [[]] ?_
      refine op1 tok ?_
      refine qX ?_
      refine qC.stepK [0, 2, 3, 5, 8, 9, 99] (yG rfl hnx2 (by simp)) (by conv => lhs; simp) rfl ?_
      refine qC.run [[0, 2, 3, 5, 8, 9, 12]] ?_
      refine op1 tok ?_
      refine qA ?_
      refine rgn [] [[], [], [], [], [], [0, 2, 3, 5, 8, 9, 12, 104, 105], [], [0, 2, 3, 5, 8, 9, 12]] ?_
      iterate 8 refine op1 tok ?_
      refine qA ?_
      refine AW.seq ?_
      refine rgn [] [[], [], [0, 2, 3, 5, 8, 9, 12, 109]] ?_
      iterate 3 refine op1 tok ?_
      refine qA ?_
      refine cnd ?_ ?_
      ·intro h109
       try simp at h109
       rw [if_pos (lC2.1 h109)]
       simp only [if_true]
       refine AW.freeze 3 ?_
       refine AW.freeze 8 ?_
       refine rgn [] [[], [8]] ?_
       iterate 2 refine op1 tok ?_
       refine qA ?_
       exact AW.ret (zU (k := by simp [dc0]))
      ·intro h109
       try simp at h109
       rw [if_neg (fun e => h109 (lC2.2 e))]
       rw [if_neg (fun e => h109 (lC2.2 e))] at hbp
       simp only [Bool.false_eq_true, if_false]
       simp only at hbp
       refine AW.skip ?_
       refine rgn [] [[], [0, 2, 3, 5, 8, 9, 112]] ?_
       iterate 2 refine op1 tok ?_
       refine qA ?_
       refine cnd ?_ ?_
       ·intro h112
        try simp at h112
        have hn4 : c ≠ 44 := fun e => h112 (l44.2 e)
        simp only [decide_eq_true (show c ≠ 44 from hn4), Bool.or_true]
        refine rgz [] [[], [], [], [0, 2, 3, 5, 8, 9]] ?_
        iterate 4 refine op1 tok ?_
        refine qA ?_
        exact ⟨(n, ⟨B.pos + 1, B.nodes, true, B.deep, B.big⟩, many + 1, ks, vs ++ [v]), ⟨rfl, by omega, by omega, fun h => (by cases h), by simp only; omega, by simp; omega⟩, by simp only; omega, qB (by simp), rfl, by simp, by simp⟩
       ·intro h112
        try simp at h112
        have hn4 : c = 44 := l44.1 (by omega)
        have hd0 : decide (c ≠ 44) = false := by simp [hn4]
        rw [hd0] at hbp ⊢
        simp only [Bool.or_false] at hbp ⊢
        have hinv : B.bad = false → 2 * (s.length - (B.pos + 1)) + 3 ≤ n ∧ B.pos + 1 ≤ s.length ∧ B.nodes + (s.length - (B.pos + 1)) ≤ 10000000000 ∧ q.pos + 1 ≤ B.pos + 1 := fun h => by
         rw [hx2] at h
         have hvf := hvf h
         have hb1 := hbp.2.1 (by rw [hx2]; exact h)
         have hb2 := hbp.2.2
         omega
        refine AW.skip ?_
        exact ⟨(n, ⟨B.pos + 1, B.nodes, B.bad, B.deep, B.big⟩, many + 1, ks, vs ++ [v]), ⟨rfl, by omega, by omega, hinv, by simp only; omega, by simp; omega⟩, by simp only; omega, qB (by simp), rfl, by simp, by simp⟩
  ·intro h38
   try simp at h38
   rw [if_pos (show p.bad = true by simpa using h38)]
   refine AW.exit ?_
   simp
   refine AW.freeze 3 ?_
   refine AW.freeze 8 ?_
   refine rgn [] [[], [8]] ?_
   iterate 2 refine op1 tok ?_
   refine qA ?_
   exact AW.ret (zU (k := by simp [dc0]))
theorem zMQ (N : Nat) (s : List UInt8) (q : RQ) (d : Nat) (hs : s.length ≤ 100000) (hp : q.pos < s.length) (hb0 : q.bad = false) (hN : 2 * (s.length - q.pos) + 1 ≤ N) (hN2 : N ≤ 1000000) (hk : q.nodes + (s.length - q.pos) ≤ 10000000001) (hd : d + (s.length - q.pos) ≤ 10000000000) (hv : qNF G s N (d + 1)) (hU : qQU G s) : AX Tryz.prog G 183 [.ptr 2 0, .agg [.p (.int .i64 7), .p (.int .u64 0), .p (.bool false), .p (.str []), .p (.int .i64 0), .p (.str []), .nilsl, .nilsl, .p (.int .i64 0)], .p (.int .i64 d), .p (.int .u8 125)] [(2, .vars 137 (rqC s q))] (.agg (Val.mk 7 0 dc0 [] (vD s N q d true 125).2.1 (vD s N q d true 125).2.2 0).cells) [2] [(2, .vars 137 (rqC s (vD s N q d true 125).1))] := by
 refine AX.introU tok 900 Tryz.func183 (by kernel_rfl) rfl rfl ?_
 simp only [Tryz.f183, qI, List.map_cons, List.map_nil]
 have hM : vD s N q d true 125 = if nxQ s (blQ s (wM q 1)) = 125 then (wM (blQ s (wM q 1)) 1, [], []) else yP s N (blQ s (wM q 1)) d true 125 0 [] [] := rfl
 rw [hM]
 have hbx := jZ (G := G) s (wM q 1) (by omega) (by simp only [wM]; omega)
 have h1 := qAE (s := s) (q := wM q 1) (k := 0) (by simp only [wM]; omega)
 have h2 : q.pos + 1 ≤ (blQ s (wM q 1)).pos := qLG s (wM q 1)
 have h3 : (blQ s (wM q 1)).bad = false := hb0
 have h4 : (blQ s (wM q 1)).nodes = q.nodes := rfl
 generalize blQ s (wM q 1) = Q at *
 have hnx := qCU (G := G) s Q (by omega) (by omega)
 have lC : (((nxQ s Q).toNat : Int) = 125) ↔ nxQ s Q = 125 := yR _ 125 (by decide)
 refine rgn [] [[], [0, 2, 3, 5, 8]] ?_
 iterate 2 refine op1 tok ?_
 refine qA ?_
 refine AW.beginBox 905 3 6 9 1 (by simp; exact ⟨rfl, rfl⟩) (by simp) (by simp) (by conv => lhs; simp) ?_
 refine AW.beginBox 905 8 7 31 9 (by simp; exact ⟨rfl, rfl⟩) (by simp) (by simp) (by conv => lhs; simp) ?_
 refine rgn [] [[], [], [], [], [], [0, 2, 3, 5, 8, 17, 18], [], [0, 2, 3, 5, 8]] ?_
 iterate 8 refine op1 tok ?_
 refine qA ?_
 refine rgn [] [[]] ?_
 refine op1 tok ?_
 refine qX ?_
 refine qC.stepK [0, 2, 3, 5, 8] (yG rfl hbx (by simp)) (by conv => lhs; simp) rfl ?_
 refine qC.nil ?_
 refine AW.seq ?_
 refine rgn [] [[]] ?_
 refine op1 tok ?_
 refine qX ?_
 refine qC.stepK [0, 2, 3, 5, 8, 23] (yG rfl hnx (by simp)) (by conv => lhs; simp) rfl ?_
 refine qC.run [[], [0, 2, 3, 5, 8, 25]] ?_
 iterate 2 refine op1 tok ?_
 refine qA ?_
 refine cnd ?_ ?_
 ·intro h25
  try simp at h25
  rw [if_pos (lC.1 h25)]
  refine rgn [] [[], [], [], [], [5, 8, 26, 30], [], [], [5, 8]] ?_
  iterate 8 refine op1 tok ?_
  refine qA ?_
  refine AW.freeze 3 ?_
  refine AW.freeze 8 ?_
  refine rgn [] [[], [8]] ?_
  iterate 2 refine op1 tok ?_
  refine qA ?_
  exact AW.ret (zU (k := by simp [dc0]))
 ·intro h25
  try simp at h25
  rw [if_neg (fun e => h25 (lC.2 e))]
  refine AW.skip ?_
  refine rgn [] [[]] ?_
  refine op1 tok ?_
  refine qA ?_
  refine AW.seq ?_
  refine AW.block ?_
  refine AW.loop (α := Nat × RQ × Nat × List (List UInt8) × List Val) (fun a => yP s N Q d true 125 0 [] [] = yP s a.1 a.2.1 d true 125 a.2.2.1 a.2.2.2.1 a.2.2.2.2 ∧ 1 ≤ a.1 ∧ a.1 ≤ N ∧ (a.2.1.bad = false → 2 * (s.length - a.2.1.pos) + 3 ≤ a.1 ∧ a.2.1.pos ≤ s.length ∧ a.2.1.nodes + (s.length - a.2.1.pos) ≤ 10000000000 ∧ q.pos + 1 ≤ a.2.1.pos) ∧ a.2.2.1 + a.1 ≤ N ∧ a.2.2.2.2.length + a.1 ≤ N ∧ a.2.2.2.1.length = a.2.2.2.2.length) (fun a => ⟨qY 117 [(0, .ptr 2 0), (2, .p (.int .i64 d)), (3, .p (.int .u8 125)), (5, .ptr 905 0), (8, .ptr 908 0), (9, .p (.int .i64 a.2.2.1))], [2], [(2, .vars 137 (rqC s a.2.1)), (905, .vars 31 [.p (.int .i64 7), .p (.int .u64 0), .p (.bool false), .p (.str []), .p (.int .i64 0), .p (.str []), .ms 3, .ms 8, .p (.int .i64 0)]), (908, .vars 31 [.p (.int .i64 0), .p (.int .u64 0), .p (.bool false), .p (.str []), .p (.int .i64 0), .p (.str []), .nilsl, .nilsl, .p (.int .i64 0)]), (3, .row 9 1 (a.2.2.2.1.map PD.str)), (8, .row 31 9 (a.2.2.2.2.map Val.enc))], 900⟩) (fun a => a.1) ((N, Q, 0, [], [])) ⟨rfl, by simp only; omega, by simp, fun _ => by simp only; omega, by simp, by simp, rfl⟩ ⟨qB (by simp), rfl, by simp, by simp⟩ ?_
  rintro ⟨n, p, many, ks, vs⟩ ⟨hq, hf, hfN, hpl, hml, hvl, hkl⟩
  simp only at hq hf hfN hpl hml hvl hkl
  rw [hq]
  clear hq
  obtain ⟨n, rfl⟩ : ∃ g, n = g + 1 := ⟨n - 1, by omega⟩
  rw [xY]
  refine AW.seq ?_
  refine rgn [] [[], [], [], [], [0, 2, 3, 5, 8, 9, 38]] ?_
  iterate 5 refine op1 tok ?_
  refine qA ?_
  refine cnd ?_ ?_
  ·intro h38
   try simp at h38
   have hb : p.bad = false := by simpa using h38
   rw [if_neg (show ¬ p.bad = true by rw [hb]; simp)]
   obtain ⟨f1, f2, f3, f4⟩ := hpl hb
   have hbl1 := jZ (G := G) s p (by omega) (by omega)
   have hh := qKU (s := s) (obj := true) (q := p) f2
   have hp1 := qAE (s := s) (q := p) (k := 0) (by omega)
   have hd1 : kD s true p = qJK s (blQ s p) := rfl
   have hqa := qOM (G := G) s (blQ s p) (by omega) (by omega) hU
   have hqp := qFG (s := s) (q := blQ s p) hp1
   have hky : qJK s (blQ s p) = ({ (blQ s (zI s (blQ s p)).1) with pos := (blQ s (zI s (blQ s p)).1).pos + 1, bad := Bool.or (blQ s (zI s (blQ s p)).1).bad (decide (nxQ s (blQ s (zI s (blQ s p)).1) ≠ 58)) }, (zI s (blQ s p)).2) := rfl
   have hqn : (zI s (blQ s p)).1.nodes = p.nodes := by unfold zI; split <;> rfl
   have hbl3 := jZ (G := G) s (zI s (blQ s p)).1 (by omega) (by omega)
   have hb3 := qAE (s := s) (q := (zI s (blQ s p)).1) (k := 0) (by omega)
   have hbn3 : (blQ s (zI s (blQ s p)).1).nodes = (zI s (blQ s p)).1.nodes := rfl
   have hnx3 := qCU (G := G) s (blQ s (zI s (blQ s p)).1) (by omega) (by omega)
   rw [hky] at hd1
   rw [hd1] at hh ⊢
   generalize blQ s (zI s (blQ s p)).1 = B3 at *
   generalize zI s (blQ s p) = QK at *
   obtain ⟨Q2, key⟩ := QK
   have l58 : (((nxQ s B3).toNat : Int) = 58) ↔ nxQ s B3 = 58 := yR _ 58 (by decide)
   generalize nxQ s B3 = c3 at *
   have hpl2 := fun v => qVV hkl key v
   generalize hbd : Bool.or B3.bad (decide (c3 ≠ 58)) = bd at *
   simp only at hh hqa hqp hqn hbl3 hb3 hbn3 hnx3 ⊢
   have hmm := fun (A : RQ × Val) => (show qRG true ks vs key A.2 = kK ks vs key A.2 from rfl)
   simp only [hmm]
   refine AW.skip ?_
   refine AW.block ?_
   refine rgn [] [[]] ?_
   refine op1 tok ?_
   refine qX ?_
   refine qC.stepK [0, 2, 3, 5, 8, 9] (yG rfl hbl1 (by simp)) (by conv => lhs; simp) rfl ?_
   refine qC.nil ?_
   refine rgn [] [[]] ?_
   refine op1 tok ?_
   refine qA ?_
   refine AW.seq ?_
   refine rgn [] [[], [], [0, 2, 3, 5, 8, 9, 10, 43]] ?_
   iterate 3 refine op1 tok ?_
   refine qA ?_
   refine cnd ?_ ?_
   ·intro h43
    try simp at h43
    refine rgn [] [[]] ?_
    refine op1 tok ?_
    refine qX ?_
    refine qC.stepK [0, 2, 3, 5, 8, 9, 45] (yG rfl hqa (by simp)) (by conv => lhs; simp) rfl ?_
    refine qC.run [[0, 2, 3, 5, 8, 9, 10]] ?_
    refine op1 tok ?_
    refine qA ?_
    refine rgn [] [[]] ?_
    refine op1 tok ?_
    refine qX ?_
    refine qC.stepK [0, 2, 3, 5, 8, 9, 10] (yG rfl hbl3 (by simp)) (by conv => lhs; simp) rfl ?_
    refine qC.nil ?_
    refine AW.join (α := Unit) (fun _ => True) (fun _ => ⟨qY 117 [(0, .ptr 2 0), (2, .p (.int .i64 d)), (3, .p (.int .u8 125)), (5, .ptr 905 0), (8, .ptr 908 0), (9, .p (.int .i64 many)), (10, .p (.str key))], [2], [(2, .vars 137 [.p (.str s), .p (.int .i64 B3.pos), .p (.int .i64 B3.nodes), .p (.bool bd), .p (.bool B3.deep), .p (.bool B3.big)]), (905, .vars 31 [.p (.int .i64 7), .p (.int .u64 0), .p (.bool false), .p (.str []), .p (.int .i64 0), .p (.str []), .ms 3, .ms 8, .p (.int .i64 0)]), (908, .vars 31 [.p (.int .i64 0), .p (.int .u64 0), .p (.bool false), .p (.str []), .p (.int .i64 0), .p (.str []), .nilsl, .nilsl, .p (.int .i64 0)]), (3, .row 9 1 (ks.map PD.str)), (8, .row 31 9 (vs.map Val.enc))], 900⟩) ?_ ?_
    ·
     refine rgn [] [[]] ?_
     refine op1 tok ?_
     refine qX ?_
     refine qC.stepK [0, 2, 3, 5, 8, 9, 10, 49] (yG rfl hnx3 (by simp)) (by conv => lhs; simp) rfl ?_
     refine qC.run [[0, 2, 3, 5, 8, 9, 10, 50]] ?_
     refine op1 tok ?_
     refine qA ?_
     refine cnd ?_ ?_
     ·intro h50
      try simp at h50
      have hbt : bd = true := by rw [← hbd, decide_eq_true (show c3 ≠ 58 from fun e => h50 (l58.2 e))]; simp
      refine rgz [] [[], [], [], [0, 2, 3, 5, 8, 9, 10]] ?_
      iterate 4 refine op1 tok ?_
      refine qA ?_
      exact ⟨(), trivial, qB (by simp [hbt]), rfl, by simp [hbt], by simp [hbt]⟩
     ·intro h50
      try simp at h50
      have hbt : B3.bad = bd := by rw [← hbd, decide_eq_false (show ¬ c3 ≠ 58 from fun e => e (l58.1 (by omega)))]; simp
      refine AW.skip ?_
      exact ⟨(), trivial, qB (by simp [hbt]), rfl, by simp [hbt], by simp [hbt]⟩
    ·
     rintro _ _
     refine rgz [] [[], [], [], [], [], [0, 2, 3, 5, 8, 9, 10, 58, 59], [], [0, 2, 3, 5, 8, 9, 10]] ?_
     iterate 8 refine op1 tok ?_
     refine qA ?_
     refine AW.seq ?_
     refine rgn [] [[], [], [], [0, 2, 3, 5, 8, 9, 10, 64]] ?_
     iterate 4 refine op1 tok ?_
     refine qA ?_
     refine cnd ?_ ?_
     ·intro h64
      try simp at h64
      rw [if_pos h64]
      refine AW.freeze 3 ?_
      refine AW.freeze 8 ?_
      refine rgn [] [[], [8]] ?_
      iterate 2 refine op1 tok ?_
      refine qA ?_
      exact AW.ret (zU (k := by simp [dc0]))
     ·intro h64
      try simp at h64
      have hhb : (⟨B3.pos + 1, B3.nodes, bd, B3.deep, B3.big⟩ : RQ).bad = false := by simpa using h64
      rw [if_neg (show ¬ (⟨B3.pos + 1, B3.nodes, bd, B3.deep, B3.big⟩ : RQ).bad = true by rw [hhb]; simp)]
      have g2 := hh.2.1 hhb
      have hvn := hv n (⟨B3.pos + 1, B3.nodes, bd, B3.deep, B3.big⟩ : RQ) (by omega) hhb g2 (by (try simp only); omega) (by (try simp only); omega) (by (try simp only); omega)
      have hps := ((zTA s n).1 (⟨B3.pos + 1, B3.nodes, bd, B3.deep, B3.big⟩ : RQ) (d + 1) g2).1
      have hvf := qNN (s := s) (q := (⟨B3.pos + 1, B3.nodes, bd, B3.deep, B3.big⟩ : RQ)) n (d + 1) hhb g2
      rw [show (((d + 1 : Nat) : Int)) = (d : Int) + 1 from by omega] at hvn
      generalize kV s n (⟨B3.pos + 1, B3.nodes, bd, B3.deep, B3.big⟩ : RQ) (d + 1) = A at *
      obtain ⟨a1, v⟩ := A
      simp only at hvn hps hvf ⊢
      have hdm : decide ((200 : Int) < (many : Int) + 1) = decide (200 < many + 1) := by rw [decide_eq_decide]; omega
      have hbp := qQM (s := s) (q := a1) (c := 125) (many := many + 1) (k := n + 1) (by decide) (by omega)
      have hbeh : qCI s 125 (many + 1) a1 = if nxQ s (blQ s ⟨a1.pos, a1.nodes, a1.bad, a1.deep, Bool.or a1.big (decide (200 < many + 1))⟩) = 125 then (true, wM (blQ s ⟨a1.pos, a1.nodes, a1.bad, a1.deep, Bool.or a1.big (decide (200 < many + 1))⟩) 1) else (false, { (blQ s ⟨a1.pos, a1.nodes, a1.bad, a1.deep, Bool.or a1.big (decide (200 < many + 1))⟩) with pos := (blQ s ⟨a1.pos, a1.nodes, a1.bad, a1.deep, Bool.or a1.big (decide (200 < many + 1))⟩).pos + 1, bad := Bool.or (blQ s ⟨a1.pos, a1.nodes, a1.bad, a1.deep, Bool.or a1.big (decide (200 < many + 1))⟩).bad (decide (nxQ s (blQ s ⟨a1.pos, a1.nodes, a1.bad, a1.deep, Bool.or a1.big (decide (200 < many + 1))⟩) ≠ 44)) }) := rfl
      rw [hbeh] at hbp
      rw [hbeh]
      have hbl2 := jZ (G := G) s ⟨a1.pos, a1.nodes, a1.bad, a1.deep, Bool.or a1.big (decide (200 < many + 1))⟩ (by omega) (by simp only; omega)
      have hx1 := qAE (s := s) (q := ⟨a1.pos, a1.nodes, a1.bad, a1.deep, Bool.or a1.big (decide (200 < many + 1))⟩) (k := n + 1) (by simp only; omega)
      have hx2 : (blQ s ⟨a1.pos, a1.nodes, a1.bad, a1.deep, Bool.or a1.big (decide (200 < many + 1))⟩).bad = a1.bad := rfl
      have hx3 : (blQ s ⟨a1.pos, a1.nodes, a1.bad, a1.deep, Bool.or a1.big (decide (200 < many + 1))⟩).nodes = a1.nodes := rfl
      generalize blQ s ⟨a1.pos, a1.nodes, a1.bad, a1.deep, Bool.or a1.big (decide (200 < many + 1))⟩ = B at *
      have hnx2 := qCU (G := G) s B (by omega) (by omega)
      have l44 : (((nxQ s B).toNat : Int) = 44) ↔ nxQ s B = 44 := yR _ 44 (by decide)
      have lC2 : (((nxQ s B).toNat : Int) = 125) ↔ nxQ s B = 125 := yR _ 125 (by decide)
      generalize nxQ s B = c at *
      refine AW.skip ?_
      refine rgn [] [[], [], []] ?_
      iterate 3 refine op1 tok ?_
      refine qX ?_
      refine qC.stepK [0, 2, 3, 5, 8, 9, 10, 69] (yG rfl hvn (by simp)) (by conv => lhs; simp) rfl ?_
      refine qC.run [[], [0, 2, 3, 5, 8, 9, 10, 11]] ?_
      iterate 2 refine op1 tok ?_
      refine qA ?_
      refine rgn [] [[], [], [0, 2, 3, 5, 8, 9, 10, 11]] ?_
      iterate 3 refine op1 tok ?_
      refine qA ?_
      refine rgn [] [[], [], [], [], [], [0, 2, 3, 5, 8, 9, 10, 11, 72, 77], [], [], [], [0, 2, 3, 5, 8, 9, 10, 11, 80, 81], [], [0, 2, 3, 5, 8, 9, 10, 11]] ?_
      iterate 6 refine op1 tok ?_ (h := by intro C; conv => lhs; simp [hdm])
      iterate 2 refine op2 tok ?_ (h := by intro C; conv => lhs; simp [hdm])
      iterate 4 refine op1 tok ?_ (h := by intro C; conv => lhs; simp [hdm])
      refine qA ?_
      refine AW.seq ?_
      refine rgn [] [[], [], [0, 2, 3, 5, 8, 9, 10, 11, 85]] ?_
      iterate 3 refine op1 tok ?_
      refine qA ?_
      refine cnd ?_ ?_
      ·intro h85
       try simp at h85
       refine rgz [] [[], [], []] ?_
       iterate 3 refine op1 tok ?_
       refine qX ?_
       refine qC.stepK [0, 2, 3, 5, 8, 9, 89] (yG rfl (zPT ks vs key v hkl (by omega)) (by simp)) (by conv => lhs; simp) rfl ?_
       refine qC.run [[0, 2, 3, 5, 8, 9]] ?_
       refine op1 tok ?_
       refine qA ?_
       refine rgn [] [[]] ?_
       refine op1 tok ?_
       refine qX ?_
       refine qC.stepK [0, 2, 3, 5, 8, 9] (yG rfl hbl2 (by simp)) (by conv => lhs; simp) rfl ?_
       refine qC.nil ?_
       refine rgn [] [[]] ?_
       refine op1 tok ?_
       refine qX ?_
       refine qC.stepK [0, 2, 3, 5, 8, 9, 99] (yG rfl hnx2 (by simp)) (by conv => lhs; simp) rfl ?_
       refine qC.run [[0, 2, 3, 5, 8, 9, 12]] ?_
       refine op1 tok ?_
       refine qA ?_
       refine rgn [] [[], [], [], [], [], [0, 2, 3, 5, 8, 9, 12, 104, 105], [], [0, 2, 3, 5, 8, 9, 12]] ?_
       iterate 8 refine op1 tok ?_
       refine qA ?_
       refine AW.seq ?_
       refine rgn [] [[], [], [0, 2, 3, 5, 8, 9, 12, 109]] ?_
       iterate 3 refine op1 tok ?_
       refine qA ?_
       refine cnd ?_ ?_
       ·intro h109
        try simp at h109
        rw [if_pos (lC2.1 h109)]
        simp only [if_true]
        refine AW.freeze 3 ?_
        refine AW.freeze 8 ?_
        refine rgn [] [[], [8]] ?_
        iterate 2 refine op1 tok ?_
        refine qA ?_
        exact AW.ret (zU (k := by simp [dc0]))
       ·intro h109
        try simp at h109
        rw [if_neg (fun e => h109 (lC2.2 e))]
        rw [if_neg (fun e => h109 (lC2.2 e))] at hbp
        simp only [Bool.false_eq_true, if_false]
        simp only at hbp
        refine AW.skip ?_
        refine rgn [] [[], [0, 2, 3, 5, 8, 9, 112]] ?_
        iterate 2 refine op1 tok ?_
        refine qA ?_
        refine cnd ?_ ?_
        ·intro h112
         try simp at h112
         have hn4 : c ≠ 44 := fun e => h112 (l44.2 e)
         have hpl3 := hpl2 v
         simp only [decide_eq_true (show c ≠ 44 from hn4), Bool.or_true]
         refine rgz [] [[], [], [], [0, 2, 3, 5, 8, 9]] ?_
         iterate 4 refine op1 tok ?_
         refine qA ?_
         exact ⟨(n, ⟨B.pos + 1, B.nodes, true, B.deep, B.big⟩, many + 1, (kK ks vs key v).1, (kK ks vs key v).2), ⟨rfl, by omega, by omega, fun h => (by cases h), by simp only; omega, by (simp only; omega), (qVV hkl key v).1⟩, by simp only; omega, qB (by simp), rfl, by simp, by simp⟩
        ·intro h112
         try simp at h112
         have hn4 : c = 44 := l44.1 (by omega)
         have hd0 : decide (c ≠ 44) = false := by simp [hn4]
         rw [hd0] at hbp ⊢
         simp only [Bool.or_false] at hbp ⊢
         have hpl3 := hpl2 v
         have hinv : B.bad = false → 2 * (s.length - (B.pos + 1)) + 3 ≤ n ∧ B.pos + 1 ≤ s.length ∧ B.nodes + (s.length - (B.pos + 1)) ≤ 10000000000 ∧ q.pos + 1 ≤ B.pos + 1 := fun h => by
          rw [hx2] at h
          have hvf := hvf h
          have hb1 := hbp.2.1 (by rw [hx2]; exact h)
          have hb2 := hbp.2.2
          omega
         refine AW.skip ?_
         exact ⟨(n, ⟨B.pos + 1, B.nodes, B.bad, B.deep, B.big⟩, many + 1, (kK ks vs key v).1, (kK ks vs key v).2), ⟨rfl, by omega, by omega, hinv, by simp only; omega, by (simp only; omega), (qVV hkl key v).1⟩, by simp only; omega, qB (by simp), rfl, by simp, by simp⟩
      ·intro h85
       try simp at h85
   ·intro h43
    try simp at h43
  ·intro h38
   try simp at h38
   rw [if_pos (show p.bad = true by simpa using h38)]
   refine AW.exit ?_
   simp
   refine AW.freeze 3 ?_
   refine AW.freeze 8 ?_
   refine rgn [] [[], [8]] ?_
   iterate 2 refine op1 tok ?_
   refine qA ?_
   exact AW.ret (zU (k := by simp [dc0]))
end Go.Proofs.YtdojfdaglbphlaaGreatDoor
namespace Go.Proofs.YtdojfdaglbphlaaGreatDoor
open Sy Go
set_option maxRecDepth 100000
set_option maxHeartbeats 4000000
set_option linter.unusedSimpArgs false
set_option linter.unusedVariables false
variable {G : qV}
theorem qNJ {s w : List UInt8} {q : RQ} (h : (qAF s w q).1 = false) : (qAF s w q).2 = q := by
 unfold qAF at h ⊢
 split
 ·rename_i e; rw [if_pos e] at h; cases h
 ·rfl
theorem zTG (c : UInt8) : qEC c = true ↔ ((c.toNat : Int) = 45 ∨ 48 ≤ (c.toNat : Int) ∧ (c.toNat : Int) ≤ 57) := by
 rw [show ((c.toNat : Int) = 45) = (c = 45) from propext (yR c 45 (by decide))]
 unfold qEC
 rw [Bool.or_eq_true, decide_eq_true_eq, zS]
 constructor
 ·rintro (h | h)
  ·exact .inl h
  ·exact .inr (by omega)
 ·rintro (h | h)
  ·exact .inl h
  ·exact .inr (by omega)
theorem qNL (n : Nat) (s : List UInt8) (q : RQ) (d : Nat) (hs : s.length ≤ 100000) (hb0 : q.bad = false) (hp : q.pos ≤ s.length) (hN : 2 * (s.length - q.pos) + 2 ≤ n + 1) (hN2 : n ≤ 1000000) (hk : q.nodes + (s.length - q.pos) ≤ 10000000000) (hd : d + (s.length - q.pos) ≤ 10000000000) (ih : ∀ e, qNF G s n e) (hU : qQU G s) (hNu : qUU G s) : AX Tryz.prog G 131 [.ptr 2 0, .p (.int .i64 d)] [(2, .vars 137 (rqC s q))] (.agg (kV s (n + 1) q d).2.cells) [2] [(2, .vars 137 (rqC s (kV s (n + 1) q d).1))] := by
 refine AX.introU tok 900 Tryz.func131 (by kernel_rfl) rfl rfl ?_
 simp only [Tryz.f131, qI, List.map_cons, List.map_nil]
 rw [qKE]
 have hbl := jZ (G := G) s q (by omega) (by omega)
 have hx := qAE (s := s) (q := q) (k := 0) (by omega)
 have hx2 := qLG s q
 have hxn : (blQ s q).nodes = q.nodes := rfl
 have hxb : (blQ s q).bad = q.bad := rfl
 have e1 : (blQ s q).pos = (zN s q d).pos := rfl
 have e2 : ((blQ s q).nodes : Int) + 1 = ((zN s q d).nodes : Int) := by show ((blQ s q).nodes : Int) + 1 = (((blQ s q).nodes + 1 : Nat) : Int); omega
 have e3 : (blQ s q).bad = (zN s q d).bad := rfl
 have e4 : ((blQ s q).deep || decide ((12 : Int) < (d : Int))) = (zN s q d).deep := by
  rw [show decide ((12 : Int) < (d : Int)) = decide (12 < d) by rw [decide_eq_decide]; omega]; rfl
 have e5 : ((blQ s q).big || decide ((400 : Int) < ((zN s q d).nodes : Int))) = (zN s q d).big := by
  rw [show decide ((400 : Int) < ((zN s q d).nodes : Int)) = decide (400 < (zN s q d).nodes) by rw [decide_eq_decide]; omega]; rfl
 have e6 : (zN s q d).nodes = q.nodes + 1 := rfl
 have e7 : (zN s q d).bad = q.bad := rfl
 generalize zN s q d = E at *
 generalize blQ s q = Q at *
 have hnx := qCU (G := G) s E (by omega) (by omega)
 have hnl := qOS (s := s) (q := E)
 have hw := fun w hw => zKE (G := G) s E w (by omega) (by omega) hw
 have l34 : (((nxQ s E).toNat : Int) = 34) ↔ nxQ s E = 34 := yR _ 34 (by decide)
 have l91 : (((nxQ s E).toNat : Int) = 91) ↔ nxQ s E = 91 := yR _ 91 (by decide)
 have l123 : (((nxQ s E).toNat : Int) = 123) ↔ nxQ s E = 123 := yR _ 123 (by decide)
 have lnum := zTG (nxQ s E)
 generalize nxQ s E = c at *
 refine rgn [] [[]] ?_
 refine op1 tok ?_
 refine qA ?_
 refine rgn [] [[]] ?_
 refine op1 tok ?_
 refine qX ?_
 refine qC.stepK [0, 1, 4] (yG rfl hbl (by simp)) (by conv => lhs; simp) rfl ?_
 refine qC.nil ?_
 refine rgn [] [[], [], [], [], [], [0, 1, 4, 12, 13], [], [0, 1, 4]] ?_
 iterate 8 refine op1 tok ?_ (h := by intro C; conv => lhs; simp [e1, e2, e3])
 refine qA ?_
 refine rgn [] [[], [], [], [], [], [0, 1, 4, 15, 20], [], [], [], [0, 1, 4, 23, 24], [], [0, 1, 4]] ?_
 iterate 6 refine op1 tok ?_ (h := by intro C; conv => lhs; simp [e4])
 iterate 2 refine op2 tok ?_ (h := by intro C; conv => lhs; simp [e4])
 iterate 4 refine op1 tok ?_ (h := by intro C; conv => lhs; simp [e4])
 refine qA ?_
 refine rgn [] [[], [], [], [], [], [0, 1, 4, 26, 31], [], [], [], [], [0, 1, 4, 26, 31, 36], [], [], [0, 1, 4, 37, 39], [0, 1, 4]] ?_
 iterate 6 refine op1 tok ?_ (h := by intro C; conv => lhs; simp [e5])
 iterate 5 refine op2 tok ?_ (h := by intro C; conv => lhs; simp [e5])
 iterate 4 refine op1 tok ?_ (h := by intro C; conv => lhs; simp [e5])
 refine qA ?_
 refine rgn [] [[]] ?_
 refine op1 tok ?_
 refine qX ?_
 refine qC.stepK [0, 1, 4, 41] (yG rfl hnx (by simp [e1, e3])) (by conv => lhs; simp) rfl ?_
 refine qC.run [[0, 1, 4, 5]] ?_
 refine op1 tok ?_
 refine qA ?_
 refine AW.seq ?_
 refine AW.block ?_
 refine rgn [] [[], [], [0, 1, 4, 5, 42]] ?_
 iterate 3 refine op1 tok ?_
 refine qA ?_
 refine cnd ?_ ?_
 ·intro h42
  try simp at h42
  rw [if_pos (l34.1 h42)]
  refine rgn [] [[]] ?_
  refine op1 tok ?_
  refine qX ?_
  refine qC.stepK [4, 46] (yG rfl (qOM s E (by omega) (by omega) hU) (by simp)) (by conv => lhs; simp) rfl ?_
  refine qC.run [[], [4]] ?_
  iterate 2 refine op1 tok ?_
  refine qA ?_
  refine AW.fillE 904 [none, none, none, none, none, none, some 1, some 9, none] (by conv => lhs; simp) ?_
  exact AW.ret (zU (k := by simp [dc0]))
 ·intro h42
  try simp at h42
  rw [if_neg (fun e => h42 (l34.2 e))]
  refine rgn [] [[], [], [0, 1, 4, 5, 48]] ?_
  iterate 3 refine op1 tok ?_
  refine qA ?_
  refine cnd ?_ ?_
  ·intro h48
   try simp at h48
   have hc := l91.1 h48
   rw [if_pos hc]
   have hl := hnl (by rw [hc]; decide)
   refine rgn [] [[], [], []] ?_
   iterate 3 refine op1 tok ?_
   refine qX ?_
   refine qC.stepK [4, 54] (yG rfl (zMR n s E d (by omega) hl (by rw [e7]; exact hb0) (by omega) (by omega) (by omega) (by omega) (ih _)) (by simp)) (by conv => lhs; simp) rfl ?_
   refine qC.run [[4]] ?_
   refine op1 tok ?_
   refine qA ?_
   exact AW.ret (zU (k := by simp [dc0]))
  ·intro h48
   try simp at h48
   rw [if_neg (fun e => h48 (l91.2 e))]
   refine rgn [] [[], [], [0, 1, 4, 5, 55]] ?_
   iterate 3 refine op1 tok ?_
   refine qA ?_
   refine cnd ?_ ?_
   ·intro h55
    try simp at h55
    have hc := l123.1 h55
    rw [if_pos hc]
    have hl := hnl (by rw [hc]; decide)
    refine rgn [] [[], [], []] ?_
    iterate 3 refine op1 tok ?_
    refine qX ?_
    refine qC.stepK [4, 61] (yG rfl (zMQ n s E d (by omega) hl (by rw [e7]; exact hb0) (by omega) (by omega) (by omega) (by omega) (ih _) hU) (by simp)) (by conv => lhs; simp) rfl ?_
    refine qC.run [[4]] ?_
    refine op1 tok ?_
    refine qA ?_
    exact AW.ret (zU (k := by simp [dc0]))
   ·intro h55
    try simp at h55
    rw [if_neg (fun e => h55 (l123.2 e))]
    refine rgn [] [[], [], [], [], [], [0, 4, 5, 65, 68], [], [], [0, 4, 65, 71], [], [0, 4, 62]] ?_
    iterate 3 refine op1 tok ?_
    iterate 6 refine op2 tok ?_
    iterate 2 refine op1 tok ?_
    refine qA ?_
    refine cnd ?_ ?_
    ·intro h62
     try simp at h62
     rw [if_pos (lnum.2 h62)]
     refine rgn [] [[]] ?_
     refine op1 tok ?_
     refine qX ?_
     refine qC.stepK [4, 74] (yG rfl (zDB s E (by omega) (by omega) hNu) (by simp)) (by conv => lhs; simp) rfl ?_
     refine qC.run [[4]] ?_
     refine op1 tok ?_
     refine qA ?_
     exact AW.ret (zU (k := by simp [dc0]))
    ·intro h62
     try simp at h62
     rw [if_neg (fun e => by have := lnum.1 e; omega)]
     unfold qDP
     refine rgn [] [[]] ?_
     refine op1 tok ?_
     refine qX ?_
     refine qC.stepK [0, 4, 77] (yG rfl (hw qAU (by decide)) (by simp [qAU])) (by conv => lhs; simp) rfl ?_
     refine qC.run [[0, 4, 75]] ?_
     refine op1 tok ?_
     refine qA ?_
     refine cnd ?_ ?_
     ·intro h75
      try simp at h75
      rw [if_pos h75]
      refine rgn [] [[], [4]] ?_
      iterate 2 refine op1 tok ?_
      refine qA ?_
      refine AW.fillE 904 [none, none, none, none, none, none, some 1, some 9, none] (by conv => lhs; simp) ?_
      exact AW.ret (zU (k := by simp [dc0]))
     ·intro h75
      try simp at h75
      rw [if_neg (by rw [h75]; simp)]
      have hno := qNJ h75
      simp only [hno]
      refine rgn [] [[]] ?_
      refine op1 tok ?_
      refine qX ?_
      refine qC.stepK [0, 4, 81] (yG rfl (hw qAT (by decide)) (by simp [qAT])) (by conv => lhs; simp) rfl ?_
      refine qC.run [[0, 4, 79]] ?_
      refine op1 tok ?_
      refine qA ?_
      refine cnd ?_ ?_
      ·intro h79
       try simp at h79
       rw [if_pos h79]
       refine rgn [] [[], [4]] ?_
       iterate 2 refine op1 tok ?_
       refine qA ?_
       refine AW.fillE 904 [none, none, none, none, none, none, some 1, some 9, none] (by conv => lhs; simp) ?_
       exact AW.ret (zU (k := by simp [dc0]))
      ·intro h79
       try simp at h79
       rw [if_neg (by rw [h79]; simp)]
       have hno2 := qNJ h79
       simp only [hno2]
       refine rgn [] [[]] ?_
       refine op1 tok ?_
       refine qX ?_
       refine qC.stepK [0, 4, 85] (yG rfl (hw xT (by decide)) (by simp [xT])) (by conv => lhs; simp) rfl ?_
       refine qC.run [[0, 4, 83]] ?_
       refine op1 tok ?_
       refine qA ?_
       refine cnd ?_ ?_
       ·intro h83
        try simp at h83
        rw [if_pos h83]
        refine rgn [] [[], [4]] ?_
        iterate 2 refine op1 tok ?_
        refine qA ?_
        refine AW.fillE 904 [none, none, none, none, none, none, some 1, some 9, none] (by conv => lhs; simp) ?_
        exact AW.ret (zU (k := by simp [dc0]))
       ·intro h83
        try simp at h83
        rw [if_neg (by rw [h83]; simp)]
        have hno3 := qNJ h83
        simp only [hno3]
        refine AW.skip ?_
        refine rgn [] [[], [], [], [4]] ?_
        iterate 4 refine op1 tok ?_
        refine qA ?_
        refine rgn [] [[], [4]] ?_
        iterate 2 refine op1 tok ?_
        refine qA ?_
        refine AW.fillE 904 [none, none, none, none, none, none, some 1, some 9, none] (by conv => lhs; simp) ?_
        exact AW.ret (zU (k := by simp [wU, dc0]))
theorem qHL {s : List UInt8} (hs : s.length ≤ 100000) (hU : qQU G s) (hNu : qUU G s) : ∀ N d, N ≤ 1000001 → qNF G s N d
 | 0, d, _ => fun m q h => absurd h (by omega)
 | N + 1, d, hN => fun m q hm h1 h2 h3 h4 h5 => by
  by_cases h : m < N
  ·exact qHL hs hU hNu N d (by omega) m q h h1 h2 h3 h4 h5
  ·obtain rfl : m = N := by omega
   obtain ⟨n, rfl⟩ : ∃ n, m = n + 1 := ⟨m - 1, by omega⟩
   exact qNL n s q d hs h1 h2 h3 (by omega) h4 h5 (fun e k t hk => qHL hs hU hNu (n + 1) e (by omega) k t (by omega)) hU hNu
theorem zLZ (s : List UInt8) (hs : s.length ≤ 100000) (hU : qQU G s) (hNu : qUU G s) : AFn Tryz.prog G 68 [.str s] (.tup [(qRF s).1.enc, .int .i64 (qRF s).2.1, .int .i64 (qRF s).2.2]) := by
 refine AFn.introU tok Tryz.func68 (by kernel_rfl) rfl rfl ?_
 simp only [Tryz.f68, qI, List.map_cons, List.map_nil]
 have hv := qHL (G := G) hs hU hNu (2 * s.length + 3) 1 (by omega) (2 * s.length + 2) ⟨0, 0, false, false, false⟩ (by omega) rfl (by simp) (by simp) (by simp only; omega) (by simp only; omega)
 have hM : qRF s = if (kV s (2 * s.length + 2) ⟨0, 0, false, false, false⟩ 1).1.bad = true then (wU, 0, 10) else if (kV s (2 * s.length + 2) ⟨0, 0, false, false, false⟩ 1).1.deep = true then (wU, 0, 11) else if (kV s (2 * s.length + 2) ⟨0, 0, false, false, false⟩ 1).1.big = true then (wU, 0, 3) else ((kV s (2 * s.length + 2) ⟨0, 0, false, false, false⟩ 1).2, ((kV s (2 * s.length + 2) ⟨0, 0, false, false, false⟩ 1).1.pos : Int), 0) := rfl
 rw [hM]
 generalize kV s (2 * s.length + 2) ⟨0, 0, false, false, false⟩ 1 = r at *
 obtain ⟨⟨ps, nn, b, dp, bg⟩, v⟩ := r
 simp only at hv ⊢
 refine rgn [] [[], [], [0, 2]] ?_
 iterate 3 refine op1 tok ?_
 refine qA ?_
 refine rgn [] [[], [], [], [2, 5]] ?_
 iterate 4 refine op1 tok ?_
 refine qA ?_
 refine AW.renE 2 50 (by simp) (by conv => lhs; simp) ?_
 refine AW.renE 9 2 (by simp) (by conv => lhs; simp) ?_
 refine rgn [] [[]] ?_
 refine op1 tok ?_
 refine qX ?_
 refine qC.stepK [2, 5, 11] (yG rfl hv (by simp)) (by conv => lhs; simp) rfl ?_
 refine qC.run [[], [2, 5, 6]] ?_
 iterate 2 refine op1 tok ?_
 refine qA ?_
 refine AW.seq ?_
 refine rgn [] [[], [], [], [2, 5, 6, 15]] ?_
 iterate 4 refine op1 tok ?_
 refine qA ?_
 refine cnd ?_ ?_
 ·intro h15
  try simp at h15
  subst h15
  rw [if_pos rfl]
  refine rgn [] [[], [], [], [2, 3, 4]] ?_
  iterate 4 refine op1 tok ?_
  refine qA ?_
  exact AW.ret (qJ (k := by simp [wU, dc0]))
 ·intro h15
  try simp at h15
  rw [if_neg (by rw [h15]; simp)]
  refine AW.skip ?_
  refine AW.seq ?_
  refine rgn [] [[], [], [], [2, 5, 6, 20]] ?_
  iterate 4 refine op1 tok ?_
  refine qA ?_
  refine cnd ?_ ?_
  ·intro h20
   try simp at h20
   subst h20
   rw [if_pos rfl]
   refine rgn [] [[], [], [], [2, 3, 4]] ?_
   iterate 4 refine op1 tok ?_
   refine qA ?_
   exact AW.ret (qJ (k := by simp [wU, dc0]))
  ·intro h20
   try simp at h20
   rw [if_neg (by rw [h20]; simp)]
   refine AW.skip ?_
   refine AW.seq ?_
   refine rgn [] [[], [], [], [2, 5, 6, 25]] ?_
   iterate 4 refine op1 tok ?_
   refine qA ?_
   refine cnd ?_ ?_
   ·intro h25
    try simp at h25
    subst h25
    rw [if_pos rfl]
    refine rgn [] [[], [], [], [2, 3, 4]] ?_
    iterate 4 refine op1 tok ?_
    refine qA ?_
    exact AW.ret (qJ (k := by simp [wU, dc0]))
   ·intro h25
    try simp at h25
    rw [if_neg (by rw [h25]; simp)]
    refine AW.skip ?_
    refine AW.seqDrawS tok mixed 6 [[6], [5], [28], [29], [30], [2, 27]] [] [] (by kernel_rfl) ?_
    iterate 6 refine d1 ?_
    refine DGo.nil (by kernel_rfl) ⟨by kernel_rfl, ?_⟩
    refine qC.run [[], [2, 3, 4]] ?_
    iterate 2 refine op1 tok ?_
    refine qA ?_
    exact AW.ret qJ
def qHH (c : Int) : List UInt8 := if c < 10 then [UInt8.ofNat (48 + c.toNat)] else [UInt8.ofNat (48 + c.toNat / 10), UInt8.ofNat (48 + c.toNat % 10)]
def qIE : List (List UInt8) → List (List UInt8) → List (List UInt8) := List.zipWith fun k p => kZ k ++ [58] ++ p
mutual
def zM : Val → List UInt8
 | .mk k _ n t ks vs c => if k = 1 then qAU else if k = 2 then xT else if k = 3 then qAT else if k = 4 then qEM n else if k = 5 then kZ t else if k = 8 then 33 :: qHH c else if k = 7 then [123] ++ Lib.join (qIE ks (qGO vs)) [44] ++ [125] else [91] ++ Lib.join (qGO vs) [44] ++ [93]
def qGO : List Val → List (List UInt8)
 | [] => []
 | v :: vs => zM v :: qGO vs
end
theorem qLU : ∀ l, qGO l = l.map zM
 | [] => by simp only [qGO, List.map_nil]
 | v :: vs => by simp only [qGO, List.map_cons, qLU vs]
theorem xB (v : Val) : zM v = if v.kind = 1 then qAU else if v.kind = 2 then xT else if v.kind = 3 then qAT else if v.kind = 4 then qEM v.num else if v.kind = 5 then kZ v.text else if v.kind = 8 then 33 :: qHH v.code else if v.kind = 7 then [123] ++ Lib.join (qIE v.keys (v.kids.map zM)) [44] ++ [125] else [91] ++ Lib.join (v.kids.map zM) [44] ++ [93] := by
 cases v; rw [zM, qLU]; rfl
theorem qEB (x y : List UInt8) (r : List (List UInt8)) (sep : List UInt8) : Lib.join (x :: y :: r) sep = x ++ sep ++ Lib.join (y :: r) sep := by
 simp [Lib.join, List.intercalate, List.intersperse]
theorem zNH {ks ps : List (List UInt8)} {i : Nat} {k p : List UInt8} (h1 : ks[i]? = some k) (h2 : ps[i]? = some p) : (qIE ks ps)[i]? = some (kZ k ++ [58] ++ p) := by
 simp [qIE, List.getElem?_zipWith, h1, h2]
def qQV (G : qV) (c : Int) : Prop := AFn Tryz.prog G 71 [.int .i64 c] (.str (qHH c)) ∧ 0 ≤ c ∧ c ≤ 99
inductive Prn (G : qV) : Val → Prop
 | mk {v : Val} (h8 : v.kind = 8 → qQV G v.code) (h4 : v.kind = 4 → zZ v.num = true) (h5 : v.kind = 5 → Lib.validD v.text = true ∧ v.text.length ≤ 1000000000) (h7 : v.kind = 7 → v.keys.length = v.kids.length ∧ ∀ key ∈ v.keys, Lib.validD key = true ∧ key.length ≤ 1000000000)
   (hn : v.kids.length ≤ 1000000) (hb : (zM v).length ≤ 1000000000) (ih : ∀ k ∈ v.kids, Prn G k) : Prn G v
theorem zXP (b : UInt8) : (qb b).length ≤ 6 := by
 unfold qb; (repeat' split) <;> simp
theorem qYW (s : List UInt8) : (kZ s).length ≤ 6 * s.length + 2 := by
 have : ∀ s : List UInt8, (uR s).length ≤ 6 * s.length := by
  intro s
  induction s with
  | nil => simp [uR]
  | cons b s ih =>
   have h := zXP b
   show (qb b ++ uR s).length ≤ _
   rw [List.length_append, List.length_cons]; omega
 have := this s
 unfold kZ
 simp; omega
theorem qWJ : ∀ l : List (List UInt8), (Lib.join l [44]).length ≤ (l.map List.length).sum + l.length
 | [] => by simp [Lib.join, List.intercalate]
 | [x] => by rw [Lib.join_one]; simp
 | x :: y :: r => by
  rw [qEB]
  have := qWJ (y :: r)
  simp only [List.length_append, List.map_cons, List.sum_cons, List.length_cons, List.length_nil] at this ⊢
  omega
theorem zIA {d : Dc} (h : zZ d = true) : (qEM d).length ≤ 130 := by
 have hb := qUA h
 unfold qEM qCT wD
 split <;> split <;> simp <;> omega
mutual
def zCX : Val → Bool
 | .mk k _ _ _ _ vs _ => decide (k = 8) || zLQ vs
def zLQ : List Val → Bool
 | [] => false
 | v :: vs => zCX v || zLQ vs
end
theorem qZB : ∀ l, zLQ l = l.any zCX
 | [] => by simp [zLQ]
 | v :: vs => by simp [zLQ, qZB vs]
theorem zFL (v : Val) : zCX v = (decide (v.kind = 8) || v.kids.any zCX) := by
 cases v; simp only [zCX, qZB, Val.kids, Val.kind]; rfl
theorem qCX {v : Val} (h : qQ v = true) (hc : v.kind ≠ 8) : v.code = 0 ∧ v.kids.length ≤ 200 ∧
  ((v.kind = 1 ∧ v.num = dc0 ∧ v.text = [] ∧ v.keys = [] ∧ v.kids = []) ∨ (v.kind = 2 ∧ v.num = dc0 ∧ v.text = [] ∧ v.keys = [] ∧ v.kids = []) ∨ (v.kind = 3 ∧ v.num = dc0 ∧ v.text = [] ∧ v.keys = [] ∧ v.kids = []) ∨
   (v.kind = 4 ∧ zZ v.num = true ∧ v.text = [] ∧ v.keys = [] ∧ v.kids = []) ∨ (v.kind = 5 ∧ v.num = dc0 ∧ kB v.text = true ∧ v.keys = [] ∧ v.kids = []) ∨
   (v.kind = 6 ∧ v.num = dc0 ∧ v.text = [] ∧ v.keys = []) ∨ (v.kind = 7 ∧ v.num = dc0 ∧ v.text = [] ∧ v.keys.length = v.kids.length ∧ kX v.keys = true)) := by
 rw [yV] at h
 simp only [Bool.and_eq_true, yY, jA, decide_eq_true_eq] at h
 obtain ⟨⟨⟨b1, b2, b3⟩, ⟨⟨⟨⟨c1, c2⟩, c3⟩, c4⟩, c5⟩⟩, _⟩ := h
 have hcode : v.code = 0 := by
  unfold qHJ at c1
  simp [hc] at c1
  exact c1
 refine ⟨hcode, b3, ?_⟩
 unfold qEU at c2
 unfold uB at c3
 unfold jC at c4
 unfold qEP at c5
 have hnum : v.kind ≠ 4 → v.num = dc0 := fun h4 => by
  rw [if_neg h4] at c2
  simp only [decide_eq_true_eq] at c2
  exact Dc.ext' c2.1 c2.2.1 c2.2.2
 have htxt : v.kind ≠ 5 → v.text = [] := fun h4 => by rw [if_neg h4] at c3; simpa using c3
 have hkey : v.kind ≠ 7 → v.keys = [] := fun h4 => by rw [if_neg h4] at c4; simpa using c4
 have hkid : v.kind ≠ 6 → v.kind ≠ 7 → v.kids = [] := fun h6 h7 => by simpa [h6, h7] using c5
 have hk : v.kind = 1 ∨ v.kind = 2 ∨ v.kind = 3 ∨ v.kind = 4 ∨ v.kind = 5 ∨ v.kind = 6 ∨ v.kind = 7 := by omega
 rcases hk with k | k | k | k | k | k | k
 ·exact .inl ⟨k, hnum (by omega), htxt (by omega), hkey (by omega), hkid (by omega) (by omega)⟩
 ·exact .inr (.inl ⟨k, hnum (by omega), htxt (by omega), hkey (by omega), hkid (by omega) (by omega)⟩)
 ·exact .inr (.inr (.inl ⟨k, hnum (by omega), htxt (by omega), hkey (by omega), hkid (by omega) (by omega)⟩))
 ·rw [if_pos k] at c2
  exact .inr (.inr (.inr (.inl ⟨k, c2, htxt (by omega), hkey (by omega), hkid (by omega) (by omega)⟩)))
 ·rw [if_pos k] at c3
  exact .inr (.inr (.inr (.inr (.inl ⟨k, hnum (by omega), c3, hkey (by omega), hkid (by omega) (by omega)⟩))))
 ·exact .inr (.inr (.inr (.inr (.inr (.inl ⟨k, hnum (by omega), htxt (by omega), hkey (by omega)⟩)))))
 ·rw [if_pos k] at c4
  simp only [Bool.and_eq_true, decide_eq_true_eq] at c4
  exact .inr (.inr (.inr (.inr (.inr (.inr ⟨k, hnum (by omega), htxt (by omega), by omega, c4.2⟩)))))
def RB (v : Val) : Prop := ∀ (n : Nat) (ws : List UInt8) (st : RS) (d : Nat) (rest : List UInt8), st.left = ws ++ (zM v ++ rest) → ws.all qPN = true → st.bad = false → (∀ b, rest.head? = some b → yS b = false) → 2 * (zM v).length ≤ n →
  kG n st d = (⟨rest, st.nodes + Val.sz v, false, st.deep || decide (12 < d + zXY v - 1), st.big || decide (400 < st.nodes + Val.sz v)⟩, qK v)
theorem zNG (key : List UInt8) (keys : List (List UInt8)) (p : List UInt8) (ps : List (List UInt8)) : qIE (key :: keys) (p :: ps) = (kZ key ++ [58] ++ p) :: qIE keys ps := rfl
theorem zSZ {v : Val} (k : v.kind = 1) : zM v = qAU := by rw [xB, if_pos k]
theorem zSY {v : Val} (k : v.kind = 2) : zM v = xT := by rw [xB, if_neg (by omega), if_pos k]
theorem zSX {v : Val} (k : v.kind = 3) : zM v = qAT := by rw [xB, if_neg (by omega), if_neg (by omega), if_pos k]
theorem zSW {v : Val} (k : v.kind = 4) : zM v = qEM v.num := by rw [xB, if_neg (by omega), if_neg (by omega), if_neg (by omega), if_pos k]
theorem zSV {v : Val} (k : v.kind = 5) : zM v = kZ v.text := by rw [xB, if_neg (by omega), if_neg (by omega), if_neg (by omega), if_neg (by omega), if_pos k]
theorem zSS {v : Val} (k : v.kind = 8) : zM v = 33 :: qHH v.code := by rw [xB, if_neg (by omega), if_neg (by omega), if_neg (by omega), if_neg (by omega), if_neg (by omega), if_pos k]
theorem zST {v : Val} (k : v.kind = 7) : zM v = [123] ++ Lib.join (qIE v.keys (v.kids.map zM)) [44] ++ [125] := by rw [xB, if_neg (by omega), if_neg (by omega), if_neg (by omega), if_neg (by omega), if_neg (by omega), if_neg (by omega), if_pos k]
theorem zSU {v : Val} (k : v.kind = 6) : zM v = [91] ++ Lib.join (v.kids.map zM) [44] ++ [93] := by rw [xB, if_neg (by omega), if_neg (by omega), if_neg (by omega), if_neg (by omega), if_neg (by omega), if_neg (by omega), if_neg (by omega)]
theorem qCK {s : List UInt8} (h : kB s = true) : Lib.validD s = true ∧ s.length ≤ 4096 := by
 unfold kB at h; simp only [Bool.and_eq_true, decide_eq_true_eq] at h; exact ⟨h.2, by omega⟩
theorem qVG (l : List Val) (h : ∀ k ∈ l, (zM k).length + 25000 ≤ 50000 * Val.sz k) : ((l.map zM).map List.length).sum + 25000 * l.length ≤ 50000 * Val.szL l := by
 induction l with
 | nil => simp
 | cons v l ih =>
  have h1 := h v (by simp)
  have h2 := ih fun k hk => h k (by simp [hk])
  simp only [List.map_cons, List.sum_cons, List.length_cons, Val.szL]; omega
theorem zGB : ∀ (l : List Val) (keys : List (List UInt8)), (∀ k ∈ keys, kB k = true) → (∀ k ∈ l, (zM k).length + 25000 ≤ 50000 * Val.sz k) → ((qIE keys (l.map zM)).map List.length).sum + (qIE keys (l.map zM)).length ≤ 50000 * Val.szL l
 | [], keys, _, _ => by cases keys <;> simp [qIE]
 | v :: l, [], _, _ => by simp [qIE]
 | v :: l, key :: keys, hk, h => by
  have h1 := h v (by simp)
  have h2 := zGB l keys (fun k hk' => hk k (by simp [hk'])) fun k hk => h k (by simp [hk])
  have h3 := qYW key
  have h4 := (qCK (hk key (by simp))).2
  rw [List.map_cons, zNG]
  simp only [List.map_cons, List.sum_cons, List.length_cons, Val.szL, List.length_append, List.length_nil]; omega
theorem zHZ (v : Val) : qQ v = true → (zM v).length + 25000 ≤ 50000 * Val.sz v := by
 induction v using Val.induct with
 | h v ih =>
  intro hm
  rw [zEZ]
  have ihk : ∀ k ∈ v.kids, (zM k).length + 25000 ≤ 50000 * Val.sz k := fun k hk => ih k hk (wJ hm hk)
  by_cases h8 : v.kind = 8
  ·rw [zSS h8]
   have : (qHH v.code).length ≤ 2 := by unfold qHH; split <;> simp
   simp; omega
  ·obtain ⟨_, _, hc⟩ := qCX hm h8
   rcases hc with ⟨k, _⟩ | ⟨k, _⟩ | ⟨k, _⟩ | ⟨k, h1, _⟩ | ⟨k, _, h2, _⟩ | ⟨k, h1, h2, h3⟩ | ⟨k, h1, h2, h3, h4⟩
   ·rw [zSZ k]; simp [qAU]; omega
   ·rw [zSY k]; simp [xT]; omega
   ·rw [zSX k]; simp [qAT]; omega
   ·rw [zSW k]; have := zIA h1; omega
   ·rw [zSV k]; have := qYW v.text; have := (qCK h2).2; omega
   ·rw [zSU k]
    have := qVG v.kids ihk
    have := qWJ (v.kids.map zM)
    simp only [List.length_append, List.length_cons, List.length_nil, List.length_map] at this ⊢
    omega
   ·rw [zST k]
    unfold kX at h4
    simp only [Bool.and_eq_true, List.all_eq_true] at h4
    have := zGB v.kids v.keys h4.1 ihk
    have := qWJ (qIE v.keys (v.kids.map zM))
    simp only [List.length_append, List.length_cons, List.length_nil] at this ⊢
    omega
mutual
def qAN (c : Int) : Val → Prop
 | .mk k _ _ _ _ vs e => (k = 8 → e = c) ∧ qBH c vs
def qBH (c : Int) : List Val → Prop
 | [] => True
 | v :: vs => qAN c v ∧ qBH c vs
end
theorem qJW (c : Int) : ∀ l, qBH c l ↔ ∀ v ∈ l, qAN c v
 | [] => by simp [qBH]
 | v :: vs => by simp [qBH, qJW c vs]
theorem zAZ (c : Int) (v : Val) : qAN c v ↔ (v.kind = 8 → v.code = c) ∧ ∀ k ∈ v.kids, qAN c k := by cases v; simp only [qAN, qJW, Val.kind, Val.kids, Val.code]
theorem zLP {c : Int} (v : Val) : qQ v = true → Val.sz v ≤ 10000 → qAN c v → (zCX v = true → qQV G c) → Prn G v := by
 induction v using Val.induct with
 | h v ih =>
  intro hm hs hc hI
  have hl := zHZ v hm
  have hc' := (zAZ c v).1 hc
  have hk1 : ∀ k ∈ v.kids, Prn G k := fun k hk => ih k hk (wJ hm hk) (by have := Val.sz_kid hk; omega) (hc'.2 k hk) fun hp => hI (by
   rw [zFL]; simp only [Bool.or_eq_true, List.any_eq_true]; exact .inr ⟨k, hk, hp⟩)
  by_cases h8 : v.kind = 8
  ·have hcode := hc'.1 h8
   refine .mk (fun _ => by rw [hcode]; exact hI (by rw [zFL]; simp [h8])) (fun h => by omega) (fun h => by omega) (fun h => by omega) ?_ (by omega) hk1
   exact qPI (by omega)
  ·obtain ⟨_, hkl, hcs⟩ := qCX hm h8
   refine .mk (fun h => absurd h h8) (fun h => jL hm h) (fun h => ?_) (fun h => ?_) (by omega) (by omega) hk1
   ·rcases hcs with ⟨k, _⟩ | ⟨k, _⟩ | ⟨k, _⟩ | ⟨k, h1, _⟩ | ⟨k, _, h2, _⟩ | ⟨k, h1, h2, h3⟩ | ⟨k, h1, h2, h3, h4⟩
    ·omega
    ·omega
    ·omega
    ·omega
    ·exact ⟨(qCK h2).1, by have := (qCK h2).2; omega⟩
    ·omega
    ·omega
   ·rcases hcs with ⟨k, _⟩ | ⟨k, _⟩ | ⟨k, _⟩ | ⟨k, h1, _⟩ | ⟨k, _, h2, _⟩ | ⟨k, h1, h2, h3⟩ | ⟨k, h1, h2, h3, h4⟩
    ·omega
    ·omega
    ·omega
    ·omega
    ·omega
    ·omega
    ·unfold kX at h4
     simp only [Bool.and_eq_true, List.all_eq_true] at h4
     exact ⟨h3, fun key hk => ⟨(qCK (h4.1 key hk)).1, by have := (qCK (h4.1 key hk)).2; omega⟩⟩
theorem qGI (b : UInt8) (n : Nat) (hn : n < 256) : ((b.toNat : Int) = (n : Int)) ↔ b = UInt8.ofNat n := by
 constructor
 ·intro e; exact UInt8.toNat_inj.1 (by rw [UInt8.toNat_ofNat']; omega)
 ·rintro rfl; rw [UInt8.toNat_ofNat']; omega
def zRR : List UInt8 := [48, 49, 50, 51, 52, 53, 54, 55, 56, 57, 97, 98, 99, 100, 101, 102]
theorem qTR {k : Nat} (h : k < 16) : zRR[k]? = some (qRI k) := by
 have h' : ∀ k : Fin 16, zRR[k.val]? = some (qRI k.val) := by decide
 exact h' ⟨k, h⟩
theorem qYY {s : List UInt8} {k : Nat} {b : UInt8} (h : s[k]? = some b) : uR (s.take (k + 1)) = uR (s.take k) ++ qb b := by
 rw [List.take_add_one, h, qVU]; simp [uR]
theorem qOP (s : List UInt8) : (uR s).length ≤ 6 * s.length := by
 induction s with
 | nil => simp [uR]
 | cons b s ih =>
  have h : (qb b).length ≤ 6 := by unfold qb; (repeat' split) <;> simp
  show (qb b ++ uR s).length ≤ _
  rw [List.length_append, List.length_cons]; omega
theorem qUT (s : List UInt8) (hs : s.length ≤ 1000000000) : AFn Tryz.prog G 70 [.str s] (.str (kZ s)) := by
 refine AFn.introU tok Tryz.func70 (by kernel_rfl) rfl rfl ?_
 simp only [Tryz.f70, qI, List.map_cons, List.map_nil]
 refine rgn [] [[0]] ?_
 refine op1 tok ?_
 refine qA ?_
 refine rgn [.int .u8 34] [[], [0, 3]] ?_
 iterate 2 refine op1 tok ?_
 refine qA ?_
 refine AW.seq ?_
 refine rgn [] [[]] ?_
 refine op1 tok ?_
 refine qA ?_
 refine AW.block ?_
 refine AW.loop (α := Nat) (fun k => k ≤ s.length) (fun k => ⟨qY 69 [(0, .p (.str s)), (3, .ms 6), (4, .p (.int .i64 k))], [], [(6, .row 5 1 (qR (34 :: uR (s.take k))))], 0⟩) (fun k => s.length - k) (0) (by omega) ⟨qB (by simp), rfl, by simp [qR, uR], by simp⟩ ?_
 rintro k hk
 have hq6 := qOP (s.take k)
 have htk : (s.take k).length ≤ k := by simp; omega
 refine AW.seq ?_
 refine rgn [] [[], [], [], [0, 3, 4, 10]] ?_
 iterate 4 refine op1 tok ?_
 refine qA ?_
 refine cnd ?_ ?_
 ·intro h10
  try simp at h10
  obtain ⟨b, hb⟩ : ∃ b, s[k]? = some b := ⟨s[k], by simp [h10]⟩
  have hsn := qYY hb
  have l34 : ((b.toNat : Int) = 34) ↔ b = 34 := qGI b 34 (by decide)
  have l92 : ((b.toNat : Int) = 92) ↔ b = 92 := qGI b 92 (by decide)
  have l10 : ((b.toNat : Int) = 10) ↔ b = 10 := qGI b 10 (by decide)
  have l13 : ((b.toNat : Int) = 13) ↔ b = 13 := qGI b 13 (by decide)
  have l9 : ((b.toNat : Int) = 9) ↔ b = 9 := qGI b 9 (by decide)
  have l127 : ((b.toNat : Int) = 127) ↔ b = 127 := qGI b 127 (by decide)
  have l32 : (b.toNat : Int) < 32 ↔ b < 32 := by rw [UInt8.lt_iff_toNat_lt]; show (b.toNat : Int) < 32 ↔ b.toNat < 32; omega
  generalize uR (s.take k) = q at *
  refine AW.skip ?_
  refine AW.join (α := Unit) (fun _ => True) (fun a => ⟨qY 69 [(0, .p (.str s)), (3, .ms 6), (4, .p (.int .i64 k))], [], [(6, .row 5 1 (qR (34 :: q ++ qb b)))], 0⟩) ?_ ?_
  ·
   refine AW.block ?_
   refine rgn [.int .u8 b.toNat] [[], [], [], [0, 3, 4, 5]] ?_
   iterate 4 refine op1 tok ?_ (hv := by first | with_reducible exact True.intro | ((simp [hb]); done) | omega | simp | (simp +contextual; omega))
   refine qA ?_
   refine AW.block ?_
   refine rgn [] [[], [], [], [], [], [0, 3, 4, 5, 26], [0, 3, 4, 5, 20]] ?_
   iterate 3 refine op1 tok ?_
   iterate 2 refine op2 tok ?_
   iterate 2 refine op1 tok ?_
   refine qA ?_
   refine cnd ?_ ?_
   ·intro h20
    try simp at h20
    have hq : qb b = [92, b] := by unfold qb; rw [if_pos (by rcases h20 with h | h; exact .inl (l34.1 h); exact .inr (l92.1 h))]
    refine rgz [.int .u8 92, .int .u8 b.toNat] [[], [], [], [0, 4, 30], [0, 3, 4]] ?_
    iterate 5 refine op1 tok ?_
    refine qA ?_
    exact ⟨(), trivial, qB (by simp [hq, qR]), rfl, by simp [hq, qR], by simp [hq, qR]⟩
   ·intro h20
    try simp at h20
    have n1 : ¬ (b = 34 ∨ b = 92) := fun h => h.elim (fun h => absurd (l34.2 h) (by omega)) (fun h => absurd (l92.2 h) (by omega))
    refine rgn [] [[], [], [0, 3, 4, 5, 31]] ?_
    iterate 3 refine op1 tok ?_
    refine qA ?_
    refine cnd ?_ ?_
    ·intro h31
     try simp at h31
     have hq : qb b = [92, 110] := by unfold qb; rw [if_neg n1, if_pos (l10.1 h31)]
     refine rgz [.int .u8 92, .int .u8 110] [[], [], [], [0, 3, 4]] ?_
     iterate 4 refine op1 tok ?_
     refine qA ?_
     exact ⟨(), trivial, qB (by simp [hq, qR]), rfl, by simp [hq, qR], by simp [hq, qR]⟩
    ·intro h31
     try simp at h31
     have n2 : ¬ b = 10 := fun h => absurd (l10.2 h) (by omega)
     refine rgn [] [[], [], [0, 3, 4, 5, 37]] ?_
     iterate 3 refine op1 tok ?_
     refine qA ?_
     refine cnd ?_ ?_
     ·intro h37
      try simp at h37
      have hq : qb b = [92, 114] := by unfold qb; rw [if_neg n1, if_neg n2, if_pos (l13.1 h37)]
      refine rgz [.int .u8 92, .int .u8 114] [[], [], [], [0, 3, 4]] ?_
      iterate 4 refine op1 tok ?_
      refine qA ?_
      exact ⟨(), trivial, qB (by simp [hq, qR]), rfl, by simp [hq, qR], by simp [hq, qR]⟩
     ·intro h37
      try simp at h37
      have n3 : ¬ b = 13 := fun h => absurd (l13.2 h) (by omega)
      refine rgn [] [[], [], [0, 3, 4, 5, 43]] ?_
      iterate 3 refine op1 tok ?_
      refine qA ?_
      refine cnd ?_ ?_
      ·intro h43
       try simp at h43
       have hq : qb b = [92, 116] := by unfold qb; rw [if_neg n1, if_neg n2, if_neg n3, if_pos (l9.1 h43)]
       refine rgz [.int .u8 92, .int .u8 116] [[], [], [], [0, 3, 4]] ?_
       iterate 4 refine op1 tok ?_
       refine qA ?_
       exact ⟨(), trivial, qB (by simp [hq, qR]), rfl, by simp [hq, qR], by simp [hq, qR]⟩
      ·intro h43
       try simp at h43
       have n4 : ¬ b = 9 := fun h => absurd (l9.2 h) (by omega)
       refine rgn [] [[], [], [], [], [], [0, 3, 4, 5, 55], [0, 3, 4, 5, 49]] ?_
       iterate 3 refine op1 tok ?_
       iterate 2 refine op2 tok ?_
       iterate 2 refine op1 tok ?_
       refine qA ?_
       refine cnd ?_ ?_
       ·intro h49
        try simp at h49
        have hq : qb b = [92, 117, 48, 48, qRI (b.toNat / 16), qRI (b.toNat % 16)] := by unfold qb; rw [if_neg n1, if_neg n2, if_neg n3, if_neg n4, if_pos (by rcases h49 with h | h; exact .inl (l32.1 h); exact .inr (l127.1 h))]
        have hb7 : b.toNat < 128 := by rcases h49 with h | h <;> omega
        have w1 : IntKind.u8.wrap ((b.toNat : Int) / 16) = ((b.toNat / 16 : Nat) : Int) := by simp [IntKind.wrap, IntKind.bits, IntKind.signed]; omega
        have w2 : (b.toNat : Int) % 16 = ((b.toNat % 16 : Nat) : Int) := by omega
        have w3 : (b.toNat : Int).tmod 16 = ((b.toNat % 16 : Nat) : Int) := by rw [Int.tmod_eq_emod_of_nonneg (by omega)]; omega
        have x1 := qTR (k := b.toNat / 16) (by omega)
        have x2 := qTR (k := b.toNat % 16) (by omega)
        refine AW.drawS tok mixed 9 [[3], [5], [57], [58], [5], [60], [61], [59, 62], [56, 63]] [.int .u8 (qRI (b.toNat / 16)).toNat, .int .u8 (qRI (b.toNat % 16)).toNat, .int .u8 92, .int .u8 117, .int .u8 48, .int .u8 48, .int .u8 (qRI (b.toNat / 16)).toNat, .int .u8 (qRI (b.toNat % 16)).toNat] [] (by kernel_rfl) ?_
        iterate 9 refine d1 ?_ (hv := by first | with_reducible exact True.intro | (first | (rw [w1]; exact ⟨by omega, _, x1, rfl⟩) | (rw [w3]; exact ⟨by omega, _, x2, rfl⟩) | omega; done) | omega | simp | (simp +contextual; omega))
        refine DGo.nil (by kernel_rfl) ⟨by kernel_rfl, ?_⟩
        refine qC.run [[0, 3, 4]] ?_
        refine op1 tok ?_
        refine qX ?_
        refine qC.take 64 6 (by conv => lhs; simp) ?_
        refine qC.nil ?_
        exact ⟨(), trivial, qB (by simp [hq, qR]), rfl, by simp [hq, qR], by simp [hq, qR]⟩
       ·intro h49
        try simp at h49
        have hq : qb b = [b] := by unfold qb; rw [if_neg n1, if_neg n2, if_neg n3, if_neg n4, if_neg (by rintro (h | h); exact absurd (l32.2 h) (by omega); exact absurd (l127.2 h) (by omega))]
        refine rgz [.int .u8 b.toNat] [[], [], [], [0, 4, 19], [0, 3, 4]] ?_
        iterate 5 refine op1 tok ?_
        refine qA ?_
        exact ⟨(), trivial, qB (by simp [hq, qR]), rfl, by simp [hq, qR], by simp [hq, qR]⟩
  ·
   rintro a hI
   refine rgz [] [[], [], [0, 3, 4]] ?_
   iterate 3 refine op1 tok ?_
   refine qA ?_
   exact ⟨k + 1, by omega, by omega, qB (by simp [hsn]), rfl, by simp [hsn], by simp [hsn]⟩
 ·intro h10
  try simp at h10
  obtain rfl : k = s.length := by omega
  rw [List.take_of_length_le (Nat.le_refl _)]
  have hq7 := qOP s
  refine AW.exit ?_
  simp
  refine rgn [.int .u8 34, .str (kZ s)] [[], [], [], [68], [2]] ?_
  iterate 5 refine op1 tok ?_ (hv := by first | with_reducible exact True.intro | ((simp [kZ, qR]); done) | omega | simp | (simp +contextual; omega))
  refine qA ?_
  exact AW.ret qJ
theorem qTM : ∀ (l : List (List UInt8)) (p : List UInt8), l ≠ [] → Lib.join (l ++ [p]) [44] = Lib.join l [44] ++ ([44] ++ p)
 | [], _, h => absurd rfl h
 | [x], p, _ => by rw [List.singleton_append, qEB, Lib.join_one, Lib.join_one]; simp
 | x :: y :: r, p, _ => by
  have := qTM (y :: r) p (by simp)
  rw [List.cons_append, List.cons_append, qEB, qEB, ← List.cons_append, this]; simp
theorem qTL {ps : List (List UInt8)} {k : Nat} {p : List UInt8} (h : ps[k]? = some p) : Lib.join (ps.take (k + 1)) [44] = Lib.join (ps.take k) [44] ++ ((if 0 < k then [44] else []) ++ p) := by
 have hk := (List.getElem?_eq_some_iff.1 h).1
 rw [List.take_add_one, h, Option.toList_some]
 by_cases h0 : 0 < k
 ·rw [if_pos h0, qTM _ _ (by intro e; have := congrArg List.length e; rw [List.length_take, List.length_nil] at this; omega)]
 ·obtain rfl : k = 0 := by omega
  simp only [List.take_zero, List.nil_append, Nat.lt_irrefl, if_false, Lib.join_one]
  rfl
theorem qWI (ps : List (List UInt8)) : ∀ k, (Lib.join (ps.take k) [44]).length ≤ (Lib.join ps [44]).length := by
 have up : ∀ k, (Lib.join (ps.take k) [44]).length ≤ (Lib.join (ps.take (k + 1)) [44]).length := fun k => by
  cases h : ps[k]? with
  | none => rw [List.take_add_one, h]; simp
  | some p => rw [qTL h]; simp
 intro k
 have : ∀ j, (Lib.join (ps.take k) [44]).length ≤ (Lib.join (ps.take (k + j)) [44]).length := fun j => by
  induction j with
  | zero => exact Nat.le_refl _
  | succ j ih => exact Nat.le_trans ih (up (k + j))
 have h := this ps.length
 rw [List.take_of_length_le (show ps.length ≤ k + ps.length by omega)] at h
 exact h
def uF (v : Val) : List (List UInt8) := if v.kind = 7 then qIE v.keys (v.kids.map zM) else v.kids.map zM
def qAG (v : Val) : List UInt8 := if v.kind = 7 then [123] else [91]
theorem qZA (v : Val) (hq8 : v.kind = 8 → AFn Tryz.prog G 71 [.int .i64 v.code] (.str (qHH v.code)) ∧ -9223372036854775808 ≤ v.code ∧ v.code ≤ 9223372036854775807) (hq4 : v.kind = 4 → AFn Tryz.prog G 69 [v.num.enc] (.str (qEM v.num))) (hq5 : v.kind = 5 → AFn Tryz.prog G 70 [.str v.text] (.str (kZ v.text))) (hq7 : v.kind = 7 → v.keys.length = v.kids.length ∧ ∀ key ∈ v.keys, AFn Tryz.prog G 70 [.str key] (.str (kZ key))) (hn : v.kids.length ≤ 1000000) (hb : (zM v).length ≤ 1000000000) (ih : ∀ k ∈ v.kids, AFn Tryz.prog G 25 [k.enc] (.str (zM k))) : AFn Tryz.prog G 25 [v.enc] (.str (zM v)) := by
 refine AFn.introU tok Tryz.func25 (by kernel_rfl) rfl rfl ?_
 simp only [Tryz.f25, qI, List.map_cons, List.map_nil]
 rw [xB v] at hb ⊢
 simp only [Dc.enc] at hq4
 refine rgn [] [[], [1]] ?_
 iterate 2 refine op1 tok ?_
 refine qA ?_
 refine AW.seq ?_
 refine rgn [] [[], [1, 6]] ?_
 iterate 2 refine op1 tok ?_
 refine qA ?_
 refine AW.block ?_
 refine rgn [] [[], [1, 6, 7]] ?_
 iterate 2 refine op1 tok ?_
 refine qA ?_
 refine cnd ?_ ?_
 ·intro h7
  try simp at h7
  rw [if_pos h7]
  refine rgn [] [[]] ?_
  refine op1 tok ?_
  refine qA ?_
  exact AW.ret (qJ (k := by simp [qAU]))
 ·intro h7
  try simp at h7
  rw [if_neg h7] at hb ⊢
  refine rgn [] [[], [1, 6, 9]] ?_
  iterate 2 refine op1 tok ?_
  refine qA ?_
  refine cnd ?_ ?_
  ·intro h9
   try simp at h9
   rw [if_pos h9]
   refine rgn [] [[]] ?_
   refine op1 tok ?_
   refine qA ?_
   exact AW.ret (qJ (k := by simp [xT]))
  ·intro h9
   try simp at h9
   rw [if_neg h9] at hb ⊢
   refine rgn [] [[], [1, 6, 11]] ?_
   iterate 2 refine op1 tok ?_
   refine qA ?_
   refine cnd ?_ ?_
   ·intro h11
    try simp at h11
    rw [if_pos h11]
    refine rgn [] [[]] ?_
    refine op1 tok ?_
    refine qA ?_
    exact AW.ret (qJ (k := by simp [qAT]))
   ·intro h11
    try simp at h11
    rw [if_neg h11] at hb ⊢
    refine rgn [] [[], [1, 6, 13]] ?_
    iterate 2 refine op1 tok ?_
    refine qA ?_
    refine cnd ?_ ?_
    ·intro h13
     try simp at h13
     rw [if_pos h13]
     have h4 := hq4 h13
     refine rgn [.nilp, .str (qEM v.num)] [[], [], [], [2]] ?_
     iterate 4 refine op1 tok ?_ (hv := by first | with_reducible exact True.intro | (exact h4; done) | omega | simp | (simp +contextual; omega))
     refine qA ?_
     exact AW.ret qJ
    ·intro h13
     try simp at h13
     rw [if_neg h13] at hb ⊢
     refine rgn [] [[], [1, 6, 18]] ?_
     iterate 2 refine op1 tok ?_
     refine qA ?_
     refine cnd ?_ ?_
     ·intro h18
      try simp at h18
      rw [if_pos h18]
      have h5q := hq5 h18
      refine rgn [.nilp, .str (kZ v.text)] [[], [], [], [2]] ?_
      iterate 4 refine op1 tok ?_ (hv := by first | with_reducible exact True.intro | (exact h5q; done) | omega | simp | (simp +contextual; omega))
      refine qA ?_
      exact AW.ret qJ
     ·intro h18
      try simp at h18
      rw [if_neg h18] at hb ⊢
      refine rgn [] [[], [1, 23]] ?_
      iterate 2 refine op1 tok ?_
      refine qA ?_
      refine cnd ?_ ?_
      ·intro h23
       try simp at h23
       rw [if_pos h23] at hb ⊢
       obtain ⟨h8, h8a, h8b⟩ := hq8 h23
       have hil : (qHH v.code).length ≤ 2 := by unfold qHH; split <;> simp
       refine rgn [.nilp, .str (qHH v.code)] [[], [], [], [28], [2]] ?_
       iterate 5 refine op1 tok ?_ (hv := by first | with_reducible exact True.intro | (first | exact h8 | omega | (simp; omega); done) | omega | simp | (simp +contextual; omega))
       refine qA ?_
       exact AW.ret qJ
      ·intro h23
       try simp at h23
       rw [if_neg h23] at hb ⊢
       have hP : (if v.kind = 7 then [123] ++ Lib.join (qIE v.keys (v.kids.map zM)) [44] ++ [125] else [91] ++ Lib.join (v.kids.map zM) [44] ++ [93]) = qAG v ++ Lib.join (uF v) [44] ++ (if v.kind = 7 then [125] else [93]) := by
        unfold qAG uF; split <;> rfl
       rw [hP] at hb ⊢
       have hpl : (uF v).length = v.kids.length := by
        unfold uF; split
        ·rename_i h; simp [qIE, (hq7 h).1]
        ·simp
       have hol : (qAG v).length = 1 := by unfold qAG; split <;> rfl
       have hjl : (Lib.join (uF v) [44]).length ≤ 1000000000 := by simp only [List.length_append] at hb; omega
       have hjt := qWI (uF v)
       have hpk : ∀ k x, v.kids[k]? = some x → (uF v)[k]? = some ((if v.kind = 7 then kZ (v.keys.getD k []) ++ [58] else []) ++ zM x) := fun k x hx => by
        have hkl := (List.getElem?_eq_some_iff.1 hx).1
        unfold uF; split
        ·rename_i h
         have hk : v.keys[k]? = some (v.keys.getD k []) := by rw [List.getD_eq_getElem?_getD, List.getElem?_eq_getElem (by have := (hq7 h).1; omega)]; rfl
         exact zNH hk (by rw [List.getElem?_map, hx]; rfl)
        ·rw [List.getElem?_map, hx]; rfl
       refine AW.skip ?_
       refine rgn [] [[]] ?_
       refine op1 tok ?_
       refine qA ?_
       refine AW.join (α := Unit) (fun _ => True) (fun a => ⟨qY 70 [(1, .ptr 1 0), (3, .p (.str (qAG v)))], [], [(1, .vars 31 v.cells)], 0⟩) ?_ ?_
       ·
        refine rgn [] [[], [], [1, 3, 31]] ?_
        iterate 3 refine op1 tok ?_
        refine qA ?_
        refine cnd ?_ ?_
        ·intro h31
         try simp at h31
         refine rgz [] [[]] ?_
         refine op1 tok ?_
         refine qA ?_
         exact ⟨(), trivial, qB (by simp [qAG, h31]), rfl, by simp [qAG, h31], by simp [qAG, h31]⟩
        ·intro h31
         try simp at h31
         refine AW.skip ?_
         exact ⟨(), trivial, qB (by simp [qAG, h31]), rfl, by simp [qAG, h31], by simp [qAG, h31]⟩
       ·
        rintro a hI
        refine AW.seq ?_
        refine rgn [] [[]] ?_
        refine op1 tok ?_
        refine qA ?_
        refine AW.block ?_
        refine AW.loop (α := Nat) (fun k => k ≤ v.kids.length) (fun k => ⟨qY 70 [(1, .ptr 1 0), (3, .p (.str (qAG v ++ Lib.join ((uF v).take k) [44]))), (4, .p (.int .i64 k))], [], [(1, .vars 31 v.cells)], 0⟩) (fun k => v.kids.length - k) (0) (by omega) ⟨qB (by simp [show Lib.join [] [44] = [] from rfl]), rfl, by simp, by simp⟩ ?_
        rintro k hk
        have hjk := hjt k
        refine AW.seq ?_
        refine rgn [] [[], [], [], [], [1, 3, 4, 36]] ?_
        iterate 5 refine op1 tok ?_
        refine qA ?_
        refine cnd ?_ ?_
        ·intro h36
         try simp at h36
         obtain ⟨x, hx⟩ : ∃ x, v.kids[k]? = some x := ⟨v.kids[k], by simp [h36]⟩
         have hp := hpk k x hx
         have hj2 := qTL hp
         have hjk1 := hjt (k + 1)
         have hix := ih x (List.mem_of_getElem? hx)
         simp only [Val.enc_def] at hix
         have hx2 : (zM x).length ≤ 1000000000 := by rw [hj2] at hjk1; simp only [List.length_append] at hjk1; omega
         refine AW.skip ?_
         refine AW.seq ?_
         refine AW.block ?_
         refine AW.join (α := List UInt8) (fun t => t = qAG v ++ Lib.join ((uF v).take k) [44] ++ (if 0 < k then [44] else []) ∧ t.length ≤ 1000000010) (fun t => ⟨qY 70 [(1, .ptr 1 0), (3, .p (.str t)), (4, .p (.int .i64 k))], [], [(1, .vars 31 v.cells)], 0⟩) ?_ ?_
         ·
          refine rgn [] [[], [1, 3, 4, 40]] ?_
          iterate 2 refine op1 tok ?_
          refine qA ?_
          refine cnd ?_ ?_
          ·intro h40
           try simp at h40
           refine rgz [] [[], [], [1, 3, 4]] ?_
           iterate 3 refine op1 tok ?_
           refine qA ?_
           exact ⟨qAG v ++ Lib.join ((uF v).take k) [44] ++ [44], ⟨by rw [if_pos (by omega)], by simp; omega⟩, qB (by simp), rfl, by simp, by simp⟩
          ·intro h40
           try simp at h40
           refine AW.skip ?_
           exact ⟨qAG v ++ Lib.join ((uF v).take k) [44], ⟨by rw [if_neg (by omega)]; simp, by simp; omega⟩, qB (by simp), rfl, by simp, by simp⟩
         ·
          rintro t ⟨ht, htl⟩
          refine AW.join (α := List UInt8) (fun t => t ++ zM x = qAG v ++ Lib.join ((uF v).take (k + 1)) [44] ∧ t.length ≤ 3000000010) (fun t => ⟨qY 70 [(1, .ptr 1 0), (3, .p (.str t)), (4, .p (.int .i64 k))], [], [(1, .vars 31 v.cells)], 0⟩) ?_ ?_
          ·
           refine rgn [] [[], [], [1, 3, 4, 45]] ?_
           iterate 3 refine op1 tok ?_
           refine qA ?_
           refine cnd ?_ ?_
           ·intro h45
            try simp at h45
            obtain ⟨hkl, hqk⟩ := hq7 h45
            have hk : v.keys[k]? = some (v.keys.getD k []) := by rw [List.getD_eq_getElem?_getD, List.getElem?_eq_getElem (by omega)]; rfl
            have hqq := hqk _ (List.mem_of_getElem? hk)
            have hql : (kZ (v.keys.getD k [])).length ≤ 1000000000 := by rw [hj2, if_pos h45] at hjk1; simp only [List.length_append] at hjk1; omega
            rw [if_pos h45] at hp hj2
            generalize v.keys.getD k [] = key at *
            refine rgz [.str key, .nilp, .str (kZ key)] [[], [], [], [], [1, 4, 46, 50], [], [], [1, 4, 53], [], [1, 3, 4]] ?_
            iterate 10 refine op1 tok ?_ (hv := by first | with_reducible exact True.intro | (first | exact hqq | (simp [hk]; done) | (simp; omega) | omega; done) | omega | simp | (simp +contextual; omega))
            refine qA ?_
            exact ⟨t ++ kZ key ++ [58], ⟨by rw [hj2, ht]; simp, by simp; omega⟩, qB (by simp), rfl, by simp, by simp⟩
           ·intro h45
            try simp at h45
            rw [if_neg h45] at hp hj2
            refine AW.skip ?_
            exact ⟨t, ⟨by rw [hj2, ht]; simp, by omega⟩, qB (by simp), rfl, by simp, by simp⟩
          ·
           rintro t2 ⟨ht2, htl2⟩
           refine rgz [x.enc, .nilp, .str (zM x)] [[], [], [], [], [1, 4, 55, 59], [], [], [1, 4, 62], [1, 3, 4]] ?_
           iterate 9 refine op1 tok ?_ (hv := by first | with_reducible exact True.intro | (first | exact hix | (simp [hx]; done) | (simp; omega) | omega; done) | omega | simp | (simp +contextual; omega))
           refine qA ?_
           refine rgz [] [[], [], [1, 3, 4]] ?_
           iterate 3 refine op1 tok ?_
           refine qA ?_
           exact ⟨k + 1, by omega, by omega, qB (by simp [ht2]), rfl, by simp [ht2], by simp [ht2]⟩
        ·intro h36
         try simp at h36
         rw [List.take_of_length_le (by omega)]
         refine AW.exit ?_
         simp
         refine AW.seq ?_
         refine rgn [] [[], [], [3, 65]] ?_
         iterate 3 refine op1 tok ?_
         refine qA ?_
         refine cnd ?_ ?_
         ·intro h65
          try simp at h65
          rw [if_pos h65]
          refine rgn [] [[], [], [2]] ?_
          iterate 3 refine op1 tok ?_
          refine qA ?_
          exact AW.ret qJ
         ·intro h65
          try simp at h65
          rw [if_neg h65]
          refine AW.skip ?_
          refine rgn [] [[], [], [2]] ?_
          iterate 3 refine op1 tok ?_
          refine qA ?_
          exact AW.ret qJ
theorem qOQ (v : Val) (hm : qQ v = true) : Val.sz v ≤ 10000 → qAN 40 v → (zCX v = true → qQV G 40) → AFn Tryz.prog G 25 [v.enc] (.str (zM v)) := by
 intro hs hc hI
 have hp := zLP (G := G) v hm hs hc hI
 clear hs hc hI hm
 induction hp with
 | mk h8 h4 h5 h7 hn hb _ ih => exact qZA _ (fun h => ⟨(h8 h).1, by have := h8 h; unfold qQV at this; omega, by have := h8 h; unfold qQV at this; omega⟩) (fun h => zBT _ (h4 h)) (fun h => qUT _ (h5 h).2) (fun h => ⟨(h7 h).1, fun key hk => qUT key ((h7 h).2 key hk).2⟩) hn hb ih
theorem zJL {P : List Val → Prop} {Q : Item → Prop} (h0 : P []) (hs : ∀ a x, Q x → P a → P (qDB a x)) (l : List Item) (hl : ∀ x ∈ l, Q x) : P (qLH l) := by
 have key : ∀ (l : List Item) (a : List Val), (∀ x ∈ l, Q x) → P a → P (l.foldl qDB a) := by
  intro l
  induction l with
  | nil => exact fun a _ h => h
  | cons x l ih => exact fun a hq h => ih _ (fun y hy => hq y (by simp [hy])) (hs a x (hq x (by simp)) h)
 exact key _ [] (fun x hx => hl x (List.mem_of_mem_take hx)) h0
theorem qDF {l : List Item} (h : ∀ x ∈ l, InM x.mask) : InV (xH l) := by
 have := zJL (P := fun a => ∀ v ∈ a, InV v) (Q := fun x => InM x.mask) (by simp) (fun a x hx ha v hv => by
  unfold qDB at hv
  rcases List.mem_append.1 hv with hv | hv
  ·unfold zQ at hv; split at hv
   ·exact ha v (List.mem_of_mem_take hv)
   ·exact ha v hv
  ·simp at hv; rw [hv, qXM]
   exact ⟨hx, fun k hk => ha k (qJL hk)⟩) l h
 unfold xH
 rw [List.getLastD_eq_getLast?]
 cases hx : (qLH l).getLast? with
 | none => show InV qOV; rw [qXM]; exact ⟨by show InM 0; unfold InM; omega, fun k hk => by cases hk⟩
 | some v => exact this v (List.mem_of_getLast? hx)
end Go.Proofs.YtdojfdaglbphlaaGreatDoor
