import Derived.Test.YtdojfdaglbphlaaGreatDoorSReadQ2
namespace Go.Proofs.YtdojfdaglbphlaaGreatDoor
open Sy Go
set_option maxRecDepth 100000
set_option maxHeartbeats 4000000
set_option linter.unusedSimpArgs false
set_option linter.unusedVariables false
variable {G : qS}
attribute [local simp] wE
theorem vQ {s : List UInt8} {q : RQ} {k : Nat} (h : q.pos ≤ s.length + k) : (blQ s q).pos ≤ s.length + k := by
 rcases Nat.lt_or_ge s.length q.pos with h1 | h1
 ·have : s.drop q.pos = [] := List.drop_of_length_le (by omega)
  simp only [blQ, this]; show q.pos + 0 ≤ _; omega
 ·have := (qHH h1).2; omega
theorem qIO (s : List UInt8) (q : RQ) : q.pos ≤ (blQ s q).pos := by simp only [blQ]; omega
theorem qLL {s : List UInt8} {q : RQ} (h : nxQ s q ≠ 0) : q.pos < s.length := by
 rcases Nat.lt_or_ge q.pos s.length with h1 | h1
 ·exact h1
 ·exfalso; apply h; unfold nxQ; rw [List.getD_eq_getElem?_getD, List.getElem?_eq_none h1]; rfl
theorem qDJ {s : List UInt8} {q : RQ} (h : q.pos ≤ s.length) : (zE s q).1.pos ≤ s.length ∧ q.pos ≤ (zE s q).1.pos := by
 have hp := qAN (s.drop q.pos)
 have hk := qKS (s.drop q.pos)
 rw [List.length_drop] at hp hk
 unfold zE
 split
 ·simp only; omega
 ·simp only; omega
theorem qMU {s : List UInt8} {q : RQ} {c : UInt8} {many k : Nat} (hc : c ≠ 0) (h : q.pos ≤ s.length + k) : (qAU s c many q).2.pos ≤ s.length + k + 1 ∧ ((qAU s c many q).2.bad = false → (qAU s c many q).2.pos ≤ s.length) ∧ q.pos + 1 ≤ (qAU s c many q).2.pos := by
 have h1 := vQ (s := s) (q := { q with big := Bool.or q.big (decide (200 < many)) }) (k := k) h
 have h2 := qIO s { q with big := Bool.or q.big (decide (200 < many)) }
 unfold qAU
 simp only at h1 h2 ⊢
 generalize blQ s { q with big := Bool.or q.big (decide (200 < many)) } = a at *
 split
 ·rename_i e
  have := qLL (s := s) (q := a) (by rw [e]; exact hc)
  simp only [wE]; exact ⟨by omega, fun _ => by omega, by omega⟩
 ·refine ⟨by simp only; omega, fun hb => ?_, by simp only; omega⟩
  simp only [Bool.or_eq_false_iff, decide_eq_false_iff_not, Decidable.not_not] at hb
  have := qLL (s := s) (q := a) (by rw [hb.2]; decide)
  simp only; omega
theorem keyQ_pos {s : List UInt8} {q : RQ} (h : q.pos ≤ s.length) : (qGY s q).1.pos ≤ s.length + 1 ∧ ((qGY s q).1.bad = false → (qGY s q).1.pos ≤ s.length) ∧ q.pos + 1 ≤ (qGY s q).1.pos := by
 obtain ⟨h1, h2⟩ := qDJ h
 have h3 := vQ (s := s) (q := (zE s q).1) (k := 0) (by omega)
 have h4 := qIO s (zE s q).1
 unfold qGY
 simp only
 generalize blQ s (zE s q).1 = a at *
 refine ⟨by omega, fun hb => ?_, by omega⟩
 simp only [Bool.or_eq_false_iff, decide_eq_false_iff_not, Decidable.not_not] at hb
 have := qLL (s := s) (q := a) (by rw [hb.2]; decide)
 omega
theorem qIE {s : List UInt8} {obj : Bool} {q : RQ} (h : q.pos ≤ s.length) : (yO s obj q).1.pos ≤ s.length + 1 ∧ ((yO s obj q).1.bad = false → (yO s obj q).1.pos ≤ s.length) ∧ q.pos ≤ (yO s obj q).1.pos := by
 have h1 := vQ (s := s) (q := q) (k := 0) (by omega)
 have h2 := qIO s q
 unfold yO
 split
 ·obtain ⟨h3, h4, h5⟩ := keyQ_pos (s := s) (q := blQ s q) (by omega)
  exact ⟨h3, h4, by omega⟩
 ·exact ⟨by simp only; omega, fun _ => by simp only; omega, h2⟩
theorem loop_stop {s : List UInt8} {n : Nat} {q : RQ} {d : Nat} {obj : Bool} {c : UInt8} {many : Nat} {ks : List (List UInt8)} {vs : List Val} (h : q.bad = true) : (yG s n q d obj c many ks vs).1.pos = q.pos := by
 cases n with
 | zero => simp [yG]
 | succ n => rw [jS, if_pos h]
theorem posQ (s : List UInt8) : ∀ n : Nat, (∀ q d, q.pos ≤ s.length → (yU s n q d).1.pos ≤ s.length + n + 1 ∧ ((yU s n q d).1.bad = false → (yU s n q d).1.pos ≤ s.length)) ∧
  (∀ q d obj c many ks vs, c ≠ 0 → q.pos ≤ s.length → (yG s n q d obj c many ks vs).1.pos ≤ s.length + n + 1 ∧ ((yG s n q d obj c many ks vs).1.bad = false → (yG s n q d obj c many ks vs).1.pos ≤ s.length))
 | 0 => ⟨fun q d h => by simp only [yU]; exact ⟨by omega, fun _ => h⟩, fun q d obj c many ks vs _ h => by simp only [yG]; exact ⟨by omega, fun _ => h⟩⟩
 | n + 1 => by
  obtain ⟨ih1, ih2⟩ := posQ s n
  refine ⟨fun q d h => ?_, fun q d obj c many ks vs hc h => ?_⟩
  ·have hE : (zJ s q d).pos ≤ s.length := by have := vQ (s := s) (q := q) (k := 0) (by omega); exact this
   rw [qHN]
   generalize zJ s q d = E at *
   have hk : ∀ obj c, c ≠ 0 → E.pos < s.length → (jX s n E d obj c).1.pos ≤ s.length + n + 1 ∧ ((jX s n E d obj c).1.bad = false → (jX s n E d obj c).1.pos ≤ s.length) := fun obj c hc hl => by
    have h1 := vQ (s := s) (q := wE E 1) (k := 0) (by simp only [wE]; omega)
    unfold jX
    split
    ·rename_i e
     have := qLL (s := s) (q := blQ s (wE E 1)) (by rw [e]; exact hc)
     simp only [wE] at this ⊢; exact ⟨by omega, fun _ => by omega⟩
    ·exact ih2 _ _ _ _ _ _ _ hc h1
   split
   ·have := (qDJ hE).1
    exact ⟨by simp only; omega, fun _ => by simp only; omega⟩
   ·split
    ·rename_i e
     have := hk false 93 (by decide) (qLL (by rw [e]; decide))
     exact ⟨by simp only; omega, this.2⟩
    ·split
     ·rename_i e
      have := hk true 125 (by decide) (qLL (by rw [e]; decide))
      exact ⟨by simp only; omega, this.2⟩
     ·split
      ·have := (qUL (s.drop E.pos)).2
       rw [List.length_drop] at this
       have : (xJ s E).1.pos ≤ s.length := by simp only [xJ]; omega
       exact ⟨by omega, fun _ => this⟩
      ·have hw : ∀ w : List UInt8, (vR s w E).2.pos ≤ s.length := fun w => by
        unfold vR
        split
        ·rename_i e
         have := congrArg List.length e
         simp only [wE]; simp at this; omega
        ·exact hE
       have : (qBS s E).1.pos ≤ s.length := by
        unfold qBS
        split
        ·exact hw _
        ·split
         ·exact hw _
         ·split
          ·exact hw _
          ·exact hE
       exact ⟨by omega, fun _ => this⟩
  ·obtain ⟨g1, g2, g3⟩ := qIE (s := s) (obj := obj) (q := q) h
   rw [jS]
   split
   ·exact ⟨by simp only; omega, fun _ => h⟩
   ·split
    ·rename_i hb
     exact ⟨by simp only; omega, fun h' => by simp only at h'; rw [hb] at h'; cases h'⟩
    ·rename_i hb
     have g := g2 (by simpa using hb)
     obtain ⟨v1, v2⟩ := ih1 (yO s obj q).1 (d + 1) g
     generalize yU s n (yO s obj q).1 (d + 1) = A at *
     obtain ⟨b1, b2, b3⟩ := qMU (s := s) (q := A.1) (c := c) (many := many + 1) (k := n + 1) hc (by omega)
     split
     ·exact ⟨by simp only; omega, b2⟩
     ·by_cases hx : (qAU s c (many + 1) A.1).2.bad = true
      ·rw [loop_stop hx]
       exact ⟨by omega, fun h' => by rw [qDQ hx] at h'; cases h'⟩
      ·have := ih2 (qAU s c (many + 1) A.1).2 d obj c (many + 1) (qNH obj ks vs (yO s obj q).2 A.2).1 (qNH obj ks vs (yO s obj q).2 A.2).2 hc (b2 (by simpa using hx))
       exact ⟨by omega, this.2⟩
theorem qKG {s : List UInt8} {q : RQ} (n d : Nat) (h1 : q.bad = false) (h2 : q.pos ≤ s.length) (h : (yU s n q d).1.bad = false) : q.pos < (yU s n q d).1.pos ∧ (yU s n q d).1.pos ≤ s.length ∧ (yU s n q d).1.nodes + (s.length - (yU s n q d).1.pos) ≤ q.nodes + (s.length - q.pos) := by
 have h0 : SameR s q ⟨s.drop q.pos, q.nodes, false, q.deep, q.big⟩ := ⟨rfl, h2, rfl, h1, rfl, rfl, rfl⟩
 obtain ⟨e1, e2⟩ := (qHY s n).1 q _ d h0.bl
 rw [h] at e1
 obtain ⟨e3, _⟩ := e2 e1.symm
 have l1 := ((lens n).1 ⟨s.drop q.pos, q.nodes, false, q.deep, q.big⟩ d).2 e1.symm
 have l2 := ((lens2 n).1 ⟨s.drop q.pos, q.nodes, false, q.deep, q.big⟩ d e1.symm).2
 have e4 := congrArg List.length e3.left
 have e5 := e3.le
 have e6 := e3.nodes
 simp only [List.length_drop] at l1 l2 e4
 omega
def qJY (G : qS) (s : List UInt8) (N d : Nat) : Prop := ∀ (m : Nat) (q : RQ), m < N → q.bad = false → q.pos ≤ s.length → 2 * (s.length - q.pos) + 2 ≤ m → q.nodes + (s.length - q.pos) ≤ 10000000000 → d + (s.length - q.pos) ≤ 10000000000 →
 AX Tryz.prog G 131 [.ptr 2 0, .p (.int .i64 d)] [(2, .vars 137 (rqC s q))] (.agg (yU s m q d).2.cells) [2] [(2, .vars 137 (rqC s (yU s m q d).1))]
theorem kidsL_ax (N : Nat) (s : List UInt8) (q : RQ) (d : Nat) (hs : s.length ≤ 100000) (hp : q.pos < s.length) (hb0 : q.bad = false) (hN : 2 * (s.length - q.pos) + 1 ≤ N) (hN2 : N ≤ 1000000) (hk : q.nodes + (s.length - q.pos) ≤ 10000000001) (hd : d + (s.length - q.pos) ≤ 10000000000) (hv : qJY G s N (d + 1)) : AX Tryz.prog G 183 [.ptr 2 0, .agg [.p (.int .i64 6), .p (.int .u64 0), .p (.bool false), .p (.str []), .p (.int .i64 0), .p (.str []), .nilsl, .nilsl, .p (.int .i64 0)], .p (.int .i64 d), .p (.int .u8 93)] [(2, .vars 137 (rqC s q))] (.agg (Val.mk 6 0 dc0 [] (jX s N q d false 93).2.1 (jX s N q d false 93).2.2 0).cells) [2] [(2, .vars 137 (rqC s (jX s N q d false 93).1))] := by
 refine AX.introU tok 900 Tryz.func183 (by kernel_rfl) rfl rfl ?_
 simp only [Tryz.f183, qK, List.map_cons, List.map_nil]
 have hM : jX s N q d false 93 = if nxQ s (blQ s (wE q 1)) = 93 then (wE (blQ s (wE q 1)) 1, [], []) else yG s N (blQ s (wE q 1)) d false 93 0 [] [] := rfl
 rw [hM]
 have hbx := kU (G := G) s (wE q 1) (by omega) (by simp only [wE]; omega)
 have h1 := vQ (s := s) (q := wE q 1) (k := 0) (by simp only [wE]; omega)
 have h2 : q.pos + 1 ≤ (blQ s (wE q 1)).pos := qIO s (wE q 1)
 have h3 : (blQ s (wE q 1)).bad = false := hb0
 have h4 : (blQ s (wE q 1)).nodes = q.nodes := rfl
 generalize blQ s (wE q 1) = Q at *
 have hnx := qBE (G := G) s Q (by omega) (by omega)
 have lC : (((nxQ s Q).toNat : Int) = 93) ↔ nxQ s Q = 93 := zS _ 93 (by decide)
 refine rgn [] [[], [0, 2, 3, 5, 8]] ?_
 iterate 2 refine op1 tok ?_
 refine qA ?_
 refine AW.beginBox 905 3 6 9 1 (by simp; exact ⟨rfl, rfl⟩) (by simp) (by simp) (by conv => lhs; simp) ?_
 refine AW.beginBox 905 8 7 31 9 (by simp; exact ⟨rfl, rfl⟩) (by simp) (by simp) (by conv => lhs; simp) ?_
 refine rgn [] [[], [], [], [], [], [0, 2, 3, 5, 8, 17, 18], [], [0, 2, 3, 5, 8]] ?_
 iterate 8 refine op1 tok ?_
 refine qA ?_
 refine rgn [] [[]] ?_
 refine op1 tok ?_
 refine qV ?_
 refine qE.stepK [0, 2, 3, 5, 8] (wY rfl hbx (by simp)) (by conv => lhs; simp) rfl ?_
 refine qE.nil ?_
 refine AW.seq ?_
 refine rgn [] [[]] ?_
 refine op1 tok ?_
 refine qV ?_
 refine qE.stepK [0, 2, 3, 5, 8, 23] (wY rfl hnx (by simp)) (by conv => lhs; simp) rfl ?_
 refine qE.run [[], [0, 2, 3, 5, 8, 25]] ?_
 iterate 2 refine op1 tok ?_
 refine qA ?_
 refine cnd ?_ ?_
 ·intro h25
  try simp at h25
  rw [if_pos (lC.1 h25)]
  refine rgn [] [[], [], [], [], [5, 8, 26, 30], [], [], [5, 8]] ?_
  iterate 8 refine op1 tok ?_
  refine qA ?_
  refine AW.freeze 3 ?_
  refine AW.freeze 8 ?_
  refine rgn [] [[], [8]] ?_
  iterate 2 refine op1 tok ?_
  refine qA ?_
  exact AW.ret ⟨.inr rfl, _, _, by (conv => lhs; simp), trivial, by simp [dc0], by simp, by simp, by simp⟩
 ·intro h25
  try simp at h25
  rw [if_neg (fun e => h25 (lC.2 e))]
  refine AW.skip ?_
  refine rgn [] [[]] ?_
  refine op1 tok ?_
  refine qA ?_
  refine AW.seq ?_
  refine AW.block ?_
  refine AW.loop (α := Nat × RQ × Nat × List (List UInt8) × List Val) (fun a => yG s N Q d false 93 0 [] [] = yG s a.1 a.2.1 d false 93 a.2.2.1 a.2.2.2.1 a.2.2.2.2 ∧ 1 ≤ a.1 ∧ a.1 ≤ N ∧ (a.2.1.bad = false → 2 * (s.length - a.2.1.pos) + 3 ≤ a.1 ∧ a.2.1.pos ≤ s.length ∧ a.2.1.nodes + (s.length - a.2.1.pos) ≤ 10000000000 ∧ q.pos + 1 ≤ a.2.1.pos) ∧ a.2.2.1 + a.1 ≤ N ∧ a.2.2.2.2.length + a.1 ≤ N) (fun a => ⟨qW 117 [(0, .ptr 2 0), (2, .p (.int .i64 d)), (3, .p (.int .u8 93)), (5, .ptr 905 0), (8, .ptr 908 0), (9, .p (.int .i64 a.2.2.1))], [2], [(2, .vars 137 (rqC s a.2.1)), (905, .vars 31 [.p (.int .i64 6), .p (.int .u64 0), .p (.bool false), .p (.str []), .p (.int .i64 0), .p (.str []), .ms 3, .ms 8, .p (.int .i64 0)]), (908, .vars 31 [.p (.int .i64 0), .p (.int .u64 0), .p (.bool false), .p (.str []), .p (.int .i64 0), .p (.str []), .nilsl, .nilsl, .p (.int .i64 0)]), (3, .row 9 1 (a.2.2.2.1.map PD.str)), (8, .row 31 9 (a.2.2.2.2.map Val.enc))], 900⟩) (fun a => a.1) ((N, Q, 0, [], [])) ⟨rfl, by simp only; omega, by simp, fun _ => by simp only; omega, by simp, by simp⟩ ⟨qB (by simp), rfl, by simp, by simp⟩ ?_
  rintro ⟨n, p, many, ks, vs⟩ ⟨hq, hf, hfN, hpl, hml, hvl⟩
  simp only at hq hf hfN hpl hml hvl
  rw [hq]
  clear hq
  obtain ⟨n, rfl⟩ : ∃ g, n = g + 1 := ⟨n - 1, by omega⟩
  rw [jS]
  refine AW.seq ?_
  refine rgn [] [[], [], [], [], [0, 2, 3, 5, 8, 9, 38]] ?_
  iterate 5 refine op1 tok ?_
  refine qA ?_
  refine cnd ?_ ?_
  ·intro h38
   try simp at h38
   have hb : p.bad = false := by simpa using h38
   rw [if_neg (show ¬ p.bad = true by rw [hb]; simp)]
   obtain ⟨f1, f2, f3, f4⟩ := hpl hb
   have hbl1 := kU (G := G) s p (by omega) (by omega)
   have hh := qIE (s := s) (obj := false) (q := p) f2
   have hd1 : yO s false p = (blQ s p, []) := rfl
   rw [hd1] at hh ⊢
   have hbn : (blQ s p).nodes = p.nodes := rfl
   simp only at hh ⊢
   generalize blQ s p = H at *
   have hmm := fun (A : RQ × Val) => (show qNH false ks vs [] A.2 = (ks, vs ++ [A.2]) from rfl)
   simp only [hmm]
   refine AW.skip ?_
   refine AW.block ?_
   refine rgn [] [[]] ?_
   refine op1 tok ?_
   refine qV ?_
   refine qE.stepK [0, 2, 3, 5, 8, 9] (wY rfl hbl1 (by simp)) (by conv => lhs; simp) rfl ?_
   refine qE.nil ?_
   refine rgn [] [[]] ?_
   refine op1 tok ?_
   refine qA ?_
   refine AW.seq ?_
   refine rgn [] [[], [], [0, 2, 3, 5, 8, 9, 10, 43]] ?_
   iterate 3 refine op1 tok ?_
   refine qA ?_
   refine cnd ?_ ?_
   ·intro h43
    try simp at h43
   ·intro h43
    try simp at h43
    refine AW.skip ?_
    refine AW.seq ?_
    refine rgn [] [[], [], [], [0, 2, 3, 5, 8, 9, 10, 64]] ?_
    iterate 4 refine op1 tok ?_
    refine qA ?_
    refine cnd ?_ ?_
    ·intro h64
     try simp at h64
     rw [if_pos h64]
     refine AW.freeze 3 ?_
     refine AW.freeze 8 ?_
     refine rgn [] [[], [8]] ?_
     iterate 2 refine op1 tok ?_
     refine qA ?_
     exact AW.ret ⟨.inr rfl, _, _, by (conv => lhs; simp), trivial, by simp [dc0], by simp, by simp, by simp⟩
    ·intro h64
     try simp at h64
     have hhb : H.bad = false := by simpa using h64
     rw [if_neg (show ¬ H.bad = true by rw [hhb]; simp)]
     have g2 := hh.2.1 hhb
     have hvn := hv n H (by omega) hhb g2 (by (try simp only); omega) (by (try simp only); omega) (by (try simp only); omega)
     have hps := ((posQ s n).1 H (d + 1) g2).1
     have hvf := qKG (s := s) (q := H) n (d + 1) hhb g2
     rw [show (((d + 1 : Nat) : Int)) = (d : Int) + 1 from by omega] at hvn
     generalize yU s n H (d + 1) = A at *
     obtain ⟨a1, v⟩ := A
     simp only at hvn hps hvf ⊢
     have hdm : decide ((200 : Int) < (many : Int) + 1) = decide (200 < many + 1) := by rw [decide_eq_decide]; omega
     have hbp := qMU (s := s) (q := a1) (c := 93) (many := many + 1) (k := n + 1) (by decide) (by omega)
     have hbeh : qAU s 93 (many + 1) a1 = if nxQ s (blQ s ⟨a1.pos, a1.nodes, a1.bad, a1.deep, Bool.or a1.big (decide (200 < many + 1))⟩) = 93 then (true, wE (blQ s ⟨a1.pos, a1.nodes, a1.bad, a1.deep, Bool.or a1.big (decide (200 < many + 1))⟩) 1) else (false, { (blQ s ⟨a1.pos, a1.nodes, a1.bad, a1.deep, Bool.or a1.big (decide (200 < many + 1))⟩) with pos := (blQ s ⟨a1.pos, a1.nodes, a1.bad, a1.deep, Bool.or a1.big (decide (200 < many + 1))⟩).pos + 1, bad := Bool.or (blQ s ⟨a1.pos, a1.nodes, a1.bad, a1.deep, Bool.or a1.big (decide (200 < many + 1))⟩).bad (decide (nxQ s (blQ s ⟨a1.pos, a1.nodes, a1.bad, a1.deep, Bool.or a1.big (decide (200 < many + 1))⟩) ≠ 44)) }) := rfl
     rw [hbeh] at hbp
     rw [hbeh]
     have hbl2 := kU (G := G) s ⟨a1.pos, a1.nodes, a1.bad, a1.deep, Bool.or a1.big (decide (200 < many + 1))⟩ (by omega) (by simp only; omega)
     have hx1 := vQ (s := s) (q := ⟨a1.pos, a1.nodes, a1.bad, a1.deep, Bool.or a1.big (decide (200 < many + 1))⟩) (k := n + 1) (by simp only; omega)
     have hx2 : (blQ s ⟨a1.pos, a1.nodes, a1.bad, a1.deep, Bool.or a1.big (decide (200 < many + 1))⟩).bad = a1.bad := rfl
     have hx3 : (blQ s ⟨a1.pos, a1.nodes, a1.bad, a1.deep, Bool.or a1.big (decide (200 < many + 1))⟩).nodes = a1.nodes := rfl
     generalize blQ s ⟨a1.pos, a1.nodes, a1.bad, a1.deep, Bool.or a1.big (decide (200 < many + 1))⟩ = B at *
     have hnx2 := qBE (G := G) s B (by omega) (by omega)
     have l44 : (((nxQ s B).toNat : Int) = 44) ↔ nxQ s B = 44 := zS _ 44 (by decide)
     have lC2 : (((nxQ s B).toNat : Int) = 93) ↔ nxQ s B = 93 := zS _ 93 (by decide)
     generalize nxQ s B = c at *
     refine AW.skip ?_
     refine rgn [] [[], [], []] ?_
     iterate 3 refine op1 tok ?_
     refine qV ?_
     refine qE.stepK [0, 2, 3, 5, 8, 9, 10, 69] (wY rfl hvn (by simp)) (by conv => lhs; simp) rfl ?_
     refine qE.run [[], [0, 2, 3, 5, 8, 9, 10, 11]] ?_
     iterate 2 refine op1 tok ?_
     refine qA ?_
     refine rgn [] [[], [], [0, 2, 3, 5, 8, 9, 10, 11]] ?_
     iterate 3 refine op1 tok ?_
     refine qA ?_
     refine rgn [] [[], [], [], [], [], [0, 2, 3, 5, 8, 9, 10, 11, 72, 77], [], [], [], [0, 2, 3, 5, 8, 9, 10, 11, 80, 81], [], [0, 2, 3, 5, 8, 9, 10, 11]] ?_
     iterate 6 refine op1 tok ?_ (h := by intro C; conv => lhs; simp [hdm])
     iterate 2 refine op2 tok ?_ (h := by intro C; conv => lhs; simp [hdm])
     iterate 4 refine op1 tok ?_ (h := by intro C; conv => lhs; simp [hdm])
     refine qA ?_
     refine AW.seq ?_
     refine rgn [] [[], [], [0, 2, 3, 5, 8, 9, 10, 11, 85]] ?_
     iterate 3 refine op1 tok ?_
     refine qA ?_
     refine cnd ?_ ?_
     ·intro h85
      try simp at h85
     ·intro h85
      try simp at h85
      refine rgz [v.enc] [[], [], [], [], [0, 2, 3, 5, 8, 9, 94], [], [0, 2, 3, 5, 8, 9]] ?_
      iterate 7 refine op1 tok ?_
      refine qA ?_
      refine rgn [] [[]] ?_
      refine op1 tok ?_
      refine qV ?_
      refine qE.stepK [0, 2, 3, 5, 8, 9] (wY rfl hbl2 (by simp)) (by conv => lhs; simp) rfl ?_
      refine qE.nil ?_
      refine rgn [] [[]] ?_
      refine op1 tok ?_
      refine qV ?_
      refine qE.stepK [0, 2, 3, 5, 8, 9, 99] (wY rfl hnx2 (by simp)) (by conv => lhs; simp) rfl ?_
      refine qE.run [[0, 2, 3, 5, 8, 9, 12]] ?_
      refine op1 tok ?_
      refine qA ?_
      refine rgn [] [[], [], [], [], [], [0, 2, 3, 5, 8, 9, 12, 104, 105], [], [0, 2, 3, 5, 8, 9, 12]] ?_
      iterate 8 refine op1 tok ?_
      refine qA ?_
      refine AW.seq ?_
      refine rgn [] [[], [], [0, 2, 3, 5, 8, 9, 12, 109]] ?_
      iterate 3 refine op1 tok ?_
      refine qA ?_
      refine cnd ?_ ?_
      ·intro h109
       try simp at h109
       rw [if_pos (lC2.1 h109)]
       simp only [if_true]
       refine AW.freeze 3 ?_
       refine AW.freeze 8 ?_
       refine rgn [] [[], [8]] ?_
       iterate 2 refine op1 tok ?_
       refine qA ?_
       exact AW.ret ⟨.inr rfl, _, _, by (conv => lhs; simp), trivial, by simp [dc0], by simp, by simp, by simp⟩
      ·intro h109
       try simp at h109
       rw [if_neg (fun e => h109 (lC2.2 e))]
       rw [if_neg (fun e => h109 (lC2.2 e))] at hbp
       simp only [Bool.false_eq_true, if_false]
       simp only at hbp
       refine AW.skip ?_
       refine rgn [] [[], [0, 2, 3, 5, 8, 9, 112]] ?_
       iterate 2 refine op1 tok ?_
       refine qA ?_
       refine cnd ?_ ?_
       ·intro h112
        try simp at h112
        have hn4 : c ≠ 44 := fun e => h112 (l44.2 e)
        simp only [decide_eq_true (show c ≠ 44 from hn4), Bool.or_true]
        refine rgz [] [[], [], [], [0, 2, 3, 5, 8, 9]] ?_
        iterate 4 refine op1 tok ?_
        refine qA ?_
        exact ⟨(n, ⟨B.pos + 1, B.nodes, true, B.deep, B.big⟩, many + 1, ks, vs ++ [v]), ⟨rfl, by omega, by omega, fun h => (by cases h), by simp only; omega, by simp; omega⟩, by simp only; omega, qB (by simp), rfl, by simp, by simp⟩
       ·intro h112
        try simp at h112
        have hn4 : c = 44 := l44.1 (by omega)
        have hd0 : decide (c ≠ 44) = false := by simp [hn4]
        rw [hd0] at hbp ⊢
        simp only [Bool.or_false] at hbp ⊢
        have hinv : B.bad = false → 2 * (s.length - (B.pos + 1)) + 3 ≤ n ∧ B.pos + 1 ≤ s.length ∧ B.nodes + (s.length - (B.pos + 1)) ≤ 10000000000 ∧ q.pos + 1 ≤ B.pos + 1 := fun h => by
         rw [hx2] at h
         have hvf := hvf h
         have hb1 := hbp.2.1 (by rw [hx2]; exact h)
         have hb2 := hbp.2.2
         omega
        refine AW.skip ?_
        exact ⟨(n, ⟨B.pos + 1, B.nodes, B.bad, B.deep, B.big⟩, many + 1, ks, vs ++ [v]), ⟨rfl, by omega, by omega, hinv, by simp only; omega, by simp; omega⟩, by simp only; omega, qB (by simp), rfl, by simp, by simp⟩
  ·intro h38
   try simp at h38
   rw [if_pos (show p.bad = true by simpa using h38)]
   refine AW.exit ?_
   simp
   refine AW.freeze 3 ?_
   refine AW.freeze 8 ?_
   refine rgn [] [[], [8]] ?_
   iterate 2 refine op1 tok ?_
   refine qA ?_
   exact AW.ret ⟨.inr rfl, _, _, by (conv => lhs; simp), trivial, by simp [dc0], by simp, by simp, by simp⟩
theorem kidsO_ax (N : Nat) (s : List UInt8) (q : RQ) (d : Nat) (hs : s.length ≤ 100000) (hp : q.pos < s.length) (hb0 : q.bad = false) (hN : 2 * (s.length - q.pos) + 1 ≤ N) (hN2 : N ≤ 1000000) (hk : q.nodes + (s.length - q.pos) ≤ 10000000001) (hd : d + (s.length - q.pos) ≤ 10000000000) (hv : qJY G s N (d + 1)) : AX Tryz.prog G 183 [.ptr 2 0, .agg [.p (.int .i64 7), .p (.int .u64 0), .p (.bool false), .p (.str []), .p (.int .i64 0), .p (.str []), .nilsl, .nilsl, .p (.int .i64 0)], .p (.int .i64 d), .p (.int .u8 125)] [(2, .vars 137 (rqC s q))] (.agg (Val.mk 7 0 dc0 [] (jX s N q d true 125).2.1 (jX s N q d true 125).2.2 0).cells) [2] [(2, .vars 137 (rqC s (jX s N q d true 125).1))] := by
 refine AX.introU tok 900 Tryz.func183 (by kernel_rfl) rfl rfl ?_
 simp only [Tryz.f183, qK, List.map_cons, List.map_nil]
 have hM : jX s N q d true 125 = if nxQ s (blQ s (wE q 1)) = 125 then (wE (blQ s (wE q 1)) 1, [], []) else yG s N (blQ s (wE q 1)) d true 125 0 [] [] := rfl
 rw [hM]
 have hbx := kU (G := G) s (wE q 1) (by omega) (by simp only [wE]; omega)
 have h1 := vQ (s := s) (q := wE q 1) (k := 0) (by simp only [wE]; omega)
 have h2 : q.pos + 1 ≤ (blQ s (wE q 1)).pos := qIO s (wE q 1)
 have h3 : (blQ s (wE q 1)).bad = false := hb0
 have h4 : (blQ s (wE q 1)).nodes = q.nodes := rfl
 generalize blQ s (wE q 1) = Q at *
 have hnx := qBE (G := G) s Q (by omega) (by omega)
 have lC : (((nxQ s Q).toNat : Int) = 125) ↔ nxQ s Q = 125 := zS _ 125 (by decide)
 refine rgn [] [[], [0, 2, 3, 5, 8]] ?_
 iterate 2 refine op1 tok ?_
 refine qA ?_
 refine AW.beginBox 905 3 6 9 1 (by simp; exact ⟨rfl, rfl⟩) (by simp) (by simp) (by conv => lhs; simp) ?_
 refine AW.beginBox 905 8 7 31 9 (by simp; exact ⟨rfl, rfl⟩) (by simp) (by simp) (by conv => lhs; simp) ?_
 refine rgn [] [[], [], [], [], [], [0, 2, 3, 5, 8, 17, 18], [], [0, 2, 3, 5, 8]] ?_
 iterate 8 refine op1 tok ?_
 refine qA ?_
 refine rgn [] [[]] ?_
 refine op1 tok ?_
 refine qV ?_
 refine qE.stepK [0, 2, 3, 5, 8] (wY rfl hbx (by simp)) (by conv => lhs; simp) rfl ?_
 refine qE.nil ?_
 refine AW.seq ?_
 refine rgn [] [[]] ?_
 refine op1 tok ?_
 refine qV ?_
 refine qE.stepK [0, 2, 3, 5, 8, 23] (wY rfl hnx (by simp)) (by conv => lhs; simp) rfl ?_
 refine qE.run [[], [0, 2, 3, 5, 8, 25]] ?_
 iterate 2 refine op1 tok ?_
 refine qA ?_
 refine cnd ?_ ?_
 ·intro h25
  try simp at h25
  rw [if_pos (lC.1 h25)]
  refine rgn [] [[], [], [], [], [5, 8, 26, 30], [], [], [5, 8]] ?_
  iterate 8 refine op1 tok ?_
  refine qA ?_
  refine AW.freeze 3 ?_
  refine AW.freeze 8 ?_
  refine rgn [] [[], [8]] ?_
  iterate 2 refine op1 tok ?_
  refine qA ?_
  exact AW.ret ⟨.inr rfl, _, _, by (conv => lhs; simp), trivial, by simp [dc0], by simp, by simp, by simp⟩
 ·intro h25
  try simp at h25
  rw [if_neg (fun e => h25 (lC.2 e))]
  refine AW.skip ?_
  refine rgn [] [[]] ?_
  refine op1 tok ?_
  refine qA ?_
  refine AW.seq ?_
  refine AW.block ?_
  refine AW.loop (α := Nat × RQ × Nat × List (List UInt8) × List Val) (fun a => yG s N Q d true 125 0 [] [] = yG s a.1 a.2.1 d true 125 a.2.2.1 a.2.2.2.1 a.2.2.2.2 ∧ 1 ≤ a.1 ∧ a.1 ≤ N ∧ (a.2.1.bad = false → 2 * (s.length - a.2.1.pos) + 3 ≤ a.1 ∧ a.2.1.pos ≤ s.length ∧ a.2.1.nodes + (s.length - a.2.1.pos) ≤ 10000000000 ∧ q.pos + 1 ≤ a.2.1.pos) ∧ a.2.2.1 + a.1 ≤ N ∧ a.2.2.2.2.length + a.1 ≤ N ∧ a.2.2.2.1.length = a.2.2.2.2.length) (fun a => ⟨qW 117 [(0, .ptr 2 0), (2, .p (.int .i64 d)), (3, .p (.int .u8 125)), (5, .ptr 905 0), (8, .ptr 908 0), (9, .p (.int .i64 a.2.2.1))], [2], [(2, .vars 137 (rqC s a.2.1)), (905, .vars 31 [.p (.int .i64 7), .p (.int .u64 0), .p (.bool false), .p (.str []), .p (.int .i64 0), .p (.str []), .ms 3, .ms 8, .p (.int .i64 0)]), (908, .vars 31 [.p (.int .i64 0), .p (.int .u64 0), .p (.bool false), .p (.str []), .p (.int .i64 0), .p (.str []), .nilsl, .nilsl, .p (.int .i64 0)]), (3, .row 9 1 (a.2.2.2.1.map PD.str)), (8, .row 31 9 (a.2.2.2.2.map Val.enc))], 900⟩) (fun a => a.1) ((N, Q, 0, [], [])) ⟨rfl, by simp only; omega, by simp, fun _ => by simp only; omega, by simp, by simp, rfl⟩ ⟨qB (by simp), rfl, by simp, by simp⟩ ?_
  rintro ⟨n, p, many, ks, vs⟩ ⟨hq, hf, hfN, hpl, hml, hvl, hkl⟩
  simp only at hq hf hfN hpl hml hvl hkl
  rw [hq]
  clear hq
  obtain ⟨n, rfl⟩ : ∃ g, n = g + 1 := ⟨n - 1, by omega⟩
  rw [jS]
  refine AW.seq ?_
  refine rgn [] [[], [], [], [], [0, 2, 3, 5, 8, 9, 38]] ?_
  iterate 5 refine op1 tok ?_
  refine qA ?_
  refine cnd ?_ ?_
  ·intro h38
   try simp at h38
   have hb : p.bad = false := by simpa using h38
   rw [if_neg (show ¬ p.bad = true by rw [hb]; simp)]
   obtain ⟨f1, f2, f3, f4⟩ := hpl hb
   have hbl1 := kU (G := G) s p (by omega) (by omega)
   have hh := qIE (s := s) (obj := true) (q := p) f2
   have hp1 := vQ (s := s) (q := p) (k := 0) (by omega)
   have hd1 : yO s true p = qGY s (blQ s p) := rfl
   have hqa := qLE (G := G) s (blQ s p) (by omega) (by omega)
   have hqp := qDJ (s := s) (q := blQ s p) hp1
   have hky : qGY s (blQ s p) = ({ (blQ s (zE s (blQ s p)).1) with pos := (blQ s (zE s (blQ s p)).1).pos + 1, bad := Bool.or (blQ s (zE s (blQ s p)).1).bad (decide (nxQ s (blQ s (zE s (blQ s p)).1) ≠ 58)) }, (zE s (blQ s p)).2) := rfl
   have hqn : (zE s (blQ s p)).1.nodes = p.nodes := by unfold zE; split <;> rfl
   have hbl3 := kU (G := G) s (zE s (blQ s p)).1 (by omega) (by omega)
   have hb3 := vQ (s := s) (q := (zE s (blQ s p)).1) (k := 0) (by omega)
   have hbn3 : (blQ s (zE s (blQ s p)).1).nodes = (zE s (blQ s p)).1.nodes := rfl
   have hnx3 := qBE (G := G) s (blQ s (zE s (blQ s p)).1) (by omega) (by omega)
   rw [hky] at hd1
   rw [hd1] at hh ⊢
   generalize blQ s (zE s (blQ s p)).1 = B3 at *
   generalize zE s (blQ s p) = QK at *
   obtain ⟨Q2, key⟩ := QK
   have l58 : (((nxQ s B3).toNat : Int) = 58) ↔ nxQ s B3 = 58 := zS _ 58 (by decide)
   generalize nxQ s B3 = c3 at *
   have hpl2 := fun v => qRH hkl key v
   generalize hbd : Bool.or B3.bad (decide (c3 ≠ 58)) = bd at *
   simp only at hh hqa hqp hqn hbl3 hb3 hbn3 hnx3 ⊢
   have hmm := fun (A : RQ × Val) => (show qNH true ks vs key A.2 = xR ks vs key A.2 from rfl)
   simp only [hmm]
   refine AW.skip ?_
   refine AW.block ?_
   refine rgn [] [[]] ?_
   refine op1 tok ?_
   refine qV ?_
   refine qE.stepK [0, 2, 3, 5, 8, 9] (wY rfl hbl1 (by simp)) (by conv => lhs; simp) rfl ?_
   refine qE.nil ?_
   refine rgn [] [[]] ?_
   refine op1 tok ?_
   refine qA ?_
   refine AW.seq ?_
   refine rgn [] [[], [], [0, 2, 3, 5, 8, 9, 10, 43]] ?_
   iterate 3 refine op1 tok ?_
   refine qA ?_
   refine cnd ?_ ?_
   ·intro h43
    try simp at h43
    refine rgn [] [[]] ?_
    refine op1 tok ?_
    refine qV ?_
    refine qE.stepK [0, 2, 3, 5, 8, 9, 45] (wY rfl hqa (by simp)) (by conv => lhs; simp) rfl ?_
    refine qE.run [[0, 2, 3, 5, 8, 9, 10]] ?_
    refine op1 tok ?_
    refine qA ?_
    refine rgn [] [[]] ?_
    refine op1 tok ?_
    refine qV ?_
    refine qE.stepK [0, 2, 3, 5, 8, 9, 10] (wY rfl hbl3 (by simp)) (by conv => lhs; simp) rfl ?_
    refine qE.nil ?_
    refine AW.join (α := Unit) (fun _ => True) (fun _ => ⟨qW 117 [(0, .ptr 2 0), (2, .p (.int .i64 d)), (3, .p (.int .u8 125)), (5, .ptr 905 0), (8, .ptr 908 0), (9, .p (.int .i64 many)), (10, .p (.str key))], [2], [(2, .vars 137 [.p (.str s), .p (.int .i64 B3.pos), .p (.int .i64 B3.nodes), .p (.bool bd), .p (.bool B3.deep), .p (.bool B3.big)]), (905, .vars 31 [.p (.int .i64 7), .p (.int .u64 0), .p (.bool false), .p (.str []), .p (.int .i64 0), .p (.str []), .ms 3, .ms 8, .p (.int .i64 0)]), (908, .vars 31 [.p (.int .i64 0), .p (.int .u64 0), .p (.bool false), .p (.str []), .p (.int .i64 0), .p (.str []), .nilsl, .nilsl, .p (.int .i64 0)]), (3, .row 9 1 (ks.map PD.str)), (8, .row 31 9 (vs.map Val.enc))], 900⟩) ?_ ?_
    ·
     refine rgn [] [[]] ?_
     refine op1 tok ?_
     refine qV ?_
     refine qE.stepK [0, 2, 3, 5, 8, 9, 10, 49] (wY rfl hnx3 (by simp)) (by conv => lhs; simp) rfl ?_
     refine qE.run [[0, 2, 3, 5, 8, 9, 10, 50]] ?_
     refine op1 tok ?_
     refine qA ?_
     refine cnd ?_ ?_
     ·intro h50
      try simp at h50
      have hbt : bd = true := by rw [← hbd, decide_eq_true (show c3 ≠ 58 from fun e => h50 (l58.2 e))]; simp
      refine rgz [] [[], [], [], [0, 2, 3, 5, 8, 9, 10]] ?_
      iterate 4 refine op1 tok ?_
      refine qA ?_
      exact ⟨(), trivial, qB (by simp [hbt]), rfl, by simp [hbt], by simp [hbt]⟩
     ·intro h50
      try simp at h50
      have hbt : B3.bad = bd := by rw [← hbd, decide_eq_false (show ¬ c3 ≠ 58 from fun e => e (l58.1 (by omega)))]; simp
      refine AW.skip ?_
      exact ⟨(), trivial, qB (by simp [hbt]), rfl, by simp [hbt], by simp [hbt]⟩
    ·
     rintro _ _
     refine rgz [] [[], [], [], [], [], [0, 2, 3, 5, 8, 9, 10, 58, 59], [], [0, 2, 3, 5, 8, 9, 10]] ?_
     iterate 8 refine op1 tok ?_
     refine qA ?_
     refine AW.seq ?_
     refine rgn [] [[], [], [], [0, 2, 3, 5, 8, 9, 10, 64]] ?_
     iterate 4 refine op1 tok ?_
     refine qA ?_
     refine cnd ?_ ?_
     ·intro h64
      try simp at h64
      rw [if_pos h64]
      refine AW.freeze 3 ?_
      refine AW.freeze 8 ?_
      refine rgn [] [[], [8]] ?_
      iterate 2 refine op1 tok ?_
      refine qA ?_
      exact AW.ret ⟨.inr rfl, _, _, by (conv => lhs; simp), trivial, by simp [dc0], by simp, by simp, by simp⟩
     ·intro h64
      try simp at h64
      have hhb : (⟨B3.pos + 1, B3.nodes, bd, B3.deep, B3.big⟩ : RQ).bad = false := by simpa using h64
      rw [if_neg (show ¬ (⟨B3.pos + 1, B3.nodes, bd, B3.deep, B3.big⟩ : RQ).bad = true by rw [hhb]; simp)]
      have g2 := hh.2.1 hhb
      have hvn := hv n (⟨B3.pos + 1, B3.nodes, bd, B3.deep, B3.big⟩ : RQ) (by omega) hhb g2 (by (try simp only); omega) (by (try simp only); omega) (by (try simp only); omega)
      have hps := ((posQ s n).1 (⟨B3.pos + 1, B3.nodes, bd, B3.deep, B3.big⟩ : RQ) (d + 1) g2).1
      have hvf := qKG (s := s) (q := (⟨B3.pos + 1, B3.nodes, bd, B3.deep, B3.big⟩ : RQ)) n (d + 1) hhb g2
      rw [show (((d + 1 : Nat) : Int)) = (d : Int) + 1 from by omega] at hvn
      generalize yU s n (⟨B3.pos + 1, B3.nodes, bd, B3.deep, B3.big⟩ : RQ) (d + 1) = A at *
      obtain ⟨a1, v⟩ := A
      simp only at hvn hps hvf ⊢
      have hdm : decide ((200 : Int) < (many : Int) + 1) = decide (200 < many + 1) := by rw [decide_eq_decide]; omega
      have hbp := qMU (s := s) (q := a1) (c := 125) (many := many + 1) (k := n + 1) (by decide) (by omega)
      have hbeh : qAU s 125 (many + 1) a1 = if nxQ s (blQ s ⟨a1.pos, a1.nodes, a1.bad, a1.deep, Bool.or a1.big (decide (200 < many + 1))⟩) = 125 then (true, wE (blQ s ⟨a1.pos, a1.nodes, a1.bad, a1.deep, Bool.or a1.big (decide (200 < many + 1))⟩) 1) else (false, { (blQ s ⟨a1.pos, a1.nodes, a1.bad, a1.deep, Bool.or a1.big (decide (200 < many + 1))⟩) with pos := (blQ s ⟨a1.pos, a1.nodes, a1.bad, a1.deep, Bool.or a1.big (decide (200 < many + 1))⟩).pos + 1, bad := Bool.or (blQ s ⟨a1.pos, a1.nodes, a1.bad, a1.deep, Bool.or a1.big (decide (200 < many + 1))⟩).bad (decide (nxQ s (blQ s ⟨a1.pos, a1.nodes, a1.bad, a1.deep, Bool.or a1.big (decide (200 < many + 1))⟩) ≠ 44)) }) := rfl
      rw [hbeh] at hbp
      rw [hbeh]
      have hbl2 := kU (G := G) s ⟨a1.pos, a1.nodes, a1.bad, a1.deep, Bool.or a1.big (decide (200 < many + 1))⟩ (by omega) (by simp only; omega)
      have hx1 := vQ (s := s) (q := ⟨a1.pos, a1.nodes, a1.bad, a1.deep, Bool.or a1.big (decide (200 < many + 1))⟩) (k := n + 1) (by simp only; omega)
      have hx2 : (blQ s ⟨a1.pos, a1.nodes, a1.bad, a1.deep, Bool.or a1.big (decide (200 < many + 1))⟩).bad = a1.bad := rfl
      have hx3 : (blQ s ⟨a1.pos, a1.nodes, a1.bad, a1.deep, Bool.or a1.big (decide (200 < many + 1))⟩).nodes = a1.nodes := rfl
      generalize blQ s ⟨a1.pos, a1.nodes, a1.bad, a1.deep, Bool.or a1.big (decide (200 < many + 1))⟩ = B at *
      have hnx2 := qBE (G := G) s B (by omega) (by omega)
      have l44 : (((nxQ s B).toNat : Int) = 44) ↔ nxQ s B = 44 := zS _ 44 (by decide)
      have lC2 : (((nxQ s B).toNat : Int) = 125) ↔ nxQ s B = 125 := zS _ 125 (by decide)
      generalize nxQ s B = c at *
      refine AW.skip ?_
      refine rgn [] [[], [], []] ?_
      iterate 3 refine op1 tok ?_
      refine qV ?_
      refine qE.stepK [0, 2, 3, 5, 8, 9, 10, 69] (wY rfl hvn (by simp)) (by conv => lhs; simp) rfl ?_
      refine qE.run [[], [0, 2, 3, 5, 8, 9, 10, 11]] ?_
      iterate 2 refine op1 tok ?_
      refine qA ?_
      refine rgn [] [[], [], [0, 2, 3, 5, 8, 9, 10, 11]] ?_
      iterate 3 refine op1 tok ?_
      refine qA ?_
      refine rgn [] [[], [], [], [], [], [0, 2, 3, 5, 8, 9, 10, 11, 72, 77], [], [], [], [0, 2, 3, 5, 8, 9, 10, 11, 80, 81], [], [0, 2, 3, 5, 8, 9, 10, 11]] ?_
      iterate 6 refine op1 tok ?_ (h := by intro C; conv => lhs; simp [hdm])
      iterate 2 refine op2 tok ?_ (h := by intro C; conv => lhs; simp [hdm])
      iterate 4 refine op1 tok ?_ (h := by intro C; conv => lhs; simp [hdm])
      refine qA ?_
      refine AW.seq ?_
      refine rgn [] [[], [], [0, 2, 3, 5, 8, 9, 10, 11, 85]] ?_
      iterate 3 refine op1 tok ?_
      refine qA ?_
      refine cnd ?_ ?_
      ·intro h85
       try simp at h85
       refine rgz [] [[], [], []] ?_
       iterate 3 refine op1 tok ?_
       refine qV ?_
       refine qE.stepK [0, 2, 3, 5, 8, 9, 89] (wY rfl (putQ_ax ks vs key v hkl (by omega)) (by simp)) (by conv => lhs; simp) rfl ?_
       refine qE.run [[0, 2, 3, 5, 8, 9]] ?_
       refine op1 tok ?_
       refine qA ?_
       refine rgn [] [[]] ?_
       refine op1 tok ?_
       refine qV ?_
       refine qE.stepK [0, 2, 3, 5, 8, 9] (wY rfl hbl2 (by simp)) (by conv => lhs; simp) rfl ?_
       refine qE.nil ?_
       refine rgn [] [[]] ?_
       refine op1 tok ?_
       refine qV ?_
       refine qE.stepK [0, 2, 3, 5, 8, 9, 99] (wY rfl hnx2 (by simp)) (by conv => lhs; simp) rfl ?_
       refine qE.run [[0, 2, 3, 5, 8, 9, 12]] ?_
       refine op1 tok ?_
       refine qA ?_
       refine rgn [] [[], [], [], [], [], [0, 2, 3, 5, 8, 9, 12, 104, 105], [], [0, 2, 3, 5, 8, 9, 12]] ?_
       iterate 8 refine op1 tok ?_
       refine qA ?_
       refine AW.seq ?_
       refine rgn [] [[], [], [0, 2, 3, 5, 8, 9, 12, 109]] ?_
       iterate 3 refine op1 tok ?_
       refine qA ?_
       refine cnd ?_ ?_
       ·intro h109
        try simp at h109
        rw [if_pos (lC2.1 h109)]
        simp only [if_true]
        refine AW.freeze 3 ?_
        refine AW.freeze 8 ?_
        refine rgn [] [[], [8]] ?_
        iterate 2 refine op1 tok ?_
        refine qA ?_
        exact AW.ret ⟨.inr rfl, _, _, by (conv => lhs; simp), trivial, by simp [dc0], by simp, by simp, by simp⟩
       ·intro h109
        try simp at h109
        rw [if_neg (fun e => h109 (lC2.2 e))]
        rw [if_neg (fun e => h109 (lC2.2 e))] at hbp
        simp only [Bool.false_eq_true, if_false]
        simp only at hbp
        refine AW.skip ?_
        refine rgn [] [[], [0, 2, 3, 5, 8, 9, 112]] ?_
        iterate 2 refine op1 tok ?_
        refine qA ?_
        refine cnd ?_ ?_
        ·intro h112
         try simp at h112
         have hn4 : c ≠ 44 := fun e => h112 (l44.2 e)
         have hpl3 := hpl2 v
         simp only [decide_eq_true (show c ≠ 44 from hn4), Bool.or_true]
         refine rgz [] [[], [], [], [0, 2, 3, 5, 8, 9]] ?_
         iterate 4 refine op1 tok ?_
         refine qA ?_
         exact ⟨(n, ⟨B.pos + 1, B.nodes, true, B.deep, B.big⟩, many + 1, (xR ks vs key v).1, (xR ks vs key v).2), ⟨rfl, by omega, by omega, fun h => (by cases h), by simp only; omega, by (simp only; omega), (qRH hkl key v).1⟩, by simp only; omega, qB (by simp), rfl, by simp, by simp⟩
        ·intro h112
         try simp at h112
         have hn4 : c = 44 := l44.1 (by omega)
         have hd0 : decide (c ≠ 44) = false := by simp [hn4]
         rw [hd0] at hbp ⊢
         simp only [Bool.or_false] at hbp ⊢
         have hpl3 := hpl2 v
         have hinv : B.bad = false → 2 * (s.length - (B.pos + 1)) + 3 ≤ n ∧ B.pos + 1 ≤ s.length ∧ B.nodes + (s.length - (B.pos + 1)) ≤ 10000000000 ∧ q.pos + 1 ≤ B.pos + 1 := fun h => by
          rw [hx2] at h
          have hvf := hvf h
          have hb1 := hbp.2.1 (by rw [hx2]; exact h)
          have hb2 := hbp.2.2
          omega
         refine AW.skip ?_
         exact ⟨(n, ⟨B.pos + 1, B.nodes, B.bad, B.deep, B.big⟩, many + 1, (xR ks vs key v).1, (xR ks vs key v).2), ⟨rfl, by omega, by omega, hinv, by simp only; omega, by (simp only; omega), (qRH hkl key v).1⟩, by simp only; omega, qB (by simp), rfl, by simp, by simp⟩
      ·intro h85
       try simp at h85
   ·intro h43
    try simp at h43
  ·intro h38
   try simp at h38
   rw [if_pos (show p.bad = true by simpa using h38)]
   refine AW.exit ?_
   simp
   refine AW.freeze 3 ?_
   refine AW.freeze 8 ?_
   refine rgn [] [[], [8]] ?_
   iterate 2 refine op1 tok ?_
   refine qA ?_
   exact AW.ret ⟨.inr rfl, _, _, by (conv => lhs; simp), trivial, by simp [dc0], by simp, by simp, by simp⟩
end Go.Proofs.YtdojfdaglbphlaaGreatDoor
