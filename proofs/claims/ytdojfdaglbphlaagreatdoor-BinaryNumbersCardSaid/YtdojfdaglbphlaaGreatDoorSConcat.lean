import Derived.Test.YtdojfdaglbphlaaGreatDoorSTwo2
import Derived.Test.YtdojfdaglbphlaaGreatDoorSCore29
namespace Go.Proofs.YtdojfdaglbphlaaGreatDoor
open Sy Go
set_option maxRecDepth 100000
set_option maxHeartbeats 4000000
set_option linter.unusedSimpArgs false
set_option linter.unusedVariables false
variable {G : qS}
theorem growV_ax (n : Nat) (hn : n ≤ 1000000) : AX Tryz.prog G 136 [.nilsl, .p (.int .i64 n)] [] (.ms 940) [] [(940, .row 31 9 [])] := by
 refine AX.introU tok 700 Tryz.func136 (by kernel_rfl) rfl rfl ?_
 simp only [Tryz.f136, qK, List.map_cons, List.map_nil]
 refine rgn [] [[0, 1]] ?_
 refine op1 tok ?_
 refine qA ?_
 refine AW.seq ?_
 refine rgn [] [[], [0, 1, 6]] ?_
 iterate 2 refine op1 tok ?_
 refine qA ?_
 refine cnd ?_ ?_
 ·intro h6
  try simp at h6
  omega
 ·intro h6
  try simp at h6
  refine AW.skip ?_
  refine AW.seq ?_
  refine rgn [] [[], []] ?_
  iterate 2 refine op1 tok ?_
  refine qV ?_
  refine qE.stepK [0, 8, 10] (qSZ tok rfl rfl (by conv => lhs; simp) trivial) (by conv => lhs; simp) rfl ?_
  refine qE.run [[], [], [], [0, 14], [0, 1]] ?_
  iterate 5 refine op1 tok ?_
  refine qA ?_
  refine rgn [] [[], [0, 1, 16]] ?_
  iterate 2 refine op1 tok ?_
  refine qA ?_
  refine cnd ?_ ?_
  ·intro h16
   try simp at h16
   skip
   refine rgz [] [[], []] ?_
   iterate 2 refine op1 tok ?_
   refine qV ?_
   refine qE.stepK [0, 1, 17, 19] (qSZ tok rfl rfl (by conv => lhs; simp) trivial) (by conv => lhs; simp) rfl ?_
   refine qE.stepK [0, 1, 20] (qWM tok rfl rfl (by conv => lhs; simp) trivial (by conv => lhs; simp) trivial rfl) (by conv => lhs; simp) rfl ?_
   refine qE.run [[]] ?_
   refine op1 tok ?_
   refine qV ?_
   refine qE.stepK [0, 22] (y_growNil tok rfl rfl rfl (n := n) (by conv => lhs; simp) trivial (by conv => lhs; simp) trivial rfl rfl rfl rfl rfl (by decide) (by decide) (e0 := yJ.enc) (by simp [yJ, dc0, V.fitsL]) (by omega) (Nat.le_trans (Nat.mul_le_mul_right _ hn) (by decide)) 940 (by simp)) (by conv => lhs; simp) rfl ?_
   refine qE.run [[], []] ?_
   iterate 2 refine op1 tok ?_
   refine qV ?_
   refine qE.stepK [25] (qSY tok rfl rfl 0 (by conv => lhs; simp) trivial (by conv => lhs; simp) trivial rfl (by conv => lhs; simp) (by simp) (by omega)) (by conv => lhs; simp) rfl ?_
   refine qE.run [[0]] ?_
   refine op1 tok ?_
   refine qA ?_
   refine rgn [] [[], [4]] ?_
   iterate 2 refine op1 tok ?_
   refine qA ?_
   exact AW.ret ⟨.inr rfl, _, _, by (conv => lhs; simp), trivial, by simp, by simp, by simp, by simp⟩
  ·intro h16
   try simp at h16
   refine AW.skip ?_
   refine rgn [] [[], [4]] ?_
   iterate 2 refine op1 tok ?_
   refine qA ?_
   refine AW.beginE 4 940 31 9 (by simp) (by simp) (by conv => lhs; simp) ?_
   exact AW.ret ⟨.inr rfl, _, _, by (conv => lhs; simp), trivial, by simp, by simp, by simp, by simp⟩
def qGJ (L : List (List Val)) : List PD := L.map fun l => .sl 9 (l.map Val.enc)
theorem qOQ {L : List (List Val)} {k : Nat} {l : List Val} (h : L[k]? = some l) : (qGJ L)[k]? = some (.sl 9 (l.map Val.enc)) := by simp [qGJ, h]
@[simp] theorem rowsP_len (L : List (List Val)) : (qGJ L).length = L.length := by simp [qGJ]
def qHC (L : List (List Val)) (k : Nat) : List Val := (L.take k).flatten
def qMZ (L : List (List Val)) (k : Nat) : Nat := (qHC L k).length
theorem qMI {L : List (List Val)} {k : Nat} {l : List Val} (h : L[k]? = some l) : qHC L (k + 1) = qHC L k ++ l := by
 unfold qHC
 rw [List.take_add_one, h, List.flatten_append]; simp
theorem qOH {L : List (List Val)} {k : Nat} {l : List Val} (h : L[k]? = some l) : ((qMZ L (k + 1) : Nat) : Int) = (qMZ L k : Int) + (l.length : Int) := by
 unfold qMZ
 rw [qMI h, List.length_append]; omega
theorem flatK_all (L : List (List Val)) : qHC L L.length = L.flatten := by unfold qHC; rw [List.take_length]
theorem sumK_le (L : List (List Val)) (k : Nat) : qMZ L k ≤ L.flatten.length := by
 have : L.flatten = (L.take k).flatten ++ (L.drop k).flatten := by rw [← List.flatten_append, List.take_append_drop]
 unfold qMZ qHC
 rw [this, List.length_append]; omega
theorem concat_ev (L : List (List Val)) (hL : L.length ≤ 1000000) (hF : L.flatten.length ≤ 1000000) : AFn Tryz.prog G 79 [.sl 1 (qGJ L)] (.sl 9 (L.flatten.map Val.enc)) := by
 refine AFn.introU tok Tryz.func79 (by kernel_rfl) rfl rfl ?_
 simp only [Tryz.f79, qK, List.map_cons, List.map_nil]
 have hfl := sumK_le L
 have hz : qMZ L 0 = 0 := rfl
 have hz2 : qHC L 0 = [] := rfl
 have hall := flatK_all L
 have hsum : qMZ L L.length = L.flatten.length := by unfold qMZ; rw [hall]
 generalize L.flatten = Z at *
 refine rgn [] [[0]] ?_
 refine op1 tok ?_
 refine qA ?_
 refine rgn [] [[]] ?_
 refine op1 tok ?_
 refine qA ?_
 refine AW.seq ?_
 refine rgn [] [[], [], []] ?_
 iterate 3 refine op1 tok ?_
 refine qA ?_
 refine AW.block ?_
 refine AW.loop (α := Nat) (fun k => k ≤ L.length) (fun k => ⟨qW 36 [(0, .p (.sl 1 (qGJ L))), (3, .p (.int .i64 (qMZ L k))), (9, .p (.sl 1 (qGJ L))), (10, .p (.int .i64 L.length)), (11, .p (.int .i64 k))], [], [], 0⟩) (fun k => L.length - k) (0) (by omega) ⟨qB (by simp [hz]), rfl, by simp [hz], by simp [hz]⟩ ?_
 rintro k hk
 refine rgn [] [[]] ?_
 refine op1 tok ?_
 refine qA ?_
 refine AW.seq ?_
 refine cnd ?_ ?_
 ·intro h12
  try simp at h12
  obtain ⟨l, hl⟩ : ∃ l, L[k]? = some l := ⟨L[k]'(by omega), List.getElem?_eq_getElem _⟩
  have hg := qOQ hl
  have hlen := qOH hl
  have h1 := hfl (k + 1)
  refine AW.skip ?_
  refine AW.seq ?_
  refine AW.block ?_
  refine rgn [.sl 9 (l.map Val.enc)] [[], [], [0, 3, 5, 9, 10, 11]] ?_
  iterate 3 refine op1 tok ?_ (hv := by first | with_reducible exact True.intro | (first | (simp [hg]; done) | (simp [hg]; omega); done) | omega | simp | (simp +contextual; omega))
  refine qA ?_
  refine rgn [] [[], [], [], [0, 9, 10, 11, 18], [0, 3, 9, 10, 11]] ?_
  iterate 5 refine op1 tok ?_
  refine qA ?_
  refine rgn [] [[], [0, 3, 9, 10, 11, 20]] ?_
  iterate 2 refine op1 tok ?_
  refine qA ?_
  refine cnd ?_ ?_
  ·intro h20
   try simp at h20
   omega
  ·intro h20
   try simp at h20
   refine AW.skip ?_
   refine rgz [] [[], [0, 3, 9, 10, 11]] ?_
   iterate 2 refine op1 tok ?_
   refine qA ?_
   exact ⟨k + 1, by omega, by omega, qB (by simp [hlen]), rfl, by simp [hlen], by simp [hlen]⟩
 ·intro h12
  try simp at h12
  obtain rfl : k = L.length := by omega
  rw [hsum]
  have hgr := growV_ax (G := G) Z.length hF
  refine AW.exit ?_
  simp
  refine rgn [] [[]] ?_
  refine op1 tok ?_
  refine qV ?_
  refine qE.stepK [0, 24] (wY rfl hgr (by simp)) (by conv => lhs; simp) rfl ?_
  refine qE.run [[0, 6]] ?_
  refine op1 tok ?_
  refine qA ?_
  refine AW.seq ?_
  refine rgn [] [[], [], [6, 25, 26, 27]] ?_
  iterate 3 refine op1 tok ?_
  refine qA ?_
  refine AW.block ?_
  refine AW.loop (α := Nat) (fun k => k ≤ L.length) (fun k => ⟨qW 36 [(6, .ms 940), (25, .p (.sl 1 (qGJ L))), (26, .p (.int .i64 L.length)), (27, .p (.int .i64 k))], [], [(940, .row 31 9 ((qHC L k).map Val.enc))], 0⟩) (fun k => L.length - k) (0) (by omega) ⟨qB (by simp [hz2]), rfl, by simp [hz2], by simp [hz2]⟩ ?_
  rintro k hk
  refine rgn [] [[]] ?_
  refine op1 tok ?_
  refine qA ?_
  refine AW.seq ?_
  refine cnd ?_ ?_
  ·intro h28
   try simp at h28
   obtain ⟨l, hl⟩ : ∃ l, L[k]? = some l := ⟨L[k]'(by omega), List.getElem?_eq_getElem _⟩
   have hg := qOQ hl
   have hs := qMI hl
   have h1 := hfl (k + 1)
   have h2 := hfl k
   have hlen := qOH hl
   unfold qMZ at h1 h2 hlen
   refine AW.skip ?_
   refine AW.seq ?_
   refine AW.block ?_
   refine rgn [.sl 9 (l.map Val.enc)] [[], [], [6, 8, 25, 26, 27]] ?_
   iterate 3 refine op1 tok ?_ (hv := by first | with_reducible exact True.intro | (first | (simp [hg]; done) | (simp [hg]; omega); done) | omega | simp | (simp +contextual; omega))
   refine qA ?_
   refine rgz [] [[], [], [25, 26, 27, 33], [6, 25, 26, 27]] ?_
   iterate 4 refine op1 tok ?_
   refine qA ?_
   refine rgz [] [[], [6, 25, 26, 27]] ?_
   iterate 2 refine op1 tok ?_
   refine qA ?_
   exact ⟨k + 1, by omega, by omega, qB (by simp [hs]), rfl, by simp [hs], by simp [hs]⟩
  ·intro h28
   try simp at h28
   obtain rfl : k = L.length := by omega
   rw [hall]
   refine AW.exit ?_
   simp
   refine AW.freezeE 940 (by conv => lhs; simp) ?_
   refine rgn [] [[], [2]] ?_
   iterate 2 refine op1 tok ?_
   refine qA ?_
   exact AW.ret ⟨.inr rfl, _, _, by (conv => lhs; simp), trivial, by simp⟩
def qYS (v : Val) (m : Int) : Val := if 200 < v.kids.length ∨ 4096 < v.text.length then wQ 3 m else v
def plusT (a b : Val) (m : Int) : Val :=
 if a.kind = 1 then qAC b m else if b.kind = 1 then qAC a m else if a.kind = 5 ∧ b.kind = 5 then qYS (.mk 5 m dc0 (a.text ++ b.text) [] [] 0) m
 else if a.kind = 6 ∧ b.kind = 6 then qYS (.mk 6 m dc0 [] [] (a.kids ++ b.kids) 0) m else if a.kind = 7 ∧ b.kind = 7 then qYS (vO a b m) m else wQ 40 m
theorem qJE {v : Val} (h : zL v = true) : v.text.length ≤ 4096 := by
 rw [qAI] at h
 simp only [Bool.and_eq_true, qBX] at h
 have h2 := h.1.2.1.1.2
 unfold qTK at h2
 split at h2
 ·unfold qCS at h2
  simp only [Bool.and_eq_true, decide_eq_true_eq] at h2
  omega
 ·simp at h2; simp [h2]
theorem qLN (a b : Val) (top deep : Int) (g : FuncId) (hn : ¬ (a.kind = 4 ∧ b.kind = 4)) : AFn Tryz.prog G 34 [.agg (prC a b top deep), .fn g] ((wQ 40 top).enc) := by
 refine AFn.introU tok Tryz.func34 (by kernel_rfl) rfl rfl ?_
 simp only [Tryz.f34, qK, List.map_cons, List.map_nil]
 have hk := yS (G := G) a b top deep 4
 have hf := qDK (G := G) a b top deep 40
 rw [show (decide (a.kind = 4) && decide (b.kind = 4)) = false by rw [← Bool.decide_and, decide_eq_false hn]] at hk
 simp only [Val.enc_def] at hf
 refine rgn [] [[], [1, 2, 4]] ?_
 iterate 2 refine op1 tok ?_
 refine qA ?_
 refine AW.seq ?_
 refine rgn [.nilp, .bool false] [[], [], [1, 2, 4, 9]] ?_
 iterate 3 refine op1 tok ?_ (hv := by first | with_reducible exact True.intro | (exact hk; done) | omega | simp | (simp +contextual; omega))
 refine qA ?_
 refine cnd ?_ ?_
 ·intro h9
  try simp at h9
  refine rgn [.nilp, (wQ 40 top).enc] [[], [], [4]] ?_
  iterate 3 refine op1 tok ?_ (hv := by first | with_reducible exact True.intro | (exact hf; done) | omega | simp | (simp +contextual; omega))
  refine qA ?_
  exact AW.ret ⟨.inr rfl, _, _, by (conv => lhs; simp), trivial, by simp⟩
 ·intro h9
  try simp at h9
theorem plusN_ev (a b : Val) (top deep : Int) (ha : zL a = true) (hb : zL b = true) (hn : ¬ (a.kind = 4 ∧ b.kind = 4)) (hla : a.kind = 7 → a.keys.length = a.kids.length) (hlb : b.kind = 7 → b.keys.length = b.kids.length) : AFn Tryz.prog G 32 [.agg (prC a b top deep)] ((plusT a b top).enc) := by
 refine AFn.introU tok Tryz.func32 (by kernel_rfl) rfl rfl ?_
 simp only [Tryz.f32, qK, List.map_cons, List.map_nil]
 have k5 := yS (G := G) a b top deep 5
 have k6 := yS (G := G) a b top deep 6
 have k7 := yS (G := G) a b top deep 7
 have w1 := qZA (G := G) a top ha
 have w2 := qZA (G := G) b top hb
 have hsa := xY ha
 have hsb := xY hb
 have hcc := concat_ev (G := G) [a.kids, b.kids] (by simp) (by simp; omega)
 rw [show [a.kids, b.kids].flatten = a.kids ++ b.kids by simp] at hcc
 have hcl := qQG (G := G) (.mk 6 top dc0 [] [] (a.kids ++ b.kids) 0) (.mk (by simp) (by simp only [Val.kids_mk, List.length_append]; omega) (by
  intro k hk
  rcases List.mem_append.1 hk with h | h
  ·exact qJX k (vA ha h)
  ·exact qJX k (vA hb h)))
 have hm := fun h7 : a.kind = 7 ∧ b.kind = 7 => qOY (G := G) a b top deep ha hb (hla h7.1) (hlb h7.2)
 have hf := qDK (G := G) a b top deep 3
 have hnum := qLN (G := G) a b top deep 81 hn
 have e : plusT a b top = if a.kind = 1 then qAC b top else if b.kind = 1 then qAC a top else if a.kind = 5 ∧ b.kind = 5 then qYS (.mk 5 top dc0 (a.text ++ b.text) [] [] 0) top
  else if a.kind = 6 ∧ b.kind = 6 then qYS (.mk 6 top dc0 [] [] (a.kids ++ b.kids) 0) top else if a.kind = 7 ∧ b.kind = 7 then qYS (vO a b top) top else wQ 40 top := rfl
 rw [e]
 simp only [Val.enc_def] at w1 w2 hm hf hnum hcl
 have ta := qJE ha
 have tb := qJE hb
 have hbg : ∀ v : Val, qYS v top = if 200 < v.kids.length ∨ 4096 < v.text.length then wQ 3 top else v := fun _ => rfl
 refine rgn [] [[], [1, 2]] ?_
 iterate 2 refine op1 tok ?_
 refine qA ?_
 refine rgn [] [[]] ?_
 refine op1 tok ?_
 refine qA ?_
 refine AW.seq ?_
 refine AW.block ?_
 refine rgn [] [[], [], [], [], [1, 2, 3, 6]] ?_
 iterate 5 refine op1 tok ?_
 refine qA ?_
 refine cnd ?_ ?_
 ·intro h6
  try simp at h6
  rw [if_pos h6]
  refine rgn [.nilp, (qAC b top).enc] [[], [], [], [], [2, 15], [2]] ?_
  iterate 6 refine op1 tok ?_ (hv := by first | with_reducible exact True.intro | (exact w2; done) | omega | simp | (simp +contextual; omega))
  refine qA ?_
  exact AW.ret ⟨.inr rfl, _, _, by (conv => lhs; simp), trivial, by simp [dc0]⟩
 ·intro h6
  try simp at h6
  rw [if_neg h6]
  refine rgn [] [[], [], [], [], [1, 2, 3, 16]] ?_
  iterate 5 refine op1 tok ?_
  refine qA ?_
  refine cnd ?_ ?_
  ·intro h16
   try simp at h16
   rw [if_pos h16]
   refine rgn [.nilp, (qAC a top).enc] [[], [], [], [], [2, 25], [2]] ?_
   iterate 6 refine op1 tok ?_ (hv := by first | with_reducible exact True.intro | (exact w1; done) | omega | simp | (simp +contextual; omega))
   refine qA ?_
   exact AW.ret ⟨.inr rfl, _, _, by (conv => lhs; simp), trivial, by simp [dc0]⟩
  ·intro h16
   try simp at h16
   rw [if_neg h16]
   refine rgn [.nilp, .bool (decide (a.kind = 5) && decide (b.kind = 5))] [[], [], [1, 2, 3, 26]] ?_
   iterate 3 refine op1 tok ?_ (hv := by first | with_reducible exact True.intro | (exact k5; done) | omega | simp | (simp +contextual; omega))
   refine qA ?_
   refine cnd ?_ ?_
   ·intro h26
    try simp at h26
    rw [if_pos (by simpa using h26), hbg]
    refine rgz [] [[], [], [], [], [], [1, 2, 3, 31, 34], [], [], [], [1, 2, 3, 38], [1, 2, 3]] ?_
    iterate 11 refine op1 tok ?_ (hv := by first | with_reducible exact True.intro | (first | omega | (simp; omega); done) | omega | simp | (simp +contextual; omega))
    refine qA ?_
    refine AW.seq ?_
    refine rgn [] [[], [], [], [], [1, 2, 3, 63], [], [], [], [], [1, 2, 3, 68]] ?_
    iterate 5 refine op1 tok ?_
    iterate 4 refine op2 tok ?_
    refine op1 tok ?_
    refine qA ?_
    refine cnd ?_ ?_
    ·intro h68
     try simp at h68
     rw [if_pos (by first | omega | (simp at h68 ⊢; omega))]
     refine rgn [.nilp, (wQ 3 top).enc] [[], [], [2]] ?_
     iterate 3 refine op1 tok ?_ (hv := by first | with_reducible exact True.intro | (exact hf; done) | omega | simp | (simp +contextual; omega))
     refine qA ?_
     exact AW.ret ⟨.inr rfl, _, _, by (conv => lhs; simp), trivial, by simp [dc0]⟩
    ·intro h68
     try simp at h68
     rw [if_neg (by first | omega | (simp at h68 ⊢; omega))]
     refine AW.skip ?_
     refine rgn [] [[], [2]] ?_
     iterate 2 refine op1 tok ?_
     refine qA ?_
     exact AW.ret ⟨.inr rfl, _, _, by (conv => lhs; simp), trivial, by simp [dc0]⟩
   ·intro h26
    try simp at h26
    rw [if_neg (show ¬ (a.kind = 5 ∧ b.kind = 5) from fun h => by simp [h.1, h.2] at h26)]
    refine rgn [.nilp, .bool (decide (a.kind = 6) && decide (b.kind = 6))] [[], [], [1, 2, 3, 39]] ?_
    iterate 3 refine op1 tok ?_ (hv := by first | with_reducible exact True.intro | (exact k6; done) | omega | simp | (simp +contextual; omega))
    refine qA ?_
    refine cnd ?_ ?_
    ·intro h39
     try simp at h39
     rw [if_pos (by simpa using h39), hbg]
     refine AW.drawS tok mixed 12 [[1], [42], [43], [1], [45], [46], [44, 47], [48], [1], [50], [49, 51], [52]] [.sl 9 (a.kids.map Val.enc), .sl 9 (b.kids.map Val.enc), .nilp, .sl 9 ((a.kids ++ b.kids).map Val.enc), .nilp, (Val.mk 6 top dc0 [] [] (a.kids ++ b.kids) 0).enc] [] (by kernel_rfl) ?_
     iterate 12 refine d1 ?_ (hv := by first | with_reducible exact True.intro | (first | (simpa [qGJ] using hcc) | (simpa [dc0] using hcl); done) | omega | simp | (simp +contextual; omega))
     refine DGo.nil (by kernel_rfl) ⟨by kernel_rfl, ?_⟩
     refine qE.run [[1, 2, 3]] ?_
     refine op1 tok ?_
     refine qA ?_
     refine AW.seq ?_
     refine rgn [] [[], [], [], [], [1, 2, 3, 63], [], [], [], [], [1, 2, 3, 68]] ?_
     iterate 5 refine op1 tok ?_
     iterate 4 refine op2 tok ?_
     refine op1 tok ?_
     refine qA ?_
     refine cnd ?_ ?_
     ·intro h68
      try simp at h68
      rw [if_pos (by first | omega | (simp at h68 ⊢; omega))]
      refine rgn [.nilp, (wQ 3 top).enc] [[], [], [2]] ?_
      iterate 3 refine op1 tok ?_ (hv := by first | with_reducible exact True.intro | (exact hf; done) | omega | simp | (simp +contextual; omega))
      refine qA ?_
      exact AW.ret ⟨.inr rfl, _, _, by (conv => lhs; simp), trivial, by simp [dc0]⟩
     ·intro h68
      try simp at h68
      rw [if_neg (by first | omega | (simp at h68 ⊢; omega))]
      refine AW.skip ?_
      refine rgn [] [[], [2]] ?_
      iterate 2 refine op1 tok ?_
      refine qA ?_
      exact AW.ret ⟨.inr rfl, _, _, by (conv => lhs; simp), trivial, by simp [dc0]⟩
    ·intro h39
     try simp at h39
     rw [if_neg (show ¬ (a.kind = 6 ∧ b.kind = 6) from fun h => by simp [h.1, h.2] at h39)]
     refine rgn [.nilp, .bool (decide (a.kind = 7) && decide (b.kind = 7))] [[], [], [1, 2, 3, 54]] ?_
     iterate 3 refine op1 tok ?_ (hv := by first | with_reducible exact True.intro | (exact k7; done) | omega | simp | (simp +contextual; omega))
     refine qA ?_
     refine cnd ?_ ?_
     ·intro h54
      try simp at h54
      rw [if_pos (by simpa using h54), hbg]
      have hm := hm (by simpa using h54)
      generalize vO a b top = M at *
      refine rgz [.nilp, M.enc] [[], [], [1, 2, 3]] ?_
      iterate 3 refine op1 tok ?_ (hv := by first | with_reducible exact True.intro | (exact hm; done) | omega | simp | (simp +contextual; omega))
      refine qA ?_
      refine AW.seq ?_
      refine rgn [] [[], [], [], [], [1, 2, 3, 63], [], [], [], [], [1, 2, 3, 68]] ?_
      iterate 5 refine op1 tok ?_
      iterate 4 refine op2 tok ?_
      refine op1 tok ?_
      refine qA ?_
      refine cnd ?_ ?_
      ·intro h68
       try simp at h68
       rw [if_pos (by first | omega | (simp at h68 ⊢; omega))]
       refine rgn [.nilp, (wQ 3 top).enc] [[], [], [2]] ?_
       iterate 3 refine op1 tok ?_ (hv := by first | with_reducible exact True.intro | (exact hf; done) | omega | simp | (simp +contextual; omega))
       refine qA ?_
       exact AW.ret ⟨.inr rfl, _, _, by (conv => lhs; simp), trivial, by simp [dc0]⟩
      ·intro h68
       try simp at h68
       rw [if_neg (by first | omega | (simp at h68 ⊢; omega))]
       refine AW.skip ?_
       refine rgn [] [[], [2]] ?_
       iterate 2 refine op1 tok ?_
       refine qA ?_
       exact AW.ret ⟨.inr rfl, _, _, by (conv => lhs; simp), trivial, by simp [dc0]⟩
     ·intro h54
      try simp at h54
      rw [if_neg (show ¬ (a.kind = 7 ∧ b.kind = 7) from fun h => by simp [h.1, h.2] at h54)]
      refine rgn [.nilp, (wQ 40 top).enc] [[], [], [2]] ?_
      iterate 3 refine op1 tok ?_ (hv := by first | with_reducible exact True.intro | (exact hnum; done) | omega | simp | (simp +contextual; omega))
      refine qA ?_
      exact AW.ret ⟨.inr rfl, _, _, by (conv => lhs; simp), trivial, by simp [dc0]⟩
end Go.Proofs.YtdojfdaglbphlaaGreatDoor
