import Derived.Test.YtdojfdaglbphlaaGreatDoorSTwo2
import Derived.Test.YtdojfdaglbphlaaGreatDoorSCore29
namespace Go.Proofs.YtdojfdaglbphlaaGreatDoor
open Sy Go
set_option maxRecDepth 100000
set_option maxHeartbeats 4000000
set_option linter.unusedSimpArgs false
set_option linter.unusedVariables false
variable {G : qQ}
theorem zLR (n : Nat) (hn : n ≤ 1000000) : AX Tryz.prog G 136 [.nilsl, .p (.int .i64 n)] [] (.ms 940) [] [(940, .row 31 9 [])] := by
 refine AX.introU tok 700 Tryz.func136 (by kernel_rfl) rfl rfl ?_
 simp only [Tryz.f136, qJ, List.map_cons, List.map_nil]
 refine rgn [] [[0, 1]] ?_
 refine op1 tok ?_
 refine qA ?_
 refine AW.seq ?_
 refine rgn [] [[], [0, 1, 6]] ?_
 iterate 2 refine op1 tok ?_
 refine qA ?_
 refine cnd ?_ ?_
 ·intro h6
  try simp at h6
  omega
 ·intro h6
  try simp at h6
  refine AW.skip ?_
  refine AW.seq ?_
  refine rgn [] [[], []] ?_
  iterate 2 refine op1 tok ?_
  refine qV ?_
  refine qC.stepK [0, 8, 10] (qWD tok rfl rfl (by conv => lhs; simp) trivial) (by conv => lhs; simp) rfl ?_
  refine qC.run [[], [], [], [0, 14], [0, 1]] ?_
  iterate 5 refine op1 tok ?_
  refine qA ?_
  refine rgn [] [[], [0, 1, 16]] ?_
  iterate 2 refine op1 tok ?_
  refine qA ?_
  refine cnd ?_ ?_
  ·intro h16
   try simp at h16
   skip
   refine rgz [] [[], []] ?_
   iterate 2 refine op1 tok ?_
   refine qV ?_
   refine qC.stepK [0, 1, 17, 19] (qWD tok rfl rfl (by conv => lhs; simp) trivial) (by conv => lhs; simp) rfl ?_
   refine qC.stepK [0, 1, 20] (zAO tok rfl rfl (by conv => lhs; simp) trivial (by conv => lhs; simp) trivial rfl) (by conv => lhs; simp) rfl ?_
   refine qC.run [[]] ?_
   refine op1 tok ?_
   refine qV ?_
   refine qC.stepK [0, 22] (zFF tok rfl rfl rfl (n := n) (by conv => lhs; simp) trivial (by conv => lhs; simp) trivial rfl rfl rfl rfl rfl (by decide) (by decide) (e0 := wW.enc) (by simp [wW, dc0, V.fitsL]) (by omega) (Nat.le_trans (Nat.mul_le_mul_right _ hn) (by decide)) 940 (by simp)) (by conv => lhs; simp) rfl ?_
   refine qC.run [[], []] ?_
   iterate 2 refine op1 tok ?_
   refine qV ?_
   refine qC.stepK [25] (qWC tok rfl rfl 0 (by conv => lhs; simp) trivial (by conv => lhs; simp) trivial rfl (by conv => lhs; simp) (by simp) (by omega)) (by conv => lhs; simp) rfl ?_
   refine qC.run [[0]] ?_
   refine op1 tok ?_
   refine qA ?_
   refine rgn [] [[], [4]] ?_
   iterate 2 refine op1 tok ?_
   refine qA ?_
   exact AW.ret zX
  ·intro h16
   try simp at h16
   refine AW.skip ?_
   refine rgn [] [[], [4]] ?_
   iterate 2 refine op1 tok ?_
   refine qA ?_
   refine AW.beginE 4 940 31 9 (by simp) (by simp) (by conv => lhs; simp) ?_
   exact AW.ret zX
def qHV (L : List (List Val)) : List PD := L.map fun l => .sl 9 (l.map Val.enc)
theorem qRB {L : List (List Val)} {k : Nat} {l : List Val} (h : L[k]? = some l) : (qHV L)[k]? = some (.sl 9 (l.map Val.enc)) := by simp [qHV, h]
@[simp] theorem zTQ (L : List (List Val)) : (qHV L).length = L.length := by simp [qHV]
def qIT (L : List (List Val)) (k : Nat) : List Val := (L.take k).flatten
def qPP (L : List (List Val)) (k : Nat) : Nat := (qIT L k).length
theorem qOO {L : List (List Val)} {k : Nat} {l : List Val} (h : L[k]? = some l) : qIT L (k + 1) = qIT L k ++ l := by
 unfold qIT
 rw [List.take_add_one, h, List.flatten_append]; simp
theorem qQV {L : List (List Val)} {k : Nat} {l : List Val} (h : L[k]? = some l) : ((qPP L (k + 1) : Nat) : Int) = (qPP L k : Int) + (l.length : Int) := by
 unfold qPP
 rw [qOO h, List.length_append]; omega
theorem zHQ (L : List (List Val)) : qIT L L.length = L.flatten := by unfold qIT; rw [List.take_length]
theorem zNZ (L : List (List Val)) (k : Nat) : qPP L k ≤ L.flatten.length := by
 have : L.flatten = (L.take k).flatten ++ (L.drop k).flatten := by rw [← List.flatten_append, List.take_append_drop]
 unfold qPP qIT
 rw [this, List.length_append]; omega
theorem zHX (L : List (List Val)) (hL : L.length ≤ 1000000) (hF : L.flatten.length ≤ 1000000) : AFn Tryz.prog G 79 [.sl 1 (qHV L)] (.sl 9 (L.flatten.map Val.enc)) := by
 refine AFn.introU tok Tryz.func79 (by kernel_rfl) rfl rfl ?_
 simp only [Tryz.f79, qJ, List.map_cons, List.map_nil]
 have hfl := zNZ L
 have hz : qPP L 0 = 0 := rfl
 have hz2 : qIT L 0 = [] := rfl
 have hall := zHQ L
 have hsum : qPP L L.length = L.flatten.length := by unfold qPP; rw [hall]
 generalize L.flatten = Z at *
 refine rgn [] [[0]] ?_
 refine op1 tok ?_
 refine qA ?_
 refine rgn [] [[]] ?_
 refine op1 tok ?_
 refine qA ?_
 refine AW.seq ?_
 refine rgn [] [[], [], []] ?_
 iterate 3 refine op1 tok ?_
 refine qA ?_
 refine AW.block ?_
 refine AW.loop (α := Nat) (fun k => k ≤ L.length) (fun k => ⟨qW 36 [(0, .p (.sl 1 (qHV L))), (3, .p (.int .i64 (qPP L k))), (9, .p (.sl 1 (qHV L))), (10, .p (.int .i64 L.length)), (11, .p (.int .i64 k))], [], [], 0⟩) (fun k => L.length - k) (0) (by omega) ⟨qB (by simp [hz]), rfl, by simp [hz], by simp [hz]⟩ ?_
 rintro k hk
 refine rgn [] [[]] ?_
 refine op1 tok ?_
 refine qA ?_
 refine AW.seq ?_
 refine cnd ?_ ?_
 ·intro h12
  try simp at h12
  obtain ⟨l, hl⟩ : ∃ l, L[k]? = some l := ⟨L[k]'(by omega), List.getElem?_eq_getElem _⟩
  have hg := qRB hl
  have hlen := qQV hl
  have h1 := hfl (k + 1)
  refine AW.skip ?_
  refine AW.seq ?_
  refine AW.block ?_
  refine rgn [.sl 9 (l.map Val.enc)] [[], [], [0, 3, 5, 9, 10, 11]] ?_
  iterate 3 refine op1 tok ?_ (hv := by first | with_reducible exact True.intro | (first | (simp [hg]; done) | (simp [hg]; omega); done) | omega | simp | (simp +contextual; omega))
  refine qA ?_
  refine rgn [] [[], [], [], [0, 9, 10, 11, 18], [0, 3, 9, 10, 11]] ?_
  iterate 5 refine op1 tok ?_
  refine qA ?_
  refine rgn [] [[], [0, 3, 9, 10, 11, 20]] ?_
  iterate 2 refine op1 tok ?_
  refine qA ?_
  refine cnd ?_ ?_
  ·intro h20
   try simp at h20
   omega
  ·intro h20
   try simp at h20
   refine AW.skip ?_
   refine rgz [] [[], [0, 3, 9, 10, 11]] ?_
   iterate 2 refine op1 tok ?_
   refine qA ?_
   exact ⟨k + 1, by omega, by omega, qB (by simp [hlen]), rfl, by simp [hlen], by simp [hlen]⟩
 ·intro h12
  try simp at h12
  obtain rfl : k = L.length := by omega
  rw [hsum]
  have hgr := zLR (G := G) Z.length hF
  refine AW.exit ?_
  simp
  refine rgn [] [[]] ?_
  refine op1 tok ?_
  refine qV ?_
  refine qC.stepK [0, 24] (yI rfl hgr (by simp)) (by conv => lhs; simp) rfl ?_
  refine qC.run [[0, 6]] ?_
  refine op1 tok ?_
  refine qA ?_
  refine AW.seq ?_
  refine rgn [] [[], [], [6, 25, 26, 27]] ?_
  iterate 3 refine op1 tok ?_
  refine qA ?_
  refine AW.block ?_
  refine AW.loop (α := Nat) (fun k => k ≤ L.length) (fun k => ⟨qW 36 [(6, .ms 940), (25, .p (.sl 1 (qHV L))), (26, .p (.int .i64 L.length)), (27, .p (.int .i64 k))], [], [(940, .row 31 9 ((qIT L k).map Val.enc))], 0⟩) (fun k => L.length - k) (0) (by omega) ⟨qB (by simp [hz2]), rfl, by simp [hz2], by simp [hz2]⟩ ?_
  rintro k hk
  refine rgn [] [[]] ?_
  refine op1 tok ?_
  refine qA ?_
  refine AW.seq ?_
  refine cnd ?_ ?_
  ·intro h28
   try simp at h28
   obtain ⟨l, hl⟩ : ∃ l, L[k]? = some l := ⟨L[k]'(by omega), List.getElem?_eq_getElem _⟩
   have hg := qRB hl
   have hs := qOO hl
   have h1 := hfl (k + 1)
   have h2 := hfl k
   have hlen := qQV hl
   unfold qPP at h1 h2 hlen
   refine AW.skip ?_
   refine AW.seq ?_
   refine AW.block ?_
   refine rgn [.sl 9 (l.map Val.enc)] [[], [], [6, 8, 25, 26, 27]] ?_
   iterate 3 refine op1 tok ?_ (hv := by first | with_reducible exact True.intro | (first | (simp [hg]; done) | (simp [hg]; omega); done) | omega | simp | (simp +contextual; omega))
   refine qA ?_
   refine rgz [] [[], [], [25, 26, 27, 33], [6, 25, 26, 27]] ?_
   iterate 4 refine op1 tok ?_
   refine qA ?_
   refine rgz [] [[], [6, 25, 26, 27]] ?_
   iterate 2 refine op1 tok ?_
   refine qA ?_
   exact ⟨k + 1, by omega, by omega, qB (by simp [hs]), rfl, by simp [hs], by simp [hs]⟩
  ·intro h28
   try simp at h28
   obtain rfl : k = L.length := by omega
   rw [hall]
   refine AW.exit ?_
   simp
   refine AW.freezeE 940 (by conv => lhs; simp) ?_
   refine rgn [] [[], [2]] ?_
   iterate 2 refine op1 tok ?_
   refine qA ?_
   exact AW.ret qI
def qQH (v : Val) (m : Int) : Val := if 200 < v.kids.length ∨ 4096 < v.text.length then yR 3 m else v
def qRI (a b : Val) (m : Int) : Val :=
 if a.kind = 1 then qAL b m else if b.kind = 1 then qAL a m else if a.kind = 5 ∧ b.kind = 5 then qQH (.mk 5 m dc0 (a.text ++ b.text) [] [] 0) m
 else if a.kind = 6 ∧ b.kind = 6 then qQH (.mk 6 m dc0 [] [] (a.kids ++ b.kids) 0) m else if a.kind = 7 ∧ b.kind = 7 then qQH (jR a b m) m else yR 40 m
theorem qLC {v : Val} (h : qT v = true) : v.text.length ≤ 4096 := by
 rw [kW] at h
 simp only [Bool.and_eq_true, vV] at h
 have h2 := h.1.2.1.1.2
 unfold qHT at h2
 split at h2
 ·unfold jN at h2
  simp only [Bool.and_eq_true, decide_eq_true_eq] at h2
  omega
 ·simp at h2; simp [h2]
theorem qNR (a b : Val) (top deep : Int) (g : FuncId) (hn : ¬ (a.kind = 4 ∧ b.kind = 4)) : AFn Tryz.prog G 34 [.agg (prC a b top deep), .fn g] ((yR 40 top).enc) := by
 refine AFn.introU tok Tryz.func34 (by kernel_rfl) rfl rfl ?_
 simp only [Tryz.f34, qJ, List.map_cons, List.map_nil]
 have hk := kH (G := G) a b top deep 4
 have hf := qET (G := G) a b top deep 40
 rw [show (decide (a.kind = 4) && decide (b.kind = 4)) = false by rw [← Bool.decide_and, decide_eq_false hn]] at hk
 simp only [Val.enc_def] at hf
 refine rgn [] [[], [1, 2, 4]] ?_
 iterate 2 refine op1 tok ?_
 refine qA ?_
 refine AW.seq ?_
 refine rgn [.nilp, .bool false] [[], [], [1, 2, 4, 9]] ?_
 iterate 3 refine op1 tok ?_ (hv := by first | with_reducible exact True.intro | (exact hk; done) | omega | simp | (simp +contextual; omega))
 refine qA ?_
 refine cnd ?_ ?_
 ·intro h9
  try simp at h9
  refine rgn [.nilp, (yR 40 top).enc] [[], [], [4]] ?_
  iterate 3 refine op1 tok ?_ (hv := by first | with_reducible exact True.intro | (exact hf; done) | omega | simp | (simp +contextual; omega))
  refine qA ?_
  exact AW.ret qI
 ·intro h9
  try simp at h9
theorem zKI (a b : Val) (top deep : Int) (ha : qT a = true) (hb : qT b = true) (hn : ¬ (a.kind = 4 ∧ b.kind = 4)) (hla : a.kind = 7 → a.keys.length = a.kids.length) (hlb : b.kind = 7 → b.keys.length = b.kids.length) : AFn Tryz.prog G 32 [.agg (prC a b top deep)] ((qRI a b top).enc) := by
 refine AFn.introU tok Tryz.func32 (by kernel_rfl) rfl rfl ?_
 simp only [Tryz.f32, qJ, List.map_cons, List.map_nil]
 have k5 := kH (G := G) a b top deep 5
 have k6 := kH (G := G) a b top deep 6
 have k7 := kH (G := G) a b top deep 7
 have w1 := zDG (G := G) a top ha
 have w2 := zDG (G := G) b top hb
 have hsa := kG ha
 have hsb := kG hb
 have hcc := zHX (G := G) [a.kids, b.kids] (by simp) (by simp; omega)
 rw [show [a.kids, b.kids].flatten = a.kids ++ b.kids by simp] at hcc
 have hcl := qSZ (G := G) (.mk 6 top dc0 [] [] (a.kids ++ b.kids) 0) (.mk (by simp) (by simp only [Val.kids_mk, List.length_append]; omega) (by
  intro k hk
  rcases List.mem_append.1 hk with h | h
  ·exact qLZ k (zU ha h)
  ·exact qLZ k (zU hb h)))
 have hm := fun h7 : a.kind = 7 ∧ b.kind = 7 => qRO (G := G) a b top deep ha hb (hla h7.1) (hlb h7.2)
 have hf := qET (G := G) a b top deep 3
 have hnum := qNR (G := G) a b top deep 81 hn
 have e : qRI a b top = if a.kind = 1 then qAL b top else if b.kind = 1 then qAL a top else if a.kind = 5 ∧ b.kind = 5 then qQH (.mk 5 top dc0 (a.text ++ b.text) [] [] 0) top
  else if a.kind = 6 ∧ b.kind = 6 then qQH (.mk 6 top dc0 [] [] (a.kids ++ b.kids) 0) top else if a.kind = 7 ∧ b.kind = 7 then qQH (jR a b top) top else yR 40 top := rfl
 rw [e]
 simp only [Val.enc_def] at w1 w2 hm hf hnum hcl
 have ta := qLC ha
 have tb := qLC hb
 have hbg : ∀ v : Val, qQH v top = if 200 < v.kids.length ∨ 4096 < v.text.length then yR 3 top else v := fun _ => rfl
 refine rgn [] [[], [1, 2]] ?_
 iterate 2 refine op1 tok ?_
 refine qA ?_
 refine rgn [] [[]] ?_
 refine op1 tok ?_
 refine qA ?_
 refine AW.seq ?_
 refine AW.block ?_
 refine rgn [] [[], [], [], [], [1, 2, 3, 6]] ?_
 iterate 5 refine op1 tok ?_
 refine qA ?_
 refine cnd ?_ ?_
 ·intro h6
  try simp at h6
  rw [if_pos h6]
  refine rgn [.nilp, (qAL b top).enc] [[], [], [], [], [2, 15], [2]] ?_
  iterate 6 refine op1 tok ?_ (hv := by first | with_reducible exact True.intro | (exact w2; done) | omega | simp | (simp +contextual; omega))
  refine qA ?_
  exact AW.ret (qI (k := by simp [dc0]))
 ·intro h6
  try simp at h6
  rw [if_neg h6]
  refine rgn [] [[], [], [], [], [1, 2, 3, 16]] ?_
  iterate 5 refine op1 tok ?_
  refine qA ?_
  refine cnd ?_ ?_
  ·intro h16
   try simp at h16
   rw [if_pos h16]
   refine rgn [.nilp, (qAL a top).enc] [[], [], [], [], [2, 25], [2]] ?_
   iterate 6 refine op1 tok ?_ (hv := by first | with_reducible exact True.intro | (exact w1; done) | omega | simp | (simp +contextual; omega))
   refine qA ?_
   exact AW.ret (qI (k := by simp [dc0]))
  ·intro h16
   try simp at h16
   rw [if_neg h16]
   refine rgn [.nilp, .bool (decide (a.kind = 5) && decide (b.kind = 5))] [[], [], [1, 2, 3, 26]] ?_
   iterate 3 refine op1 tok ?_ (hv := by first | with_reducible exact True.intro | (exact k5; done) | omega | simp | (simp +contextual; omega))
   refine qA ?_
   refine cnd ?_ ?_
   ·intro h26
    try simp at h26
    rw [if_pos (by simpa using h26), hbg]
    refine rgz [] [[], [], [], [], [], [1, 2, 3, 31, 34], [], [], [], [1, 2, 3, 38], [1, 2, 3]] ?_
    iterate 11 refine op1 tok ?_ (hv := by first | with_reducible exact True.intro | (first | omega | (simp; omega); done) | omega | simp | (simp +contextual; omega))
    refine qA ?_
    refine AW.seq ?_
    refine rgn [] [[], [], [], [], [1, 2, 3, 63], [], [], [], [], [1, 2, 3, 68]] ?_
    iterate 5 refine op1 tok ?_
    iterate 4 refine op2 tok ?_
    refine op1 tok ?_
    refine qA ?_
    refine cnd ?_ ?_
    ·intro h68
     try simp at h68
     rw [if_pos (by first | omega | (simp at h68 ⊢; omega))]
     refine rgn [.nilp, (yR 3 top).enc] [[], [], [2]] ?_
     iterate 3 refine op1 tok ?_ (hv := by first | with_reducible exact True.intro | (exact hf; done) | omega | simp | (simp +contextual; omega))
     refine qA ?_
     exact AW.ret (qI (k := by simp [dc0]))
    ·intro h68
     try simp at h68
     rw [if_neg (by first | omega | (simp at h68 ⊢; omega))]
     refine AW.skip ?_
     refine rgn [] [[], [2]] ?_
     iterate 2 refine op1 tok ?_
     refine qA ?_
     exact AW.ret (qI (k := by simp [dc0]))
   ·intro h26
    try simp at h26
    rw [if_neg (show ¬ (a.kind = 5 ∧ b.kind = 5) from fun h => by simp [h.1, h.2] at h26)]
    refine rgn [.nilp, .bool (decide (a.kind = 6) && decide (b.kind = 6))] [[], [], [1, 2, 3, 39]] ?_
    iterate 3 refine op1 tok ?_ (hv := by first | with_reducible exact True.intro | (exact k6; done) | omega | simp | (simp +contextual; omega))
    refine qA ?_
    refine cnd ?_ ?_
    ·intro h39
     try simp at h39
     rw [if_pos (by simpa using h39), hbg]
     refine AW.drawS tok mixed 12 [[1], [42], [43], [1], [45], [46], [44, 47], [48], [1], [50], [49, 51], [52]] [.sl 9 (a.kids.map Val.enc), .sl 9 (b.kids.map Val.enc), .nilp, .sl 9 ((a.kids ++ b.kids).map Val.enc), .nilp, (Val.mk 6 top dc0 [] [] (a.kids ++ b.kids) 0).enc] [] (by kernel_rfl) ?_
     iterate 12 refine d1 ?_ (hv := by first | with_reducible exact True.intro | (first | (simpa [qHV] using hcc) | (simpa [dc0] using hcl); done) | omega | simp | (simp +contextual; omega))
     refine DGo.nil (by kernel_rfl) ⟨by kernel_rfl, ?_⟩
     refine qC.run [[1, 2, 3]] ?_
     refine op1 tok ?_
     refine qA ?_
     refine AW.seq ?_
     refine rgn [] [[], [], [], [], [1, 2, 3, 63], [], [], [], [], [1, 2, 3, 68]] ?_
     iterate 5 refine op1 tok ?_
     iterate 4 refine op2 tok ?_
     refine op1 tok ?_
     refine qA ?_
     refine cnd ?_ ?_
     ·intro h68
      try simp at h68
      rw [if_pos (by first | omega | (simp at h68 ⊢; omega))]
      refine rgn [.nilp, (yR 3 top).enc] [[], [], [2]] ?_
      iterate 3 refine op1 tok ?_ (hv := by first | with_reducible exact True.intro | (exact hf; done) | omega | simp | (simp +contextual; omega))
      refine qA ?_
      exact AW.ret (qI (k := by simp [dc0]))
     ·intro h68
      try simp at h68
      rw [if_neg (by first | omega | (simp at h68 ⊢; omega))]
      refine AW.skip ?_
      refine rgn [] [[], [2]] ?_
      iterate 2 refine op1 tok ?_
      refine qA ?_
      exact AW.ret (qI (k := by simp [dc0]))
    ·intro h39
     try simp at h39
     rw [if_neg (show ¬ (a.kind = 6 ∧ b.kind = 6) from fun h => by simp [h.1, h.2] at h39)]
     refine rgn [.nilp, .bool (decide (a.kind = 7) && decide (b.kind = 7))] [[], [], [1, 2, 3, 54]] ?_
     iterate 3 refine op1 tok ?_ (hv := by first | with_reducible exact True.intro | (exact k7; done) | omega | simp | (simp +contextual; omega))
     refine qA ?_
     refine cnd ?_ ?_
     ·intro h54
      try simp at h54
      rw [if_pos (by simpa using h54), hbg]
      have hm := hm (by simpa using h54)
      generalize jR a b top = M at *
      refine rgz [.nilp, M.enc] [[], [], [1, 2, 3]] ?_
      iterate 3 refine op1 tok ?_ (hv := by first | with_reducible exact True.intro | (exact hm; done) | omega | simp | (simp +contextual; omega))
      refine qA ?_
      refine AW.seq ?_
      refine rgn [] [[], [], [], [], [1, 2, 3, 63], [], [], [], [], [1, 2, 3, 68]] ?_
      iterate 5 refine op1 tok ?_
      iterate 4 refine op2 tok ?_
      refine op1 tok ?_
      refine qA ?_
      refine cnd ?_ ?_
      ·intro h68
       try simp at h68
       rw [if_pos (by first | omega | (simp at h68 ⊢; omega))]
       refine rgn [.nilp, (yR 3 top).enc] [[], [], [2]] ?_
       iterate 3 refine op1 tok ?_ (hv := by first | with_reducible exact True.intro | (exact hf; done) | omega | simp | (simp +contextual; omega))
       refine qA ?_
       exact AW.ret (qI (k := by simp [dc0]))
      ·intro h68
       try simp at h68
       rw [if_neg (by first | omega | (simp at h68 ⊢; omega))]
       refine AW.skip ?_
       refine rgn [] [[], [2]] ?_
       iterate 2 refine op1 tok ?_
       refine qA ?_
       exact AW.ret (qI (k := by simp [dc0]))
     ·intro h54
      try simp at h54
      rw [if_neg (show ¬ (a.kind = 7 ∧ b.kind = 7) from fun h => by simp [h.1, h.2] at h54)]
      refine rgn [.nilp, (yR 40 top).enc] [[], [], [2]] ?_
      iterate 3 refine op1 tok ?_ (hv := by first | with_reducible exact True.intro | (exact hnum; done) | omega | simp | (simp +contextual; omega))
      refine qA ?_
      exact AW.ret (qI (k := by simp [dc0]))
end Go.Proofs.YtdojfdaglbphlaaGreatDoor
