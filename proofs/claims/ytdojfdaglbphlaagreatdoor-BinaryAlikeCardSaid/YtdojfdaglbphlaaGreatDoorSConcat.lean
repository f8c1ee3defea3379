import Derived.Test.YtdojfdaglbphlaaGreatDoorSTwo2
import Derived.Test.YtdojfdaglbphlaaGreatDoorSCore29
namespace Go.Proofs.YtdojfdaglbphlaaGreatDoor
open Sy Go
set_option maxRecDepth 100000
set_option maxHeartbeats 4000000
set_option linter.unusedSimpArgs false
set_option linter.unusedVariables false
variable {G : qV}
theorem zMZ (n : Nat) (hn : n ≤ 1000000) : AX Tryz.prog G 136 [.nilsl, .p (.int .i64 n)] [] (.ms 940) [] [(940, .row 31 9 [])] := by
 refine AX.introU tok 700 Tryz.func136 (by kernel_rfl) rfl rfl ?_
 simp only [Tryz.f136, qI, List.map_cons, List.map_nil]
 refine rgn [] [[0, 1]] ?_
 refine op1 tok ?_
 refine qA ?_
 refine AW.seq ?_
 refine rgn [] [[], [0, 1, 6]] ?_
 iterate 2 refine op1 tok ?_
 refine qA ?_
 refine cnd ?_ ?_
 ·intro h6
  try simp at h6
  omega
 ·intro h6
  try simp at h6
  refine AW.skip ?_
  refine AW.seq ?_
  refine rgn [] [[], []] ?_
  iterate 2 refine op1 tok ?_
  refine qX ?_
  refine qC.stepK [0, 8, 10] (qXV tok rfl rfl (by conv => lhs; simp) trivial) (by conv => lhs; simp) rfl ?_
  refine qC.run [[], [], [], [0, 14], [0, 1]] ?_
  iterate 5 refine op1 tok ?_
  refine qA ?_
  refine rgn [] [[], [0, 1, 16]] ?_
  iterate 2 refine op1 tok ?_
  refine qA ?_
  refine cnd ?_ ?_
  ·intro h16
   try simp at h16
   skip
   refine rgz [] [[], []] ?_
   iterate 2 refine op1 tok ?_
   refine qX ?_
   refine qC.stepK [0, 1, 17, 19] (qXV tok rfl rfl (by conv => lhs; simp) trivial) (by conv => lhs; simp) rfl ?_
   refine qC.stepK [0, 1, 20] (zCA tok rfl rfl (by conv => lhs; simp) trivial (by conv => lhs; simp) trivial rfl) (by conv => lhs; simp) rfl ?_
   refine qC.run [[]] ?_
   refine op1 tok ?_
   refine qX ?_
   refine qC.stepK [0, 22] (zGX tok rfl rfl rfl (n := n) (by conv => lhs; simp) trivial (by conv => lhs; simp) trivial rfl rfl rfl rfl rfl (by decide) (by decide) (e0 := wU.enc) (by simp [wU, dc0, V.fitsL]) (by omega) (Nat.le_trans (Nat.mul_le_mul_right _ hn) (by decide)) 940 (by simp)) (by conv => lhs; simp) rfl ?_
   refine qC.run [[], []] ?_
   iterate 2 refine op1 tok ?_
   refine qX ?_
   refine qC.stepK [25] (qXU tok rfl rfl 0 (by conv => lhs; simp) trivial (by conv => lhs; simp) trivial rfl (by conv => lhs; simp) (by simp) (by omega)) (by conv => lhs; simp) rfl ?_
   refine qC.run [[0]] ?_
   refine op1 tok ?_
   refine qA ?_
   refine rgn [] [[], [4]] ?_
   iterate 2 refine op1 tok ?_
   refine qA ?_
   exact AW.ret zU
  ·intro h16
   try simp at h16
   refine AW.skip ?_
   refine rgn [] [[], [4]] ?_
   iterate 2 refine op1 tok ?_
   refine qA ?_
   refine AW.beginE 4 940 31 9 (by simp) (by simp) (by conv => lhs; simp) ?_
   exact AW.ret zU
def qIS (L : List (List Val)) : List PD := L.map fun l => .sl 9 (l.map Val.enc)
theorem qSL {L : List (List Val)} {k : Nat} {l : List Val} (h : L[k]? = some l) : (qIS L)[k]? = some (.sl 9 (l.map Val.enc)) := by simp [qIS, h]
@[simp] theorem zUY (L : List (List Val)) : (qIS L).length = L.length := by simp [qIS]
def qJR (L : List (List Val)) (k : Nat) : List Val := (L.take k).flatten
def qQY (L : List (List Val)) (k : Nat) : Nat := (qJR L k).length
theorem qPR {L : List (List Val)} {k : Nat} {l : List Val} (h : L[k]? = some l) : qJR L (k + 1) = qJR L k ++ l := by
 unfold qJR
 rw [List.take_add_one, h, List.flatten_append]; simp
theorem qSD {L : List (List Val)} {k : Nat} {l : List Val} (h : L[k]? = some l) : ((qQY L (k + 1) : Nat) : Int) = (qQY L k : Int) + (l.length : Int) := by
 unfold qQY
 rw [qPR h, List.length_append]; omega
theorem zIZ (L : List (List Val)) : qJR L L.length = L.flatten := by unfold qJR; rw [List.take_length]
theorem zPH (L : List (List Val)) (k : Nat) : qQY L k ≤ L.flatten.length := by
 have : L.flatten = (L.take k).flatten ++ (L.drop k).flatten := by rw [← List.flatten_append, List.take_append_drop]
 unfold qQY qJR
 rw [this, List.length_append]; omega
theorem zJD (L : List (List Val)) (hL : L.length ≤ 1000000) (hF : L.flatten.length ≤ 1000000) : AFn Tryz.prog G 79 [.sl 1 (qIS L)] (.sl 9 (L.flatten.map Val.enc)) := by
 refine AFn.introU tok Tryz.func79 (by kernel_rfl) rfl rfl ?_
 simp only [Tryz.f79, qI, List.map_cons, List.map_nil]
 have hfl := zPH L
 have hz : qQY L 0 = 0 := rfl
 have hz2 : qJR L 0 = [] := rfl
 have hall := zIZ L
 have hsum : qQY L L.length = L.flatten.length := by unfold qQY; rw [hall]
 generalize L.flatten = Z at *
 refine rgn [] [[0]] ?_
 refine op1 tok ?_
 refine qA ?_
 refine rgn [] [[]] ?_
 refine op1 tok ?_
 refine qA ?_
 refine AW.seq ?_
 refine rgn [] [[], [], []] ?_
 iterate 3 refine op1 tok ?_
 refine qA ?_
 refine AW.block ?_
 refine AW.loop (α := Nat) (fun k => k ≤ L.length) (fun k => ⟨qY 36 [(0, .p (.sl 1 (qIS L))), (3, .p (.int .i64 (qQY L k))), (9, .p (.sl 1 (qIS L))), (10, .p (.int .i64 L.length)), (11, .p (.int .i64 k))], [], [], 0⟩) (fun k => L.length - k) (0) (by omega) ⟨qB (by simp [hz]), rfl, by simp [hz], by simp [hz]⟩ ?_
 rintro k hk
 refine rgn [] [[]] ?_
 refine op1 tok ?_
 refine qA ?_
 refine AW.seq ?_
 refine cnd ?_ ?_
 ·intro h12
  try simp at h12
  obtain ⟨l, hl⟩ : ∃ l, L[k]? = some l := ⟨L[k]'(by omega), List.getElem?_eq_getElem _⟩
  have hg := qSL hl
  have hlen := qSD hl
  have h1 := hfl (k + 1)
  refine AW.skip ?_
  refine AW.seq ?_
  refine AW.block ?_
  refine rgn [.sl 9 (l.map Val.enc)] [[], [], [0, 3, 5, 9, 10, 11]] ?_
  iterate 3 refine op1 tok ?_ (hv := by first | with_reducible exact True.intro | (first | (simp [hg]; done) | (simp [hg]; omega); done) | omega | simp | (simp +contextual; omega))
  refine qA ?_
  refine rgn [] [[], [], [], [0, 9, 10, 11, 18], [0, 3, 9, 10, 11]] ?_
  iterate 5 refine op1 tok ?_
  refine qA ?_
  refine rgn [] [[], [0, 3, 9, 10, 11, 20]] ?_
  iterate 2 refine op1 tok ?_
  refine qA ?_
  refine cnd ?_ ?_
  ·intro h20
   try simp at h20
   omega
  ·intro h20
   try simp at h20
   refine AW.skip ?_
   refine rgz [] [[], [0, 3, 9, 10, 11]] ?_
   iterate 2 refine op1 tok ?_
   refine qA ?_
   exact ⟨k + 1, by omega, by omega, qB (by simp [hlen]), rfl, by simp [hlen], by simp [hlen]⟩
 ·intro h12
  try simp at h12
  obtain rfl : k = L.length := by omega
  rw [hsum]
  have hgr := zMZ (G := G) Z.length hF
  refine AW.exit ?_
  simp
  refine rgn [] [[]] ?_
  refine op1 tok ?_
  refine qX ?_
  refine qC.stepK [0, 24] (yG rfl hgr (by simp)) (by conv => lhs; simp) rfl ?_
  refine qC.run [[0, 6]] ?_
  refine op1 tok ?_
  refine qA ?_
  refine AW.seq ?_
  refine rgn [] [[], [], [6, 25, 26, 27]] ?_
  iterate 3 refine op1 tok ?_
  refine qA ?_
  refine AW.block ?_
  refine AW.loop (α := Nat) (fun k => k ≤ L.length) (fun k => ⟨qY 36 [(6, .ms 940), (25, .p (.sl 1 (qIS L))), (26, .p (.int .i64 L.length)), (27, .p (.int .i64 k))], [], [(940, .row 31 9 ((qJR L k).map Val.enc))], 0⟩) (fun k => L.length - k) (0) (by omega) ⟨qB (by simp [hz2]), rfl, by simp [hz2], by simp [hz2]⟩ ?_
  rintro k hk
  refine rgn [] [[]] ?_
  refine op1 tok ?_
  refine qA ?_
  refine AW.seq ?_
  refine cnd ?_ ?_
  ·intro h28
   try simp at h28
   obtain ⟨l, hl⟩ : ∃ l, L[k]? = some l := ⟨L[k]'(by omega), List.getElem?_eq_getElem _⟩
   have hg := qSL hl
   have hs := qPR hl
   have h1 := hfl (k + 1)
   have h2 := hfl k
   have hlen := qSD hl
   unfold qQY at h1 h2 hlen
   refine AW.skip ?_
   refine AW.seq ?_
   refine AW.block ?_
   refine rgn [.sl 9 (l.map Val.enc)] [[], [], [6, 8, 25, 26, 27]] ?_
   iterate 3 refine op1 tok ?_ (hv := by first | with_reducible exact True.intro | (first | (simp [hg]; done) | (simp [hg]; omega); done) | omega | simp | (simp +contextual; omega))
   refine qA ?_
   refine rgz [] [[], [], [25, 26, 27, 33], [6, 25, 26, 27]] ?_
   iterate 4 refine op1 tok ?_
   refine qA ?_
   refine rgz [] [[], [6, 25, 26, 27]] ?_
   iterate 2 refine op1 tok ?_
   refine qA ?_
   exact ⟨k + 1, by omega, by omega, qB (by simp [hs]), rfl, by simp [hs], by simp [hs]⟩
  ·intro h28
   try simp at h28
   obtain rfl : k = L.length := by omega
   rw [hall]
   refine AW.exit ?_
   simp
   refine AW.freezeE 940 (by conv => lhs; simp) ?_
   refine rgn [] [[], [2]] ?_
   iterate 2 refine op1 tok ?_
   refine qA ?_
   exact AW.ret qJ
def qGA (v : Val) (m : Int) : Val := if 200 < v.kids.length ∨ 4096 < v.text.length then kE 3 m else v
def qCS (a b : Val) (m : Int) : Val :=
 if a.kind = 1 then xC b m else if b.kind = 1 then xC a m else if a.kind = 5 ∧ b.kind = 5 then qGA (.mk 5 m dc0 (a.text ++ b.text) [] [] 0) m
 else if a.kind = 6 ∧ b.kind = 6 then qGA (.mk 6 m dc0 [] [] (a.kids ++ b.kids) 0) m else if a.kind = 7 ∧ b.kind = 7 then qGA (kL a b m) m else kE 40 m
theorem qLY {v : Val} (h : qQ v = true) : v.text.length ≤ 4096 := by
 rw [yV] at h
 simp only [Bool.and_eq_true, jA] at h
 have h2 := h.1.2.1.1.2
 unfold uB at h2
 split at h2
 ·unfold kB at h2
  simp only [Bool.and_eq_true, decide_eq_true_eq] at h2
  omega
 ·simp at h2; simp [h2]
theorem qOU (a b : Val) (top deep : Int) (g : FuncId) (hn : ¬ (a.kind = 4 ∧ b.kind = 4)) : AFn Tryz.prog G 34 [.agg (prC a b top deep), .fn g] ((kE 40 top).enc) := by
 refine AFn.introU tok Tryz.func34 (by kernel_rfl) rfl rfl ?_
 simp only [Tryz.f34, qI, List.map_cons, List.map_nil]
 have hk := kM (G := G) a b top deep 4
 have hf := qFH (G := G) a b top deep 40
 rw [show (decide (a.kind = 4) && decide (b.kind = 4)) = false by rw [← Bool.decide_and, decide_eq_false hn]] at hk
 simp only [Val.enc_def] at hf
 refine rgn [] [[], [1, 2, 4]] ?_
 iterate 2 refine op1 tok ?_
 refine qA ?_
 refine AW.seq ?_
 refine rgn [.nilp, .bool false] [[], [], [1, 2, 4, 9]] ?_
 iterate 3 refine op1 tok ?_ (hv := by first | with_reducible exact True.intro | (exact hk; done) | omega | simp | (simp +contextual; omega))
 refine qA ?_
 refine cnd ?_ ?_
 ·intro h9
  try simp at h9
  refine rgn [.nilp, (kE 40 top).enc] [[], [], [4]] ?_
  iterate 3 refine op1 tok ?_ (hv := by first | with_reducible exact True.intro | (exact hf; done) | omega | simp | (simp +contextual; omega))
  refine qA ?_
  exact AW.ret qJ
 ·intro h9
  try simp at h9
theorem zLU (a b : Val) (top deep : Int) (ha : qQ a = true) (hb : qQ b = true) (hn : ¬ (a.kind = 4 ∧ b.kind = 4)) (hla : a.kind = 7 → a.keys.length = a.kids.length) (hlb : b.kind = 7 → b.keys.length = b.kids.length) : AFn Tryz.prog G 32 [.agg (prC a b top deep)] ((qCS a b top).enc) := by
 refine AFn.introU tok Tryz.func32 (by kernel_rfl) rfl rfl ?_
 simp only [Tryz.f32, qI, List.map_cons, List.map_nil]
 have k5 := kM (G := G) a b top deep 5
 have k6 := kM (G := G) a b top deep 6
 have k7 := kM (G := G) a b top deep 7
 have w1 := zEW (G := G) a top ha
 have w2 := zEW (G := G) b top hb
 have hsa := yU ha
 have hsb := yU hb
 have hcc := zJD (G := G) [a.kids, b.kids] (by simp) (by simp; omega)
 rw [show [a.kids, b.kids].flatten = a.kids ++ b.kids by simp] at hcc
 have hcl := qUJ (G := G) (.mk 6 top dc0 [] [] (a.kids ++ b.kids) 0) (.mk (by simp) (by simp only [Val.kids_mk, List.length_append]; omega) (by
  intro k hk
  rcases List.mem_append.1 hk with h | h
  ·exact qNC k (wJ ha h)
  ·exact qNC k (wJ hb h)))
 have hm := fun h7 : a.kind = 7 ∧ b.kind = 7 => qSV (G := G) a b top deep ha hb (hla h7.1) (hlb h7.2)
 have hf := qFH (G := G) a b top deep 3
 have hnum := qOU (G := G) a b top deep 81 hn
 have e : qCS a b top = if a.kind = 1 then xC b top else if b.kind = 1 then xC a top else if a.kind = 5 ∧ b.kind = 5 then qGA (.mk 5 top dc0 (a.text ++ b.text) [] [] 0) top
  else if a.kind = 6 ∧ b.kind = 6 then qGA (.mk 6 top dc0 [] [] (a.kids ++ b.kids) 0) top else if a.kind = 7 ∧ b.kind = 7 then qGA (kL a b top) top else kE 40 top := rfl
 rw [e]
 simp only [Val.enc_def] at w1 w2 hm hf hnum hcl
 have ta := qLY ha
 have tb := qLY hb
 have hbg : ∀ v : Val, qGA v top = if 200 < v.kids.length ∨ 4096 < v.text.length then kE 3 top else v := fun _ => rfl
 refine rgn [] [[], [1, 2]] ?_
 iterate 2 refine op1 tok ?_
 refine qA ?_
 refine rgn [] [[]] ?_
 refine op1 tok ?_
 refine qA ?_
 refine AW.seq ?_
 refine AW.block ?_
 refine rgn [] [[], [], [], [], [1, 2, 3, 6]] ?_
 iterate 5 refine op1 tok ?_
 refine qA ?_
 refine cnd ?_ ?_
 ·intro h6
  try simp at h6
  rw [if_pos h6]
  refine rgn [.nilp, (xC b top).enc] [[], [], [], [], [2, 15], [2]] ?_
  iterate 6 refine op1 tok ?_ (hv := by first | with_reducible exact True.intro | (exact w2; done) | omega | simp | (simp +contextual; omega))
  refine qA ?_
  exact AW.ret (qJ (k := by simp [dc0]))
 ·intro h6
  try simp at h6
  rw [if_neg h6]
  refine rgn [] [[], [], [], [], [1, 2, 3, 16]] ?_
  iterate 5 refine op1 tok ?_
  refine qA ?_
  refine cnd ?_ ?_
  ·intro h16
   try simp at h16
   rw [if_pos h16]
   refine rgn [.nilp, (xC a top).enc] [[], [], [], [], [2, 25], [2]] ?_
   iterate 6 refine op1 tok ?_ (hv := by first | with_reducible exact True.intro | (exact w1; done) | omega | simp | (simp +contextual; omega))
   refine qA ?_
   exact AW.ret (qJ (k := by simp [dc0]))
  ·intro h16
   try simp at h16
   rw [if_neg h16]
   refine rgn [.nilp, .bool (decide (a.kind = 5) && decide (b.kind = 5))] [[], [], [1, 2, 3, 26]] ?_
   iterate 3 refine op1 tok ?_ (hv := by first | with_reducible exact True.intro | (exact k5; done) | omega | simp | (simp +contextual; omega))
   refine qA ?_
   refine cnd ?_ ?_
   ·intro h26
    try simp at h26
    rw [if_pos (by simpa using h26), hbg]
    refine rgz [] [[], [], [], [], [], [1, 2, 3, 31, 34], [], [], [], [1, 2, 3, 38], [1, 2, 3]] ?_
    iterate 11 refine op1 tok ?_ (hv := by first | with_reducible exact True.intro | (first | omega | (simp; omega); done) | omega | simp | (simp +contextual; omega))
    refine qA ?_
    refine AW.seq ?_
    refine rgn [] [[], [], [], [], [1, 2, 3, 63], [], [], [], [], [1, 2, 3, 68]] ?_
    iterate 5 refine op1 tok ?_
    iterate 4 refine op2 tok ?_
    refine op1 tok ?_
    refine qA ?_
    refine cnd ?_ ?_
    ·intro h68
     try simp at h68
     rw [if_pos (by first | omega | (simp at h68 ⊢; omega))]
     refine rgn [.nilp, (kE 3 top).enc] [[], [], [2]] ?_
     iterate 3 refine op1 tok ?_ (hv := by first | with_reducible exact True.intro | (exact hf; done) | omega | simp | (simp +contextual; omega))
     refine qA ?_
     exact AW.ret (qJ (k := by simp [dc0]))
    ·intro h68
     try simp at h68
     rw [if_neg (by first | omega | (simp at h68 ⊢; omega))]
     refine AW.skip ?_
     refine rgn [] [[], [2]] ?_
     iterate 2 refine op1 tok ?_
     refine qA ?_
     exact AW.ret (qJ (k := by simp [dc0]))
   ·intro h26
    try simp at h26
    rw [if_neg (show ¬ (a.kind = 5 ∧ b.kind = 5) from fun h => by simp [h.1, h.2] at h26)]
    refine rgn [.nilp, .bool (decide (a.kind = 6) && decide (b.kind = 6))] [[], [], [1, 2, 3, 39]] ?_
    iterate 3 refine op1 tok ?_ (hv := by first | with_reducible exact True.intro | (exact k6; done) | omega | simp | (simp +contextual; omega))
    refine qA ?_
    refine cnd ?_ ?_
    ·intro h39
     try simp at h39
     rw [if_pos (by simpa using h39), hbg]
     refine AW.drawS tok mixed 12 [[1], [42], [43], [1], [45], [46], [44, 47], [48], [1], [50], [49, 51], [52]] [.sl 9 (a.kids.map Val.enc), .sl 9 (b.kids.map Val.enc), .nilp, .sl 9 ((a.kids ++ b.kids).map Val.enc), .nilp, (Val.mk 6 top dc0 [] [] (a.kids ++ b.kids) 0).enc] [] (by kernel_rfl) ?_
     iterate 12 refine d1 ?_ (hv := by first | with_reducible exact True.intro | (first | (simpa [qIS] using hcc) | (simpa [dc0] using hcl); done) | omega | simp | (simp +contextual; omega))
     refine DGo.nil (by kernel_rfl) ⟨by kernel_rfl, ?_⟩
     refine qC.run [[1, 2, 3]] ?_
     refine op1 tok ?_
     refine qA ?_
     refine AW.seq ?_
     refine rgn [] [[], [], [], [], [1, 2, 3, 63], [], [], [], [], [1, 2, 3, 68]] ?_
     iterate 5 refine op1 tok ?_
     iterate 4 refine op2 tok ?_
     refine op1 tok ?_
     refine qA ?_
     refine cnd ?_ ?_
     ·intro h68
      try simp at h68
      rw [if_pos (by first | omega | (simp at h68 ⊢; omega))]
      refine rgn [.nilp, (kE 3 top).enc] [[], [], [2]] ?_
      iterate 3 refine op1 tok ?_ (hv := by first | with_reducible exact True.intro | (exact hf; done) | omega | simp | (simp +contextual; omega))
      refine qA ?_
      exact AW.ret (qJ (k := by simp [dc0]))
     ·intro h68
      try simp at h68
      rw [if_neg (by first | omega | (simp at h68 ⊢; omega))]
      refine AW.skip ?_
      refine rgn [] [[], [2]] ?_
      iterate 2 refine op1 tok ?_
      refine qA ?_
      exact AW.ret (qJ (k := by simp [dc0]))
    ·intro h39
     try simp at h39
     rw [if_neg (show ¬ (a.kind = 6 ∧ b.kind = 6) from fun h => by simp [h.1, h.2] at h39)]
     refine rgn [.nilp, .bool (decide (a.kind = 7) && decide (b.kind = 7))] [[], [], [1, 2, 3, 54]] ?_
     iterate 3 refine op1 tok ?_ (hv := by first | with_reducible exact True.intro | (exact k7; done) | omega | simp | (simp +contextual; omega))
     refine qA ?_
     refine cnd ?_ ?_
     ·intro h54
      try simp at h54
      rw [if_pos (by simpa using h54), hbg]
      have hm := hm (by simpa using h54)
      generalize kL a b top = M at *
      refine rgz [.nilp, M.enc] [[], [], [1, 2, 3]] ?_
      iterate 3 refine op1 tok ?_ (hv := by first | with_reducible exact True.intro | (exact hm; done) | omega | simp | (simp +contextual; omega))
      refine qA ?_
      refine AW.seq ?_
      refine rgn [] [[], [], [], [], [1, 2, 3, 63], [], [], [], [], [1, 2, 3, 68]] ?_
      iterate 5 refine op1 tok ?_
      iterate 4 refine op2 tok ?_
      refine op1 tok ?_
      refine qA ?_
      refine cnd ?_ ?_
      ·intro h68
       try simp at h68
       rw [if_pos (by first | omega | (simp at h68 ⊢; omega))]
       refine rgn [.nilp, (kE 3 top).enc] [[], [], [2]] ?_
       iterate 3 refine op1 tok ?_ (hv := by first | with_reducible exact True.intro | (exact hf; done) | omega | simp | (simp +contextual; omega))
       refine qA ?_
       exact AW.ret (qJ (k := by simp [dc0]))
      ·intro h68
       try simp at h68
       rw [if_neg (by first | omega | (simp at h68 ⊢; omega))]
       refine AW.skip ?_
       refine rgn [] [[], [2]] ?_
       iterate 2 refine op1 tok ?_
       refine qA ?_
       exact AW.ret (qJ (k := by simp [dc0]))
     ·intro h54
      try simp at h54
      rw [if_neg (show ¬ (a.kind = 7 ∧ b.kind = 7) from fun h => by simp [h.1, h.2] at h54)]
      refine rgn [.nilp, (kE 40 top).enc] [[], [], [2]] ?_
      iterate 3 refine op1 tok ?_ (hv := by first | with_reducible exact True.intro | (exact hnum; done) | omega | simp | (simp +contextual; omega))
      refine qA ?_
      exact AW.ret (qJ (k := by simp [dc0]))
end Go.Proofs.YtdojfdaglbphlaaGreatDoor
