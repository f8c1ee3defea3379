import Derived.Test.YtdojfdaglbphlaaGreatDoorSTwoV
import Derived.Test.YtdojfdaglbphlaaGreatDoorSNumL
import Derived.Test.YtdojfdaglbphlaaGreatDoorSShown14
namespace Go.Proofs.YtdojfdaglbphlaaGreatDoor
open Sy Go
set_option maxRecDepth 100000
set_option maxHeartbeats 4000000
set_option linter.unusedSimpArgs false
set_option linter.unusedVariables false
variable {G : qS}
def nmV (d : Dc) : Val := .mk 4 0 d [] [] [] 0
@[simp] theorem nm_kind (d : Dc) : (nmV d).kind = 4 := rfl
@[simp] theorem nm_mask (d : Dc) : (nmV d).mask = 0 := rfl
@[simp] theorem nm_num (d : Dc) : (nmV d).num = d := rfl
@[simp] theorem nm_text (d : Dc) : (nmV d).text = [] := rfl
@[simp] theorem nm_keys (d : Dc) : (nmV d).keys = [] := rfl
@[simp] theorem nm_kids (d : Dc) : (nmV d).kids = [] := rfl
@[simp] theorem nm_code (d : Dc) : (nmV d).code = 0 := rfl
@[simp] theorem fl_kind (c m : Int) : (wQ c m).kind = 8 := rfl
@[simp] theorem fl_mask (c m : Int) : (wQ c m).mask = m := rfl
@[simp] theorem fl_num (c m : Int) : (wQ c m).num = dc0 := rfl
@[simp] theorem fl_text (c m : Int) : (wQ c m).text = [] := rfl
@[simp] theorem fl_keys (c m : Int) : (wQ c m).keys = [] := rfl
@[simp] theorem fl_kids (c m : Int) : (wQ c m).kids = [] := rfl
@[simp] theorem fl_code (c m : Int) : (wQ c m).code = c := rfl
theorem qRK {d : Dc} (h : zC d = true) : zL (nmV d) = true := by
 rw [qAI]; simp [nmV, qCO, qBX, codeT, numT, qTK, qIA, kidsT, h]
theorem cmp_num (a b : Dc) : qAT (nmV a) (nmV b) = qAA a b := by
 unfold qAT; simp [xB, nmV]
theorem or00 : orM 0 0 = 0 := by decide
theorem nm_deep (d : Dc) : zD (nmV d) = 0 := by rw [qVO]; rfl
theorem mk2V_add (a b : Dc) : qJN [43] (nmV a) (nmV b) = uL (qEH a b) 0 := by simp [qJN, qOU, nmV, or00]
theorem qUP (a b : Dc) : qJN [45] (nmV a) (nmV b) = uL (qCZ a b) 0 := by simp [qJN, qBZ, nmV, or00]
theorem mk2V_div (a b : Dc) : qJN [47] (nmV a) (nmV b) = uL (qFX a b) 0 := by simp [qJN, qBZ, nmV, or00]
theorem mk2V_mod (a b : Dc) : qJN [37] (nmV a) (nmV b) = uL (qFM a b) 0 := by simp [qJN, qBZ, nmV, or00]
theorem mk2V_lt (a b : Dc) : qJN [60] (nmV a) (nmV b) = uG (decide (qAA a b < 0)) 0 := by
 rw [← cmp_num a b]; simp [qJN, nm_deep, or00, qTX]
theorem numR_code (r : Dc × Int) : (uL r 0).code = r.2 := by
 unfold uL; split
 ·rename_i h; rw [h]; rfl
 ·rfl
theorem numR_kind {r : Dc × Int} (h : (uL r 0).kind = 4) : r.2 = 0 ∧ (uL r 0).num = r.1 := by
 unfold uL at h ⊢; split
 ·rename_i h0; exact ⟨h0, rfl⟩
 ·rename_i h0; rw [if_neg h0] at h; exact absurd h (by simp [wQ])
theorem div_code {a b : Dc} : ((qFX a b).2 = 5 ↔ b.digits = [48]) ∧ ((qFM a b).2 = 5 ↔ b.digits = [48]) := by
 unfold qFX qFM
 constructor
 ·split
  ·simp [*]
  ·rename_i h
   have := qXM (a.neg != b.neg) (qNO (qJ a.digits) (qJ b.digits)).1 (a.scale - b.scale + (qNO (qJ a.digits) (qJ b.digits)).2)
   constructor
   ·intro h2; omega
   ·intro h2; exact absurd h2 h
 ·split
  ·simp [*]
  ·rename_i h
   have := qFL a.neg (qJ (wL a (qU a b)) % qJ (wL b (qU a b))) (qU a b).toNat
   constructor
   ·intro h2; omega
   ·intro h2; exact absurd h2 h
theorem qIQ (a b : Dc) : AFn Tryz.prog G 6 [a.enc, b.enc] (.bool true) := by
 refine AFn.introU tok Tryz.func6 (by kernel_rfl) rfl rfl ?_
 simp only [Tryz.f6, qK, List.map_cons, List.map_nil]
 have hsh := qXA (G := G)
 have hma := qIZ (G := G) a
 have hmb := qIZ (G := G) b
 refine rgn [] [[], [], [2, 3]] ?_
 iterate 3 refine op1 tok ?_
 refine qA ?_
 refine rgn [.nilp, .bool true] [[], [2, 3, 5]] ?_
 iterate 2 refine op1 tok ?_ (hv := by first | with_reducible exact True.intro | (exact hsh; done) | omega | simp | (simp +contextual; omega))
 refine qA ?_
 refine rgn [.nilp, .bool (zC a)] [[], [], [2, 3, 5, 6]] ?_
 iterate 3 refine op1 tok ?_ (hv := by first | with_reducible exact True.intro | ((simpa using hma); done) | omega | simp | (simp +contextual; omega))
 refine qA ?_
 refine rgn [.nilp, .bool (zC b)] [[], [], [2, 3, 5, 6, 7]] ?_
 iterate 3 refine op1 tok ?_ (hv := by first | with_reducible exact True.intro | ((simpa using hmb); done) | omega | simp | (simp +contextual; omega))
 refine qA ?_
 refine AW.seq ?_
 refine rgn [] [[], [], [], [2, 3, 5, 23, 24], [], [2, 3, 5, 26]] ?_
 iterate 3 refine op1 tok ?_
 iterate 2 refine op2 tok ?_
 refine op1 tok ?_
 refine qA ?_
 refine cnd ?_ ?_
 ·intro h26
  try simp at h26
  refine rgn [] [[], [4]] ?_
  iterate 2 refine op1 tok ?_
  refine qA ?_
  exact AW.ret ⟨.inr rfl, _, _, by (conv => lhs; simp), trivial, by simp⟩
 ·intro h26
  try simp at h26
  have hab : zC a = true ∧ zC b = true := by
   cases h1 : zC a <;> cases h2 : zC b <;> simp [h1, h2] at h26 ⊢
  obtain ⟨ha, hb⟩ := hab
  have ma := qRK ha
  have mb := qRK hb
  have hs := qHR (G := G) [43] (nmV a) (nmV b) ma mb
  have hd := qHR (G := G) [45] (nmV a) (nmV b) ma mb
  have hq := qHR (G := G) [47] (nmV a) (nmV b) ma mb
  have hm := qHR (G := G) [37] (nmV a) (nmV b) ma mb
  have hl := qHR (G := G) [60] (nmV a) (nmV b) ma mb
  rw [mk2V_add] at hs
  rw [qUP] at hd
  rw [mk2V_div] at hq
  rw [mk2V_mod] at hm
  rw [mk2V_lt] at hl
  obtain ⟨dv1, dv2⟩ := div_code (a := a) (b := b)
  rw [← numR_code] at dv1 dv2
  have hDk : (uL (qCZ a b) 0).kind = 4 → (uL (qCZ a b) 0).num.neg = decide (qAA a b < 0) := fun h => by
   obtain ⟨h1, h2⟩ := numR_kind h
   rw [h2]
   exact sub_neg ha hb (by rw [← h1])
  have hTk : (uG (decide (qAA a b < 0)) 0).kind = if decide (qAA a b < 0) = true then 3 else 2 := rfl
  have hback := fun d (h : qEH a b = (d, 0)) => add_back ha hb h
  have hac := addD_code ha hb
  have hzero : (decide (b.neg = false) && decide (b.digits = [48]) && decide (b.scale = 0)) = decide (b.digits = [48]) := by
   by_cases h : b.digits = [48]
   ·rcases uB hb with ⟨_, h2, h3⟩ | ⟨h2, _⟩
    ·simp [h, h2, h3]
    ·rw [h] at h2; exact absurd rfl h2
   ·simp [h]
  generalize uL (qFX a b) 0 = Q at *
  generalize uL (qFM a b) 0 = R at *
  generalize uL (qCZ a b) 0 = D at *
  generalize uG (decide (qAA a b < 0)) 0 = T at *
  generalize decide (qAA a b < 0) = less at *
  obtain ⟨⟨sd, sc⟩, hA⟩ : ∃ r, r = qEH a b := ⟨_, rfl⟩
  rw [← hA] at hs hac
  simp only at hac
  have hnv : ∀ d, (nmV d).enc = .agg [.int .i64 4, .int .u64 0, .bool d.neg, .str d.digits, .int .i64 d.scale, .str [], .sl 1 [], .sl 9 [], .int .i64 0] := fun d => by simp [Val.enc_def, nmV]
  simp only [hnv] at hs hq hm hl hd
  simp only [Val.enc_def] at hq hm hl hd
  refine AW.skip ?_
  refine rgn [] [[], [], [], [2, 3, 5, 8]] ?_
  iterate 4 refine op1 tok ?_
  refine qA ?_
  refine rgn [] [[], [], [], [2, 3, 5, 8, 9]] ?_
  iterate 4 refine op1 tok ?_
  refine qA ?_
  by_cases hs8 : sc = 0
  ·
   obtain rfl : sc = 0 := hs8
   obtain ⟨md, hsub⟩ := hback sd hA.symm
   rw [show uL (sd, 0) 0 = nmV sd from rfl] at hs
   have h9 := qHR (G := G) [45] (nmV sd) (nmV b) (qRK md) mb
   rw [qUP, hsub, show uL (a, 0) 0 = nmV a from rfl] at h9
   simp only [hnv] at h9 hs
   refine rgn [.nilp, (nmV sd).enc] [[], [], [], [], [2, 3, 5, 8, 9, 10]] ?_
   iterate 5 refine op1 tok ?_ (hv := by first | with_reducible exact True.intro | (first | exact hs | (simp [hnv] at hs ⊢; exact hs); done) | omega | simp | (simp +contextual; omega))
   refine qA ?_
   refine AW.seq ?_
   refine AW.seqDrawS tok mixed 11 [[10], [35], [36], [37], [10, 38], [9, 38], [39, 40, 38], [41, 38], [2, 38], [42, 43, 38], [38, 44]] [.nilp, (nmV a).enc] [] (by kernel_rfl) ?_
   iterate 4 refine d1 ?_ (hv := by first | with_reducible exact True.intro | (first | exact fun _ => h9 | exact h9 | (simp at h9 ⊢; exact h9) | (simp; done); done) | omega | simp | (simp +contextual; omega))
   iterate 6 refine d2 38 rfl rfl ?_ (hv := by first | with_reducible exact True.intro | (first | exact fun _ => h9 | exact h9 | (simp at h9 ⊢; exact h9) | (simp; done); done) | omega | simp | (simp +contextual; omega))
   refine d1 ?_ (hv := by first | with_reducible exact True.intro | (first | exact fun _ => h9 | exact h9 | (simp at h9 ⊢; exact h9) | (simp; done); done) | omega | simp | (simp +contextual; omega))
   refine DGo.nil (by kernel_rfl) ⟨by kernel_rfl, ?_⟩
   refine qE.nil ?_
   refine cnd ?_ ?_
   ·intro h45
    try simp at h45
   ·intro h45
    try simp at h45
    refine AW.skip ?_
    refine rgn [] [[], [], [], [5, 8, 9, 10, 11]] ?_
    iterate 4 refine op1 tok ?_
    refine qA ?_
    refine rgn [.nilp, Q.enc] [[], [], [], [], [5, 8, 9, 10, 11, 12]] ?_
    iterate 5 refine op1 tok ?_ (hv := by first | with_reducible exact True.intro | (first | exact hq | (simp at hq ⊢; exact hq); done) | omega | simp | (simp +contextual; omega))
    refine qA ?_
    refine rgn [.nilp, R.enc] [[], [], [], [], [5, 8, 9, 10, 11, 12, 13]] ?_
    iterate 5 refine op1 tok ?_ (hv := by first | with_reducible exact True.intro | (first | exact hm | (simp at hm ⊢; exact hm); done) | omega | simp | (simp +contextual; omega))
    refine qA ?_
    refine AW.seq ?_
    refine rgn [] [[5, 8, 9, 10, 12, 13, 55]] ?_
    refine op1 tok ?_
    refine qA ?_
    refine cnd ?_ ?_
    ·intro h55
     try simp at h55
     have h48 : b.digits = [48] := by first | exact h55.2.1 | exact h55.1.2 | grind
     have q5 : Q.code = 5 := dv1.2 h48
     have r5 : R.code = 5 := dv2.2 h48
     refine rgn [] [[], [], [], [13, 57, 59], [], [], [13, 62], [], [], [], [66], [4]] ?_
     iterate 12 first | refine op1 tok ?_ | refine op2 tok ?_
     refine qA ?_
     exact AW.ret ⟨.inr rfl, _, _, by (conv => lhs; simp), trivial, by simp; exact ⟨q5, r5⟩⟩
    ·intro h55
     try simp at h55
     have h48 : b.digits ≠ [48] := fun h => by
      rcases uB hb with ⟨_, h2, h3⟩ | ⟨h2, _⟩
      ·simp [h, h2, h3] at h55
      ·rw [h] at h2; exact absurd rfl h2
     have q5 : Q.code ≠ 5 := fun h => h48 (dv1.1 h)
     have r5 : R.code ≠ 5 := fun h => h48 (dv2.1 h)
     have hfin : ¬D.kind = 4 ∨ decide (T.kind = 3) = D.num.neg := by
      by_cases hk : D.kind = 4
      ·refine .inr ?_
       rw [hDk hk, hTk]; cases less <;> simp
      ·exact .inl hk
     refine AW.skip ?_
     refine rgn [.nilp, T.enc] [[], [], [], [], [5, 8, 9, 10, 12, 13, 71], [5, 8, 9, 10, 12, 13, 14]] ?_
     iterate 6 refine op1 tok ?_ (hv := by first | with_reducible exact True.intro | (first | exact hl | (simp at hl ⊢; exact hl); done) | omega | simp | (simp +contextual; omega))
     refine qA ?_
     refine rgn [.nilp, D.enc] [[], [], [5, 10, 12, 13, 14, 74], [], [5, 10, 12, 13, 14, 15]] ?_
     iterate 5 refine op1 tok ?_ (hv := by first | with_reducible exact True.intro | (first | exact hd | (simp at hd ⊢; exact hd); done) | omega | simp | (simp +contextual; omega))
     refine qA ?_
     refine rgn [] [[], [], [], [], [10, 12, 13, 14, 15, 76, 79], [], [], [], [10, 12, 13, 76, 80, 81, 83], [], [], [10, 12, 13, 76, 86], [], [], [10, 13, 88, 89], [], [], [10, 13, 92], [], [], [], [10, 93, 96], [], [], [], [10, 98, 100], [], [], [], [98, 102, 104], [], [], [107], [4]] ?_
     iterate 34 first | refine op1 tok ?_ | refine op2 tok ?_
     refine qA ?_
     exact AW.ret ⟨.inr rfl, _, _, by (conv => lhs; simp), trivial, by simp; exact ⟨⟨hfin, q5⟩, r5⟩⟩
  ·
   obtain rfl : sc = 3 := by omega
   rw [show uL (sd, 3) 0 = wQ 3 0 from rfl] at hs
   refine rgn [.nilp, (wQ 3 0).enc] [[], [], [], [], [2, 3, 5, 8, 9, 10]] ?_
   iterate 5 refine op1 tok ?_ (hv := by first | with_reducible exact True.intro | (first | exact hs | (simp [wQ, Val.enc_def] at hs ⊢; exact hs); done) | omega | simp | (simp +contextual; omega))
   refine qA ?_
   refine AW.seq ?_
   refine AW.seqDrawS tok mixed 11 [[10], [35], [36], [37], [10, 38], [9, 38], [39, 40, 38], [41, 38], [2, 38], [42, 43, 38], [38, 44]] [] [] (by kernel_rfl) ?_
   iterate 4 refine d1 ?_
   iterate 6 refine d2 38 rfl rfl ?_
   refine d1 ?_
   refine DGo.nil (by kernel_rfl) ⟨by kernel_rfl, ?_⟩
   refine qE.nil ?_
   refine cnd ?_ ?_
   ·intro h45
    try simp at h45
   ·intro h45
    try simp at h45
    refine AW.skip ?_
    refine rgn [] [[], [], [], [5, 8, 9, 10, 11]] ?_
    iterate 4 refine op1 tok ?_
    refine qA ?_
    refine rgn [.nilp, Q.enc] [[], [], [], [], [5, 8, 9, 10, 11, 12]] ?_
    iterate 5 refine op1 tok ?_ (hv := by first | with_reducible exact True.intro | (first | exact hq | (simp at hq ⊢; exact hq); done) | omega | simp | (simp +contextual; omega))
    refine qA ?_
    refine rgn [.nilp, R.enc] [[], [], [], [], [5, 8, 9, 10, 11, 12, 13]] ?_
    iterate 5 refine op1 tok ?_ (hv := by first | with_reducible exact True.intro | (first | exact hm | (simp at hm ⊢; exact hm); done) | omega | simp | (simp +contextual; omega))
    refine qA ?_
    refine AW.seq ?_
    refine rgn [] [[5, 8, 9, 10, 12, 13, 55]] ?_
    refine op1 tok ?_
    refine qA ?_
    refine cnd ?_ ?_
    ·intro h55
     try simp at h55
     have h48 : b.digits = [48] := by first | exact h55.2.1 | exact h55.1.2 | grind
     have q5 : Q.code = 5 := dv1.2 h48
     have r5 : R.code = 5 := dv2.2 h48
     refine rgn [] [[], [], [], [13, 57, 59], [], [], [13, 62], [], [], [], [66], [4]] ?_
     iterate 12 first | refine op1 tok ?_ | refine op2 tok ?_
     refine qA ?_
     exact AW.ret ⟨.inr rfl, _, _, by (conv => lhs; simp), trivial, by simp; exact ⟨q5, r5⟩⟩
    ·intro h55
     try simp at h55
     have h48 : b.digits ≠ [48] := fun h => by
      rcases uB hb with ⟨_, h2, h3⟩ | ⟨h2, _⟩
      ·simp [h, h2, h3] at h55
      ·rw [h] at h2; exact absurd rfl h2
     have q5 : Q.code ≠ 5 := fun h => h48 (dv1.1 h)
     have r5 : R.code ≠ 5 := fun h => h48 (dv2.1 h)
     have hfin : ¬D.kind = 4 ∨ decide (T.kind = 3) = D.num.neg := by
      by_cases hk : D.kind = 4
      ·refine .inr ?_
       rw [hDk hk, hTk]; cases less <;> simp
      ·exact .inl hk
     refine AW.skip ?_
     refine rgn [.nilp, T.enc] [[], [], [], [], [5, 8, 9, 10, 12, 13, 71], [5, 8, 9, 10, 12, 13, 14]] ?_
     iterate 6 refine op1 tok ?_ (hv := by first | with_reducible exact True.intro | (first | exact hl | (simp at hl ⊢; exact hl); done) | omega | simp | (simp +contextual; omega))
     refine qA ?_
     refine rgn [.nilp, D.enc] [[], [], [5, 10, 12, 13, 14, 74], [], [5, 10, 12, 13, 14, 15]] ?_
     iterate 5 refine op1 tok ?_ (hv := by first | with_reducible exact True.intro | (first | exact hd | (simp at hd ⊢; exact hd); done) | omega | simp | (simp +contextual; omega))
     refine qA ?_
     refine rgn [] [[], [], [], [], [10, 12, 13, 14, 15, 76, 79], [], [], [], [10, 12, 13, 76, 80, 81, 83], [], [], [10, 12, 13, 76, 86], [], [], [10, 13, 88, 89], [], [], [10, 13, 92], [], [], [], [10, 93, 96], [], [], [], [10, 98, 100], [], [], [], [98, 102, 104], [], [], [107], [4]] ?_
     iterate 34 first | refine op1 tok ?_ | refine op2 tok ?_
     refine qA ?_
     exact AW.ret ⟨.inr rfl, _, _, by (conv => lhs; simp), trivial, by simp; exact ⟨⟨hfin, q5⟩, r5⟩⟩
end Go.Proofs.YtdojfdaglbphlaaGreatDoor
