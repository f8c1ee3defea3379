import Derived.Test.YtdojfdaglbphlaaGreatDoorK3
import Derived.Test.YtdojfdaglbphlaaGreatDoorSTwoLaw
import Derived.Test.YtdojfdaglbphlaaGreatDoorSShown14
import Derived.Test.YtdojfdaglbphlaaGreatDoorSBuiltL
namespace Go.Proofs.YtdojfdaglbphlaaGreatDoor
open Sy Go
set_option maxRecDepth 100000
set_option maxHeartbeats 4000000
set_option linter.unusedSimpArgs false
set_option linter.unusedVariables false
variable {G : qQ}
theorem qKY {a b : Val} (ha : a.kind = 6) (hb : b.kind = 6) (hl : a.kids.length + b.kids.length ≤ 200) : vY [43] a b = .mk 6 (orM a.mask b.mask) dc0 [] [] (a.kids ++ b.kids) 0 := by
 unfold vY
 rw [if_pos rfl]
 unfold qNN qRI
 rw [if_neg (by omega), if_neg (by omega), if_neg (by omega), if_neg (by omega), if_pos ⟨ha, hb⟩]
 unfold qQH
 rw [if_neg]
 simp; omega
theorem zCA {a b : Val} (ha : a.kind = 6) (hb : b.kind = 6) : vY [45] a b = qFB a b (orM (qZ a) (qZ b)) := by
 unfold vY
 rw [if_neg (by decide), if_pos rfl, if_pos ⟨ha, hb⟩]
theorem zPA (a b : Val) : decide ((vY [61, 61] a b).kind = 3) = decide (jJ a b = 0) := by
 unfold vY
 rw [if_neg (by decide), if_neg (by decide), if_neg (by decide), if_neg (by decide), if_neg (by decide), if_neg (by decide), if_neg (by decide)]
 unfold qAO qXF
 by_cases h : jJ a b = 0
 ·simp [h]
 ·simp [h]
def inV (b x : Val) : Bool := b.kids.any fun w => decide (jJ x w = 0)
def qHI (a b : Val) (k : Nat) : Nat := ((a.kids.take k).filter fun v => !inV b v).length
theorem zPH {a b x : Val} {k : Nat} (hx : a.kids[k]? = some x) (h : inV b x = true) : qHI a b (k + 1) = qHI a b k := by
 unfold qHI; rw [List.take_add_one, hx, List.filter_append]; simp [h]
theorem zMH {a b x : Val} {k : Nat} (hx : a.kids[k]? = some x) (h : inV b x = false) : qHI a b (k + 1) = qHI a b k + 1 := by
 unfold qHI; rw [List.take_add_one, hx, List.filter_append]; simp [h]
theorem zMI {a b x : Val} {k : Nat} (hx : a.kids[k]? = some x) (h : inV b x = false) : (a.kids.filter fun v => !inV b v)[qHI a b k]? = some x := by
 have hk := (List.getElem?_eq_some_iff.1 hx).1
 have e : a.kids = a.kids.take k ++ x :: a.kids.drop (k + 1) := by
  have := (List.getElem?_eq_some_iff.1 hx).2
  rw [← this, ← List.drop_eq_getElem_cons hk, List.take_append_drop]
 have h1 : (a.kids.filter fun v => !inV b v) = ((a.kids.take k).filter fun v => !inV b v) ++ x :: ((a.kids.drop (k + 1)).filter fun v => !inV b v) := by
  conv => lhs; rw [e]
  rw [List.filter_append, List.filter_cons]; simp [h]
 rw [h1]; unfold qHI; simp
theorem zPG (a b : Val) (k : Nat) : qHI a b k ≤ a.kids.length := by
 unfold qHI; have := List.length_filter_le (fun v => !inV b v) (a.kids.take k); rw [List.length_take] at this; omega
theorem zMJ (a b : Val) : qHI a b a.kids.length = (a.kids.filter fun v => !inV b v).length := by unfold qHI; rw [List.take_length]
def zAC (b x : Val) (j : Nat) : Bool := (b.kids.take j).any fun w => decide (jJ x w = 0)
theorem zIJ {b x y : Val} {j : Nat} (hy : b.kids[j]? = some y) : zAC b x (j + 1) = (zAC b x j || decide (jJ x y = 0)) := by
 unfold zAC; rw [List.take_add_one, hy, List.any_append]; simp
theorem zNA (b x : Val) : zAC b x b.kids.length = inV b x := by unfold zAC inV; rw [List.take_length]
theorem qIJ {l : List Val} (h : l.length ≤ 200) (m : Int) : qCS l m = .mk 6 m dc0 [] [] l 0 := if_neg (by omega)
theorem qPO (l m : List Item) (hl : ∀ x ∈ l, x.keys.length ≤ 140737488351232) (hm : ∀ x ∈ m, x.keys.length ≤ 140737488351232) (iL : ∀ x ∈ l, InM x.mask) (iM : ∀ x ∈ m, InM x.mask) : AFn Tryz.prog G 8 [.sl 6 (l.map Item.enc), .sl 6 (m.map Item.enc)] (.bool true) := by
 refine AFn.introU tok Tryz.func8 (by kernel_rfl) rfl rfl ?_
 simp only [Tryz.f8, qJ, List.map_cons, List.map_nil]
 have hsh := zBE (G := G)
 have hbl := zAK (G := G) l hl
 have hbm := zAK (G := G) m hm
 have ml := qTC l
 have mm := qTC m
 have sl := qZX l
 have sm := qZX m
 have il := qZY iL
 have im := qZY iM
 generalize vK l = a at *
 generalize vK m = b at *
 have ka := qHC sl
 have kb := qHC sm
 have p1 := qTQ (G := G) [45] a b ml mm
 have p2 := qTQ (G := G) [43] a b ml mm
 have p3 := qTQ (G := G) [43] b a mm ml
 have q1 := qUQ [45] ml mm
 have q2 := qUQ [43] ml mm
 have q3 := qUQ [43] mm ml
 have peq := fun x hx y hy => qTQ (G := G) [61, 61] x y (zU ml (k := x) hx) (zU mm (k := y) hy)
 simp only [Val.enc_def] at hbl hbm
 refine rgn [] [[0, 1]] ?_
 refine op1 tok ?_
 refine qA ?_
 refine rgn [.nilp, .bool true] [[], [0, 1, 5]] ?_
 iterate 2 refine op1 tok ?_ (hv := by first | with_reducible exact True.intro | (exact hsh; done) | omega | simp | (simp +contextual; omega))
 refine qA ?_
 refine rgn [.nilp, a.enc] [[], [], [], [1, 5, 6]] ?_
 iterate 4 refine op1 tok ?_ (hv := by first | with_reducible exact True.intro | (exact hbl; done) | omega | simp | (simp +contextual; omega))
 refine qA ?_
 refine rgn [.nilp, b.enc] [[], [], [], [5, 6, 7]] ?_
 iterate 4 refine op1 tok ?_ (hv := by first | with_reducible exact True.intro | (exact hbm; done) | omega | simp | (simp +contextual; omega))
 refine qA ?_
 refine AW.seq ?_
 refine rgn [] [[], [], [], [], [], [5, 6, 7, 23, 25], [], [5, 6, 7, 27]] ?_
 iterate 4 refine op1 tok ?_
 iterate 3 refine op2 tok ?_
 refine op1 tok ?_
 refine qA ?_
 refine cnd ?_ ?_
 ·intro h27
  try simp at h27
  refine rgn [] [[], [4]] ?_
  iterate 2 refine op1 tok ?_
  refine qA ?_
  exact AW.ret (qI (k := by (first | (simp; done) | (simp; omega))))
 ·intro h27
  try simp at h27
  have h6 : a.kind = 6 ∧ b.kind = 6 := by simpa using h27
  rw [zCA h6.1 h6.2] at p1 q1
  have e2 := qKY h6.1 h6.2 (by omega)
  have e3 := qKY h6.2 h6.1 (by omega)
  have c2 := qTB (G := G) _ q2 (by rw [e2]; rfl)
  have c3 := qTB (G := G) _ q3 (by rw [e3]; rfl)
  have l2 : ((vY [43] a b).kids).length ≤ 200 := by rw [e2]; simp; omega
  have l3 : ((vY [43] b a).kids).length ≤ 200 := by rw [e3]; simp; omega
  have hXY := qJR (G := G) (qCS (wR (vY [43] a b).kids) (qZ (vY [43] a b))) (qCS (wR (vY [43] b a).kids) (qZ (vY [43] b a)))
   (by rw [qIJ (by unfold wR; rw [kD]; exact l2)]; exact qRY (fun x hx => zU q2 (qCH.1 hx)) (by first | (unfold wR; rw [kD]; exact l2) | (rw [kD]; exact l2)) _)
   (by rw [qIJ (by unfold wR; rw [kD]; exact l3)]; exact qRY (fun x hx => zU q3 (qCH.1 hx)) (by first | (unfold wR; rw [kD]; exact l3) | (rw [kD]; exact l3)) _)
  rw [show jJ (qCS (wR (vY [43] a b).kids) (qZ (vY [43] a b))) (qCS (wR (vY [43] b a).kids) (qZ (vY [43] b a))) = 0 by
   rw [qIJ (by unfold wR; rw [kD]; exact l2), qIJ (by unfold wR; rw [kD]; exact l3)]
   refine zCU ?_ (fun x hx => zU q2 hx) l2 _ _
   rw [e2, e3]; exact List.perm_append_comm] at hXY
  generalize hD : orM (qZ a) (qZ b) = D at *
  generalize qCS (wR (vY [43] a b).kids) (qZ (vY [43] a b)) = X at *
  generalize qCS (wR (vY [43] b a).kids) (qZ (vY [43] b a)) = Y at *
  generalize vY [43] a b = A at *
  generalize vY [43] b a = B at *
  have hSk : (qFB a b D).kids = a.kids.filter fun v => !inV b v := rfl
  generalize qFB a b D = S at *
  clear e2 e3 l2 l3 q1 q2 q3
  simp only [Val.enc_def] at p1 p2 p3 c2 c3 hXY
  refine AW.skip ?_
  refine rgn [.nilp, S.enc] [[], [], [], [], [5, 6, 7, 8]] ?_
  iterate 5 refine op1 tok ?_ (hv := by first | with_reducible exact True.intro | (exact p1; done) | omega | simp | (simp +contextual; omega))
  refine qA ?_
  refine rgn [] [[]] ?_
  refine op1 tok ?_
  refine qA ?_
  refine AW.seq ?_
  refine rgn [] [[]] ?_
  refine op1 tok ?_
  refine qA ?_
  refine AW.block ?_
  refine AW.loop (α := Nat) (fun k => k ≤ a.kids.length) (fun k => ⟨qW 106 [(5, .p (.bool true)), (6, .ptr 6 0), (7, .ptr 7 0), (8, .ptr 8 0), (9, .p (.int .i64 (qHI a b k))), (10, .p (.int .i64 k))], [], [(6, .vars 31 a.cells), (7, .vars 31 b.cells), (8, .vars 31 S.cells)], 0⟩) (fun k => a.kids.length - k) (0) (by omega) ⟨qB (by simp [qHI]), by simp, by simp, by simp⟩ ?_
  rintro k hk
  have hck := zPG a b k
  refine AW.seq ?_
  refine rgn [] [[], [], [], [], [5, 6, 7, 8, 9, 10, 36]] ?_
  iterate 5 refine op1 tok ?_
  refine qA ?_
  refine cnd ?_ ?_
  ·intro h36
   try simp at h36
   obtain ⟨x, hx⟩ : ∃ x, a.kids[k]? = some x := ⟨a.kids[k], by simp [h36]⟩
   have hxm := List.mem_of_getElem? hx
   have peq := peq x hxm
   have hcx := qJR (G := G) x x (zU ml hxm) (zU ml hxm)
   rw [qIZ.refl (zU ml hxm)] at hcx
   simp only [Val.enc_def] at hcx
   refine AW.skip ?_
   refine AW.seq ?_
   refine AW.block ?_
   refine rgn [] [[]] ?_
   refine op1 tok ?_
   refine qA ?_
   refine AW.seq ?_
   refine rgn [] [[]] ?_
   refine op1 tok ?_
   refine qA ?_
   refine AW.block ?_
   refine AW.loop (α := Nat) (fun j => j ≤ b.kids.length) (fun j => ⟨qW 106 [(5, .p (.bool true)), (6, .ptr 6 0), (7, .ptr 7 0), (8, .ptr 8 0), (9, .p (.int .i64 (qHI a b k))), (10, .p (.int .i64 k)), (11, .p (.bool (zAC b x j))), (12, .p (.int .i64 j))], [], [(6, .vars 31 a.cells), (7, .vars 31 b.cells), (8, .vars 31 S.cells)], 0⟩) (fun j => b.kids.length - j) (0) (by omega) ⟨qB (by simp [zAC]), by simp, by simp, by simp⟩ ?_
   rintro j hj
   refine AW.seq ?_
   refine rgn [] [[], [], [], [], [5, 6, 7, 8, 9, 10, 11, 12, 43]] ?_
   iterate 5 refine op1 tok ?_
   refine qA ?_
   refine cnd ?_ ?_
   ·intro h43
    try simp at h43
    obtain ⟨y, hy⟩ : ∃ y, b.kids[j]? = some y := ⟨b.kids[j], by simp [h43]⟩
    have hpq := peq y (List.mem_of_getElem? hy)
    have hz := zPA x y
    have hst := zIJ (x := x) hy
    rw [← hz] at hst
    generalize vY [61, 61] x y = Z at *
    generalize zAC b x j = th at *
    simp only [Val.enc_def] at hpq
    refine AW.skip ?_
    refine AW.seq ?_
    refine AW.block ?_
    refine AW.drawS tok mixed 16 [[11], [46], [6, 47], [48, 47], [10, 47], [49, 50, 47], [51, 47], [7, 47], [53, 47], [12, 47], [54, 55, 47], [56, 47], [52, 57, 47], [58, 47], [59, 47], [47, 60]] [x.enc, y.enc, .nilp, Z.enc] [] (by kernel_rfl) ?_
    iterate 2 refine d1 ?_ (hv := by first | with_reducible exact True.intro | (first | (simp [hx]; done) | (simp [hy]; done) | (exact fun h => ⟨h, hpq⟩) | (exact fun _ => hpq); done) | omega | simp | (simp +contextual; omega))
    iterate 13 refine d2 47 rfl rfl ?_ (hv := by first | with_reducible exact True.intro | (first | (simp [hx]; done) | (simp [hy]; done) | (exact fun h => ⟨h, hpq⟩) | (exact fun _ => hpq); done) | omega | simp | (simp +contextual; omega))
    refine d1 ?_ (hv := by first | with_reducible exact True.intro | (first | (simp [hx]; done) | (simp [hy]; done) | (exact fun h => ⟨h, hpq⟩) | (exact fun _ => hpq); done) | omega | simp | (simp +contextual; omega))
    refine DGo.nil (by kernel_rfl) ⟨by kernel_rfl, ?_⟩
    refine qC.run [[5, 6, 7, 8, 9, 10, 11, 12]] ?_
    refine op1 tok ?_
    refine qA ?_
    refine rgz [] [[], [], [5, 6, 7, 8, 9, 10, 11, 12]] ?_
    iterate 3 refine op1 tok ?_
    refine qA ?_
    exact ⟨j + 1, by omega, by omega, qB (by simp [hst]), rfl, by simp [hst], by simp [hst]⟩
   ·intro h43
    try simp at h43
    obtain rfl : j = b.kids.length := by omega
    have hall := zNA b x
    refine AW.exit ?_
    simp
    refine AW.seq ?_
    refine rgn [] [[5, 6, 7, 8, 9, 10, 62]] ?_
    refine op1 tok ?_
    refine qA ?_
    refine cnd ?_ ?_
    ·intro h62
     try simp at h62
     have hnx := zPH hx (hall.symm.trans h62)
     refine AW.exit ?_
     simp
     refine rgz [] [[], [], [5, 6, 7, 8, 9, 10]] ?_
     iterate 3 refine op1 tok ?_
     refine qA ?_
     exact ⟨k + 1, by omega, by omega, qB (by simp [hnx]), rfl, by simp [hnx], by simp [hnx]⟩
    ·intro h62
     try simp at h62
     have hno : inV b x = false := hall.symm.trans h62
     have hnx := zMH hx hno
     have hgt := zMI hx hno
     rw [← hSk] at hgt
     have hlt := (List.getElem?_eq_some_iff.1 hgt).1
     refine AW.skip ?_
     refine AW.seq ?_
     refine AW.seqDrawS tok mixed 19 [[9], [8], [64], [65], [63, 66], [67], [8, 68], [69, 68], [9, 68], [70, 71, 68], [72, 68], [6, 68], [74, 68], [10, 68], [75, 76, 68], [77, 68], [73, 78, 68], [79, 68], [68, 80]] [x.enc, x.enc, .nilp, .int .i64 0] [] (by kernel_rfl) ?_
     iterate 6 refine d1 ?_ (hv := by first | with_reducible exact True.intro | (first | (simp [hx]; done) | (simp [hgt]; done) | (exact fun h => ⟨h, hcx⟩) | (exact fun _ => hcx); done) | omega | simp | (simp +contextual; omega))
     iterate 12 refine d2 68 rfl rfl ?_ (hv := by first | with_reducible exact True.intro | (first | (simp [hx]; done) | (simp [hgt]; done) | (exact fun h => ⟨h, hcx⟩) | (exact fun _ => hcx); done) | omega | simp | (simp +contextual; omega))
     refine d1 ?_ (hv := by first | with_reducible exact True.intro | (first | (simp [hx]; done) | (simp [hgt]; done) | (exact fun h => ⟨h, hcx⟩) | (exact fun _ => hcx); done) | omega | simp | (simp +contextual; omega))
     refine DGo.nil (by kernel_rfl) ⟨by kernel_rfl, ?_⟩
     refine qC.nil ?_
     refine cnd ?_ ?_
     ·intro h81
      try simp at h81
      exfalso; omega
     ·intro h81
      try simp at h81
      refine AW.skip ?_
      refine rgz [] [[], [], [5, 6, 7, 8, 9, 10]] ?_
      iterate 3 refine op1 tok ?_
      refine qA ?_
      refine rgz [] [[], [], [5, 6, 7, 8, 9, 10]] ?_
      iterate 3 refine op1 tok ?_
      refine qA ?_
      exact ⟨k + 1, by omega, by omega, qB (by simp [hnx]), rfl, by simp [hnx], by simp [hnx]⟩
  ·intro h36
   try simp at h36
   obtain rfl : k = a.kids.length := by omega
   have hca := zMJ a b
   rw [← hSk] at hca
   rw [hca]
   refine AW.exit ?_
   simp
   refine rgn [.nilp, A.enc, .nilp, X.enc] [[], [], [], [], [], [5, 6, 7, 8, 9, 13]] ?_
   iterate 6 refine op1 tok ?_ (hv := by first | with_reducible exact True.intro | (first | exact p2 | exact c2; done) | omega | simp | (simp +contextual; omega))
   refine qA ?_
   refine rgn [.nilp, B.enc, .nilp, Y.enc] [[], [], [5, 8, 9, 13, 90], [], [], [5, 8, 9, 13, 14]] ?_
   iterate 6 refine op1 tok ?_ (hv := by first | with_reducible exact True.intro | (first | exact p3 | exact c3; done) | omega | simp | (simp +contextual; omega))
   refine qA ?_
   refine rgn [.nilp, .int .i64 0] [[], [], [], [13, 14, 93, 94, 95], [], [], [13, 14, 93, 98], [], [], [14, 100, 101], [], [], [100, 104], [], [4]] ?_
   iterate 15 first | refine op1 tok ?_ (hv := by first | with_reducible exact True.intro | (exact hXY; done) | omega | simp | (simp +contextual; omega)) | refine op2 tok ?_ (hv := by first | with_reducible exact True.intro | (exact hXY; done) | omega | simp | (simp +contextual; omega))
   refine qA ?_
   exact AW.ret (qI (k := by (first | (simp; done) | (simp; omega))))
end Go.Proofs.YtdojfdaglbphlaaGreatDoor
