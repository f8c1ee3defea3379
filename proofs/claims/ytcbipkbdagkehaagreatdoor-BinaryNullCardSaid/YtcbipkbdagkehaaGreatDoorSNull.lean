import Derived.Test.YtcbipkbdagkehaaGreatDoorSConcat
import Derived.Test.YtcbipkbdagkehaaGreatDoorSShown14
import Derived.Test.YtcbipkbdagkehaaGreatDoorK2
import Derived.Test.YtcbipkbdagkehaaGreatDoorSBuiltL
namespace Go.Proofs.YtcbipkbdagkehaaGreatDoor
open Sy Go
set_option maxRecDepth 100000
set_option maxHeartbeats 4000000
set_option linter.unusedSimpArgs false
set_option linter.unusedVariables false
variable {G : Glob}
theorem twoPlusN_ev (a b : Val) (ha : mayT a = true) (hb : mayT b = true) (hn : ¬ (a.kind = 4 ∧ b.kind = 4)) : AFn Tryz.prog G 29 [.str [43], a.enc, b.enc] ((plusT a b (orM a.mask b.mask)).enc) := by
 refine AFn.introU tok Tryz.func29 (by kernel_rfl) rfl rfl ?_
 simp only [Tryz.f29, enumA, List.map_cons, List.map_nil]
 have h1 := deep_ev (G := G) a
 have h2 := deep_ev (G := G) b
 have hp := plusN_ev (G := G) a b (orM a.mask b.mask) (orM (deepV a) (deepV b)) ha hb hn (fun h => (may_obj ha h).1) (fun h => (may_obj hb h).1)
 generalize plusT a b (orM a.mask b.mask) = M at *
 simp only [Val.enc_def] at h1 h2 hp
 refine rgn [] [[], [], [0, 4, 5, 6]] ?_
 iterate 3 refine op1 tok ?_
 refine runEnd ?_
 refine AW.seqDrawS tok mixed 14 [[4], [5], [4], [12], [5], [14], [13, 15], [4], [17], [5], [19], [18, 20], [10, 11, 16, 21], []] [.nilp, .int .u64 (deepV a), .nilp, .int .u64 (deepV b)] [] (by kernel_rfl) ?_
 iterate 14 refine d1 ?_ (h := by intro C; conv => lhs; simp [or_wrap]) (hv := by first | with_reducible exact True.intro | (first | exact h1 | exact h2; done) | omega | simp | (simp; omega) | (simp +contextual; omega))
 refine DGo.nil (by kernel_rfl) ⟨by kernel_rfl, ?_⟩
 refine AOpsO.run [[0, 4, 5, 6, 7]] ?_
 refine op1 tok ?_ (h := by intro C; conv => lhs; simp [or_wrap])
 refine runEnd ?_
 refine AW.seq ?_
 refine rgn [] [[]] ?_
 refine op1 tok ?_
 refine runEnd ?_
 refine AW.block ?_
 refine rgn [] [[], [0, 4, 5, 6, 7, 23, 24]] ?_
 iterate 2 refine op1 tok ?_
 refine runEnd ?_
 refine cnd ?_ ?_
 ·intro h24
  try simp at h24
  refine rgn [.nilp, M.enc] [[], [], [6]] ?_
  iterate 3 refine op1 tok ?_ (hv := by first | with_reducible exact True.intro | ((simp at hp ⊢; exact hp); done) | omega | simp | (simp; omega) | (simp +contextual; omega))
  refine runEnd ?_
  exact AW.ret ⟨.inr rfl, _, _, by (conv => lhs; simp), trivial, by simp⟩
 ·intro h24
  try simp at h24
theorem with4_ev (v : Val) (m : Int) : AFn Tryz.prog G 37 [v.enc, .int .u64 m] ((withV v m).enc) := by
 refine AFn.introU tok Tryz.func37 (by kernel_rfl) rfl rfl ?_
 simp only [Tryz.f37, enumA, List.map_cons, List.map_nil]
 refine rgn [] [[], [1, 2, 4]] ?_
 iterate 2 refine op1 tok ?_
 refine runEnd ?_
 refine rgn [] [[], [], [], [2, 4, 8], [], [2, 4]] ?_
 iterate 6 refine op1 tok ?_ (h := by intro C; conv => lhs; simp [or_wrap])
 refine runEnd ?_
 refine rgn [] [[], [4]] ?_
 iterate 2 refine op1 tok ?_
 refine runEnd ?_
 exact AW.ret ⟨.inr rfl, _, _, by (conv => lhs; simp), trivial, by simp⟩
def nullM (m : Int) : Val := .mk 1 m dc0 [] [] [] 0
theorem nullM_may (m : Int) : mayT (nullM m) = true := by
 rw [mayT_eq]; simp [nullM, boundsT, partsT, codeT, numT, textT, namedT, kidsT, dc0]
theorem withV_sz (v : Val) (m : Int) : Val.sz (withV v m) = Val.sz v := by rw [sz_eq, sz_eq v, withV_kids]
theorem withV_two (v : Val) (m : Int) : withV v (orM m v.mask) = withV v m := by
 unfold withV
 congr 1
 rw [or_comm v.mask, or_or_self, or_comm]
theorem plus_null1 (a : Val) (m : Int) : plusT (nullM m) a (orM m a.mask) = withV a m := by
 rw [← withV_two]; rfl
theorem plus_null2 (a : Val) (m : Int) (h : a.kind ≠ 1) : plusT a (nullM m) (orM a.mask m) = withV a m := by
 rw [or_comm, ← withV_two]
 unfold plusT
 rw [if_neg h, if_pos (by rfl)]
theorem plus_null_sz {a : Val} {n : Int} (hs : Val.sz a ≤ 80) (m : Int) : Val.sz (plusT a (nullM m) n) ≤ 1000000 := by
 unfold plusT
 split
 ·rw [withV_sz, sz_eq]; simp [nullM]
 ·rw [if_pos (by rfl), withV_sz]; omega
theorem less_self {a : Val} (ha : mayT a = true) (m : Int) : (lessV a a m).kids = [] := by
 show a.kids.filter _ = []
 rw [List.filter_eq_nil_iff]
 intro v hv
 have h : (a.kids.any fun w => decide (cmpT v w = 0)) = true := List.any_eq_true.2 ⟨v, hv, by simp [cmpT_ord.refl (may_kid ha hv)]⟩
 simp only [h]; decide
theorem plus_lists {a b : Val} (ha : a.kind = 6) (hb : b.kind = 6) (hl : a.kids.length + b.kids.length ≤ 200) (m : Int) : (plusT a b m).kids.length = a.kids.length + b.kids.length := by
 unfold plusT
 rw [if_neg (by omega), if_neg (by omega), if_neg (by omega), if_pos ⟨ha, hb⟩]
 unfold bigV
 rw [if_neg (by simp; omega)]
 simp
theorem BinaryNull_ev (l m : List Item) (mask : Int) (hl : ∀ x ∈ l, x.keys.length ≤ 140737488351232) (hm : ∀ x ∈ m, x.keys.length ≤ 140737488351232) : AFn Tryz.prog G 10 [.sl 6 (l.map Item.enc), .sl 6 (m.map Item.enc), .int .u64 mask] (.bool true) := by
 refine AFn.introU tok Tryz.func10 (by kernel_rfl) rfl rfl ?_
 simp only [Tryz.f10, enumA, List.map_cons, List.map_nil]
 have hsh := shown14_ev (G := G)
 have hbl := Built_ev (G := G) l hl
 have hbm := Built_ev (G := G) m hm
 have ml := built_may l
 have mm := built_may m
 have sl := built_sz l
 have sm := built_sz m
 generalize builtM l = a at *
 generalize builtM m = b at *
 have ka := kids_le_sz sl
 have kb := kids_le_sz sm
 have p1 := twoPlusN_ev (G := G) (nullM mask) a (nullM_may mask) ml (fun h => by have := h.1; simp [nullM] at this)
 have p2 := twoPlusN_ev (G := G) a (nullM mask) ml (nullM_may mask) (fun h => by have := h.2; simp [nullM] at this)
 have e1 := plus_null1 a mask
 have e2 := plus_null2 a mask
 have hw := with4_ev (G := G) a mask
 have hs1 := refSame_sz (G := G) (withV a mask) (by rw [withV_sz]; omega) (withV a mask)
 rw [(sameT_iff _ _).2 rfl] at hs1
 rw [show (nullM mask).mask = mask from rfl] at p1 p2
 rw [e1] at p1
 obtain ⟨s2, hs2, hq2⟩ : ∃ s2 : Bool, (a.kind ≠ 1 → s2 = true) ∧ AFn Tryz.prog G 28 [(plusT a (nullM mask) (orM a.mask mask)).enc, (withV a mask).enc] (.bool s2) :=
  ⟨_, fun h => (sameT_iff _ _).2 (e2 h), refSame_sz (G := G) _ (plus_null_sz sl mask) _⟩
 have p3 := fun h : a.kind = 6 ∧ b.kind = 6 => twoPlusN_ev (G := G) a b ml mm (by omega)
 have e3 := fun h : a.kind = 6 ∧ b.kind = 6 => plus_lists h.1 h.2 (by omega) (orM a.mask b.mask)
 have p4 := fun h : a.kind = 6 => twoMinusL_ev (G := G) a a ml ml h h
 have e4 := less_self ml (orM (deepV a) (deepV a))
 have e5 : (lessV a a (orM (deepV a) (deepV a))).kind = a.kind := rfl
 generalize plusT a b (orM a.mask b.mask) = X at *
 generalize lessV a a (orM (deepV a) (deepV a)) = Y at *
 generalize plusT a (nullM mask) (orM a.mask mask) = Z at *
 generalize withV a mask = W at *
 simp only [Val.enc_def] at hbl hbm p1 p2 p3 p4 hw hs1 hq2
 refine rgn [] [[0, 1, 2]] ?_
 refine op1 tok ?_
 refine runEnd ?_
 refine rgn [.nilp, .bool true] [[], [0, 1, 2, 7]] ?_
 iterate 2 refine op1 tok ?_ (hv := by first | with_reducible exact True.intro | (exact hsh; done) | omega | simp | (simp; omega) | (simp +contextual; omega))
 refine runEnd ?_
 refine rgn [.nilp, a.enc] [[], [], [], [1, 2, 7, 8]] ?_
 iterate 4 refine op1 tok ?_ (hv := by first | with_reducible exact True.intro | (exact hbl; done) | omega | simp | (simp; omega) | (simp +contextual; omega))
 refine runEnd ?_
 refine rgn [.nilp, b.enc] [[], [], [], [2, 7, 8, 9]] ?_
 iterate 4 refine op1 tok ?_ (hv := by first | with_reducible exact True.intro | (exact hbm; done) | omega | simp | (simp; omega) | (simp +contextual; omega))
 refine runEnd ?_
 refine rgn [] [[], [], [], [2, 7, 8, 9, 10]] ?_
 iterate 4 refine op1 tok ?_
 refine runEnd ?_
 refine AW.seqDrawS tok mixed 7 [[10], [8], [22, 23], [8], [2], [25, 26], [24, 27]] [.nilp, W.enc, .nilp, W.enc, .nilp, .bool true] [] (by kernel_rfl) ?_
 iterate 7 refine d1 ?_ (hv := by first | with_reducible exact True.intro | (first | (simpa [nullM, dc0] using p1) | (simpa using hw) | (simpa using hs1); done) | omega | simp | (simp; omega) | (simp +contextual; omega))
 refine DGo.nil (by kernel_rfl) ⟨by kernel_rfl, ?_⟩
 refine AOpsO.run [[2, 7, 8, 9, 10, 11]] ?_
 refine op1 tok ?_
 refine runEnd ?_
 refine AW.seqDrawS tok mixed 7 [[8], [10], [29, 30], [8], [2], [32, 33], [31, 34]] [.nilp, Z.enc, .nilp, W.enc, .nilp, .bool s2] [] (by kernel_rfl) ?_
 iterate 7 refine d1 ?_ (hv := by first | with_reducible exact True.intro | (first | (simpa [nullM, dc0] using p2) | (simpa using hw) | (simpa using hq2); done) | omega | simp | (simp; omega) | (simp +contextual; omega))
 refine DGo.nil (by kernel_rfl) ⟨by kernel_rfl, ?_⟩
 refine AOpsO.run [[7, 8, 9, 11, 12]] ?_
 refine op1 tok ?_
 refine runEnd ?_
 refine AW.seq ?_
 refine rgn [] [[], [], [7, 8, 9, 11, 12, 38]] ?_
 iterate 3 refine op1 tok ?_
 refine runEnd ?_
 refine cnd ?_ ?_
 ·intro h38
  try simp at h38
  refine rgz [] [[]] ?_
  refine op1 tok ?_
  refine runEnd ?_
  refine AW.seq ?_
  refine rgn [] [[], [], [], [], [], [7, 8, 9, 11, 12, 42, 44], [], [7, 8, 9, 11, 12, 46]] ?_
  iterate 4 refine op1 tok ?_
  iterate 3 refine op2 tok ?_
  refine op1 tok ?_
  refine runEnd ?_
  refine cnd ?_ ?_
  ·intro h46
   try simp at h46
   have h46 : a.kind = 6 ∧ b.kind = 6 := by simpa using h46
   have p3 := p3 h46
   have e3 := e3 h46
   have p4 := p4 h46.1
   refine rgn [.nilp, X.enc] [[], [], [], [], [7, 8, 9, 11, 12, 13]] ?_
   iterate 5 refine op1 tok ?_ (hv := by first | with_reducible exact True.intro | ((simpa using p3); done) | omega | simp | (simp; omega) | (simp +contextual; omega))
   refine runEnd ?_
   refine rgn [.nilp, Y.enc] [[], [], [], [], [7, 8, 9, 11, 12, 13, 14]] ?_
   iterate 5 refine op1 tok ?_ (hv := by first | with_reducible exact True.intro | ((simpa using p4); done) | omega | simp | (simp; omega) | (simp +contextual; omega))
   refine runEnd ?_
   refine rgn [] [[], [], [], [7, 9, 11, 12, 14, 55, 56], [], [], [], [7, 11, 12, 14, 55, 58, 60], [], [], [7, 11, 12, 14, 63], [], [], [], [], [7, 11, 12, 14, 64, 68], [], [], [7, 11, 12, 70, 71], [], [], [7, 11, 12, 74]] ?_
   iterate 22 first | refine op1 tok ?_ | refine op2 tok ?_
   refine runEnd ?_
   refine cnd ?_ ?_
   ·intro h74
    try simp at h74
    (simp [e3, e4, e5] at h74; omega)
   ·intro h74
    try simp at h74
    refine AW.skip ?_
    refine rgn [] [[], [], [], [12, 78], [], [], [81], [6]] ?_
    iterate 8 first | refine op1 tok ?_ | refine op2 tok ?_
    refine runEnd ?_
    exact AW.ret ⟨.inr rfl, _, _, by (conv => lhs; simp), trivial, by simp⟩
  ·intro h46
   try simp at h46
   refine AW.skip ?_
   refine rgn [] [[], [], [], [12, 78], [], [], [81], [6]] ?_
   iterate 8 first | refine op1 tok ?_ | refine op2 tok ?_
   refine runEnd ?_
   exact AW.ret ⟨.inr rfl, _, _, by (conv => lhs; simp), trivial, by simp⟩
 ·intro h38
  try simp at h38
  obtain rfl := hs2 h38
  refine AW.skip ?_
  refine AW.seq ?_
  refine rgn [] [[], [], [], [], [], [7, 8, 9, 11, 12, 42, 44], [], [7, 8, 9, 11, 12, 46]] ?_
  iterate 4 refine op1 tok ?_
  iterate 3 refine op2 tok ?_
  refine op1 tok ?_
  refine runEnd ?_
  refine cnd ?_ ?_
  ·intro h46
   try simp at h46
   have h46 : a.kind = 6 ∧ b.kind = 6 := by simpa using h46
   have p3 := p3 h46
   have e3 := e3 h46
   have p4 := p4 h46.1
   refine rgn [.nilp, X.enc] [[], [], [], [], [7, 8, 9, 11, 12, 13]] ?_
   iterate 5 refine op1 tok ?_ (hv := by first | with_reducible exact True.intro | ((simpa using p3); done) | omega | simp | (simp; omega) | (simp +contextual; omega))
   refine runEnd ?_
   refine rgn [.nilp, Y.enc] [[], [], [], [], [7, 8, 9, 11, 12, 13, 14]] ?_
   iterate 5 refine op1 tok ?_ (hv := by first | with_reducible exact True.intro | ((simpa using p4); done) | omega | simp | (simp; omega) | (simp +contextual; omega))
   refine runEnd ?_
   refine rgn [] [[], [], [], [7, 9, 11, 12, 14, 55, 56], [], [], [], [7, 11, 12, 14, 55, 58, 60], [], [], [7, 11, 12, 14, 63], [], [], [], [], [7, 11, 12, 14, 64, 68], [], [], [7, 11, 12, 70, 71], [], [], [7, 11, 12, 74]] ?_
   iterate 22 first | refine op1 tok ?_ | refine op2 tok ?_
   refine runEnd ?_
   refine cnd ?_ ?_
   ·intro h74
    try simp at h74
    (simp [e3, e4, e5] at h74; omega)
   ·intro h74
    try simp at h74
    refine AW.skip ?_
    refine rgn [] [[], [], [], [12, 78], [], [], [81], [6]] ?_
    iterate 8 first | refine op1 tok ?_ | refine op2 tok ?_
    refine runEnd ?_
    exact AW.ret ⟨.inr rfl, _, _, by (conv => lhs; simp), trivial, by simp⟩
  ·intro h46
   try simp at h46
   refine AW.skip ?_
   refine rgn [] [[], [], [], [12, 78], [], [], [81], [6]] ?_
   iterate 8 first | refine op1 tok ?_ | refine op2 tok ?_
   refine runEnd ?_
   exact AW.ret ⟨.inr rfl, _, _, by (conv => lhs; simp), trivial, by simp⟩
end Go.Proofs.YtcbipkbdagkehaaGreatDoor
