import Derived.Test.YtdojfdaglbphlaaGreatDoorSNumW
import Derived.Test.YtdojfdaglbphlaaGreatDoorSLogic
import Derived.Test.YtdojfdaglbphlaaGreatDoorSDivE
namespace Go.Proofs.YtdojfdaglbphlaaGreatDoor
open Sy Go
set_option maxRecDepth 100000
set_option maxHeartbeats 4000000
set_option linter.unusedSimpArgs false
set_option linter.unusedVariables false
variable {G : qS}
def qBZ (f : Dc → Dc → Dc × Int) (a b : Val) (m : Int) : Val := if a.kind = 4 ∧ b.kind = 4 then uL (f a.num b.num) m else wQ 40 m
theorem qJT (a b : Val) (top deep : Int) (g : FuncId) (f : Dc → Dc → Dc × Int) (hw : a.kind = 4 → b.kind = 4 → AFn Tryz.prog G g [a.num.enc, b.num.enc] (.tup [(f a.num b.num).1.enc, .int .i64 (f a.num b.num).2])) :
  AFn Tryz.prog G 34 [.agg (prC a b top deep), .fn g] (qBZ f a b top).enc := by
 unfold qBZ
 split
 ·rename_i h; exact qLM a b top deep g _ h.1 h.2 (hw h.1 h.2)
 ·rename_i h; exact qLN a b top deep g h
theorem qYR (a b : Val) (top deep : Int) (ha : zL a = true) (hb : zL b = true) (hn : ¬ (a.kind = 6 ∧ b.kind = 6)) : AFn Tryz.prog G 33 [.agg (prC a b top deep)] ((qBZ qCZ a b top).enc) := by
 refine AFn.introU tok Tryz.func33 (by kernel_rfl) rfl rfl ?_
 simp only [Tryz.f33, qK, List.map_cons, List.map_nil]
 have hk := yS (G := G) a b top deep 6
 rw [show (decide (a.kind = 6) && decide (b.kind = 6)) = false by
  cases h : (decide (a.kind = 6) && decide (b.kind = 6)) with
  | false => rfl
  | true => simp at h; exact absurd h hn] at hk
 have hw := qJT (G := G) a b top deep 83 qCZ (fun h4 h5 => DecSub_ev a.num b.num (zN (kY ha h4)).1 (zN (kY hb h5)).1)
 generalize qBZ qCZ a b top = M at *
 simp only [Val.enc_def] at hw
 refine rgn [] [[], [1, 2]] ?_
 iterate 2 refine op1 tok ?_
 refine qA ?_
 refine AW.seq ?_
 refine rgn [.nilp, .bool false] [[], [], [1, 2, 6]] ?_
 iterate 3 refine op1 tok ?_ (hv := by first | with_reducible exact True.intro | ((simpa using hk); done) | omega | simp | (simp +contextual; omega))
 refine qA ?_
 refine cnd ?_ ?_
 ·intro h6
  try simp at h6
  refine rgn [.nilp, M.enc] [[], [], [2]] ?_
  iterate 3 refine op1 tok ?_ (hv := by first | with_reducible exact True.intro | ((simpa using hw); done) | omega | simp | (simp +contextual; omega))
  refine qA ?_
  exact AW.ret ⟨.inr rfl, _, _, by (conv => lhs; simp), trivial, by simp⟩
 ·intro h6
  try simp at h6
theorem qQT (a b : Val) (ha : zL a = true) (hb : zL b = true) (hn : ¬ (a.kind = 6 ∧ b.kind = 6)) : AFn Tryz.prog G 12 [.str [45], a.enc, b.enc] ((qBZ qCZ a b (orM a.mask b.mask)).enc) := by
 refine AFn.introU tok Tryz.func12 (by kernel_rfl) rfl rfl ?_
 simp only [Tryz.f12, qK, List.map_cons, List.map_nil]
 have h1 := wU (G := G) a
 have h2 := wU (G := G) b
 have hp := qYR (G := G) a b (orM a.mask b.mask) (orM (zD a) (zD b)) ha hb hn
 generalize qBZ qCZ a b (orM a.mask b.mask) = M at *
 simp only [Val.enc_def] at h1 h2 hp
 refine rgn [] [[], [], [0, 4, 5, 6]] ?_
 iterate 3 refine op1 tok ?_
 refine qA ?_
 refine AW.seqDrawS tok mixed 14 [[4], [5], [4], [12], [5], [14], [13, 15], [4], [17], [5], [19], [18, 20], [10, 11, 16, 21], []] [.nilp, .int .u64 (zD a), .nilp, .int .u64 (zD b)] [] (by kernel_rfl) ?_
 iterate 14 refine d1 ?_ (h := by intro C; conv => lhs; simp [wI]) (hv := by first | with_reducible exact True.intro | (first | exact h1 | exact h2; done) | omega | simp | (simp +contextual; omega))
 refine DGo.nil (by kernel_rfl) ⟨by kernel_rfl, ?_⟩
 refine qE.run [[0, 4, 5, 6, 7]] ?_
 refine op1 tok ?_ (h := by intro C; conv => lhs; simp [wI])
 refine qA ?_
 refine AW.seq ?_
 refine rgn [] [[]] ?_
 refine op1 tok ?_
 refine qA ?_
 refine AW.block ?_
 refine rgn [] [[], [0, 4, 5, 6, 7, 23, 24]] ?_
 iterate 2 refine op1 tok ?_
 refine qA ?_
 refine cnd ?_ ?_
 ·intro h24
  try simp at h24
 ·intro h24
  try simp at h24
  refine rgn [] [[], [0, 4, 5, 6, 7, 23, 28]] ?_
  iterate 2 refine op1 tok ?_
  refine qA ?_
  refine cnd ?_ ?_
  ·intro h28
   try simp at h28
   refine rgn [.nilp, M.enc] [[], [], [6]] ?_
   iterate 3 refine op1 tok ?_ (hv := by first | with_reducible exact True.intro | ((simp at hp ⊢; exact hp); done) | omega | simp | (simp +contextual; omega))
   refine qA ?_
   exact AW.ret ⟨.inr rfl, _, _, by (conv => lhs; simp), trivial, by simp⟩
  ·intro h28
   try simp at h28
theorem twoMul_ev (a b : Val) (ha : zL a = true) (hb : zL b = true) : AFn Tryz.prog G 12 [.str [42], a.enc, b.enc] ((qBZ qXP a b (orM a.mask b.mask)).enc) := by
 refine AFn.introU tok Tryz.func12 (by kernel_rfl) rfl rfl ?_
 simp only [Tryz.f12, qK, List.map_cons, List.map_nil]
 have h1 := wU (G := G) a
 have h2 := wU (G := G) b
 have hp := qJT (G := G) a b (orM a.mask b.mask) (orM (zD a) (zD b)) 35 qXP (fun h4 h5 => DecMul_ev a.num b.num (zN (kY ha h4)).1 (zN (kY hb h5)).1)
 generalize qBZ qXP a b (orM a.mask b.mask) = M at *
 simp only [Val.enc_def] at h1 h2 hp
 refine rgn [] [[], [], [0, 4, 5, 6]] ?_
 iterate 3 refine op1 tok ?_
 refine qA ?_
 refine AW.seqDrawS tok mixed 14 [[4], [5], [4], [12], [5], [14], [13, 15], [4], [17], [5], [19], [18, 20], [10, 11, 16, 21], []] [.nilp, .int .u64 (zD a), .nilp, .int .u64 (zD b)] [] (by kernel_rfl) ?_
 iterate 14 refine d1 ?_ (h := by intro C; conv => lhs; simp [wI]) (hv := by first | with_reducible exact True.intro | (first | exact h1 | exact h2; done) | omega | simp | (simp +contextual; omega))
 refine DGo.nil (by kernel_rfl) ⟨by kernel_rfl, ?_⟩
 refine qE.run [[0, 4, 5, 6, 7]] ?_
 refine op1 tok ?_ (h := by intro C; conv => lhs; simp [wI])
 refine qA ?_
 refine AW.seq ?_
 refine rgn [] [[]] ?_
 refine op1 tok ?_
 refine qA ?_
 refine AW.block ?_
 refine rgn [] [[], [0, 4, 5, 6, 7, 23, 24]] ?_
 iterate 2 refine op1 tok ?_
 refine qA ?_
 refine cnd ?_ ?_
 ·intro h24
  try simp at h24
 ·intro h24
  try simp at h24
  refine rgn [] [[], [0, 4, 5, 6, 7, 23, 28]] ?_
  iterate 2 refine op1 tok ?_
  refine qA ?_
  refine cnd ?_ ?_
  ·intro h28
   try simp at h28
  ·intro h28
   try simp at h28
   refine rgn [] [[], [0, 4, 5, 6, 7, 23, 32]] ?_
   iterate 2 refine op1 tok ?_
   refine qA ?_
   refine cnd ?_ ?_
   ·intro h32
    try simp at h32
    refine rgn [.nilp, M.enc] [[], [], [6]] ?_
    iterate 3 refine op1 tok ?_ (hv := by first | with_reducible exact True.intro | ((simp at hp ⊢; exact hp); done) | omega | simp | (simp +contextual; omega))
    refine qA ?_
    exact AW.ret ⟨.inr rfl, _, _, by (conv => lhs; simp), trivial, by simp⟩
   ·intro h32
    try simp at h32
theorem twoDiv_ev (a b : Val) (ha : zL a = true) (hb : zL b = true) : AFn Tryz.prog G 12 [.str [47], a.enc, b.enc] ((qBZ qFX a b (orM a.mask b.mask)).enc) := by
 refine AFn.introU tok Tryz.func12 (by kernel_rfl) rfl rfl ?_
 simp only [Tryz.f12, qK, List.map_cons, List.map_nil]
 have h1 := wU (G := G) a
 have h2 := wU (G := G) b
 have hp := qJT (G := G) a b (orM a.mask b.mask) (orM (zD a) (zD b)) 36 qFX (fun h4 h5 => Div_ev a.num b.num (kY ha h4) (kY hb h5))
 generalize qBZ qFX a b (orM a.mask b.mask) = M at *
 simp only [Val.enc_def] at h1 h2 hp
 refine rgn [] [[], [], [0, 4, 5, 6]] ?_
 iterate 3 refine op1 tok ?_
 refine qA ?_
 refine AW.seqDrawS tok mixed 14 [[4], [5], [4], [12], [5], [14], [13, 15], [4], [17], [5], [19], [18, 20], [10, 11, 16, 21], []] [.nilp, .int .u64 (zD a), .nilp, .int .u64 (zD b)] [] (by kernel_rfl) ?_
 iterate 14 refine d1 ?_ (h := by intro C; conv => lhs; simp [wI]) (hv := by first | with_reducible exact True.intro | (first | exact h1 | exact h2; done) | omega | simp | (simp +contextual; omega))
 refine DGo.nil (by kernel_rfl) ⟨by kernel_rfl, ?_⟩
 refine qE.run [[0, 4, 5, 6, 7]] ?_
 refine op1 tok ?_ (h := by intro C; conv => lhs; simp [wI])
 refine qA ?_
 refine AW.seq ?_
 refine rgn [] [[]] ?_
 refine op1 tok ?_
 refine qA ?_
 refine AW.block ?_
 refine rgn [] [[], [0, 4, 5, 6, 7, 23, 24]] ?_
 iterate 2 refine op1 tok ?_
 refine qA ?_
 refine cnd ?_ ?_
 ·intro h24
  try simp at h24
 ·intro h24
  try simp at h24
  refine rgn [] [[], [0, 4, 5, 6, 7, 23, 28]] ?_
  iterate 2 refine op1 tok ?_
  refine qA ?_
  refine cnd ?_ ?_
  ·intro h28
   try simp at h28
  ·intro h28
   try simp at h28
   refine rgn [] [[], [0, 4, 5, 6, 7, 23, 32]] ?_
   iterate 2 refine op1 tok ?_
   refine qA ?_
   refine cnd ?_ ?_
   ·intro h32
    try simp at h32
   ·intro h32
    try simp at h32
    refine rgn [] [[], [0, 4, 5, 6, 7, 23, 36]] ?_
    iterate 2 refine op1 tok ?_
    refine qA ?_
    refine cnd ?_ ?_
    ·intro h36
     try simp at h36
     refine rgn [.nilp, M.enc] [[], [], [6]] ?_
     iterate 3 refine op1 tok ?_ (hv := by first | with_reducible exact True.intro | ((simp at hp ⊢; exact hp); done) | omega | simp | (simp +contextual; omega))
     refine qA ?_
     exact AW.ret ⟨.inr rfl, _, _, by (conv => lhs; simp), trivial, by simp⟩
    ·intro h36
     try simp at h36
theorem twoMod_ev (a b : Val) (ha : zL a = true) (hb : zL b = true) : AFn Tryz.prog G 12 [.str [37], a.enc, b.enc] ((qBZ qFM a b (orM a.mask b.mask)).enc) := by
 refine AFn.introU tok Tryz.func12 (by kernel_rfl) rfl rfl ?_
 simp only [Tryz.f12, qK, List.map_cons, List.map_nil]
 have h1 := wU (G := G) a
 have h2 := wU (G := G) b
 have hp := qJT (G := G) a b (orM a.mask b.mask) (orM (zD a) (zD b)) 37 qFM (fun h4 h5 => Mod_ev a.num b.num (kY ha h4) (kY hb h5))
 generalize qBZ qFM a b (orM a.mask b.mask) = M at *
 simp only [Val.enc_def] at h1 h2 hp
 refine rgn [] [[], [], [0, 4, 5, 6]] ?_
 iterate 3 refine op1 tok ?_
 refine qA ?_
 refine AW.seqDrawS tok mixed 14 [[4], [5], [4], [12], [5], [14], [13, 15], [4], [17], [5], [19], [18, 20], [10, 11, 16, 21], []] [.nilp, .int .u64 (zD a), .nilp, .int .u64 (zD b)] [] (by kernel_rfl) ?_
 iterate 14 refine d1 ?_ (h := by intro C; conv => lhs; simp [wI]) (hv := by first | with_reducible exact True.intro | (first | exact h1 | exact h2; done) | omega | simp | (simp +contextual; omega))
 refine DGo.nil (by kernel_rfl) ⟨by kernel_rfl, ?_⟩
 refine qE.run [[0, 4, 5, 6, 7]] ?_
 refine op1 tok ?_ (h := by intro C; conv => lhs; simp [wI])
 refine qA ?_
 refine AW.seq ?_
 refine rgn [] [[]] ?_
 refine op1 tok ?_
 refine qA ?_
 refine AW.block ?_
 refine rgn [] [[], [0, 4, 5, 6, 7, 23, 24]] ?_
 iterate 2 refine op1 tok ?_
 refine qA ?_
 refine cnd ?_ ?_
 ·intro h24
  try simp at h24
 ·intro h24
  try simp at h24
  refine rgn [] [[], [0, 4, 5, 6, 7, 23, 28]] ?_
  iterate 2 refine op1 tok ?_
  refine qA ?_
  refine cnd ?_ ?_
  ·intro h28
   try simp at h28
  ·intro h28
   try simp at h28
   refine rgn [] [[], [0, 4, 5, 6, 7, 23, 32]] ?_
   iterate 2 refine op1 tok ?_
   refine qA ?_
   refine cnd ?_ ?_
   ·intro h32
    try simp at h32
   ·intro h32
    try simp at h32
    refine rgn [] [[], [0, 4, 5, 6, 7, 23, 36]] ?_
    iterate 2 refine op1 tok ?_
    refine qA ?_
    refine cnd ?_ ?_
    ·intro h36
     try simp at h36
    ·intro h36
     try simp at h36
     refine rgn [] [[], [0, 4, 5, 6, 7, 23, 40]] ?_
     iterate 2 refine op1 tok ?_
     refine qA ?_
     refine cnd ?_ ?_
     ·intro h40
      try simp at h40
      refine rgn [.nilp, M.enc] [[], [], [6]] ?_
      iterate 3 refine op1 tok ?_ (hv := by first | with_reducible exact True.intro | ((simp at hp ⊢; exact hp); done) | omega | simp | (simp +contextual; omega))
      refine qA ?_
      exact AW.ret ⟨.inr rfl, _, _, by (conv => lhs; simp), trivial, by simp⟩
     ·intro h40
      try simp at h40
def qJN (op : List UInt8) (a b : Val) : Val :=
 if op = [43] then qOU a b (orM a.mask b.mask)
 else if op = [45] then (if a.kind = 6 ∧ b.kind = 6 then qPI a b (orM (zD a) (zD b)) else qBZ qCZ a b (orM a.mask b.mask))
 else if op = [42] then qBZ qXP a b (orM a.mask b.mask)
 else if op = [47] then qBZ qFX a b (orM a.mask b.mask)
 else if op = [37] then qBZ qFM a b (orM a.mask b.mask)
 else if op = [97, 110, 100] then qDR (fun x y => x && y) a b (orM a.mask b.mask)
 else if op = [111, 114] then qDR (fun x y => x || y) a b (orM a.mask b.mask)
 else uG (qTX op (qAT a b)) (orM (zD a) (zD b))
theorem qHR (op : List UInt8) (a b : Val) (ha : zL a = true) (hb : zL b = true) : AFn Tryz.prog G 12 [.str op, a.enc, b.enc] (qJN op a b).enc := by
 unfold qJN
 split
 ·rename_i h; subst h; exact qWT a b ha hb
 split
 ·rename_i h; subst h
  split
  ·rename_i h; exact qGD a b ha hb h.1 h.2
  ·rename_i h; exact qQT a b ha hb h
 split
 ·rename_i h; subst h; exact twoMul_ev a b ha hb
 split
 ·rename_i h; subst h; exact twoDiv_ev a b ha hb
 split
 ·rename_i h; subst h; exact twoMod_ev a b ha hb
 split
 ·rename_i h; subst h; exact twoAnd_ev a b
 split
 ·rename_i h; subst h; exact twoOr_ev a b
 ·rename_i h1 h2 h3 h4 h5 h6 h7
  exact twoCmp_ev op a b ⟨h1, h2, h3, h4, h5, h6, h7⟩ ha hb
end Go.Proofs.YtdojfdaglbphlaaGreatDoor
