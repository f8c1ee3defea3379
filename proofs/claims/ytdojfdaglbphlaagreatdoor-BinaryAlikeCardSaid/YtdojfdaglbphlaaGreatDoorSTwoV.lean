import Derived.Test.YtdojfdaglbphlaaGreatDoorSNumW
import Derived.Test.YtdojfdaglbphlaaGreatDoorSLogic
import Derived.Test.YtdojfdaglbphlaaGreatDoorSDivE
namespace Go.Proofs.YtdojfdaglbphlaaGreatDoor
open Sy Go
set_option maxRecDepth 100000
set_option maxHeartbeats 4000000
set_option linter.unusedSimpArgs false
set_option linter.unusedVariables false
variable {G : qV}
def uS (f : Dc → Dc → Dc × Int) (a b : Val) (m : Int) : Val := if a.kind = 4 ∧ b.kind = 4 then qKP (f a.num b.num) m else kE 40 m
theorem qMW (a b : Val) (top deep : Int) (g : FuncId) (f : Dc → Dc → Dc × Int) (hw : a.kind = 4 → b.kind = 4 → AFn Tryz.prog G g [a.num.enc, b.num.enc] (.tup [(f a.num b.num).1.enc, .int .i64 (f a.num b.num).2])) :
  AFn Tryz.prog G 34 [.agg (prC a b top deep), .fn g] (uS f a b top).enc := by
 unfold uS
 split
 ·rename_i h; exact qOT a b top deep g _ h.1 h.2 (hw h.1 h.2)
 ·rename_i h; exact qOU a b top deep g h
theorem zEI (a b : Val) (top deep : Int) (ha : qQ a = true) (hb : qQ b = true) (hn : ¬ (a.kind = 6 ∧ b.kind = 6)) : AFn Tryz.prog G 33 [.agg (prC a b top deep)] ((uS qQZ a b top).enc) := by
 refine AFn.introU tok Tryz.func33 (by kernel_rfl) rfl rfl ?_
 simp only [Tryz.f33, qI, List.map_cons, List.map_nil]
 have hk := kM (G := G) a b top deep 6
 rw [show (decide (a.kind = 6) && decide (b.kind = 6)) = false by
  cases h : (decide (a.kind = 6) && decide (b.kind = 6)) with
  | false => rfl
  | true => simp at h; exact absurd h hn] at hk
 have hw := qMW (G := G) a b top deep 83 qQZ (fun h4 h5 => zJY a.num b.num (yJ (jL ha h4)).1 (yJ (jL hb h5)).1)
 generalize uS qQZ a b top = M at *
 simp only [Val.enc_def] at hw
 refine rgn [] [[], [1, 2]] ?_
 iterate 2 refine op1 tok ?_
 refine qA ?_
 refine AW.seq ?_
 refine rgn [.nilp, .bool false] [[], [], [1, 2, 6]] ?_
 iterate 3 refine op1 tok ?_ (hv := by first | with_reducible exact True.intro | ((simpa using hk); done) | omega | simp | (simp +contextual; omega))
 refine qA ?_
 refine cnd ?_ ?_
 ·intro h6
  try simp at h6
  refine rgn [.nilp, M.enc] [[], [], [2]] ?_
  iterate 3 refine op1 tok ?_ (hv := by first | with_reducible exact True.intro | ((simpa using hw); done) | omega | simp | (simp +contextual; omega))
  refine qA ?_
  exact AW.ret qJ
 ·intro h6
  try simp at h6
theorem qVE (a b : Val) (ha : qQ a = true) (hb : qQ b = true) (hn : ¬ (a.kind = 6 ∧ b.kind = 6)) : AFn Tryz.prog G 12 [.str [45], a.enc, b.enc] ((uS qQZ a b (orM a.mask b.mask)).enc) := by
 refine AFn.introU tok Tryz.func12 (by kernel_rfl) rfl rfl ?_
 simp only [Tryz.f12, qI, List.map_cons, List.map_nil]
 have h1 := yC (G := G) a
 have h2 := yC (G := G) b
 have hp := zEI (G := G) a b (orM a.mask b.mask) (orM (qM a) (qM b)) ha hb hn
 generalize uS qQZ a b (orM a.mask b.mask) = M at *
 simp only [Val.enc_def] at h1 h2 hp
 refine rgn [] [[], [], [0, 4, 5, 6]] ?_
 iterate 3 refine op1 tok ?_
 refine qA ?_
 refine AW.seqDrawS tok mixed 14 [[4], [5], [4], [12], [5], [14], [13, 15], [4], [17], [5], [19], [18, 20], [10, 11, 16, 21], []] [.nilp, .int .u64 (qM a), .nilp, .int .u64 (qM b)] [] (by kernel_rfl) ?_
 iterate 14 refine d1 ?_ (h := by intro C; conv => lhs; simp [wI]) (hv := by first | with_reducible exact True.intro | (first | exact h1 | exact h2; done) | omega | simp | (simp +contextual; omega))
 refine DGo.nil (by kernel_rfl) ⟨by kernel_rfl, ?_⟩
 refine qC.run [[0, 4, 5, 6, 7]] ?_
 refine op1 tok ?_ (h := by intro C; conv => lhs; simp [wI])
 refine qA ?_
 refine AW.seq ?_
 refine rgn [] [[]] ?_
 refine op1 tok ?_
 refine qA ?_
 refine AW.block ?_
 refine rgn [] [[], [0, 4, 5, 6, 7, 23, 24]] ?_
 iterate 2 refine op1 tok ?_
 refine qA ?_
 refine cnd ?_ ?_
 ·intro h24
  try simp at h24
 ·intro h24
  try simp at h24
  refine rgn [] [[], [0, 4, 5, 6, 7, 23, 28]] ?_
  iterate 2 refine op1 tok ?_
  refine qA ?_
  refine cnd ?_ ?_
  ·intro h28
   try simp at h28
   refine rgn [.nilp, M.enc] [[], [], [6]] ?_
   iterate 3 refine op1 tok ?_ (hv := by first | with_reducible exact True.intro | ((simp at hp ⊢; exact hp); done) | omega | simp | (simp +contextual; omega))
   refine qA ?_
   exact AW.ret qJ
  ·intro h28
   try simp at h28
theorem zHE (a b : Val) (ha : qQ a = true) (hb : qQ b = true) : AFn Tryz.prog G 12 [.str [42], a.enc, b.enc] ((uS qWD a b (orM a.mask b.mask)).enc) := by
 refine AFn.introU tok Tryz.func12 (by kernel_rfl) rfl rfl ?_
 simp only [Tryz.f12, qI, List.map_cons, List.map_nil]
 have h1 := yC (G := G) a
 have h2 := yC (G := G) b
 have hp := qMW (G := G) a b (orM a.mask b.mask) (orM (qM a) (qM b)) 35 qWD (fun h4 h5 => zJZ a.num b.num (yJ (jL ha h4)).1 (yJ (jL hb h5)).1)
 generalize uS qWD a b (orM a.mask b.mask) = M at *
 simp only [Val.enc_def] at h1 h2 hp
 refine rgn [] [[], [], [0, 4, 5, 6]] ?_
 iterate 3 refine op1 tok ?_
 refine qA ?_
 refine AW.seqDrawS tok mixed 14 [[4], [5], [4], [12], [5], [14], [13, 15], [4], [17], [5], [19], [18, 20], [10, 11, 16, 21], []] [.nilp, .int .u64 (qM a), .nilp, .int .u64 (qM b)] [] (by kernel_rfl) ?_
 iterate 14 refine d1 ?_ (h := by intro C; conv => lhs; simp [wI]) (hv := by first | with_reducible exact True.intro | (first | exact h1 | exact h2; done) | omega | simp | (simp +contextual; omega))
 refine DGo.nil (by kernel_rfl) ⟨by kernel_rfl, ?_⟩
 refine qC.run [[0, 4, 5, 6, 7]] ?_
 refine op1 tok ?_ (h := by intro C; conv => lhs; simp [wI])
 refine qA ?_
 refine AW.seq ?_
 refine rgn [] [[]] ?_
 refine op1 tok ?_
 refine qA ?_
 refine AW.block ?_
 refine rgn [] [[], [0, 4, 5, 6, 7, 23, 24]] ?_
 iterate 2 refine op1 tok ?_
 refine qA ?_
 refine cnd ?_ ?_
 ·intro h24
  try simp at h24
 ·intro h24
  try simp at h24
  refine rgn [] [[], [0, 4, 5, 6, 7, 23, 28]] ?_
  iterate 2 refine op1 tok ?_
  refine qA ?_
  refine cnd ?_ ?_
  ·intro h28
   try simp at h28
  ·intro h28
   try simp at h28
   refine rgn [] [[], [0, 4, 5, 6, 7, 23, 32]] ?_
   iterate 2 refine op1 tok ?_
   refine qA ?_
   refine cnd ?_ ?_
   ·intro h32
    try simp at h32
    refine rgn [.nilp, M.enc] [[], [], [6]] ?_
    iterate 3 refine op1 tok ?_ (hv := by first | with_reducible exact True.intro | ((simp at hp ⊢; exact hp); done) | omega | simp | (simp +contextual; omega))
    refine qA ?_
    exact AW.ret qJ
   ·intro h32
    try simp at h32
theorem zHG (a b : Val) (ha : qQ a = true) (hb : qQ b = true) : AFn Tryz.prog G 12 [.str [47], a.enc, b.enc] ((uS qJT a b (orM a.mask b.mask)).enc) := by
 refine AFn.introU tok Tryz.func12 (by kernel_rfl) rfl rfl ?_
 simp only [Tryz.f12, qI, List.map_cons, List.map_nil]
 have h1 := yC (G := G) a
 have h2 := yC (G := G) b
 have hp := qMW (G := G) a b (orM a.mask b.mask) (orM (qM a) (qM b)) 36 qJT (fun h4 h5 => zUI a.num b.num (jL ha h4) (jL hb h5))
 generalize uS qJT a b (orM a.mask b.mask) = M at *
 simp only [Val.enc_def] at h1 h2 hp
 refine rgn [] [[], [], [0, 4, 5, 6]] ?_
 iterate 3 refine op1 tok ?_
 refine qA ?_
 refine AW.seqDrawS tok mixed 14 [[4], [5], [4], [12], [5], [14], [13, 15], [4], [17], [5], [19], [18, 20], [10, 11, 16, 21], []] [.nilp, .int .u64 (qM a), .nilp, .int .u64 (qM b)] [] (by kernel_rfl) ?_
 iterate 14 refine d1 ?_ (h := by intro C; conv => lhs; simp [wI]) (hv := by first | with_reducible exact True.intro | (first | exact h1 | exact h2; done) | omega | simp | (simp +contextual; omega))
 refine DGo.nil (by kernel_rfl) ⟨by kernel_rfl, ?_⟩
 refine qC.run [[0, 4, 5, 6, 7]] ?_
 refine op1 tok ?_ (h := by intro C; conv => lhs; simp [wI])
 refine qA ?_
 refine AW.seq ?_
 refine rgn [] [[]] ?_
 refine op1 tok ?_
 refine qA ?_
 refine AW.block ?_
 refine rgn [] [[], [0, 4, 5, 6, 7, 23, 24]] ?_
 iterate 2 refine op1 tok ?_
 refine qA ?_
 refine cnd ?_ ?_
 ·intro h24
  try simp at h24
 ·intro h24
  try simp at h24
  refine rgn [] [[], [0, 4, 5, 6, 7, 23, 28]] ?_
  iterate 2 refine op1 tok ?_
  refine qA ?_
  refine cnd ?_ ?_
  ·intro h28
   try simp at h28
  ·intro h28
   try simp at h28
   refine rgn [] [[], [0, 4, 5, 6, 7, 23, 32]] ?_
   iterate 2 refine op1 tok ?_
   refine qA ?_
   refine cnd ?_ ?_
   ·intro h32
    try simp at h32
   ·intro h32
    try simp at h32
    refine rgn [] [[], [0, 4, 5, 6, 7, 23, 36]] ?_
    iterate 2 refine op1 tok ?_
    refine qA ?_
    refine cnd ?_ ?_
    ·intro h36
     try simp at h36
     refine rgn [.nilp, M.enc] [[], [], [6]] ?_
     iterate 3 refine op1 tok ?_ (hv := by first | with_reducible exact True.intro | ((simp at hp ⊢; exact hp); done) | omega | simp | (simp +contextual; omega))
     refine qA ?_
     exact AW.ret qJ
    ·intro h36
     try simp at h36
theorem zHF (a b : Val) (ha : qQ a = true) (hb : qQ b = true) : AFn Tryz.prog G 12 [.str [37], a.enc, b.enc] ((uS qJG a b (orM a.mask b.mask)).enc) := by
 refine AFn.introU tok Tryz.func12 (by kernel_rfl) rfl rfl ?_
 simp only [Tryz.f12, qI, List.map_cons, List.map_nil]
 have h1 := yC (G := G) a
 have h2 := yC (G := G) b
 have hp := qMW (G := G) a b (orM a.mask b.mask) (orM (qM a) (qM b)) 37 qJG (fun h4 h5 => zUG a.num b.num (jL ha h4) (jL hb h5))
 generalize uS qJG a b (orM a.mask b.mask) = M at *
 simp only [Val.enc_def] at h1 h2 hp
 refine rgn [] [[], [], [0, 4, 5, 6]] ?_
 iterate 3 refine op1 tok ?_
 refine qA ?_
 refine AW.seqDrawS tok mixed 14 [[4], [5], [4], [12], [5], [14], [13, 15], [4], [17], [5], [19], [18, 20], [10, 11, 16, 21], []] [.nilp, .int .u64 (qM a), .nilp, .int .u64 (qM b)] [] (by kernel_rfl) ?_
 iterate 14 refine d1 ?_ (h := by intro C; conv => lhs; simp [wI]) (hv := by first | with_reducible exact True.intro | (first | exact h1 | exact h2; done) | omega | simp | (simp +contextual; omega))
 refine DGo.nil (by kernel_rfl) ⟨by kernel_rfl, ?_⟩
 refine qC.run [[0, 4, 5, 6, 7]] ?_
 refine op1 tok ?_ (h := by intro C; conv => lhs; simp [wI])
 refine qA ?_
 refine AW.seq ?_
 refine rgn [] [[]] ?_
 refine op1 tok ?_
 refine qA ?_
 refine AW.block ?_
 refine rgn [] [[], [0, 4, 5, 6, 7, 23, 24]] ?_
 iterate 2 refine op1 tok ?_
 refine qA ?_
 refine cnd ?_ ?_
 ·intro h24
  try simp at h24
 ·intro h24
  try simp at h24
  refine rgn [] [[], [0, 4, 5, 6, 7, 23, 28]] ?_
  iterate 2 refine op1 tok ?_
  refine qA ?_
  refine cnd ?_ ?_
  ·intro h28
   try simp at h28
  ·intro h28
   try simp at h28
   refine rgn [] [[], [0, 4, 5, 6, 7, 23, 32]] ?_
   iterate 2 refine op1 tok ?_
   refine qA ?_
   refine cnd ?_ ?_
   ·intro h32
    try simp at h32
   ·intro h32
    try simp at h32
    refine rgn [] [[], [0, 4, 5, 6, 7, 23, 36]] ?_
    iterate 2 refine op1 tok ?_
    refine qA ?_
    refine cnd ?_ ?_
    ·intro h36
     try simp at h36
    ·intro h36
     try simp at h36
     refine rgn [] [[], [0, 4, 5, 6, 7, 23, 40]] ?_
     iterate 2 refine op1 tok ?_
     refine qA ?_
     refine cnd ?_ ?_
     ·intro h40
      try simp at h40
      refine rgn [.nilp, M.enc] [[], [], [6]] ?_
      iterate 3 refine op1 tok ?_ (hv := by first | with_reducible exact True.intro | ((simp at hp ⊢; exact hp); done) | omega | simp | (simp +contextual; omega))
      refine qA ?_
      exact AW.ret qJ
     ·intro h40
      try simp at h40
def uA (op : List UInt8) (a b : Val) : Val :=
 if op = [43] then qIX a b (orM a.mask b.mask)
 else if op = [45] then (if a.kind = 6 ∧ b.kind = 6 then qFP a b (orM (qM a) (qM b)) else uS qQZ a b (orM a.mask b.mask))
 else if op = [42] then uS qWD a b (orM a.mask b.mask)
 else if op = [47] then uS qJT a b (orM a.mask b.mask)
 else if op = [37] then uS qJG a b (orM a.mask b.mask)
 else if op = [97, 110, 100] then jD (fun x y => x && y) a b (orM a.mask b.mask)
 else if op = [111, 114] then jD (fun x y => x || y) a b (orM a.mask b.mask)
 else qAC (zFH op (uX a b)) (orM (qM a) (qM b))
theorem qVD (op : List UInt8) (a b : Val) (ha : qQ a = true) (hb : qQ b = true) : AFn Tryz.prog G 12 [.str op, a.enc, b.enc] (uA op a b).enc := by
 unfold uA
 split
 ·rename_i h; subst h; exact zCH a b ha hb
 split
 ·rename_i h; subst h
  split
  ·rename_i h; exact qIM a b ha hb h.1 h.2
  ·rename_i h; exact qVE a b ha hb h
 split
 ·rename_i h; subst h; exact zHE a b ha hb
 split
 ·rename_i h; subst h; exact zHG a b ha hb
 split
 ·rename_i h; subst h; exact zHF a b ha hb
 split
 ·rename_i h; subst h; exact zHI a b
 split
 ·rename_i h; subst h; exact zKL a b
 ·rename_i h1 h2 h3 h4 h5 h6 h7
  exact zHH op a b ⟨h1, h2, h3, h4, h5, h6, h7⟩ ha hb
end Go.Proofs.YtdojfdaglbphlaaGreatDoor
