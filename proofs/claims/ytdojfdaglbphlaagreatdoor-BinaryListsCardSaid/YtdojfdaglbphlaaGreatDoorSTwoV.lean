import Derived.Test.YtdojfdaglbphlaaGreatDoorSNumW
import Derived.Test.YtdojfdaglbphlaaGreatDoorSLogic
import Derived.Test.YtdojfdaglbphlaaGreatDoorSDivE
namespace Go.Proofs.YtdojfdaglbphlaaGreatDoor
open Sy Go
set_option maxRecDepth 100000
set_option maxHeartbeats 4000000
set_option linter.unusedSimpArgs false
set_option linter.unusedVariables false
variable {G : qQ}
def qEI (f : Dc → Dc → Dc × Int) (a b : Val) (m : Int) : Val := if a.kind = 4 ∧ b.kind = 4 then qXY (f a.num b.num) m else yR 40 m
theorem qLV (a b : Val) (top deep : Int) (g : FuncId) (f : Dc → Dc → Dc × Int) (hw : a.kind = 4 → b.kind = 4 → AFn Tryz.prog G g [a.num.enc, b.num.enc] (.tup [(f a.num b.num).1.enc, .int .i64 (f a.num b.num).2])) :
  AFn Tryz.prog G 34 [.agg (prC a b top deep), .fn g] (qEI f a b top).enc := by
 unfold qEI
 split
 ·rename_i h; exact qNQ a b top deep g _ h.1 h.2 (hw h.1 h.2)
 ·rename_i h; exact qNR a b top deep g h
theorem zCX (a b : Val) (top deep : Int) (ha : qT a = true) (hb : qT b = true) (hn : ¬ (a.kind = 6 ∧ b.kind = 6)) : AFn Tryz.prog G 33 [.agg (prC a b top deep)] ((qEI qPQ a b top).enc) := by
 refine AFn.introU tok Tryz.func33 (by kernel_rfl) rfl rfl ?_
 simp only [Tryz.f33, qJ, List.map_cons, List.map_nil]
 have hk := kH (G := G) a b top deep 6
 rw [show (decide (a.kind = 6) && decide (b.kind = 6)) = false by
  cases h : (decide (a.kind = 6) && decide (b.kind = 6)) with
  | false => rfl
  | true => simp at h; exact absurd h hn] at hk
 have hw := qLV (G := G) a b top deep 83 qPQ (fun h4 h5 => zIP a.num b.num (zV (yZ ha h4)).1 (zV (yZ hb h5)).1)
 generalize qEI qPQ a b top = M at *
 simp only [Val.enc_def] at hw
 refine rgn [] [[], [1, 2]] ?_
 iterate 2 refine op1 tok ?_
 refine qA ?_
 refine AW.seq ?_
 refine rgn [.nilp, .bool false] [[], [], [1, 2, 6]] ?_
 iterate 3 refine op1 tok ?_ (hv := by first | with_reducible exact True.intro | ((simpa using hk); done) | omega | simp | (simp +contextual; omega))
 refine qA ?_
 refine cnd ?_ ?_
 ·intro h6
  try simp at h6
  refine rgn [.nilp, M.enc] [[], [], [2]] ?_
  iterate 3 refine op1 tok ?_ (hv := by first | with_reducible exact True.intro | ((simpa using hw); done) | omega | simp | (simp +contextual; omega))
  refine qA ?_
  exact AW.ret qI
 ·intro h6
  try simp at h6
theorem qTR (a b : Val) (ha : qT a = true) (hb : qT b = true) (hn : ¬ (a.kind = 6 ∧ b.kind = 6)) : AFn Tryz.prog G 12 [.str [45], a.enc, b.enc] ((qEI qPQ a b (orM a.mask b.mask)).enc) := by
 refine AFn.introU tok Tryz.func12 (by kernel_rfl) rfl rfl ?_
 simp only [Tryz.f12, qJ, List.map_cons, List.map_nil]
 have h1 := yD (G := G) a
 have h2 := yD (G := G) b
 have hp := zCX (G := G) a b (orM a.mask b.mask) (orM (qZ a) (qZ b)) ha hb hn
 generalize qEI qPQ a b (orM a.mask b.mask) = M at *
 simp only [Val.enc_def] at h1 h2 hp
 refine rgn [] [[], [], [0, 4, 5, 6]] ?_
 iterate 3 refine op1 tok ?_
 refine qA ?_
 refine AW.seqDrawS tok mixed 14 [[4], [5], [4], [12], [5], [14], [13, 15], [4], [17], [5], [19], [18, 20], [10, 11, 16, 21], []] [.nilp, .int .u64 (qZ a), .nilp, .int .u64 (qZ b)] [] (by kernel_rfl) ?_
 iterate 14 refine d1 ?_ (h := by intro C; conv => lhs; simp [wL]) (hv := by first | with_reducible exact True.intro | (first | exact h1 | exact h2; done) | omega | simp | (simp +contextual; omega))
 refine DGo.nil (by kernel_rfl) ⟨by kernel_rfl, ?_⟩
 refine qC.run [[0, 4, 5, 6, 7]] ?_
 refine op1 tok ?_ (h := by intro C; conv => lhs; simp [wL])
 refine qA ?_
 refine AW.seq ?_
 refine rgn [] [[]] ?_
 refine op1 tok ?_
 refine qA ?_
 refine AW.block ?_
 refine rgn [] [[], [0, 4, 5, 6, 7, 23, 24]] ?_
 iterate 2 refine op1 tok ?_
 refine qA ?_
 refine cnd ?_ ?_
 ·intro h24
  try simp at h24
 ·intro h24
  try simp at h24
  refine rgn [] [[], [0, 4, 5, 6, 7, 23, 28]] ?_
  iterate 2 refine op1 tok ?_
  refine qA ?_
  refine cnd ?_ ?_
  ·intro h28
   try simp at h28
   refine rgn [.nilp, M.enc] [[], [], [6]] ?_
   iterate 3 refine op1 tok ?_ (hv := by first | with_reducible exact True.intro | ((simp at hp ⊢; exact hp); done) | omega | simp | (simp +contextual; omega))
   refine qA ?_
   exact AW.ret qI
  ·intro h28
   try simp at h28
theorem zFL (a b : Val) (ha : qT a = true) (hb : qT b = true) : AFn Tryz.prog G 12 [.str [42], a.enc, b.enc] ((qEI qUP a b (orM a.mask b.mask)).enc) := by
 refine AFn.introU tok Tryz.func12 (by kernel_rfl) rfl rfl ?_
 simp only [Tryz.f12, qJ, List.map_cons, List.map_nil]
 have h1 := yD (G := G) a
 have h2 := yD (G := G) b
 have hp := qLV (G := G) a b (orM a.mask b.mask) (orM (qZ a) (qZ b)) 35 qUP (fun h4 h5 => zIQ a.num b.num (zV (yZ ha h4)).1 (zV (yZ hb h5)).1)
 generalize qEI qUP a b (orM a.mask b.mask) = M at *
 simp only [Val.enc_def] at h1 h2 hp
 refine rgn [] [[], [], [0, 4, 5, 6]] ?_
 iterate 3 refine op1 tok ?_
 refine qA ?_
 refine AW.seqDrawS tok mixed 14 [[4], [5], [4], [12], [5], [14], [13, 15], [4], [17], [5], [19], [18, 20], [10, 11, 16, 21], []] [.nilp, .int .u64 (qZ a), .nilp, .int .u64 (qZ b)] [] (by kernel_rfl) ?_
 iterate 14 refine d1 ?_ (h := by intro C; conv => lhs; simp [wL]) (hv := by first | with_reducible exact True.intro | (first | exact h1 | exact h2; done) | omega | simp | (simp +contextual; omega))
 refine DGo.nil (by kernel_rfl) ⟨by kernel_rfl, ?_⟩
 refine qC.run [[0, 4, 5, 6, 7]] ?_
 refine op1 tok ?_ (h := by intro C; conv => lhs; simp [wL])
 refine qA ?_
 refine AW.seq ?_
 refine rgn [] [[]] ?_
 refine op1 tok ?_
 refine qA ?_
 refine AW.block ?_
 refine rgn [] [[], [0, 4, 5, 6, 7, 23, 24]] ?_
 iterate 2 refine op1 tok ?_
 refine qA ?_
 refine cnd ?_ ?_
 ·intro h24
  try simp at h24
 ·intro h24
  try simp at h24
  refine rgn [] [[], [0, 4, 5, 6, 7, 23, 28]] ?_
  iterate 2 refine op1 tok ?_
  refine qA ?_
  refine cnd ?_ ?_
  ·intro h28
   try simp at h28
  ·intro h28
   try simp at h28
   refine rgn [] [[], [0, 4, 5, 6, 7, 23, 32]] ?_
   iterate 2 refine op1 tok ?_
   refine qA ?_
   refine cnd ?_ ?_
   ·intro h32
    try simp at h32
    refine rgn [.nilp, M.enc] [[], [], [6]] ?_
    iterate 3 refine op1 tok ?_ (hv := by first | with_reducible exact True.intro | ((simp at hp ⊢; exact hp); done) | omega | simp | (simp +contextual; omega))
    refine qA ?_
    exact AW.ret qI
   ·intro h32
    try simp at h32
theorem zFN (a b : Val) (ha : qT a = true) (hb : qT b = true) : AFn Tryz.prog G 12 [.str [47], a.enc, b.enc] ((qEI qIV a b (orM a.mask b.mask)).enc) := by
 refine AFn.introU tok Tryz.func12 (by kernel_rfl) rfl rfl ?_
 simp only [Tryz.f12, qJ, List.map_cons, List.map_nil]
 have h1 := yD (G := G) a
 have h2 := yD (G := G) b
 have hp := qLV (G := G) a b (orM a.mask b.mask) (orM (qZ a) (qZ b)) 36 qIV (fun h4 h5 => zTA a.num b.num (yZ ha h4) (yZ hb h5))
 generalize qEI qIV a b (orM a.mask b.mask) = M at *
 simp only [Val.enc_def] at h1 h2 hp
 refine rgn [] [[], [], [0, 4, 5, 6]] ?_
 iterate 3 refine op1 tok ?_
 refine qA ?_
 refine AW.seqDrawS tok mixed 14 [[4], [5], [4], [12], [5], [14], [13, 15], [4], [17], [5], [19], [18, 20], [10, 11, 16, 21], []] [.nilp, .int .u64 (qZ a), .nilp, .int .u64 (qZ b)] [] (by kernel_rfl) ?_
 iterate 14 refine d1 ?_ (h := by intro C; conv => lhs; simp [wL]) (hv := by first | with_reducible exact True.intro | (first | exact h1 | exact h2; done) | omega | simp | (simp +contextual; omega))
 refine DGo.nil (by kernel_rfl) ⟨by kernel_rfl, ?_⟩
 refine qC.run [[0, 4, 5, 6, 7]] ?_
 refine op1 tok ?_ (h := by intro C; conv => lhs; simp [wL])
 refine qA ?_
 refine AW.seq ?_
 refine rgn [] [[]] ?_
 refine op1 tok ?_
 refine qA ?_
 refine AW.block ?_
 refine rgn [] [[], [0, 4, 5, 6, 7, 23, 24]] ?_
 iterate 2 refine op1 tok ?_
 refine qA ?_
 refine cnd ?_ ?_
 ·intro h24
  try simp at h24
 ·intro h24
  try simp at h24
  refine rgn [] [[], [0, 4, 5, 6, 7, 23, 28]] ?_
  iterate 2 refine op1 tok ?_
  refine qA ?_
  refine cnd ?_ ?_
  ·intro h28
   try simp at h28
  ·intro h28
   try simp at h28
   refine rgn [] [[], [0, 4, 5, 6, 7, 23, 32]] ?_
   iterate 2 refine op1 tok ?_
   refine qA ?_
   refine cnd ?_ ?_
   ·intro h32
    try simp at h32
   ·intro h32
    try simp at h32
    refine rgn [] [[], [0, 4, 5, 6, 7, 23, 36]] ?_
    iterate 2 refine op1 tok ?_
    refine qA ?_
    refine cnd ?_ ?_
    ·intro h36
     try simp at h36
     refine rgn [.nilp, M.enc] [[], [], [6]] ?_
     iterate 3 refine op1 tok ?_ (hv := by first | with_reducible exact True.intro | ((simp at hp ⊢; exact hp); done) | omega | simp | (simp +contextual; omega))
     refine qA ?_
     exact AW.ret qI
    ·intro h36
     try simp at h36
theorem zFM (a b : Val) (ha : qT a = true) (hb : qT b = true) : AFn Tryz.prog G 12 [.str [37], a.enc, b.enc] ((qEI qIG a b (orM a.mask b.mask)).enc) := by
 refine AFn.introU tok Tryz.func12 (by kernel_rfl) rfl rfl ?_
 simp only [Tryz.f12, qJ, List.map_cons, List.map_nil]
 have h1 := yD (G := G) a
 have h2 := yD (G := G) b
 have hp := qLV (G := G) a b (orM a.mask b.mask) (orM (qZ a) (qZ b)) 37 qIG (fun h4 h5 => zSY a.num b.num (yZ ha h4) (yZ hb h5))
 generalize qEI qIG a b (orM a.mask b.mask) = M at *
 simp only [Val.enc_def] at h1 h2 hp
 refine rgn [] [[], [], [0, 4, 5, 6]] ?_
 iterate 3 refine op1 tok ?_
 refine qA ?_
 refine AW.seqDrawS tok mixed 14 [[4], [5], [4], [12], [5], [14], [13, 15], [4], [17], [5], [19], [18, 20], [10, 11, 16, 21], []] [.nilp, .int .u64 (qZ a), .nilp, .int .u64 (qZ b)] [] (by kernel_rfl) ?_
 iterate 14 refine d1 ?_ (h := by intro C; conv => lhs; simp [wL]) (hv := by first | with_reducible exact True.intro | (first | exact h1 | exact h2; done) | omega | simp | (simp +contextual; omega))
 refine DGo.nil (by kernel_rfl) ⟨by kernel_rfl, ?_⟩
 refine qC.run [[0, 4, 5, 6, 7]] ?_
 refine op1 tok ?_ (h := by intro C; conv => lhs; simp [wL])
 refine qA ?_
 refine AW.seq ?_
 refine rgn [] [[]] ?_
 refine op1 tok ?_
 refine qA ?_
 refine AW.block ?_
 refine rgn [] [[], [0, 4, 5, 6, 7, 23, 24]] ?_
 iterate 2 refine op1 tok ?_
 refine qA ?_
 refine cnd ?_ ?_
 ·intro h24
  try simp at h24
 ·intro h24
  try simp at h24
  refine rgn [] [[], [0, 4, 5, 6, 7, 23, 28]] ?_
  iterate 2 refine op1 tok ?_
  refine qA ?_
  refine cnd ?_ ?_
  ·intro h28
   try simp at h28
  ·intro h28
   try simp at h28
   refine rgn [] [[], [0, 4, 5, 6, 7, 23, 32]] ?_
   iterate 2 refine op1 tok ?_
   refine qA ?_
   refine cnd ?_ ?_
   ·intro h32
    try simp at h32
   ·intro h32
    try simp at h32
    refine rgn [] [[], [0, 4, 5, 6, 7, 23, 36]] ?_
    iterate 2 refine op1 tok ?_
    refine qA ?_
    refine cnd ?_ ?_
    ·intro h36
     try simp at h36
    ·intro h36
     try simp at h36
     refine rgn [] [[], [0, 4, 5, 6, 7, 23, 40]] ?_
     iterate 2 refine op1 tok ?_
     refine qA ?_
     refine cnd ?_ ?_
     ·intro h40
      try simp at h40
      refine rgn [.nilp, M.enc] [[], [], [6]] ?_
      iterate 3 refine op1 tok ?_ (hv := by first | with_reducible exact True.intro | ((simp at hp ⊢; exact hp); done) | omega | simp | (simp +contextual; omega))
      refine qA ?_
      exact AW.ret qI
     ·intro h40
      try simp at h40
def vY (op : List UInt8) (a b : Val) : Val :=
 if op = [43] then qNN a b (orM a.mask b.mask)
 else if op = [45] then (if a.kind = 6 ∧ b.kind = 6 then qFB a b (orM (qZ a) (qZ b)) else qEI qPQ a b (orM a.mask b.mask))
 else if op = [42] then qEI qUP a b (orM a.mask b.mask)
 else if op = [47] then qEI qIV a b (orM a.mask b.mask)
 else if op = [37] then qEI qIG a b (orM a.mask b.mask)
 else if op = [97, 110, 100] then qBW (fun x y => x && y) a b (orM a.mask b.mask)
 else if op = [111, 114] then qBW (fun x y => x || y) a b (orM a.mask b.mask)
 else qAO (qXF op (jJ a b)) (orM (qZ a) (qZ b))
theorem qTQ (op : List UInt8) (a b : Val) (ha : qT a = true) (hb : qT b = true) : AFn Tryz.prog G 12 [.str op, a.enc, b.enc] (vY op a b).enc := by
 unfold vY
 split
 ·rename_i h; subst h; exact zAV a b ha hb
 split
 ·rename_i h; subst h
  split
  ·rename_i h; exact qHO a b ha hb h.1 h.2
  ·rename_i h; exact qTR a b ha hb h
 split
 ·rename_i h; subst h; exact zFL a b ha hb
 split
 ·rename_i h; subst h; exact zFN a b ha hb
 split
 ·rename_i h; subst h; exact zFM a b ha hb
 split
 ·rename_i h; subst h; exact zFP a b
 split
 ·rename_i h; subst h; exact zJC a b
 ·rename_i h1 h2 h3 h4 h5 h6 h7
  exact zFO op a b ⟨h1, h2, h3, h4, h5, h6, h7⟩ ha hb
end Go.Proofs.YtdojfdaglbphlaaGreatDoor
