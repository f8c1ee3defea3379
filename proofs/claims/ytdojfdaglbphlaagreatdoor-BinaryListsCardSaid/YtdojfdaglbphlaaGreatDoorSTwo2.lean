import Derived.Test.YtdojfdaglbphlaaGreatDoorK3
import Derived.Test.YtdojfdaglbphlaaGreatDoorK4
import Derived.Test.YtdojfdaglbphlaaGreatDoorSPrint5
import Derived.Test.YtdojfdaglbphlaaGreatDoorSBuiltL
import Derived.Test.YtdojfdaglbphlaaGreatDoorK2
import Derived.Test.YtdojfdaglbphlaaGreatDoorSCore28
namespace Go.Proofs.YtdojfdaglbphlaaGreatDoor
open Sy Go
set_option maxRecDepth 100000
set_option maxHeartbeats 4000000
set_option linter.unusedSimpArgs false
set_option linter.unusedVariables false
variable {G : qQ}
def qXQ (a b : Val) (m : Int) : Val := if 200 < (jR a b m).kids.length ∨ 4096 < (jR a b m).text.length then yR 3 m else jR a b m
theorem zKH (a b : Val) (top deep : Int) (ha : qT a = true) (hb : qT b = true) (hka : a.kind = 7) (hkb : b.kind = 7) (hla : a.keys.length = a.kids.length) (hlb : b.keys.length = b.kids.length) : AFn Tryz.prog G 32 [.agg (prC a b top deep)] ((qXQ a b top).enc) := by
 refine AFn.introU tok Tryz.func32 (by kernel_rfl) rfl rfl ?_
 simp only [Tryz.f32, qJ, List.map_cons, List.map_nil]
 have k5 := kH (G := G) a b top deep 5
 have k6 := kH (G := G) a b top deep 6
 have k7 := kH (G := G) a b top deep 7
 have hm := qRO (G := G) a b top deep ha hb hla hlb
 have hf := qET (G := G) a b top deep 3
 have e : qXQ a b top = if 200 < (jR a b top).kids.length ∨ 4096 < (jR a b top).text.length then yR 3 top else jR a b top := rfl
 rw [e]
 generalize jR a b top = M at *
 simp only [Val.enc_def] at hm hf
 simp only [hka, hkb] at k5 k6 k7 hm hf
 refine rgn [] [[], [1, 2]] ?_
 iterate 2 refine op1 tok ?_
 refine qA ?_
 refine rgn [] [[]] ?_
 refine op1 tok ?_
 refine qA ?_
 refine AW.seq ?_
 refine AW.block ?_
 refine rgn [] [[], [], [], [], [1, 2, 3, 6]] ?_
 iterate 5 refine op1 tok ?_
 refine qA ?_
 refine cnd ?_ ?_
 ·intro h6
  try simp at h6
  omega
 ·intro h6
  try simp at h6
  refine rgn [] [[], [], [], [], [1, 2, 3, 16]] ?_
  iterate 5 refine op1 tok ?_
  refine qA ?_
  refine cnd ?_ ?_
  ·intro h16
   try simp at h16
   omega
  ·intro h16
   try simp at h16
   refine rgn [.nilp, .bool false] [[], [], [1, 2, 3, 26]] ?_
   iterate 3 refine op1 tok ?_ (hv := by first | with_reducible exact True.intro | ((simpa [hka, hkb] using k5); done) | omega | simp | (simp +contextual; omega))
   refine qA ?_
   refine cnd ?_ ?_
   ·intro h26
    try simp at h26
   ·intro h26
    try simp at h26
    refine rgn [.nilp, .bool false] [[], [], [1, 2, 3, 39]] ?_
    iterate 3 refine op1 tok ?_ (hv := by first | with_reducible exact True.intro | ((simpa [hka, hkb] using k6); done) | omega | simp | (simp +contextual; omega))
    refine qA ?_
    refine cnd ?_ ?_
    ·intro h39
     try simp at h39
    ·intro h39
     try simp at h39
     refine rgn [.nilp, .bool true] [[], [], [1, 2, 3, 54]] ?_
     iterate 3 refine op1 tok ?_ (hv := by first | with_reducible exact True.intro | ((simpa [hka, hkb] using k7); done) | omega | simp | (simp +contextual; omega))
     refine qA ?_
     refine cnd ?_ ?_
     ·intro h54
      try simp at h54
      refine rgz [.nilp, M.enc] [[], [], [1, 2, 3]] ?_
      iterate 3 refine op1 tok ?_ (hv := by first | with_reducible exact True.intro | ((simpa [hka, hkb] using hm); done) | omega | simp | (simp +contextual; omega))
      refine qA ?_
      refine AW.seq ?_
      refine rgn [] [[], [], [], [], [1, 2, 3, 63], [], [], [], [], [1, 2, 3, 68]] ?_
      iterate 5 refine op1 tok ?_
      iterate 4 refine op2 tok ?_
      refine op1 tok ?_
      refine qA ?_
      refine cnd ?_ ?_
      ·intro h68
       try simp at h68
       rw [if_pos (by omega)]
       refine rgn [.nilp, (yR 3 top).enc] [[], [], [2]] ?_
       iterate 3 refine op1 tok ?_ (hv := by first | with_reducible exact True.intro | ((simpa [hka, hkb] using hf); done) | omega | simp | (simp +contextual; omega))
       refine qA ?_
       exact AW.ret qI
      ·intro h68
       try simp at h68
       rw [if_neg (by omega)]
       refine AW.skip ?_
       refine rgn [] [[], [2]] ?_
       iterate 2 refine op1 tok ?_
       refine qA ?_
       exact AW.ret qI
     ·intro h54
      try simp at h54
theorem qWO (a b : Val) (ha : qT a = true) (hb : qT b = true) (hka : a.kind = 7) (hkb : b.kind = 7) (hla : a.keys.length = a.kids.length) (hlb : b.keys.length = b.kids.length) : AFn Tryz.prog G 12 [.str [43], a.enc, b.enc] ((qXQ a b (orM a.mask b.mask)).enc) := by
 refine AFn.introU tok Tryz.func12 (by kernel_rfl) rfl rfl ?_
 simp only [Tryz.f12, qJ, List.map_cons, List.map_nil]
 have h1 := yD (G := G) a
 have h2 := yD (G := G) b
 have hp := zKH (G := G) a b (orM a.mask b.mask) (orM (qZ a) (qZ b)) ha hb hka hkb hla hlb
 generalize qXQ a b (orM a.mask b.mask) = M at *
 simp only [Val.enc_def] at h1 h2 hp
 refine rgn [] [[], [], [0, 4, 5, 6]] ?_
 iterate 3 refine op1 tok ?_
 refine qA ?_
 refine AW.seqDrawS tok mixed 14 [[4], [5], [4], [12], [5], [14], [13, 15], [4], [17], [5], [19], [18, 20], [10, 11, 16, 21], []] [.nilp, .int .u64 (qZ a), .nilp, .int .u64 (qZ b)] [] (by kernel_rfl) ?_
 iterate 14 refine d1 ?_ (h := by intro C; conv => lhs; simp [wL]) (hv := by first | with_reducible exact True.intro | (first | exact h1 | exact h2; done) | omega | simp | (simp +contextual; omega))
 refine DGo.nil (by kernel_rfl) ⟨by kernel_rfl, ?_⟩
 refine qC.run [[0, 4, 5, 6, 7]] ?_
 refine op1 tok ?_ (h := by intro C; conv => lhs; simp [wL])
 refine qA ?_
 refine AW.seq ?_
 refine rgn [] [[]] ?_
 refine op1 tok ?_
 refine qA ?_
 refine AW.block ?_
 refine rgn [] [[], [0, 4, 5, 6, 7, 23, 24]] ?_
 iterate 2 refine op1 tok ?_
 refine qA ?_
 refine cnd ?_ ?_
 ·intro h24
  try simp at h24
  refine rgn [.nilp, M.enc] [[], [], [6]] ?_
  iterate 3 refine op1 tok ?_ (hv := by first | with_reducible exact True.intro | ((simp at hp ⊢; exact hp); done) | omega | simp | (simp +contextual; omega))
  refine qA ?_
  exact AW.ret qI
 ·intro h24
  try simp at h24
theorem qHO (a b : Val) (ha : qT a = true) (hb : qT b = true) (hka : a.kind = 6) (hkb : b.kind = 6) : AFn Tryz.prog G 12 [.str [45], a.enc, b.enc] ((qFB a b (orM (qZ a) (qZ b))).enc) := by
 refine AFn.introU tok Tryz.func12 (by kernel_rfl) rfl rfl ?_
 simp only [Tryz.f12, qJ, List.map_cons, List.map_nil]
 have h1 := yD (G := G) a
 have h2 := yD (G := G) b
 have hp := zGW (G := G) a b (orM a.mask b.mask) (orM (qZ a) (qZ b)) ha hb hka hkb
 generalize qFB a b (orM (qZ a) (qZ b)) = M at *
 simp only [Val.enc_def] at h1 h2 hp
 refine rgn [] [[], [], [0, 4, 5, 6]] ?_
 iterate 3 refine op1 tok ?_
 refine qA ?_
 refine AW.seqDrawS tok mixed 14 [[4], [5], [4], [12], [5], [14], [13, 15], [4], [17], [5], [19], [18, 20], [10, 11, 16, 21], []] [.nilp, .int .u64 (qZ a), .nilp, .int .u64 (qZ b)] [] (by kernel_rfl) ?_
 iterate 14 refine d1 ?_ (h := by intro C; conv => lhs; simp [wL]) (hv := by first | with_reducible exact True.intro | (first | exact h1 | exact h2; done) | omega | simp | (simp +contextual; omega))
 refine DGo.nil (by kernel_rfl) ⟨by kernel_rfl, ?_⟩
 refine qC.run [[0, 4, 5, 6, 7]] ?_
 refine op1 tok ?_ (h := by intro C; conv => lhs; simp [wL])
 refine qA ?_
 refine AW.seq ?_
 refine rgn [] [[]] ?_
 refine op1 tok ?_
 refine qA ?_
 refine AW.block ?_
 refine rgn [] [[], [0, 4, 5, 6, 7, 23, 24]] ?_
 iterate 2 refine op1 tok ?_
 refine qA ?_
 refine cnd ?_ ?_
 ·intro h24
  try simp at h24
 ·intro h24
  try simp at h24
  refine rgn [] [[], [0, 4, 5, 6, 7, 23, 28]] ?_
  iterate 2 refine op1 tok ?_
  refine qA ?_
  refine cnd ?_ ?_
  ·intro h28
   try simp at h28
   refine rgn [.nilp, M.enc] [[], [], [6]] ?_
   iterate 3 refine op1 tok ?_ (hv := by first | with_reducible exact True.intro | ((simp at hp ⊢; exact hp); done) | omega | simp | (simp +contextual; omega))
   refine qA ?_
   exact AW.ret qI
  ·intro h28
   try simp at h28
theorem zFO (op : List UInt8) (a b : Val) (hop : zWL op) (ha : qT a = true) (hb : qT b = true) : AFn Tryz.prog G 12 [.str op, a.enc, b.enc] ((qAO (qXF op (jJ a b)) (orM (qZ a) (qZ b))).enc) := by
 refine AFn.introU tok Tryz.func12 (by kernel_rfl) rfl rfl ?_
 simp only [Tryz.f12, qJ, List.map_cons, List.map_nil]
 obtain ⟨o1, o2, o3, o4, o5, o6, o7⟩ := hop
 have h1 := yD (G := G) a
 have h2 := yD (G := G) b
 have hc := zES (G := G) a b ha hb
 have e : qXF op (jJ a b) = ((decide (jJ a b = 0) && (decide (op = [61, 61]) || decide (op = [60, 61]) || decide (op = [62, 61]))) || ((!decide (jJ a b = 0)) && decide (op = [33, 61])) || (decide (jJ a b < 0) && (decide (op = [60]) || decide (op = [60, 61]))) || (decide (0 < jJ a b) && (decide (op = [62]) || decide (op = [62, 61])))) := rfl
 have ht := qWP (G := G) (qXF op (jJ a b)) (orM (qZ a) (qZ b))
 rw [e] at ht ⊢
 generalize jJ a b = c at *
 generalize qAO _ _ = Tv at *
 simp only [Val.enc_def] at h1 h2 hc ht
 refine rgn [] [[], [], [0, 4, 5, 6]] ?_
 iterate 3 refine op1 tok ?_
 refine qA ?_
 refine AW.seqDrawS tok mixed 14 [[4], [5], [4], [12], [5], [14], [13, 15], [4], [17], [5], [19], [18, 20], [10, 11, 16, 21], []] [.nilp, .int .u64 (qZ a), .nilp, .int .u64 (qZ b)] [] (by kernel_rfl) ?_
 iterate 14 refine d1 ?_ (h := by intro C; conv => lhs; simp [wL]) (hv := by first | with_reducible exact True.intro | (first | exact h1 | exact h2; done) | omega | simp | (simp +contextual; omega))
 refine DGo.nil (by kernel_rfl) ⟨by kernel_rfl, ?_⟩
 refine qC.run [[0, 4, 5, 6, 7]] ?_
 refine op1 tok ?_ (h := by intro C; conv => lhs; simp [wL])
 refine qA ?_
 refine AW.seq ?_
 refine rgn [] [[]] ?_
 refine op1 tok ?_
 refine qA ?_
 refine AW.block ?_
 refine rgn [] [[], [0, 4, 5, 6, 7, 23, 24]] ?_
 iterate 2 refine op1 tok ?_
 refine qA ?_
 refine cnd ?_ ?_
 ·intro h24
  try simp at h24
  exact absurd h24 o1
 ·intro h24
  try simp at h24
  refine rgn [] [[], [0, 4, 5, 6, 7, 23, 28]] ?_
  iterate 2 refine op1 tok ?_
  refine qA ?_
  refine cnd ?_ ?_
  ·intro h28
   try simp at h28
   exact absurd h28 o2
  ·intro h28
   try simp at h28
   refine rgn [] [[], [0, 4, 5, 6, 7, 23, 32]] ?_
   iterate 2 refine op1 tok ?_
   refine qA ?_
   refine cnd ?_ ?_
   ·intro h32
    try simp at h32
    exact absurd h32 o3
   ·intro h32
    try simp at h32
    refine rgn [] [[], [0, 4, 5, 6, 7, 23, 36]] ?_
    iterate 2 refine op1 tok ?_
    refine qA ?_
    refine cnd ?_ ?_
    ·intro h36
     try simp at h36
     exact absurd h36 o4
    ·intro h36
     try simp at h36
     refine rgn [] [[], [0, 4, 5, 6, 7, 23, 40]] ?_
     iterate 2 refine op1 tok ?_
     refine qA ?_
     refine cnd ?_ ?_
     ·intro h40
      try simp at h40
      exact absurd h40 o5
     ·intro h40
      try simp at h40
      refine rgn [] [[], [0, 4, 5, 6, 7, 23, 44]] ?_
      iterate 2 refine op1 tok ?_
      refine qA ?_
      refine cnd ?_ ?_
      ·intro h44
       try simp at h44
       exact absurd h44 o6
      ·intro h44
       try simp at h44
       refine rgn [] [[], [0, 4, 5, 6, 7, 48]] ?_
       iterate 2 refine op1 tok ?_
       refine qA ?_
       refine cnd ?_ ?_
       ·intro h48
        try simp at h48
        exact absurd h48 o7
       ·intro h48
        try simp at h48
        refine AW.skip ?_
        refine rgn [.nilp, .int .i64 c] [[], [], [0, 6, 7, 54], [0, 6, 7, 8]] ?_
        iterate 4 refine op1 tok ?_ (hv := by first | with_reducible exact True.intro | (exact hc; done) | omega | simp | (simp +contextual; omega))
        refine qA ?_
        refine rgn [] [[], [], [], [], [], [0, 6, 7, 8, 57, 60], [], [], [], [0, 6, 7, 8, 57, 64], [], [], [], [0, 6, 7, 8, 68], [], [], [], [], [], [0, 6, 7, 8, 69, 72, 74], [], [0, 6, 7, 8, 76], [], [], [], [], [], [0, 6, 7, 8, 77, 80, 82], [], [], [], [0, 6, 7, 8, 77, 80, 86], [], [0, 6, 7, 8, 88], [], [], [], [0, 6, 7, 89, 92], [], [], [], [], [6, 7, 89, 92, 95, 97], [], [6, 7, 89, 99], [], [6, 7, 9]] ?_
        iterate 47 first | refine op1 tok ?_ (hv := by first | with_reducible exact True.intro | ((intros; grind); done) | omega | simp | (simp +contextual; omega)) | refine op2 tok ?_ (hv := by first | with_reducible exact True.intro | ((intros; grind); done) | omega | simp | (simp +contextual; omega))
        refine qA ?_
        refine rgn [.nilp, Tv.enc] [[], [], [], [6, 104], [6]] ?_
        iterate 5 refine op1 tok ?_ (hv := by first | with_reducible exact True.intro | (exact ht; done) | omega | simp | (simp +contextual; omega))
        refine qA ?_
        exact AW.ret qI
theorem qVD (s : List UInt8) (hs : s.length ≤ 100000) (hU : qPM G s) (hNu : qTH G s) : AFn Tryz.prog G 24 [.str s] ((qPX s).1.enc) := by
 refine AFn.introU tok Tryz.func24 (by kernel_rfl) rfl rfl ?_
 simp only [Tryz.f24, qJ, List.map_cons, List.map_nil]
 have h := zKN (G := G) s hs hU hNu
 generalize qPX s = r at *
 obtain ⟨v, n, e⟩ := r
 simp only [Val.enc_def] at h
 refine rgn [] [[]] ?_
 refine op1 tok ?_
 refine qA ?_
 refine rgn [.nilp, .tup [v.enc, .int .i64 n, .int .i64 e]] [[], [], [], [], [], [2, 9, 10, 11], [], [], [], [2, 3]] ?_
 iterate 10 refine op1 tok ?_ (hv := by first | with_reducible exact True.intro | (exact h; done) | omega | simp | (simp +contextual; omega))
 refine qA ?_
 refine rgn [] [[], [2]] ?_
 iterate 2 refine op1 tok ?_
 refine qA ?_
 exact AW.ret qI
end Go.Proofs.YtdojfdaglbphlaaGreatDoor
