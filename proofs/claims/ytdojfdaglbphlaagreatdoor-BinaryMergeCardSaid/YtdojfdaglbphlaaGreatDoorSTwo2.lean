import Derived.Test.YtdojfdaglbphlaaGreatDoorSTwo1
import Derived.Test.YtdojfdaglbphlaaGreatDoorSReadQ4
import Derived.Test.YtdojfdaglbphlaaGreatDoorSPrint5
import Derived.Test.YtdojfdaglbphlaaGreatDoorSBuiltL
import Derived.Test.YtdojfdaglbphlaaGreatDoorSRefSB
import Derived.Test.YtdojfdaglbphlaaGreatDoorSCore28
namespace Go.Proofs.YtdojfdaglbphlaaGreatDoor
open Sy Go
set_option maxRecDepth 100000
set_option maxHeartbeats 4000000
set_option linter.unusedSimpArgs false
set_option linter.unusedVariables false
variable {G : Glob}
def plusO (a b : Val) (m : Int) : Val := if 200 < (mergeV a b m).kids.length ∨ 4096 < (mergeV a b m).text.length then failV 3 m else mergeV a b m
theorem plusO_ev (a b : Val) (top deep : Int) (ha : mayT a = true) (hb : mayT b = true) (hka : a.kind = 7) (hkb : b.kind = 7) (hla : a.keys.length = a.kids.length) (hlb : b.keys.length = b.kids.length) : AFn Tryz.prog G 32 [.agg (prC a b top deep)] ((plusO a b top).enc) := by
 refine AFn.introU tok Tryz.func32 (by kernel_rfl) rfl rfl ?_
 simp only [Tryz.f32, enumA, List.map_cons, List.map_nil]
 have k5 := kinds_ev (G := G) a b top deep 5
 have k6 := kinds_ev (G := G) a b top deep 6
 have k7 := kinds_ev (G := G) a b top deep 7
 have hm := merged_ev (G := G) a b top deep ha hb hla hlb
 have hf := pfail_ev (G := G) a b top deep 3
 have e : plusO a b top = if 200 < (mergeV a b top).kids.length ∨ 4096 < (mergeV a b top).text.length then failV 3 top else mergeV a b top := rfl
 rw [e]
 generalize mergeV a b top = M at *
 simp only [Val.enc_def] at hm hf
 simp only [hka, hkb] at k5 k6 k7 hm hf
 refine rgn [] [[], [1, 2]] ?_
 iterate 2 refine op1 tok ?_
 refine runEnd ?_
 refine rgn [] [[]] ?_
 refine op1 tok ?_
 refine runEnd ?_
 refine AW.seq ?_
 refine AW.block ?_
 refine rgn [] [[], [], [], [], [1, 2, 3, 6]] ?_
 iterate 5 refine op1 tok ?_
 refine runEnd ?_
 refine cnd ?_ ?_
 ·intro h6
  try simp at h6
  omega
 ·intro h6
  try simp at h6
  refine rgn [] [[], [], [], [], [1, 2, 3, 16]] ?_
  iterate 5 refine op1 tok ?_
  refine runEnd ?_
  refine cnd ?_ ?_
  ·intro h16
   try simp at h16
   omega
  ·intro h16
   try simp at h16
   refine rgn [.nilp, .bool false] [[], [], [1, 2, 3, 26]] ?_
   iterate 3 refine op1 tok ?_ (hv := by first | with_reducible exact True.intro | ((simpa [hka, hkb] using k5); done) | omega | simp | (simp; omega) | (simp +contextual; omega))
   refine runEnd ?_
   refine cnd ?_ ?_
   ·intro h26
    try simp at h26
   ·intro h26
    try simp at h26
    refine rgn [.nilp, .bool false] [[], [], [1, 2, 3, 39]] ?_
    iterate 3 refine op1 tok ?_ (hv := by first | with_reducible exact True.intro | ((simpa [hka, hkb] using k6); done) | omega | simp | (simp; omega) | (simp +contextual; omega))
    refine runEnd ?_
    refine cnd ?_ ?_
    ·intro h39
     try simp at h39
    ·intro h39
     try simp at h39
     refine rgn [.nilp, .bool true] [[], [], [1, 2, 3, 54]] ?_
     iterate 3 refine op1 tok ?_ (hv := by first | with_reducible exact True.intro | ((simpa [hka, hkb] using k7); done) | omega | simp | (simp; omega) | (simp +contextual; omega))
     refine runEnd ?_
     refine cnd ?_ ?_
     ·intro h54
      try simp at h54
      refine rgz [.nilp, M.enc] [[], [], [1, 2, 3]] ?_
      iterate 3 refine op1 tok ?_ (hv := by first | with_reducible exact True.intro | ((simpa [hka, hkb] using hm); done) | omega | simp | (simp; omega) | (simp +contextual; omega))
      refine runEnd ?_
      refine AW.seq ?_
      refine rgn [] [[], [], [], [], [1, 2, 3, 63], [], [], [], [], [1, 2, 3, 68]] ?_
      iterate 5 refine op1 tok ?_
      iterate 4 refine op2 tok ?_
      refine op1 tok ?_
      refine runEnd ?_
      refine cnd ?_ ?_
      ·intro h68
       try simp at h68
       rw [if_pos (by omega)]
       refine rgn [.nilp, (failV 3 top).enc] [[], [], [2]] ?_
       iterate 3 refine op1 tok ?_ (hv := by first | with_reducible exact True.intro | ((simpa [hka, hkb] using hf); done) | omega | simp | (simp; omega) | (simp +contextual; omega))
       refine runEnd ?_
       exact AW.ret ⟨.inr rfl, _, _, by (conv => lhs; simp), trivial, by simp⟩
      ·intro h68
       try simp at h68
       rw [if_neg (by omega)]
       refine AW.skip ?_
       refine rgn [] [[], [2]] ?_
       iterate 2 refine op1 tok ?_
       refine runEnd ?_
       exact AW.ret ⟨.inr rfl, _, _, by (conv => lhs; simp), trivial, by simp⟩
     ·intro h54
      try simp at h54
theorem twoPlusO_ev (a b : Val) (ha : mayT a = true) (hb : mayT b = true) (hka : a.kind = 7) (hkb : b.kind = 7) (hla : a.keys.length = a.kids.length) (hlb : b.keys.length = b.kids.length) : AFn Tryz.prog G 12 [.str [43], a.enc, b.enc] ((plusO a b (orM a.mask b.mask)).enc) := by
 refine AFn.introU tok Tryz.func12 (by kernel_rfl) rfl rfl ?_
 simp only [Tryz.f12, enumA, List.map_cons, List.map_nil]
 have h1 := deep_ev (G := G) a
 have h2 := deep_ev (G := G) b
 have hp := plusO_ev (G := G) a b (orM a.mask b.mask) (orM (deepV a) (deepV b)) ha hb hka hkb hla hlb
 generalize plusO a b (orM a.mask b.mask) = M at *
 simp only [Val.enc_def] at h1 h2 hp
 refine rgn [] [[], [], [0, 4, 5, 6]] ?_
 iterate 3 refine op1 tok ?_
 refine runEnd ?_
 refine AW.seqDrawS tok mixed 14 [[4], [5], [4], [12], [5], [14], [13, 15], [4], [17], [5], [19], [18, 20], [10, 11, 16, 21], []] [.nilp, .int .u64 (deepV a), .nilp, .int .u64 (deepV b)] [] (by kernel_rfl) ?_
 iterate 14 refine d1 ?_ (h := by intro C; conv => lhs; simp [or_wrap]) (hv := by first | with_reducible exact True.intro | (first | exact h1 | exact h2; done) | omega | simp | (simp; omega) | (simp +contextual; omega))
 refine DGo.nil (by kernel_rfl) ⟨by kernel_rfl, ?_⟩
 refine AOpsO.run [[0, 4, 5, 6, 7]] ?_
 refine op1 tok ?_ (h := by intro C; conv => lhs; simp [or_wrap])
 refine runEnd ?_
 refine AW.seq ?_
 refine rgn [] [[]] ?_
 refine op1 tok ?_
 refine runEnd ?_
 refine AW.block ?_
 refine rgn [] [[], [0, 4, 5, 6, 7, 23, 24]] ?_
 iterate 2 refine op1 tok ?_
 refine runEnd ?_
 refine cnd ?_ ?_
 ·intro h24
  try simp at h24
  refine rgn [.nilp, M.enc] [[], [], [6]] ?_
  iterate 3 refine op1 tok ?_ (hv := by first | with_reducible exact True.intro | ((simp at hp ⊢; exact hp); done) | omega | simp | (simp; omega) | (simp +contextual; omega))
  refine runEnd ?_
  exact AW.ret ⟨.inr rfl, _, _, by (conv => lhs; simp), trivial, by simp⟩
 ·intro h24
  try simp at h24
theorem twoMinusL_ev (a b : Val) (ha : mayT a = true) (hb : mayT b = true) (hka : a.kind = 6) (hkb : b.kind = 6) : AFn Tryz.prog G 12 [.str [45], a.enc, b.enc] ((lessV a b (orM (deepV a) (deepV b))).enc) := by
 refine AFn.introU tok Tryz.func12 (by kernel_rfl) rfl rfl ?_
 simp only [Tryz.f12, enumA, List.map_cons, List.map_nil]
 have h1 := deep_ev (G := G) a
 have h2 := deep_ev (G := G) b
 have hp := minusL_ev (G := G) a b (orM a.mask b.mask) (orM (deepV a) (deepV b)) ha hb hka hkb
 generalize lessV a b (orM (deepV a) (deepV b)) = M at *
 simp only [Val.enc_def] at h1 h2 hp
 refine rgn [] [[], [], [0, 4, 5, 6]] ?_
 iterate 3 refine op1 tok ?_
 refine runEnd ?_
 refine AW.seqDrawS tok mixed 14 [[4], [5], [4], [12], [5], [14], [13, 15], [4], [17], [5], [19], [18, 20], [10, 11, 16, 21], []] [.nilp, .int .u64 (deepV a), .nilp, .int .u64 (deepV b)] [] (by kernel_rfl) ?_
 iterate 14 refine d1 ?_ (h := by intro C; conv => lhs; simp [or_wrap]) (hv := by first | with_reducible exact True.intro | (first | exact h1 | exact h2; done) | omega | simp | (simp; omega) | (simp +contextual; omega))
 refine DGo.nil (by kernel_rfl) ⟨by kernel_rfl, ?_⟩
 refine AOpsO.run [[0, 4, 5, 6, 7]] ?_
 refine op1 tok ?_ (h := by intro C; conv => lhs; simp [or_wrap])
 refine runEnd ?_
 refine AW.seq ?_
 refine rgn [] [[]] ?_
 refine op1 tok ?_
 refine runEnd ?_
 refine AW.block ?_
 refine rgn [] [[], [0, 4, 5, 6, 7, 23, 24]] ?_
 iterate 2 refine op1 tok ?_
 refine runEnd ?_
 refine cnd ?_ ?_
 ·intro h24
  try simp at h24
 ·intro h24
  try simp at h24
  refine rgn [] [[], [0, 4, 5, 6, 7, 23, 28]] ?_
  iterate 2 refine op1 tok ?_
  refine runEnd ?_
  refine cnd ?_ ?_
  ·intro h28
   try simp at h28
   refine rgn [.nilp, M.enc] [[], [], [6]] ?_
   iterate 3 refine op1 tok ?_ (hv := by first | with_reducible exact True.intro | ((simp at hp ⊢; exact hp); done) | omega | simp | (simp; omega) | (simp +contextual; omega))
   refine runEnd ?_
   exact AW.ret ⟨.inr rfl, _, _, by (conv => lhs; simp), trivial, by simp⟩
  ·intro h28
   try simp at h28
theorem doc_ev (s : List UInt8) (hs : s.length ≤ 100000) : AFn Tryz.prog G 24 [.str s] ((oneM s).1.enc) := by
 refine AFn.introU tok Tryz.func24 (by kernel_rfl) rfl rfl ?_
 simp only [Tryz.f24, enumA, List.map_cons, List.map_nil]
 have h := one5_ev (G := G) s hs
 generalize oneM s = r at *
 obtain ⟨v, n, e⟩ := r
 simp only [Val.enc_def] at h
 refine rgn [] [[]] ?_
 refine op1 tok ?_
 refine runEnd ?_
 refine rgn [.nilp, .tup [v.enc, .int .i64 n, .int .i64 e]] [[], [], [], [], [], [2, 9, 10, 11], [], [], [], [2, 3]] ?_
 iterate 10 refine op1 tok ?_ (hv := by first | with_reducible exact True.intro | (exact h; done) | omega | simp | (simp; omega) | (simp +contextual; omega))
 refine runEnd ?_
 refine rgn [] [[], [2]] ?_
 iterate 2 refine op1 tok ?_
 refine runEnd ?_
 exact AW.ret ⟨.inr rfl, _, _, by (conv => lhs; simp), trivial, by simp⟩
end Go.Proofs.YtdojfdaglbphlaaGreatDoor
