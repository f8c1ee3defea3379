import Derived.Test.YtdjjmppnnkkloaaGreatDoorSPolHead
import Derived.Test.YtdjjmppnnkkloaaGreatDoorSPlaced
import Derived.Test.YtdjjmppnnkkloaaGreatDoorM3
namespace Go.Proofs.YtdjjmppnnkkloaaGreatDoor
open Sy Go
set_option maxRecDepth 100000
set_option maxHeartbeats 4000000
set_option linter.unusedSimpArgs false
set_option linter.unusedVariables false
variable {G : Glob}
theorem PolicyPlaces_ev (hG : U8 G) (hP : PW G) (hE : PE G) (p : Pol) (l m : List Item) (hm : ∀ m ∈ p.marks, InM m.mask) (hl : ∀ x ∈ l, x.keys.length ≤ 140737488351232) (hl2 : ∀ x ∈ m, x.keys.length ≤ 140737488351232) : AFn Tryz.prog G 6 [p.enc, .sl 6 (l.map Item.enc), .sl 6 (m.map Item.enc)] (.bool true) := by
 refine AFn.introU tok Tryz.func6 (by kernel_rfl) rfl rfl ?_
 simp only [Tryz.f6, enumA, List.map_cons, List.map_nil]
 have hsh := shown8_ev hG hP hE
 have hF := few8_ev (G := G) p
 have hf := polFew hm
 generalize fewPol p = q at *
 have hMay := hf.may (G := G)
 have hb := Built_ev (G := G) l hl
 have mv := built_may l
 have zv := built_sz l
 generalize builtM l = v at hb mv zv
 have hb2 := Built_ev (G := G) m hl2
 have mv2 := built_may m
 have zv2 := built_sz m
 generalize builtM m = w at hb2 mv2 zv2
 have l1 := hf.label (G := G) mv zv
 have l2 := hf.label (G := G) mv2 zv2
 have p1 := placed_ev (G := G) q hf.paths (by have := hf.marks; omega) v mv [] 0 (by simp; omega) (by omega)
 have p2 := placed_ev (G := G) q hf.paths (by have := hf.marks; omega) w mv2 [] 0 (by simp; omega) (by omega)
 have e1 : (labT q.marks v []).mask = (labT q.marks w []).mask := by rw [lab_mask, lab_mask]
 clear hf
 generalize labT q.marks v [] = a at *
 generalize labT q.marks w [] = b at *
 simp only [Val.enc_def, Item.enc, Pol.enc, List.map_nil] at hF hMay hb hb2 l1 l2 p1 p2
 refine rgn [] [[], [1, 2, 3]] ?_
 iterate 2 refine op1 tok ?_
 refine runEnd ?_
 refine rgn [.nilp, .bool true] [[], [1, 2, 3, 7]] ?_
 iterate 2 refine op1 tok ?_ (hv := by first | with_reducible exact True.intro | (exact hsh; done) | omega | simp | (simp; omega) | (simp +contextual; omega))
 refine runEnd ?_
 refine rgn [.nilp, q.enc] [[], [], [1, 2, 3, 7]] ?_
 iterate 3 refine op1 tok ?_ (hv := by first | with_reducible exact True.intro | (exact hF; done) | omega | simp | (simp; omega) | (simp +contextual; omega))
 refine runEnd ?_
 refine AW.seq ?_
 refine rgn [.nilp, .int .i64 (polMay q)] [[], [], [1, 2, 3, 7, 15]] ?_
 iterate 3 refine op1 tok ?_ (hv := by first | with_reducible exact True.intro | (exact hMay; done) | omega | simp | (simp; omega) | (simp +contextual; omega))
 refine runEnd ?_
 refine cnd ?_ ?_
 ·intro h15
  try simp at h15
  refine rgn [] [[], [6]] ?_
  iterate 2 refine op1 tok ?_
  refine runEnd ?_
  exact AW.ret ⟨.inr rfl, _, _, by (conv => lhs; simp), trivial, by simp⟩
 ·intro h15
  try simp at h15
  refine AW.skip ?_
  refine AW.seqDrawS tok mixed 5 [[3], [1], [18], [17, 19], []] [.nilp, v.enc, .nilp, a.enc] [] (by kernel_rfl) ?_
  iterate 5 refine d1 ?_ (hv := by first | with_reducible exact True.intro | (first | (simp at hb ⊢; exact hb) | exact l1; done) | omega | simp | (simp; omega) | (simp +contextual; omega))
  refine DGo.nil (by kernel_rfl) ⟨by kernel_rfl, ?_⟩
  refine AOpsO.run [[2, 3, 7, 8]] ?_
  refine op1 tok ?_
  refine runEnd ?_
  refine AW.seqDrawS tok mixed 5 [[3], [2], [22], [21, 23], []] [.nilp, w.enc, .nilp, b.enc] [] (by kernel_rfl) ?_
  iterate 5 refine d1 ?_ (hv := by first | with_reducible exact True.intro | (first | (simp at hb2 ⊢; exact hb2) | exact l2; done) | omega | simp | (simp; omega) | (simp +contextual; omega))
  refine DGo.nil (by kernel_rfl) ⟨by kernel_rfl, ?_⟩
  refine AOpsO.run [[3, 7, 8, 9]] ?_
  refine op1 tok ?_
  refine runEnd ?_
  refine rgn [.nilp, .bool true, .nilp, .bool true] [[], [], [], [], [], [3, 8, 9, 26, 28, 30], [], [3, 8, 9, 32], [], [], [], [], [3, 9, 33, 37], [], [], [9, 39, 40], [], [], [39, 43], [], [6]] ?_
  iterate 21 first | refine op1 tok ?_ (h := by intro C; conv => lhs; simp [e1]) (hv := by first | with_reducible exact True.intro | (first | exact p1 | exact p2 | ((repeat' (first | with_reducible apply And.intro | intro _)) <;> first | exact (p1) | exact (p2) | assumption | omega | contradiction | simp_all); done) | omega | simp | (simp; omega) | (simp +contextual; omega)) | refine op2 tok ?_ (h := by intro C; conv => lhs; simp [e1]) (hv := by first | with_reducible exact True.intro | (first | exact p1 | exact p2 | ((repeat' (first | with_reducible apply And.intro | intro _)) <;> first | exact (p1) | exact (p2) | assumption | omega | contradiction | simp_all); done) | omega | simp | (simp; omega) | (simp +contextual; omega))
  refine runEnd ?_
  exact AW.ret ⟨.inr rfl, _, _, by (conv => lhs; simp), trivial, by simp⟩
end Go.Proofs.YtdjjmppnnkkloaaGreatDoor
