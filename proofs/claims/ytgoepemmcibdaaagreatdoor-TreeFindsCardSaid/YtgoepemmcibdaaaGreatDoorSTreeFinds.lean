import Derived.Test.YtgoepemmcibdaaaGreatDoorSTreeRest
import Derived.Test.YtgoepemmcibdaaaGreatDoorSRefCmp4
import Derived.Test.YtgoepemmcibdaaaGreatDoorSTreeLaw2
import Derived.Test.YtgoepemmcibdaaaGreatDoorSShown4
import Derived.Test.YtgoepemmcibdaaaGreatDoorM3
namespace Go.Proofs.YtgoepemmcibdaaaGreatDoor
open Sy Go
set_option maxRecDepth 100000
set_option maxHeartbeats 4000000
set_option linter.unusedSimpArgs false
set_option linter.unusedVariables false
variable {G : Glob}
theorem get_sz {v : Val} {s : List UInt8} (h : Val.sz v ≤ 80) (hv : mayT v = true) : Val.sz (getV v s).1 ≤ 80 := by
  unfold getV
  split
  · rename_i h7
    show Val.sz (withV (kidOf v s) v.mask) ≤ 80
    rw [with_sz]
    have := kidOf_get (v := v) (by have := may_obj hv h7.1; omega) h7.2
    have := Val.sz_kid (List.mem_of_getElem? this)
    omega
  · show Val.sz zeroV ≤ 80; decide +kernel
theorem at_sz {v : Val} {i : Int} (h : Val.sz v ≤ 80) : Val.sz (atV v i).1 ≤ 80 := by
  unfold atV
  split
  · rename_i h6
    show Val.sz (withV (v.kids.getD (atI v i).toNat zeroV) v.mask) ≤ 80
    rw [with_sz]
    have hx : v.kids[(atI v i).toNat]? = some (v.kids.getD (atI v i).toNat zeroV) := by
      rw [List.getD_eq_getElem?_getD, List.getElem?_eq_getElem (by omega)]; rfl
    have := Val.sz_kid (List.mem_of_getElem? hx)
    omega
  · show Val.sz zeroV ≤ 80; decide +kernel
theorem TreeFinds_ev (hG : U8 G) (l m : List Item) (s : List UInt8) (i : Int) (hl : ∀ x ∈ l, x.keys.length ≤ 140737488351232) (hm : ∀ x ∈ m, x.keys.length ≤ 140737488351232) (hi : -9223372036854775808 ≤ i ∧ i ≤ 9223372036854775807) : AFn Tryz.prog G 6 [.sl 6 (l.map Item.enc), .sl 6 (m.map Item.enc), .agg [.str s, .int .i64 i]] (.bool true) := by
  refine AFn.introU tok Tryz.func6 (by kernel_rfl) rfl rfl ?_
  simp only [Tryz.f6, enumA, List.map_cons, List.map_nil]
  have hsh := shown4_ev hG
  have hbl := Built_ev (G := G) l hl
  have hbm := Built_ev (G := G) m hm
  have ma := built_may l
  have mb := built_may m
  have za := built_sz l
  generalize builtM l = a at hbl ma za
  generalize builtM m = b at hbm mb
  have hsa := may_small ma
  have h1 := get_ev (G := G) a s ma
  have h2 := refGet_ev (G := G) a s (by
    by_cases h7 : a.kind = 7
    · have := may_obj ma h7; omega
    · have h := ma
      rw [mayT_eq] at h
      simp only [Bool.and_eq_true, partsT, namedT] at h
      obtain ⟨⟨_, ⟨⟨_, h2⟩, _⟩⟩, _⟩ := h
      rw [if_neg h7] at h2
      simp at h2
      rw [h2]; simp) (by omega)
  have h3 := at_ev (G := G) a i ma hi
  have h4 := refAt_ev (G := G) a i (by omega) hi
  have h5 := refSame_sz (G := G) (getV a s).1 (by have := get_sz (s := s) za ma; omega) (getV a s).1
  have h6 := refSame_sz (G := G) (atV a i).1 (by have := at_sz (i := i) za; omega) (atV a i).1
  rw [same_self] at h5 h6
  have h7 := cmpT_ev (G := G) a b ma mb
  have h8 := refCmp_ev (G := G) a b ma mb
  have h9 := sameT_ev (G := G) a b
  have h10 := refSame_ev (G := G) a ma b
  generalize (getV a s).1 = u at *
  generalize (getV a s).2 = ub at *
  generalize (atV a i).1 = w at *
  generalize (atV a i).2 = wb at *
  simp only [Val.enc_def, Item.enc] at hbl hbm h1 h2 h3 h4 h5 h6 h7 h8 h9 h10
  refine AW.seqRegionO [] ?_
  refine s1 tok [0, 1, 5] ?_
  refine s1 tok [0, 1, 5] ?_
  refine AOpsO.nil ?_
  refine AW.seqRegionO [.nilp, .bool true] ?_
  refine s1 tok [0, 1, 5, 20] ?_ (hv := by first | with_reducible exact True.intro | (exact hsh; done) | omega | simp | (simp; omega) | (simp +contextual; omega))
  refine s1 tok [0, 1, 5, 7] ?_
  refine AOpsO.nil ?_
  refine AW.seqRegionO [.nilp, a.enc] ?_
  refine s1 tok [1, 5, 7, 21] ?_
  refine s1 tok [1, 5, 7, 22] ?_ (hv := by first | with_reducible exact True.intro | ((simp at hbl ⊢; exact hbl); done) | omega | simp | (simp; omega) | (simp +contextual; omega))
  refine s1 tok [1, 5, 7, 8, 22] ?_
  refine s1 tok [1, 5, 7, 8] ?_ (hv := by first | with_reducible exact True.intro | ((simp at hbl ⊢; exact hbl); done) | omega | simp | (simp; omega) | (simp +contextual; omega))
  refine AOpsO.nil ?_
  refine AW.seqRegionO [.nilp, b.enc] ?_
  refine s1 tok [5, 7, 8, 23] ?_
  refine s1 tok [5, 7, 8, 24] ?_ (hv := by first | with_reducible exact True.intro | ((simp at hbm ⊢; exact hbm); done) | omega | simp | (simp; omega) | (simp +contextual; omega))
  refine s1 tok [5, 7, 8, 9, 24] ?_
  refine s1 tok [5, 7, 8, 9] ?_ (hv := by first | with_reducible exact True.intro | ((simp at hbm ⊢; exact hbm); done) | omega | simp | (simp; omega) | (simp +contextual; omega))
  refine AOpsO.nil ?_
  refine AW.seqRegionO [.nilp, .tup [u.enc, .bool ub]] ?_
  refine s1 tok [5, 7, 8, 9, 26] ?_ (hv := by first | with_reducible exact True.intro | (exact h1; done) | omega | simp | (simp; omega) | (simp +contextual; omega))
  refine s1 tok [5, 7, 8, 9, 26, 27] ?_
  refine s1 tok [5, 7, 8, 9, 26, 28] ?_ (hv := by first | with_reducible exact True.intro | (exact h1; done) | omega | simp | (simp; omega) | (simp +contextual; omega))
  refine s1 tok [5, 7, 8, 9, 29] ?_ (hv := by first | with_reducible exact True.intro | (exact h1; done) | omega | simp | (simp; omega) | (simp +contextual; omega))
  refine s1 tok [5, 7, 8, 9, 25] ?_
  refine s1 tok [5, 7, 8, 9, 25, 30] ?_
  refine s1 tok [5, 7, 8, 9, 30, 31] ?_
  refine s1 tok [5, 7, 8, 9, 10, 30, 31] ?_
  refine s1 tok [5, 7, 8, 9, 10, 31] ?_ (hv := by first | with_reducible exact True.intro | (exact h1; done) | omega | simp | (simp; omega) | (simp +contextual; omega))
  refine s1 tok [5, 7, 8, 9, 10, 11] ?_
  refine AOpsO.nil ?_
  refine AW.seqRegionO [.nilp, .tup [u.enc, .bool ub]] ?_
  refine s1 tok [5, 7, 8, 9, 10, 11, 33] ?_ (hv := by first | with_reducible exact True.intro | (exact h2; done) | omega | simp | (simp; omega) | (simp +contextual; omega))
  refine s1 tok [5, 7, 8, 9, 10, 11, 33, 34] ?_
  refine s1 tok [5, 7, 8, 9, 10, 11, 33, 35] ?_ (hv := by first | with_reducible exact True.intro | (exact h2; done) | omega | simp | (simp; omega) | (simp +contextual; omega))
  refine s1 tok [5, 7, 8, 9, 10, 11, 36] ?_ (hv := by first | with_reducible exact True.intro | (exact h2; done) | omega | simp | (simp; omega) | (simp +contextual; omega))
  refine s1 tok [5, 7, 8, 9, 10, 11, 32] ?_
  refine s1 tok [5, 7, 8, 9, 10, 11, 32, 37] ?_
  refine s1 tok [5, 7, 8, 9, 10, 11, 37, 38] ?_
  refine s1 tok [5, 7, 8, 9, 10, 11, 12, 37, 38] ?_
  refine s1 tok [5, 7, 8, 9, 10, 11, 12, 38] ?_ (hv := by first | with_reducible exact True.intro | (exact h2; done) | omega | simp | (simp; omega) | (simp +contextual; omega))
  refine s1 tok [5, 7, 8, 9, 10, 11, 12, 13] ?_
  refine AOpsO.nil ?_
  refine AW.seqRegionO [.nilp, .tup [w.enc, .bool wb]] ?_
  refine s1 tok [5, 7, 8, 9, 10, 11, 12, 13, 40] ?_ (hv := by first | with_reducible exact True.intro | (exact h3; done) | omega | simp | (simp; omega) | (simp +contextual; omega))
  refine s1 tok [5, 7, 8, 9, 10, 11, 12, 13, 40, 41] ?_
  refine s1 tok [5, 7, 8, 9, 10, 11, 12, 13, 40, 42] ?_ (hv := by first | with_reducible exact True.intro | (exact h3; done) | omega | simp | (simp; omega) | (simp +contextual; omega))
  refine s1 tok [5, 7, 8, 9, 10, 11, 12, 13, 43] ?_ (hv := by first | with_reducible exact True.intro | (exact h3; done) | omega | simp | (simp; omega) | (simp +contextual; omega))
  refine s1 tok [5, 7, 8, 9, 10, 11, 12, 13, 39] ?_
  refine s1 tok [5, 7, 8, 9, 10, 11, 12, 13, 39, 44] ?_
  refine s1 tok [5, 7, 8, 9, 10, 11, 12, 13, 44, 45] ?_
  refine s1 tok [5, 7, 8, 9, 10, 11, 12, 13, 14, 44, 45] ?_
  refine s1 tok [5, 7, 8, 9, 10, 11, 12, 13, 14, 45] ?_ (hv := by first | with_reducible exact True.intro | (exact h3; done) | omega | simp | (simp; omega) | (simp +contextual; omega))
  refine s1 tok [5, 7, 8, 9, 10, 11, 12, 13, 14, 15] ?_
  refine AOpsO.nil ?_
  refine AW.seqRegionO [.nilp, .tup [w.enc, .bool wb]] ?_
  refine s1 tok [5, 7, 8, 9, 10, 11, 12, 13, 14, 15, 47] ?_ (hv := by first | with_reducible exact True.intro | (exact h4; done) | omega | simp | (simp; omega) | (simp +contextual; omega))
  refine s1 tok [7, 8, 9, 10, 11, 12, 13, 14, 15, 47, 48] ?_
  refine s1 tok [7, 8, 9, 10, 11, 12, 13, 14, 15, 47, 49] ?_ (hv := by first | with_reducible exact True.intro | (exact h4; done) | omega | simp | (simp; omega) | (simp +contextual; omega))
  refine s1 tok [7, 8, 9, 10, 11, 12, 13, 14, 15, 50] ?_ (hv := by first | with_reducible exact True.intro | (exact h4; done) | omega | simp | (simp; omega) | (simp +contextual; omega))
  refine s1 tok [7, 8, 9, 10, 11, 12, 13, 14, 15, 46] ?_
  refine s1 tok [7, 8, 9, 10, 11, 12, 13, 14, 15, 46, 51] ?_
  refine s1 tok [7, 8, 9, 10, 11, 12, 13, 14, 15, 51, 52] ?_
  refine s1 tok [7, 8, 9, 10, 11, 12, 13, 14, 15, 16, 51, 52] ?_
  refine s1 tok [7, 8, 9, 10, 11, 12, 13, 14, 15, 16, 52] ?_ (hv := by first | with_reducible exact True.intro | (exact h4; done) | omega | simp | (simp; omega) | (simp +contextual; omega))
  refine s1 tok [7, 8, 9, 10, 11, 12, 13, 14, 15, 16, 17] ?_
  refine AOpsO.nil ?_
  refine AW.seqRegionO [.nilp, .bool true] ?_
  refine s1 tok [7, 8, 9, 11, 12, 13, 14, 15, 16, 17, 53] ?_ (hv := by first | with_reducible exact True.intro | (exact h5; done) | omega | simp | (simp; omega) | (simp +contextual; omega))
  refine s1 tok [7, 8, 9, 11, 13, 14, 15, 16, 17, 53, 54] ?_ (hv := by first | with_reducible exact True.intro | (exact h5; done) | omega | simp | (simp; omega) | (simp +contextual; omega))
  refine s1 tok [7, 8, 9, 11, 13, 14, 15, 16, 17, 55] ?_ (hv := by first | with_reducible exact True.intro | (exact h5; done) | omega | simp | (simp; omega) | (simp +contextual; omega))
  refine s1 tok [7, 8, 9, 11, 13, 14, 15, 16, 17, 18] ?_
  refine AOpsO.nil ?_
  refine AW.seqRegionO [.nilp, .bool true] ?_
  refine s1 tok [7, 8, 9, 11, 13, 15, 16, 17, 18, 56] ?_ (hv := by first | with_reducible exact True.intro | (exact h6; done) | omega | simp | (simp; omega) | (simp +contextual; omega))
  refine s1 tok [7, 8, 9, 11, 13, 15, 17, 18, 56, 57] ?_ (hv := by first | with_reducible exact True.intro | (exact h6; done) | omega | simp | (simp; omega) | (simp +contextual; omega))
  refine s1 tok [7, 8, 9, 11, 13, 15, 17, 18, 58] ?_ (hv := by first | with_reducible exact True.intro | (exact h6; done) | omega | simp | (simp; omega) | (simp +contextual; omega))
  refine s1 tok [7, 8, 9, 11, 13, 15, 17, 18, 19] ?_
  refine AOpsO.nil ?_
  refine AW.seqDrawS tok mixed 35 [[7], [59], [8, 60], [9, 60], [61, 62, 60], [8, 60], [9, 60], [64, 65, 60], [63, 66, 60], [60, 67], [68], [8, 69], [9, 69], [70, 71, 69], [8, 69], [9, 69], [73, 74, 69], [72, 75, 69], [69, 76], [77], [18, 78], [78, 79], [80], [11, 81], [13, 81], [82, 83, 81], [81, 84], [85], [19, 86], [86, 87], [88], [15, 89], [17, 89], [90, 91, 89], [89, 92]] [.nilp, .int .i64 (cmpT a b), .nilp, .int .i64 (cmpT a b), .nilp, .bool (sameT a b), .nilp, .bool (sameT a b)] [] (by kernel_rfl) ?_
  refine d1 ?_
  refine d1 ?_
  refine d2 60 rfl rfl ?_ (hv := by first | with_reducible exact True.intro | (first | exact h7 | exact h8 | exact h9 | exact h10; done) | omega | simp | (simp; omega) | (simp +contextual; omega))
  refine d2 60 rfl rfl ?_ (hv := by first | with_reducible exact True.intro | (first | exact h7 | exact h8 | exact h9 | exact h10; done) | omega | simp | (simp; omega) | (simp +contextual; omega))
  refine d2 60 rfl rfl ?_ (hv := by first | with_reducible exact True.intro | (first | exact h7 | exact h8 | exact h9 | exact h10; done) | omega | simp | (simp; omega) | (simp +contextual; omega))
  refine d2 60 rfl rfl ?_ (hv := by first | with_reducible exact True.intro | (first | exact h7 | exact h8 | exact h9 | exact h10; done) | omega | simp | (simp; omega) | (simp +contextual; omega))
  refine d2 60 rfl rfl ?_ (hv := by first | with_reducible exact True.intro | (first | exact h7 | exact h8 | exact h9 | exact h10; done) | omega | simp | (simp; omega) | (simp +contextual; omega))
  refine d2 60 rfl rfl ?_ (hv := by first | with_reducible exact True.intro | (first | exact h7 | exact h8 | exact h9 | exact h10; done) | omega | simp | (simp; omega) | (simp +contextual; omega))
  refine d2 60 rfl rfl ?_ (hv := by first | with_reducible exact True.intro | (first | exact h7 | exact h8 | exact h9 | exact h10; done) | omega | simp | (simp; omega) | (simp +contextual; omega))
  refine d1 ?_ (hv := by first | with_reducible exact True.intro | (first | exact h7 | exact h8 | exact h9 | exact h10; done) | omega | simp | (simp; omega) | (simp +contextual; omega))
  refine d1 ?_
  refine d2 69 rfl rfl ?_ (hv := by first | with_reducible exact True.intro | (first | exact h7 | exact h8 | exact h9 | exact h10; done) | omega | simp | (simp; omega) | (simp +contextual; omega))
  refine d2 69 rfl rfl ?_ (hv := by first | with_reducible exact True.intro | (first | exact h7 | exact h8 | exact h9 | exact h10; done) | omega | simp | (simp; omega) | (simp +contextual; omega))
  refine d2 69 rfl rfl ?_ (hv := by first | with_reducible exact True.intro | (first | exact h7 | exact h8 | exact h9 | exact h10; done) | omega | simp | (simp; omega) | (simp +contextual; omega))
  refine d2 69 rfl rfl ?_ (hv := by first | with_reducible exact True.intro | (first | exact h7 | exact h8 | exact h9 | exact h10; done) | omega | simp | (simp; omega) | (simp +contextual; omega))
  refine d2 69 rfl rfl ?_ (hv := by first | with_reducible exact True.intro | (first | exact h7 | exact h8 | exact h9 | exact h10; done) | omega | simp | (simp; omega) | (simp +contextual; omega))
  refine d2 69 rfl rfl ?_ (hv := by first | with_reducible exact True.intro | (first | exact h7 | exact h8 | exact h9 | exact h10; done) | omega | simp | (simp; omega) | (simp +contextual; omega))
  refine d2 69 rfl rfl ?_ (hv := by first | with_reducible exact True.intro | (first | exact h7 | exact h8 | exact h9 | exact h10; done) | omega | simp | (simp; omega) | (simp +contextual; omega))
  refine d1 ?_ (hv := by first | with_reducible exact True.intro | (first | exact h7 | exact h8 | exact h9 | exact h10; done) | omega | simp | (simp; omega) | (simp +contextual; omega))
  refine d1 ?_
  refine d2 78 rfl rfl ?_
  refine d1 ?_ (hv := by first | with_reducible exact True.intro | (first | exact h7 | exact h8 | exact h9 | exact h10; done) | omega | simp | (simp; omega) | (simp +contextual; omega))
  refine d1 ?_
  refine d2 81 rfl rfl ?_
  refine d2 81 rfl rfl ?_
  refine d2 81 rfl rfl ?_ (hv := by first | with_reducible exact True.intro | (first | exact h7 | exact h8 | exact h9 | exact h10; done) | omega | simp | (simp; omega) | (simp +contextual; omega))
  refine d1 ?_ (hv := by first | with_reducible exact True.intro | (first | exact h7 | exact h8 | exact h9 | exact h10; done) | omega | simp | (simp; omega) | (simp +contextual; omega))
  refine d1 ?_
  refine d2 86 rfl rfl ?_
  refine d1 ?_ (hv := by first | with_reducible exact True.intro | (first | exact h7 | exact h8 | exact h9 | exact h10; done) | omega | simp | (simp; omega) | (simp +contextual; omega))
  refine d1 ?_
  refine d2 89 rfl rfl ?_
  refine d2 89 rfl rfl ?_
  refine d2 89 rfl rfl ?_ (hv := by first | with_reducible exact True.intro | (first | exact h7 | exact h8 | exact h9 | exact h10; done) | omega | simp | (simp; omega) | (simp +contextual; omega))
  refine d1 ?_ (hv := by first | with_reducible exact True.intro | (first | exact h7 | exact h8 | exact h9 | exact h10; done) | omega | simp | (simp; omega) | (simp +contextual; omega))
  refine DGo.nil (by kernel_rfl) ⟨by kernel_rfl, ?_⟩
  refine s1 tok [6] ?_
  refine AOpsO.nil ?_
  exact AW.ret ⟨.inr rfl, _, _, by (conv => lhs; simp), trivial, by simp⟩
end Go.Proofs.YtgoepemmcibdaaaGreatDoor
