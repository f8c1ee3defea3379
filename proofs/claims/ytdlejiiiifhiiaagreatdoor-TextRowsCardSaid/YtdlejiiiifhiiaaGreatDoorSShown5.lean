import Derived.Test.YtdlejiiiifhiiaaGreatDoorSPrintLen
namespace Go.Proofs.YtdlejiiiifhiiaaGreatDoor
open Sy Go
set_option maxRecDepth 100000
set_option maxHeartbeats 4000000
set_option linter.unusedSimpArgs false
set_option linter.unusedVariables false
variable {G : Glob}
def shS : List UInt8 := [32, 123, 34, 97, 34, 58, 49, 44, 34, 98, 34, 58, 91, 93, 44, 34, 97, 34, 58, 50, 125]
def shV : Val := .mk 7 0 dc0 [] [[97], [98]] [.mk 4 0 ⟨false, [50], 0⟩ [] [] [] 0, .mk 6 0 dc0 [] [] [] 0] 0
theorem sh_one : oneM shS = (shV, 21, 0) := by kernel_rfl
theorem sh_print : printT shV = [123, 34, 97, 34, 58, 50, 44, 34, 98, 34, 58, 91, 93, 125] := by kernel_rfl
theorem valid_a : Lib.validD [97] = true := by rw [Lib.validD_cons _ _ (by decide)]; rfl
theorem valid_b : Lib.validD [98] = true := by rw [Lib.validD_cons _ _ (by decide)]; rfl
theorem sh_prn : Prn G shV := by
  refine .mk (fun h => by cases h) (fun h => by cases h) (fun h => by cases h) (fun _ => ⟨rfl, fun key hk => ?_⟩) (by decide) (by rw [sh_print]; decide) fun k hk => ?_
  · rcases List.mem_cons.1 hk with rfl | hk
    · exact ⟨valid_a, by decide⟩
    · rcases List.mem_cons.1 hk with rfl | hk
      · exact ⟨valid_b, by decide⟩
      · cases hk
  · rcases List.mem_cons.1 hk with rfl | hk
    · exact .mk (fun h => by cases h) (fun _ => by decide) (fun h => by cases h) (fun h => by cases h) (by decide) (by decide +kernel) fun k hk => by cases hk
    · rcases List.mem_cons.1 hk with rfl | hk
      · exact .mk (fun h => by cases h) (fun h => by cases h) (fun h => by cases h) (fun h => by cases h) (by decide) (by decide +kernel) fun k hk => by cases hk
      · cases hk
theorem shown5_ev (hG : U8 G) : AFn Tryz.prog G 6 [] (.bool true) := by
  refine AFn.introU tok Tryz.func6 (by kernel_rfl) rfl rfl ?_
  simp only [Tryz.f6, enumA, List.map_cons, List.map_nil]
  have h1 := one_ev hG shS (by decide)
  rw [sh_one] at h1
  have h2 := print_all (G := G) shV sh_prn
  rw [sh_print] at h2
  simp [shV, shS, dc0] at h1 h2
  refine AW.seqRegionO [] ?_
  refine s1 tok [] ?_
  refine AOpsO.nil ?_
  refine AW.seqRegionO [.nilp, .tup [shV.enc, .int .i64 21, .int .i64 0]] ?_
  refine s1 tok [5] ?_ (hv := by first | with_reducible exact True.intro | (first | exact h1 | (simp [shV, dc0]; exact h1); done) | omega | simp | (simp; omega) | (simp +contextual; omega))
  refine s1 tok [4] ?_
  refine s1 tok [4, 6] ?_
  refine s1 tok [4, 6, 7] ?_
  refine s1 tok [6, 7, 8] ?_
  refine s1 tok [1, 6, 7, 8] ?_
  refine s1 tok [1, 7, 8] ?_ (hv := by first | with_reducible exact True.intro | (first | exact h1 | (simp [shV, dc0]; exact h1); done) | omega | simp | (simp; omega) | (simp +contextual; omega))
  refine s1 tok [1, 2, 8] ?_
  refine s1 tok [1, 2, 3] ?_
  refine AOpsO.nil ?_
  refine AW.seqRegionO [.nilp, .str [123, 34, 97, 34, 58, 50, 44, 34, 98, 34, 58, 91, 93, 125]] ?_
  refine s1 tok [2, 3, 9] ?_ (hv := by first | with_reducible exact True.intro | (first | exact h2 | (simp [shV, dc0]; exact h2); done) | omega | simp | (simp; omega) | (simp +contextual; omega))
  refine s1 tok [2, 3, 10] ?_ (hv := by first | with_reducible exact True.intro | (first | exact h2 | (simp [shV, dc0]; exact h2); done) | omega | simp | (simp; omega) | (simp +contextual; omega))
  refine s1 tok [2, 3, 11] ?_ (hv := by first | with_reducible exact True.intro | (first | exact h2 | (simp [shV, dc0]; exact h2); done) | omega | simp | (simp; omega) | (simp +contextual; omega))
  refine s1 tok [2, 3, 12] ?_
  refine s2 tok [3, 12, 13] 12 rfl rfl ?_
  refine s2 tok [3, 12, 14] 12 rfl rfl ?_ (hv := by first | with_reducible exact True.intro | (first | exact h2 | (simp [shV, dc0]; exact h2); done) | omega | simp | (simp; omega) | (simp +contextual; omega))
  refine s1 tok [3, 15] ?_ (hv := by first | with_reducible exact True.intro | (first | exact h2 | (simp [shV, dc0]; exact h2); done) | omega | simp | (simp; omega) | (simp +contextual; omega))
  refine s1 tok [3, 16] ?_
  refine s2 tok [16, 17] 16 rfl rfl ?_
  refine s2 tok [16, 18] 16 rfl rfl ?_ (hv := by first | with_reducible exact True.intro | (first | exact h2 | (simp [shV, dc0]; exact h2); done) | omega | simp | (simp; omega) | (simp +contextual; omega))
  refine s1 tok [19] ?_ (hv := by first | with_reducible exact True.intro | (first | exact h2 | (simp [shV, dc0]; exact h2); done) | omega | simp | (simp; omega) | (simp +contextual; omega))
  refine s1 tok [0] ?_
  refine AOpsO.nil ?_
  exact AW.ret ⟨.inr rfl, _, _, by (conv => lhs; simp), trivial, by simp⟩
end Go.Proofs.YtdlejiiiifhiiaaGreatDoor
