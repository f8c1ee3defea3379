import Derived.Test.YtgoepemmcibdaaaGreatDoorSTreeCmp
import Derived.Test.YtgoepemmcibdaaaGreatDoorSRefMay
import Derived.Test.YtgoepemmcibdaaaGreatDoorSRef4B
namespace Go.Proofs.YtgoepemmcibdaaaGreatDoor
open Sy Go
set_option maxRecDepth 100000
set_option maxHeartbeats 4000000
set_option linter.unusedSimpArgs false
set_option linter.unusedVariables false
variable {G : Glob}

def oneV : Val := .mk 4 0 ⟨false, [49], 0⟩ [] [] [] 0
def twoV : Val := .mk 4 0 ⟨false, [50], 0⟩ [] [] [] 0
def falseV : Val := .mk 2 0 ⟨false, [], 0⟩ [] [] [] 0
def textV : Val := .mk 5 0 ⟨false, [], 0⟩ [49] [] [] 0
def listV (l : List Val) : Val := .mk 6 0 ⟨false, [], 0⟩ [] [] l 0
theorem may_null : mayT nullV = true := by decide +kernel
theorem may_false : mayT falseV = true := by decide +kernel
theorem may_one : mayT oneV = true := by decide +kernel
theorem may_two : mayT twoV = true := by decide +kernel
theorem valid_one : Lib.validD [49] = true := by rw [valid_eq]; decide +kernel
theorem may_text : mayT textV = true := by rw [mayT_eq]; simp [boundsT, partsT, codeT, numT, textT, namedT, kidsT, textV, Val.kind, Val.num, Val.text, Val.keys, Val.kids, Val.code, wordT, valid_one]
theorem may_l1 : mayT (listV [oneV]) = true := by decide +kernel
theorem may_l2 : mayT (listV [oneV, nullV]) = true := by decide +kernel
theorem cmp_1 : cmpT nullV falseV = -1 := by decide +kernel
theorem cmp_2 : cmpT twoV textV = -1 := by decide +kernel
theorem cmp_3 : cmpT (listV [oneV]) (listV [oneV, nullV]) = -1 := by decide +kernel
attribute [local simp] nullV dc0 oneV twoV falseV textV listV
theorem null4_ev  : AFn Tryz.prog G 35 [] (nullV.enc) := by
  refine AFn.introU tok Tryz.func35 (by kernel_rfl) rfl rfl ?_
  simp only [Tryz.f35, enumA, List.map_cons, List.map_nil]
  refine AW.seqRegionO [] ?_
  refine s1 tok [0] ?_
  refine AOpsO.nil ?_
  refine AW.seqRegionO [] ?_
  refine s1 tok [0, 1] ?_
  refine s1 tok [0] ?_
  refine AOpsO.nil ?_
  exact AW.ret ⟨.inr rfl, _, _, by (conv => lhs; simp), trivial, by simp [nullV, dc0, Val.kind, Val.mask, Val.num, Val.text, Val.keys, Val.kids, Val.code]⟩
theorem one4_ev  : AFn Tryz.prog G 36 [] (oneV.enc) := by
  refine AFn.introU tok Tryz.func36 (by kernel_rfl) rfl rfl ?_
  simp only [Tryz.f36, enumA, List.map_cons, List.map_nil]
  refine AW.seqRegionO [] ?_
  refine s1 tok [0] ?_
  refine AOpsO.nil ?_
  refine AW.seqRegionO [] ?_
  refine s1 tok [0, 1] ?_
  refine s1 tok [0, 2] ?_
  refine s1 tok [0] ?_
  refine AOpsO.nil ?_
  exact AW.ret ⟨.inr rfl, _, _, by (conv => lhs; simp), trivial, by simp⟩
theorem shown4_ev (hG : U8 G) : AFn Tryz.prog G 9 [] (.bool true) := by
  refine AFn.introU tok Tryz.func9 (by kernel_rfl) rfl rfl ?_
  simp only [Tryz.f9, enumA, List.map_cons, List.map_nil]
  have hn := null4_ev (G := G)
  have ho := one4_ev (G := G)
  have h1 := cmpT_ev (G := G) nullV falseV may_null may_false
  have h2 := cmpT_ev (G := G) twoV textV may_two may_text
  have h3 := cmpT_ev (G := G) (listV [oneV]) (listV [oneV, nullV]) may_l1 may_l2
  have hm := mayT_ev hG nullV
  rw [may_null] at hm
  rw [cmp_1] at h1
  rw [cmp_2] at h2
  rw [cmp_3] at h3
  simp at hn ho h1 h2 h3 hm
  refine AW.seqRegionO [] ?_
  refine s1 tok [] ?_
  refine AOpsO.nil ?_
  refine AW.seqRegionO [.nilp, nullV.enc, .nilp, .int .i64 (-1)] ?_
  refine s1 tok [4] ?_ (hv := by first | with_reducible exact True.intro | (first | exact hn | exact h1; done) | omega | simp | (simp; omega) | (simp +contextual; omega))
  refine s1 tok [4, 5] ?_ (hv := by first | with_reducible exact True.intro | (first | exact hn | exact h1; done) | omega | simp | (simp; omega) | (simp +contextual; omega))
  refine s1 tok [6] ?_ (hv := by first | with_reducible exact True.intro | (first | exact hn | exact h1; done) | omega | simp | (simp; omega) | (simp +contextual; omega))
  refine s1 tok [1] ?_
  refine AOpsO.nil ?_
  refine AW.seqRegionO [.nilp, .int .i64 (-1)] ?_
  refine s1 tok [1, 7] ?_ (hv := by first | with_reducible exact True.intro | (exact h2; done) | omega | simp | (simp; omega) | (simp +contextual; omega))
  refine s1 tok [1, 8] ?_ (hv := by first | with_reducible exact True.intro | (exact h2; done) | omega | simp | (simp; omega) | (simp +contextual; omega))
  refine s1 tok [1, 8, 9] ?_ (hv := by first | with_reducible exact True.intro | (exact h2; done) | omega | simp | (simp; omega) | (simp +contextual; omega))
  refine s1 tok [1, 10] ?_ (hv := by first | with_reducible exact True.intro | (exact h2; done) | omega | simp | (simp; omega) | (simp +contextual; omega))
  refine s1 tok [1, 2] ?_
  refine AOpsO.nil ?_
  refine AW.seqRegionO [.nilp, oneV.enc, oneV.enc, .nilp, oneV.enc, .nilp, nullV.enc, oneV.enc, nullV.enc, .nilp, .int .i64 (-1)] ?_
  refine s1 tok [1, 2, 11] ?_ (hv := by first | with_reducible exact True.intro | (first | exact ho | exact hn | exact h3; done) | omega | simp | (simp; omega) | (simp +contextual; omega))
  refine s1 tok [1, 2, 12] ?_ (hv := by first | with_reducible exact True.intro | (first | exact ho | exact hn | exact h3; done) | omega | simp | (simp; omega) | (simp +contextual; omega))
  refine s1 tok [1, 2, 13] ?_ (hv := by first | with_reducible exact True.intro | (first | exact ho | exact hn | exact h3; done) | omega | simp | (simp; omega) | (simp +contextual; omega))
  refine s1 tok [1, 2, 13, 14] ?_ (hv := by first | with_reducible exact True.intro | (first | exact ho | exact hn | exact h3; done) | omega | simp | (simp; omega) | (simp +contextual; omega))
  refine s1 tok [1, 2, 13, 14, 15] ?_ (hv := by first | with_reducible exact True.intro | (first | exact ho | exact hn | exact h3; done) | omega | simp | (simp; omega) | (simp +contextual; omega))
  refine s1 tok [1, 2, 13, 16] ?_ (hv := by first | with_reducible exact True.intro | (first | exact ho | exact hn | exact h3; done) | omega | simp | (simp; omega) | (simp +contextual; omega))
  refine s1 tok [1, 2, 13, 17] ?_ (hv := by first | with_reducible exact True.intro | (first | exact ho | exact hn | exact h3; done) | omega | simp | (simp; omega) | (simp +contextual; omega))
  refine AOpsO.freeze 12 (by conv => lhs; simp) ?_
  refine AOpsO.freeze 16 (by conv => lhs; simp) ?_
  refine s1 tok [1, 2, 18] ?_ (hv := by first | with_reducible exact True.intro | (first | exact ho | exact hn | exact h3; done) | omega | simp | (simp; omega) | (simp +contextual; omega))
  refine s1 tok [1, 2, 3] ?_
  refine AOpsO.nil ?_
  refine AW.seqRegionO [.nilp, nullV.enc, .nilp, .bool true] ?_
  refine s1 tok [2, 3, 19] ?_
  refine s1 tok [2, 3, 20] ?_ (hv := by first | with_reducible exact True.intro | (((repeat' (first | with_reducible apply And.intro | intro _)) <;> first | exact (hn) | exact (hm) | assumption | omega | contradiction | simp_all); done) | omega | simp | (simp; omega) | (simp +contextual; omega))
  refine s1 tok [2, 3, 21] ?_
  refine s2 tok [3, 21, 22] 21 rfl rfl ?_
  refine s2 tok [3, 21, 23] 21 rfl rfl ?_ (hv := by first | with_reducible exact True.intro | (((repeat' (first | with_reducible apply And.intro | intro _)) <;> first | exact (hn) | exact (hm) | assumption | omega | contradiction | simp_all); done) | omega | simp | (simp; omega) | (simp +contextual; omega))
  refine s1 tok [3, 24] ?_ (hv := by first | with_reducible exact True.intro | (((repeat' (first | with_reducible apply And.intro | intro _)) <;> first | exact (hn) | exact (hm) | assumption | omega | contradiction | simp_all); done) | omega | simp | (simp; omega) | (simp +contextual; omega))
  refine s1 tok [3, 25] ?_
  refine s2 tok [25, 26] 25 rfl rfl ?_
  refine s2 tok [25, 27] 25 rfl rfl ?_ (hv := by first | with_reducible exact True.intro | (((repeat' (first | with_reducible apply And.intro | intro _)) <;> first | exact (hn) | exact (hm) | assumption | omega | contradiction | simp_all); done) | omega | simp | (simp; omega) | (simp +contextual; omega))
  refine s1 tok [28] ?_ (hv := by first | with_reducible exact True.intro | (((repeat' (first | with_reducible apply And.intro | intro _)) <;> first | exact (hn) | exact (hm) | assumption | omega | contradiction | simp_all); done) | omega | simp | (simp; omega) | (simp +contextual; omega))
  refine s1 tok [29] ?_
  refine s2 tok [29, 30] 29 rfl rfl ?_ (hv := by first | with_reducible exact True.intro | (((repeat' (first | with_reducible apply And.intro | intro _)) <;> first | exact (hn) | exact (hm) | assumption | omega | contradiction | simp_all); done) | omega | simp | (simp; omega) | (simp +contextual; omega))
  refine s2 tok [29, 31] 29 rfl rfl ?_ (hv := by first | with_reducible exact True.intro | (((repeat' (first | with_reducible apply And.intro | intro _)) <;> first | exact (hn) | exact (hm) | assumption | omega | contradiction | simp_all); done) | omega | simp | (simp; omega) | (simp +contextual; omega))
  refine s1 tok [32] ?_ (hv := by first | with_reducible exact True.intro | (((repeat' (first | with_reducible apply And.intro | intro _)) <;> first | exact (hn) | exact (hm) | assumption | omega | contradiction | simp_all); done) | omega | simp | (simp; omega) | (simp +contextual; omega))
  refine s1 tok [0] ?_
  refine AOpsO.nil ?_
  exact AW.ret ⟨.inr rfl, _, _, by (conv => lhs; simp), trivial, by simp⟩
end Go.Proofs.YtgoepemmcibdaaaGreatDoor
