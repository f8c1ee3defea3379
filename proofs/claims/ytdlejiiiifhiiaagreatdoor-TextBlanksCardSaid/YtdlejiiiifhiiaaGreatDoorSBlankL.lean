import Derived.Test.YtdlejiiiifhiiaaGreatDoorSCutV
import Derived.Test.YtdlejiiiifhiiaaGreatDoorSBareL
/-
  A PLAIN LAW: a document two times in a list.
-/
namespace Go.Proofs.YtdlejiiiifhiiaaGreatDoor
open Sy Go
set_option linter.unusedSimpArgs false
set_option linter.unusedVariables false
set_option maxRecDepth 100000
def pairB (v : Val) : Val := .mk 6 0 dc0 [] [] [bareV v, bareV v] 0
theorem two_val {v : Val} (hm : mayT v = true) (hp : poiV v = false) (hd : depV v ≤ 11) (hs : Val.sz v ≤ 190) (n : Nat) (hn : 2 * (printT v).length + 4 ≤ n) :
    ∃ nodes, valR n ⟨91 :: (printT v ++ (32 :: 44 :: 32 :: (printT v ++ [93]))), 0, false, false, false⟩ 1 = (⟨[], nodes, false, false, false⟩, pairB v) := by
  obtain ⟨n, rfl⟩ : ∃ k, n = k + 1 + 1 + 1 := ⟨n - 3, by omega⟩
  obtain ⟨b, t, e, p1, p2, p3⟩ := print_head hm
  have he := enter_at (ws := []) (b := 91) (l := printT v ++ (32 :: 44 :: 32 :: (printT v ++ [93]))) (st := ⟨91 :: (printT v ++ (32 :: 44 :: 32 :: (printT v ++ [93]))), 0, false, false, false⟩) 1 rfl rfl (by decide)
  have e1 : printT v ++ (32 :: 44 :: 32 :: (printT v ++ [93])) = b :: (t ++ (32 :: 44 :: 32 :: (printT v ++ [93]))) := by rw [e]; rfl
  have h1 := read_back v hm hp (n + 1) [] ⟨printT v ++ (32 :: 44 :: 32 :: (printT v ++ [93])), 1, false, false, false⟩ 2 (32 :: 44 :: 32 :: (printT v ++ [93])) rfl rfl rfl (by intro b hb; simp at hb; subst hb; rfl) (by omega)
  have h2 := read_back v hm hp n [32] ⟨32 :: (printT v ++ [93]), 1 + Val.sz v, false, false, false⟩ 2 [93] rfl rfl rfl (by intro b hb; simp at hb; subst hb; rfl) (by omega)
  rw [show decide (12 < 2 + depV v - 1) = false by simp; omega, show decide (400 < 1 + Val.sz v) = false by simp; omega] at h1
  rw [show decide (12 < 2 + depV v - 1) = false by simp; omega, show decide (400 < 1 + Val.sz v + Val.sz v) = false by simp; omega] at h2
  have s1 := sep_more (c := 93) (many := 1) (st := ⟨32 :: 44 :: 32 :: (printT v ++ [93]), 1 + Val.sz v, false, false, false⟩) (ws := [32]) (rest := 32 :: (printT v ++ [93])) rfl rfl rfl (by decide) (by decide)
  have s2 := sep_end (c := 93) (many := 2) (st := ⟨[93], 1 + Val.sz v + Val.sz v, false, false, false⟩) (ws := []) (rest := []) rfl rfl rfl (by decide) (by decide)
  have hl2 : lstR (n + 1) ⟨32 :: (printT v ++ [93]), 1 + Val.sz v, false, false, false⟩ 2 2 [bareV v] = (⟨[], 1 + Val.sz v + Val.sz v, false, false, false⟩, [bareV v, bareV v]) := by
    rw [lstR]
    simp only [Bool.false_eq_true, if_false, h2, Bool.false_or, s2]
    rfl
  have hl1 : lstR (n + 1 + 1) ⟨printT v ++ (32 :: 44 :: 32 :: (printT v ++ [93])), 1, false, false, false⟩ 2 1 [] = (⟨[], 1 + Val.sz v + Val.sz v, false, false, false⟩, [bareV v, bareV v]) := by
    rw [lstR]
    simp only [Bool.false_eq_true, if_false, h1, Bool.false_or, s1, List.nil_append]
    exact hl2
  refine ⟨1 + Val.sz v + Val.sz v, ?_⟩
  have he' : enterR ⟨91 :: (printT v ++ (32 :: 44 :: 32 :: (printT v ++ [93]))), 0, false, false, false⟩ 1 = ⟨91 :: (printT v ++ (32 :: 44 :: 32 :: (printT v ++ [93]))), 1, false, false, false⟩ := he
  have ht := tk_miss (st := ⟨printT v ++ (32 :: 44 :: 32 :: (printT v ++ [93])), 1, false, false, false⟩) (ws := []) (w := 93) e1 rfl p1 p2
  rw [← e1] at ht
  simp only [valR, he', pre1]
  rw [if_pos (by decide)]
  simp only [dropR, List.drop_succ_cons, List.drop_zero, ht, Bool.false_eq_true, if_false, hl1]
  rfl
theorem one_two {v : Val} (hm : mayT v = true) (hp : poiV v = false) (hd : depV v ≤ 11) (hs : Val.sz v ≤ 190) :
    oneM (91 :: (printT v ++ (32 :: 44 :: 32 :: (printT v ++ [93])))) = (pairB v, 2 * ((printT v).length : Int) + 5, 0) := by
  obtain ⟨nodes, h⟩ := two_val hm hp hd hs (2 * (91 :: (printT v ++ (32 :: 44 :: 32 :: (printT v ++ [93])))).length + 2) (by simp; omega)
  unfold oneM
  rw [h]
  simp
  omega
end Go.Proofs.YtdlejiiiifhiiaaGreatDoor
