import Derived.Test.YtdojfdaglbphlaaGreatDoorSBackA
namespace Go.Proofs.YtdojfdaglbphlaaGreatDoor
open Sy Go
set_option linter.unusedSimpArgs false
set_option linter.unusedVariables false
mutual
def poiV : Val → Bool
 | .mk k _ _ _ _ vs _ => decide (k = 8) || poiL vs
def poiL : List Val → Bool
 | [] => false
 | v :: vs => poiV v || poiL vs
end
theorem poiL_any : ∀ l, poiL l = l.any poiV
 | [] => by simp [poiL]
 | v :: vs => by simp [poiL, poiL_any vs]
theorem poiV_eq (v : Val) : poiV v = (decide (v.kind = 8) || v.kids.any poiV) := by
 cases v; simp only [poiV, poiL_any, Val.kids, Val.kind]; rfl
theorem may_cases {v : Val} (h : mayT v = true) (hc : v.kind ≠ 8) : v.code = 0 ∧ v.kids.length ≤ 200 ∧
  ((v.kind = 1 ∧ v.num = dc0 ∧ v.text = [] ∧ v.keys = [] ∧ v.kids = []) ∨ (v.kind = 2 ∧ v.num = dc0 ∧ v.text = [] ∧ v.keys = [] ∧ v.kids = []) ∨ (v.kind = 3 ∧ v.num = dc0 ∧ v.text = [] ∧ v.keys = [] ∧ v.kids = []) ∨
   (v.kind = 4 ∧ dcMay v.num = true ∧ v.text = [] ∧ v.keys = [] ∧ v.kids = []) ∨ (v.kind = 5 ∧ v.num = dc0 ∧ wordT v.text = true ∧ v.keys = [] ∧ v.kids = []) ∨
   (v.kind = 6 ∧ v.num = dc0 ∧ v.text = [] ∧ v.keys = []) ∨ (v.kind = 7 ∧ v.num = dc0 ∧ v.text = [] ∧ v.keys.length = v.kids.length ∧ keysT v.keys = true)) := by
 rw [mayT_eq] at h
 simp only [Bool.and_eq_true, boundsT, partsT, decide_eq_true_eq] at h
 obtain ⟨⟨⟨b1, b2, b3⟩, ⟨⟨⟨⟨c1, c2⟩, c3⟩, c4⟩, c5⟩⟩, _⟩ := h
 have hcode : v.code = 0 := by
  unfold codeT at c1
  simp [hc] at c1
  exact c1
 refine ⟨hcode, b3, ?_⟩
 unfold numT at c2
 unfold textT at c3
 unfold namedT at c4
 unfold kidsT at c5
 have hnum : v.kind ≠ 4 → v.num = dc0 := fun h4 => by
  rw [if_neg h4] at c2
  simp only [decide_eq_true_eq] at c2
  exact Dc.ext' c2.1 c2.2.1 c2.2.2
 have htxt : v.kind ≠ 5 → v.text = [] := fun h4 => by rw [if_neg h4] at c3; simpa using c3
 have hkey : v.kind ≠ 7 → v.keys = [] := fun h4 => by rw [if_neg h4] at c4; simpa using c4
 have hkid : v.kind ≠ 6 → v.kind ≠ 7 → v.kids = [] := fun h6 h7 => by simpa [h6, h7] using c5
 have hk : v.kind = 1 ∨ v.kind = 2 ∨ v.kind = 3 ∨ v.kind = 4 ∨ v.kind = 5 ∨ v.kind = 6 ∨ v.kind = 7 := by omega
 rcases hk with k | k | k | k | k | k | k
 ·exact .inl ⟨k, hnum (by omega), htxt (by omega), hkey (by omega), hkid (by omega) (by omega)⟩
 ·exact .inr (.inl ⟨k, hnum (by omega), htxt (by omega), hkey (by omega), hkid (by omega) (by omega)⟩)
 ·exact .inr (.inr (.inl ⟨k, hnum (by omega), htxt (by omega), hkey (by omega), hkid (by omega) (by omega)⟩))
 ·rw [if_pos k] at c2
  exact .inr (.inr (.inr (.inl ⟨k, c2, htxt (by omega), hkey (by omega), hkid (by omega) (by omega)⟩)))
 ·rw [if_pos k] at c3
  exact .inr (.inr (.inr (.inr (.inl ⟨k, hnum (by omega), c3, hkey (by omega), hkid (by omega) (by omega)⟩))))
 ·exact .inr (.inr (.inr (.inr (.inr (.inl ⟨k, hnum (by omega), htxt (by omega), hkey (by omega)⟩)))))
 ·rw [if_pos k] at c4
  simp only [Bool.and_eq_true, decide_eq_true_eq] at c4
  exact .inr (.inr (.inr (.inr (.inr (.inr ⟨k, hnum (by omega), htxt (by omega), by omega, c4.2⟩)))))
theorem ent_cons (key : List UInt8) (keys : List (List UInt8)) (p : List UInt8) (ps : List (List UInt8)) : entT (key :: keys) (p :: ps) = (quoteT key ++ [58] ++ p) :: entT keys ps := rfl
theorem print1 {v : Val} (k : v.kind = 1) : printT v = wNull := by rw [printT_eq, if_pos k]
theorem print2 {v : Val} (k : v.kind = 2) : printT v = wFalse := by rw [printT_eq, if_neg (by omega), if_pos k]
theorem print3 {v : Val} (k : v.kind = 3) : printT v = wTrue := by rw [printT_eq, if_neg (by omega), if_neg (by omega), if_pos k]
theorem print4 {v : Val} (k : v.kind = 4) : printT v = PrintM v.num := by rw [printT_eq, if_neg (by omega), if_neg (by omega), if_neg (by omega), if_pos k]
theorem print5 {v : Val} (k : v.kind = 5) : printT v = quoteT v.text := by rw [printT_eq, if_neg (by omega), if_neg (by omega), if_neg (by omega), if_neg (by omega), if_pos k]
theorem print8 {v : Val} (k : v.kind = 8) : printT v = 33 :: itoa2 v.code := by rw [printT_eq, if_neg (by omega), if_neg (by omega), if_neg (by omega), if_neg (by omega), if_neg (by omega), if_pos k]
theorem print7 {v : Val} (k : v.kind = 7) : printT v = [123] ++ Lib.join (entT v.keys (v.kids.map printT)) [44] ++ [125] := by rw [printT_eq, if_neg (by omega), if_neg (by omega), if_neg (by omega), if_neg (by omega), if_neg (by omega), if_neg (by omega), if_pos k]
theorem print6 {v : Val} (k : v.kind = 6) : printT v = [91] ++ Lib.join (v.kids.map printT) [44] ++ [93] := by rw [printT_eq, if_neg (by omega), if_neg (by omega), if_neg (by omega), if_neg (by omega), if_neg (by omega), if_neg (by omega), if_neg (by omega)]
end Go.Proofs.YtdojfdaglbphlaaGreatDoor
