import Derived.Test.YtdojfdaglbphlaaGreatDoorSBackA
namespace Go.Proofs.YtdojfdaglbphlaaGreatDoor
open Sy Go
set_option linter.unusedSimpArgs false
set_option linter.unusedVariables false
mutual
def zBO : Val → Bool
 | .mk k _ _ _ _ vs _ => decide (k = 8) || zKE vs
def zKE : List Val → Bool
 | [] => false
 | v :: vs => zBO v || zKE vs
end
theorem qXP : ∀ l, zKE l = l.any zBO
 | [] => by simp [zKE]
 | v :: vs => by simp [zKE, qXP vs]
theorem zDW (v : Val) : zBO v = (decide (v.kind = 8) || v.kids.any zBO) := by
 cases v; simp only [zBO, qXP, Val.kids, Val.kind]; rfl
theorem qCQ {v : Val} (h : qT v = true) (hc : v.kind ≠ 8) : v.code = 0 ∧ v.kids.length ≤ 200 ∧
  ((v.kind = 1 ∧ v.num = dc0 ∧ v.text = [] ∧ v.keys = [] ∧ v.kids = []) ∨ (v.kind = 2 ∧ v.num = dc0 ∧ v.text = [] ∧ v.keys = [] ∧ v.kids = []) ∨ (v.kind = 3 ∧ v.num = dc0 ∧ v.text = [] ∧ v.keys = [] ∧ v.kids = []) ∨
   (v.kind = 4 ∧ zP v.num = true ∧ v.text = [] ∧ v.keys = [] ∧ v.kids = []) ∨ (v.kind = 5 ∧ v.num = dc0 ∧ jN v.text = true ∧ v.keys = [] ∧ v.kids = []) ∨
   (v.kind = 6 ∧ v.num = dc0 ∧ v.text = [] ∧ v.keys = []) ∨ (v.kind = 7 ∧ v.num = dc0 ∧ v.text = [] ∧ v.keys.length = v.kids.length ∧ qBO v.keys = true)) := by
 rw [kW] at h
 simp only [Bool.and_eq_true, uF, vV, decide_eq_true_eq] at h
 obtain ⟨⟨⟨b1, b2, b3⟩, ⟨⟨⟨⟨c1, c2⟩, c3⟩, c4⟩, c5⟩⟩, _⟩ := h
 have hcode : v.code = 0 := by
  unfold qOZ at c1
  simp [hc] at c1
  exact c1
 refine ⟨hcode, b3, ?_⟩
 unfold qXW at c2
 unfold qHT at c3
 unfold qDJ at c4
 unfold qOF at c5
 have hnum : v.kind ≠ 4 → v.num = dc0 := fun h4 => by
  rw [if_neg h4] at c2
  simp only [decide_eq_true_eq] at c2
  exact Dc.ext' c2.1 c2.2.1 c2.2.2
 have htxt : v.kind ≠ 5 → v.text = [] := fun h4 => by rw [if_neg h4] at c3; simpa using c3
 have hkey : v.kind ≠ 7 → v.keys = [] := fun h4 => by rw [if_neg h4] at c4; simpa using c4
 have hkid : v.kind ≠ 6 → v.kind ≠ 7 → v.kids = [] := fun h6 h7 => by simpa [h6, h7] using c5
 have hk : v.kind = 1 ∨ v.kind = 2 ∨ v.kind = 3 ∨ v.kind = 4 ∨ v.kind = 5 ∨ v.kind = 6 ∨ v.kind = 7 := by omega
 rcases hk with k | k | k | k | k | k | k
 ·exact .inl ⟨k, hnum (by omega), htxt (by omega), hkey (by omega), hkid (by omega) (by omega)⟩
 ·exact .inr (.inl ⟨k, hnum (by omega), htxt (by omega), hkey (by omega), hkid (by omega) (by omega)⟩)
 ·exact .inr (.inr (.inl ⟨k, hnum (by omega), htxt (by omega), hkey (by omega), hkid (by omega) (by omega)⟩))
 ·rw [if_pos k] at c2
  exact .inr (.inr (.inr (.inl ⟨k, c2, htxt (by omega), hkey (by omega), hkid (by omega) (by omega)⟩)))
 ·rw [if_pos k] at c3
  exact .inr (.inr (.inr (.inr (.inl ⟨k, hnum (by omega), c3, hkey (by omega), hkid (by omega) (by omega)⟩))))
 ·exact .inr (.inr (.inr (.inr (.inr (.inl ⟨k, hnum (by omega), htxt (by omega), hkey (by omega)⟩)))))
 ·rw [if_pos k] at c4
  simp only [Bool.and_eq_true, decide_eq_true_eq] at c4
  exact .inr (.inr (.inr (.inr (.inr (.inr ⟨k, hnum (by omega), htxt (by omega), by omega, c4.2⟩)))))
def RB (v : Val) : Prop := ∀ (n : Nat) (ws : List UInt8) (st : RS) (d : Nat) (rest : List UInt8), st.left = ws ++ (zQ v ++ rest) → ws.all qOK = true → st.bad = false → (∀ b, rest.head? = some b → yS b = false) → 2 * (zQ v).length ≤ n →
  kA n st d = (⟨rest, st.nodes + Val.sz v, false, st.deep || decide (12 < d + zWR v - 1), st.big || decide (400 < st.nodes + Val.sz v)⟩, qFL v)
theorem zLY (key : List UInt8) (keys : List (List UInt8)) (p : List UInt8) (ps : List (List UInt8)) : qHH (key :: keys) (p :: ps) = (kP key ++ [58] ++ p) :: qHH keys ps := rfl
theorem zRO {v : Val} (k : v.kind = 1) : zQ v = qAN := by rw [jM, if_pos k]
theorem zRN {v : Val} (k : v.kind = 2) : zQ v = xF := by rw [jM, if_neg (by omega), if_pos k]
theorem zRM {v : Val} (k : v.kind = 3) : zQ v = qAM := by rw [jM, if_neg (by omega), if_neg (by omega), if_pos k]
theorem zRL {v : Val} (k : v.kind = 4) : zQ v = qEB v.num := by rw [jM, if_neg (by omega), if_neg (by omega), if_neg (by omega), if_pos k]
theorem zRK {v : Val} (k : v.kind = 5) : zQ v = kP v.text := by rw [jM, if_neg (by omega), if_neg (by omega), if_neg (by omega), if_neg (by omega), if_pos k]
theorem zRH {v : Val} (k : v.kind = 8) : zQ v = 33 :: qGM v.code := by rw [jM, if_neg (by omega), if_neg (by omega), if_neg (by omega), if_neg (by omega), if_neg (by omega), if_pos k]
theorem zRI {v : Val} (k : v.kind = 7) : zQ v = [123] ++ Lib.join (qHH v.keys (v.kids.map zQ)) [44] ++ [125] := by rw [jM, if_neg (by omega), if_neg (by omega), if_neg (by omega), if_neg (by omega), if_neg (by omega), if_neg (by omega), if_pos k]
theorem zRJ {v : Val} (k : v.kind = 6) : zQ v = [91] ++ Lib.join (v.kids.map zQ) [44] ++ [93] := by rw [jM, if_neg (by omega), if_neg (by omega), if_neg (by omega), if_neg (by omega), if_neg (by omega), if_neg (by omega), if_neg (by omega)]
end Go.Proofs.YtdojfdaglbphlaaGreatDoor
