import Derived.Test.YtdojfdaglbphlaaGreatDoorSBackA
namespace Go.Proofs.YtdojfdaglbphlaaGreatDoor
open Sy Go
set_option linter.unusedSimpArgs false
set_option linter.unusedVariables false
mutual
def qXH : Val → Bool
 | .mk k _ _ _ _ vs _ => decide (k = 8) || poiL vs
def poiL : List Val → Bool
 | [] => false
 | v :: vs => qXH v || poiL vs
end
theorem qUF : ∀ l, poiL l = l.any qXH
 | [] => by simp [poiL]
 | v :: vs => by simp [poiL, qUF vs]
theorem qZP (v : Val) : qXH v = (decide (v.kind = 8) || v.kids.any qXH) := by
 cases v; simp only [qXH, qUF, Val.kids, Val.kind]; rfl
theorem qOZ {v : Val} (h : zL v = true) (hc : v.kind ≠ 8) : v.code = 0 ∧ v.kids.length ≤ 200 ∧
  ((v.kind = 1 ∧ v.num = dc0 ∧ v.text = [] ∧ v.keys = [] ∧ v.kids = []) ∨ (v.kind = 2 ∧ v.num = dc0 ∧ v.text = [] ∧ v.keys = [] ∧ v.kids = []) ∨ (v.kind = 3 ∧ v.num = dc0 ∧ v.text = [] ∧ v.keys = [] ∧ v.kids = []) ∨
   (v.kind = 4 ∧ zC v.num = true ∧ v.text = [] ∧ v.keys = [] ∧ v.kids = []) ∨ (v.kind = 5 ∧ v.num = dc0 ∧ qCS v.text = true ∧ v.keys = [] ∧ v.kids = []) ∨
   (v.kind = 6 ∧ v.num = dc0 ∧ v.text = [] ∧ v.keys = []) ∨ (v.kind = 7 ∧ v.num = dc0 ∧ v.text = [] ∧ v.keys.length = v.kids.length ∧ qEZ v.keys = true)) := by
 rw [qAI] at h
 simp only [Bool.and_eq_true, qCO, qBX, decide_eq_true_eq] at h
 obtain ⟨⟨⟨b1, b2, b3⟩, ⟨⟨⟨⟨c1, c2⟩, c3⟩, c4⟩, c5⟩⟩, _⟩ := h
 have hcode : v.code = 0 := by
  unfold codeT at c1
  simp [hc] at c1
  exact c1
 refine ⟨hcode, b3, ?_⟩
 unfold numT at c2
 unfold qTK at c3
 unfold qIA at c4
 unfold kidsT at c5
 have hnum : v.kind ≠ 4 → v.num = dc0 := fun h4 => by
  rw [if_neg h4] at c2
  simp only [decide_eq_true_eq] at c2
  exact Dc.ext' c2.1 c2.2.1 c2.2.2
 have htxt : v.kind ≠ 5 → v.text = [] := fun h4 => by rw [if_neg h4] at c3; simpa using c3
 have hkey : v.kind ≠ 7 → v.keys = [] := fun h4 => by rw [if_neg h4] at c4; simpa using c4
 have hkid : v.kind ≠ 6 → v.kind ≠ 7 → v.kids = [] := fun h6 h7 => by simpa [h6, h7] using c5
 have hk : v.kind = 1 ∨ v.kind = 2 ∨ v.kind = 3 ∨ v.kind = 4 ∨ v.kind = 5 ∨ v.kind = 6 ∨ v.kind = 7 := by omega
 rcases hk with k | k | k | k | k | k | k
 ·exact .inl ⟨k, hnum (by omega), htxt (by omega), hkey (by omega), hkid (by omega) (by omega)⟩
 ·exact .inr (.inl ⟨k, hnum (by omega), htxt (by omega), hkey (by omega), hkid (by omega) (by omega)⟩)
 ·exact .inr (.inr (.inl ⟨k, hnum (by omega), htxt (by omega), hkey (by omega), hkid (by omega) (by omega)⟩))
 ·rw [if_pos k] at c2
  exact .inr (.inr (.inr (.inl ⟨k, c2, htxt (by omega), hkey (by omega), hkid (by omega) (by omega)⟩)))
 ·rw [if_pos k] at c3
  exact .inr (.inr (.inr (.inr (.inl ⟨k, hnum (by omega), c3, hkey (by omega), hkid (by omega) (by omega)⟩))))
 ·exact .inr (.inr (.inr (.inr (.inr (.inl ⟨k, hnum (by omega), htxt (by omega), hkey (by omega)⟩)))))
 ·rw [if_pos k] at c4
  simp only [Bool.and_eq_true, decide_eq_true_eq] at c4
  exact .inr (.inr (.inr (.inr (.inr (.inr ⟨k, hnum (by omega), htxt (by omega), by omega, c4.2⟩)))))
def RB (v : Val) : Prop := ∀ (n : Nat) (ws : List UInt8) (st : RS) (d : Nat) (rest : List UInt8), st.left = ws ++ (zI v ++ rest) → ws.all qMC = true → st.bad = false → (∀ b, rest.head? = some b → kC b = false) → 2 * (zI v).length ≤ n →
  yM n st d = (⟨rest, st.nodes + Val.sz v, false, st.deep || decide (12 < d + depV v - 1), st.big || decide (400 < st.nodes + Val.sz v)⟩, qEC v)
theorem ent_cons (key : List UInt8) (keys : List (List UInt8)) (p : List UInt8) (ps : List (List UInt8)) : qFW (key :: keys) (p :: ps) = (kA key ++ [58] ++ p) :: qFW keys ps := rfl
theorem print1 {v : Val} (k : v.kind = 1) : zI v = uD := by rw [kX, if_pos k]
theorem print2 {v : Val} (k : v.kind = 2) : zI v = jO := by rw [kX, if_neg (by omega), if_pos k]
theorem print3 {v : Val} (k : v.kind = 3) : zI v = uC := by rw [kX, if_neg (by omega), if_neg (by omega), if_pos k]
theorem print4 {v : Val} (k : v.kind = 4) : zI v = qCR v.num := by rw [kX, if_neg (by omega), if_neg (by omega), if_neg (by omega), if_pos k]
theorem print5 {v : Val} (k : v.kind = 5) : zI v = kA v.text := by rw [kX, if_neg (by omega), if_neg (by omega), if_neg (by omega), if_neg (by omega), if_pos k]
theorem print8 {v : Val} (k : v.kind = 8) : zI v = 33 :: qFA v.code := by rw [kX, if_neg (by omega), if_neg (by omega), if_neg (by omega), if_neg (by omega), if_neg (by omega), if_pos k]
theorem print7 {v : Val} (k : v.kind = 7) : zI v = [123] ++ Lib.join (qFW v.keys (v.kids.map zI)) [44] ++ [125] := by rw [kX, if_neg (by omega), if_neg (by omega), if_neg (by omega), if_neg (by omega), if_neg (by omega), if_neg (by omega), if_pos k]
theorem print6 {v : Val} (k : v.kind = 6) : zI v = [91] ++ Lib.join (v.kids.map zI) [44] ++ [93] := by rw [kX, if_neg (by omega), if_neg (by omega), if_neg (by omega), if_neg (by omega), if_neg (by omega), if_neg (by omega), if_neg (by omega)]
end Go.Proofs.YtdojfdaglbphlaaGreatDoor
