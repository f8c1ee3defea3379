import Derived.Test.YtdjjmppnnkkloaaDoorM3
import Derived.Laws.RangeString
import Derived.Lib.RuneCount
/-
  A PLAIN LAW: runes of a text: those below 128 are its bytes.
-/
namespace Go.Proofs.YtdjjmppnnkkloaaDoor
open Sy Go
set_option linter.unusedSimpArgs false
set_option linter.unusedVariables false
theorem decL_pos {s : List UInt8} {pos : Nat} (h : pos < s.length) : 1 ≤ (decL s pos).2 := Lib.decode_width_pos _ _ (by simpa [ByteArray.size] using h)
theorem decL_ascii {s : List UInt8} {pos : Nat} (h : pos < s.length) (ha : (s.getD pos 0).toNat < 128) : decL s pos = ((s.getD pos 0).toNat, 1) := by
  have hs : pos < (⟨s.toArray⟩ : ByteArray).size := by simpa [ByteArray.size] using h
  have e : (⟨s.toArray⟩ : ByteArray)[pos]'hs = s.getD pos 0 := by simp [List.getD_eq_getElem?_getD, h]; rfl
  unfold decL
  rw [decode_ascii _ _ hs (by rw [e]; exact ha), e]
theorem decL_big {s : List UInt8} {pos : Nat} (h : pos < s.length) (ha : 128 ≤ (s.getD pos 0).toNat) : 128 ≤ (decL s pos).1 := by
  have e : ((⟨s.toArray⟩ : ByteArray).get! (pos + 0)).toNat = (s.getD pos 0).toNat := by
    simp [ByteArray.get!, List.getD_eq_getElem?_getD, h]
  unfold decL Utf8.decode
  simp only [e]
  rw [if_neg (by omega)]
  split
  · split
    · simp only [ge_iff_le] at *; omega
    · simp [Utf8.runeError]
  · split
    · split
      · rename_i hc; simp only [ge_iff_le, Bool.and_eq_true, decide_eq_true_eq] at hc; omega
      · simp [Utf8.runeError]
    · split
      · split
        · rename_i hc; simp only [ge_iff_le, Bool.and_eq_true, decide_eq_true_eq] at hc; omega
        · simp [Utf8.runeError]
      · simp [Utf8.runeError]
/-- The place of the first rune that is so. -/
def idxF (p : Int → Bool) (s : List UInt8) : Nat → Nat → Int
  | 0, _ => -1
  | f + 1, pos => if pos < s.length then (if p (decL s pos).1 then (pos : Int) else idxF p s f (pos + (decL s pos).2)) else -1
def indexF (p : Int → Bool) (s : List UInt8) : Int := idxF p s (s.length + 1) 0
theorem idxF_fuel (p : Int → Bool) (s : List UInt8) : ∀ (f g pos : Nat), s.length < pos + f → s.length < pos + g → idxF p s f pos = idxF p s g pos
  | 0, 0, _, _, _ => rfl
  | 0, g + 1, pos, h, _ => by simp only [idxF]; rw [if_neg (by omega)]
  | f + 1, 0, pos, _, h => by simp only [idxF]; rw [if_neg (by omega)]
  | f + 1, g + 1, pos, hf, hg => by
    simp only [idxF]
    by_cases h : pos < s.length
    · rw [if_pos h, if_pos h]
      split
      · rfl
      · have := decL_pos h
        exact idxF_fuel p s f g _ (by omega) (by omega)
    · rw [if_neg h, if_neg h]
def idxAt (p : Int → Bool) (s : List UInt8) (pos : Nat) : Int := idxF p s (s.length + 1 - pos) pos
theorem idxAt_end {p : Int → Bool} {s : List UInt8} {pos : Nat} (h : ¬ pos < s.length) : idxAt p s pos = -1 := by
  unfold idxAt; cases hf : s.length + 1 - pos with
  | zero => rfl
  | succ f => simp only [idxF]; rw [if_neg h]
theorem idxAt_hit {p : Int → Bool} {s : List UInt8} {pos : Nat} (h : pos < s.length) (hp : p (decL s pos).1 = true) : idxAt p s pos = pos := by
  unfold idxAt; rw [show s.length + 1 - pos = (s.length - pos) + 1 by omega]; simp only [idxF]; rw [if_pos h, if_pos hp]
theorem idxAt_miss {p : Int → Bool} {s : List UInt8} {pos : Nat} (h : pos < s.length) (hp : p (decL s pos).1 = false) : idxAt p s pos = idxAt p s (pos + (decL s pos).2) := by
  unfold idxAt; rw [show s.length + 1 - pos = (s.length - pos) + 1 by omega]; simp only [idxF]
  have := decL_pos h
  rw [if_pos h, if_neg (by simp [hp])]; exact idxF_fuel p s _ _ _ (by omega) (by omega)
theorem indexF_at (p : Int → Bool) (s : List UInt8) : indexF p s = idxAt p s 0 := by simp [indexF, idxAt]
/-- Where a rune of 128 or more is so, the first such is the first byte that is so. -/
theorem idxAt_bytes {p : Int → Bool} (hbig : ∀ n : Int, 128 ≤ n → p n = true) (s : List UInt8) : ∀ (f pos : Nat), f = s.length - pos → pos ≤ s.length → idxAt p s pos = if (s.drop pos).all (fun b => !p b.toNat) then -1 else ((pos + ((s.drop pos).takeWhile fun b => !p b.toNat).length : Nat) : Int)
  | 0, pos, hf, hp => by
    rw [idxAt_end (by omega), List.drop_eq_nil_of_le (by omega)]; simp
  | f + 1, pos, hf, hp => by
    have hlt : pos < s.length := by omega
    have hd : s.drop pos = s.getD pos 0 :: s.drop (pos + 1) := by
      rw [List.drop_eq_getElem_cons hlt]; congr 1; simp [List.getD_eq_getElem?_getD, hlt]
    rw [hd]
    have hda0 := fun h => decL_ascii (s := s) (pos := pos) hlt h
    have hdb0 := fun h => decL_big (s := s) (pos := pos) hlt h
    clear hd
    generalize s.getD pos 0 = c at *
    by_cases ha : c.toNat < 128
    · have hda := hda0 ha
      cases hpb : p ((c.toNat : Nat) : Int) with
      | true => rw [idxAt_hit hlt (by rw [hda]; exact hpb)]; simp [hpb]
      | false =>
        rw [idxAt_miss hlt (by rw [hda]; exact hpb), hda, idxAt_bytes hbig s f (pos + 1) (by omega) (by omega)]
        simp only [List.all_cons, hpb, Bool.not_false, Bool.true_and, List.takeWhile_cons, if_true, List.length_cons]
        split <;> first | rfl | (congr 1; omega)
    · have hb := hdb0 (by omega)
      rw [idxAt_hit hlt (hbig _ (by omega))]
      have : p ((c.toNat : Nat) : Int) = true := hbig _ (by omega)
      simp [this]
theorem indexF_bytes {p : Int → Bool} (hbig : ∀ n : Int, 128 ≤ n → p n = true) (s : List UInt8) : indexF p s = if s.all (fun b => !p b.toNat) then -1 else (((s.takeWhile fun b => !p b.toNat).length : Nat) : Int) := by
  rw [indexF_at, idxAt_bytes hbig s _ 0 rfl (by omega)]; simp
theorem indexF_lt (p : Int → Bool) (s : List UInt8) : -1 ≤ indexF p s ∧ indexF p s ≤ s.length := by
  have key : ∀ (f pos : Nat), pos ≤ s.length → -1 ≤ idxF p s f pos ∧ idxF p s f pos ≤ s.length := by
    intro f
    induction f with
    | zero => intro pos _; simp [idxF] <;> omega
    | succ f ih =>
      intro pos hpos
      simp only [idxF]
      split
      · split
        · omega
        · by_cases h : pos + (decL s pos).2 ≤ s.length
          · exact ih _ h
          · cases f with
            | zero => simp [idxF] <;> omega
            | succ f => simp only [idxF]; rw [if_neg (by omega)]; omega
      · omega
  exact key _ 0 (by omega)
end Go.Proofs.YtdjjmppnnkkloaaDoor
