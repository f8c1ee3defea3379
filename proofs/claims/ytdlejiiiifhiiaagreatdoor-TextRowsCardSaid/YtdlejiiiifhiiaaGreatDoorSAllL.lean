import Derived.Test.YtdlejiiiifhiiaaGreatDoorSBackL
import Derived.Test.YtdlejiiiifhiiaaGreatDoorSPoisL
import Derived.Test.YtdlejiiiifhiiaaGreatDoorSReader
/-
  PLAIN: documents one behind the other.
-/
namespace Go.Proofs.YtdlejiiiifhiiaaGreatDoor
open Sy Go
set_option linter.unusedSimpArgs false
set_option linter.unusedVariables false
set_option maxRecDepth 100000
def allG : Nat → List UInt8 → List Val → List Val × Int
  | 0, _, _ => ([], 0)
  | f + 1, s, l => if s.all isBl = true then (l, 0) else if (oneM s).2.2 ≠ 0 then ([], (oneM s).2.2) else if 64 ≤ l.length then ([], 3) else allG f (s.drop (oneM s).2.1.toNat) (l ++ [(oneM s).1])
def allM (s : List UInt8) : List Val × Int := allG (s.length + 1) s []
theorem asF_bl (b : UInt8) : asF [32, 9, 10, 13] b.toNat = isBl b := by
  have key : ∀ k : Fin 256, asF [32, 9, 10, 13] k.val = isBl (UInt8.ofNat k.val) := by decide +kernel
  have := key ⟨b.toNat, b.toNat_lt⟩
  simpa using this
theorem dw_nil (p : UInt8 → Bool) : ∀ l : List UInt8, l.dropWhile p = [] ↔ l.all p = true
  | [] => by simp
  | b :: l => by
    rw [List.dropWhile_cons, List.all_cons]
    cases hb : p b with
    | true => simp only [if_true, Bool.true_and]; exact dw_nil p l
    | false => simp
theorem tw_allP (p : UInt8 → Bool) : ∀ l : List UInt8, (l.takeWhile p).all p = true
  | [] => rfl
  | b :: l => by
    rw [List.takeWhile_cons]
    split
    · rename_i h; rw [List.all_cons, h, tw_allP p l]; rfl
    · rfl
theorem trim_nil (s : List UInt8) : trimM s [32, 9, 10, 13] = [] ↔ s.all isBl = true := by
  unfold trimM
  rw [trim_eq]
  unfold trimB trimR
  have hf : (fun b : UInt8 => asF [32, 9, 10, 13] b.toNat) = isBl := funext asF_bl
  rw [dw_nil, hf]
  constructor
  · intro h
    have h1 : s.reverse = s.reverse.takeWhile isBl ++ s.reverse.dropWhile isBl := (List.takeWhile_append_dropWhile).symm
    rw [List.all_reverse] at h
    rw [← List.all_reverse, h1, List.all_append, tw_allP, h]; rfl
  · intro h
    have : s.reverse.dropWhile isBl = [] := (dw_nil _ _).2 (by rw [List.all_reverse]; exact h)
    rw [this]; rfl
/-- How much is read. -/
theorem one_range {s : List UInt8} (h : (oneM s).2.2 = 0) : 1 ≤ (oneM s).2.1 ∧ (oneM s).2.1 ≤ s.length := by
  have hl := (lens (2 * s.length + 2)).1 ⟨s, 0, false, false, false⟩ 1
  have hM : oneM s = if (valR (2 * s.length + 2) ⟨s, 0, false, false, false⟩ 1).1.bad = true then (zeroV, 0, 10) else if (valR (2 * s.length + 2) ⟨s, 0, false, false, false⟩ 1).1.deep = true then (zeroV, 0, 11) else if (valR (2 * s.length + 2) ⟨s, 0, false, false, false⟩ 1).1.big = true then (zeroV, 0, 3) else ((valR (2 * s.length + 2) ⟨s, 0, false, false, false⟩ 1).2, (s.length : Int) - (valR (2 * s.length + 2) ⟨s, 0, false, false, false⟩ 1).1.left.length, 0) := rfl
  rw [hM] at h ⊢
  generalize valR (2 * s.length + 2) ⟨s, 0, false, false, false⟩ 1 = r at *
  simp only at hl
  split at h
  · exact absurd h (by decide)
  · rename_i h1
    rw [if_neg h1]
    split at h
    · exact absurd h (by decide)
    · rename_i h2
      rw [if_neg h2]
      split at h
      · exact absurd h (by decide)
      · rename_i h3
        rw [if_neg h3]
        have := hl.2 (by simpa using h1)
        simp only; omega
/-! ### Documents that were printed -/
def docsT (sep : List UInt8) (l : List Val) : List UInt8 := l.flatMap fun v => printT v ++ sep
def docOK (v : Val) : Prop := mayT v = true ∧ poiV v = false ∧ depV v ≤ 12 ∧ Val.sz v ≤ 400 ∧ bareV v = v
theorem all_docs {sep : List UInt8} (hs : sep.all isBl = true) (hne : sep ≠ []) : ∀ (l : List Val), (∀ v ∈ l, docOK v) → ∀ (ws rest : List UInt8) (acc : List Val) (f : Nat), ws.all isBl = true → acc.length + l.length ≤ 64 →
    ∃ ws', ws'.all isBl = true ∧ allG (f + l.length) (ws ++ (docsT sep l ++ rest)) acc = allG f (ws' ++ rest) (acc ++ l)
  | [], _, ws, rest, acc, f, hw, _ => ⟨ws, hw, by simp [docsT]⟩
  | v :: l, hv, ws, rest, acc, f, hw, hl => by
    obtain ⟨hm, hp, hd, hz, hb⟩ := hv v (by simp)
    obtain ⟨b, t, e, p1, _, _⟩ := print_head hm
    have e1 : ws ++ (docsT sep (v :: l) ++ rest) = ws ++ (printT v ++ (sep ++ (docsT sep l ++ rest))) := by simp [docsT]
    have hr : ∀ c, (sep ++ (docsT sep l ++ rest)).head? = some c → numl c = false := by
      intro c hc
      cases sep with
      | nil => exact absurd rfl hne
      | cons x sep =>
        simp at hc; subst hc
        simp only [List.all_cons, Bool.and_eq_true] at hs
        have h1 := hs.1
        revert h1
        have key : ∀ k : Fin 256, isBl (UInt8.ofNat k.val) = true → numl (UInt8.ofNat k.val) = false := by decide +kernel
        have := key ⟨x.toNat, x.toNat_lt⟩
        simpa using this
    have ho := one_back hm hp hd hz hw hr
    have hna : ¬ (ws ++ (printT v ++ (sep ++ (docsT sep l ++ rest)))).all isBl = true := by
      rw [e]; simp [p1]
    obtain ⟨ws', h1, h2⟩ := all_docs hs hne l (fun u hu => hv u (List.mem_cons_of_mem _ hu)) sep rest (acc ++ [v]) f hs (by simp at hl ⊢; omega)
    refine ⟨ws', h1, ?_⟩
    rw [e1, show f + (v :: l).length = (f + l.length) + 1 by simp; omega]
    rw [allG, if_neg hna, ho]
    simp only
    rw [if_neg (by simp), if_neg (by simp at hl; omega), hb]
    rw [show (ws ++ (printT v ++ (sep ++ (docsT sep l ++ rest)))).drop ((ws.length + (printT v).length : Nat) : Int).toNat = sep ++ (docsT sep l ++ rest) by
      rw [Int.toNat_natCast, ← List.append_assoc, ← List.length_append]; exact List.drop_left]
    rw [h2]
    simp
theorem docs_len {sep : List UInt8} (hne : sep ≠ []) : ∀ l : List Val, l.length ≤ (docsT sep l).length
  | [] => by simp
  | v :: l => by
    have := docs_len hne l
    have := List.length_pos_iff.2 hne
    simp only [docsT, List.flatMap_cons, List.length_append, List.length_cons] at *; omega
theorem all_whole {sep : List UInt8} (hs : sep.all isBl = true) (hne : sep ≠ []) {l : List Val} (hv : ∀ v ∈ l, docOK v) (hl : l.length ≤ 64) : allM (docsT sep l) = (l, 0) := by
  have hd := docs_len hne l
  obtain ⟨ws', h1, h2⟩ := all_docs hs hne l hv [] [] [] ((docsT sep l).length + 1 - l.length) rfl (by simpa using hl)
  unfold allM
  rw [show (docsT sep l).length + 1 = (docsT sep l).length + 1 - l.length + l.length by omega]
  simp only [List.nil_append, List.append_nil] at h2
  rw [h2, show (docsT sep l).length + 1 - l.length = ((docsT sep l).length - l.length) + 1 by omega, allG, if_pos h1]
theorem one_x {ws : List UInt8} (hw : ws.all isBl = true) : oneM (ws ++ [120]) = (zeroV, 0, 10) := by
  have h : ∀ n, (valR (n + 1) ⟨ws ++ [120], 0, false, false, false⟩ 1).1.bad = true := fun n => by
    have he := enter_at (st := ⟨ws ++ [120], 0, false, false, false⟩) (l := []) (b := 120) 1 rfl hw (by decide)
    simp only [valR, he, pre1]
    rw [if_neg (by decide), if_neg (by decide)]
    unfold atomR
    rw [if_neg (by simp [wNull, List.isPrefixOf]), if_neg (by simp [wTrue, List.isPrefixOf]), if_neg (by simp [wFalse, List.isPrefixOf]), if_neg (by simp [List.isPrefixOf])]
    rw [if_neg (by rintro ⟨_, h⟩; revert h; simp [byteAt, digitM])]
  unfold oneM
  simp only
  rw [if_pos (h _)]
theorem all_x {sep : List UInt8} (hs : sep.all isBl = true) (hne : sep ≠ []) {l : List Val} (hv : ∀ v ∈ l, docOK v) (hl : l.length ≤ 64) : allM (docsT sep l ++ [120]) = ([], 10) := by
  have hd := docs_len hne l
  obtain ⟨ws', h1, h2⟩ := all_docs hs hne l hv [] [120] [] ((docsT sep l ++ [120]).length + 1 - l.length) rfl (by simpa using hl)
  unfold allM
  have hlen : (docsT sep l ++ [120]).length = (docsT sep l).length + 1 := by simp
  have e1 : (docsT sep l ++ [120]).length + 1 = (docsT sep l ++ [120]).length + 1 - l.length + l.length := by omega
  have e2 : (docsT sep l ++ [120]).length + 1 - l.length = ((docsT sep l ++ [120]).length - l.length) + 1 := by omega
  simp only [List.nil_append] at h2
  rw [e1, h2, e2, allG]
  rw [if_neg (by simp [isBl]), one_x h1]
  simp
end Go.Proofs.YtdlejiiiifhiiaaGreatDoor
