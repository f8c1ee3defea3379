import Derived.Test.YtdlejiiiifhiiaaDoorSBackL
import Derived.Test.YtdlejiiiifhiiaaDoorSMayIn
/-
  A PLAIN LAW: members with the same keys, with blanks or not: what is read.
-/
namespace Go.Proofs.YtdlejiiiifhiiaaDoor
open Sy Go
set_option linter.unusedSimpArgs false
set_option linter.unusedVariables false
set_option maxRecDepth 100000
/-- A key of one byte; a digit. -/
def kyB (b : UInt8) : UInt8 := UInt8.ofNat (97 + b.toNat % 4)
def dgB (i : Nat) : UInt8 := UInt8.ofNat (49 + i % 9)
def dgV (i : Nat) : Val := numV ⟨false, [dgB i], 0⟩
def wsT (bl : Bool) : List UInt8 := if bl = true then [32, 10] else []
/-- One member, with what stands ahead of it. -/
def memT (bl : Bool) (i : Nat) (b : UInt8) : List UInt8 := wsT bl ++ ([34, kyB b, 34] ++ (wsT bl ++ 58 :: (wsT bl ++ [dgB i])))
def tailT (bl : Bool) : Nat → List UInt8 → List UInt8
  | _, [] => wsT bl ++ [125]
  | i, b :: l => [44] ++ (wsT bl ++ (memT bl i b ++ tailT bl (i + 1) l))
def fullT (bl : Bool) : List UInt8 → List UInt8
  | [] => [123] ++ (wsT bl ++ [125])
  | b :: l => [123] ++ (memT bl 0 b ++ tailT bl 1 l)
/-- Keys and numbers, so far. -/
def putN (a : List (List UInt8) × List Nat) (key : List UInt8) (x : Nat) : List (List UInt8) × List Nat := if key ∈ a.1 then (a.1, a.2.set (a.1.idxOf key) x) else (a.1 ++ [key], a.2 ++ [x])
def putA : Nat → List UInt8 → List (List UInt8) × List Nat → List (List UInt8) × List Nat
  | _, [], a => a
  | i, b :: l, a => putA (i + 1) l (putN a [kyB b] (1 + i % 9))
def nV (n : Nat) : Val := numV ⟨false, [UInt8.ofNat (48 + n)], 0⟩
theorem nV_dg (i : Nat) : nV (1 + i % 9) = dgV i := by unfold nV dgV dgB; rw [show 48 + (1 + i % 9) = 49 + i % 9 by omega]
theorem putN_map (a : List (List UInt8) × List Nat) (key : List UInt8) (x : Nat) : putM a.1 (a.2.map nV) key (nV x) = ((putN a key x).1, (putN a key x).2.map nV) := by
  unfold putM putN
  split
  · simp [List.map_set]
  · simp
theorem bl_ws (bl : Bool) : (wsT bl).all isBl = true := by cases bl <;> decide
theorem ky_all : ∀ k : Fin 4, quoteT [UInt8.ofNat (97 + k.val)] = [34, UInt8.ofNat (97 + k.val), 34] ∧ Lib.validD [UInt8.ofNat (97 + k.val)] = true := by
  intro k
  have h : (UInt8.ofNat (97 + k.val)).toNat < 128 := by
    rw [UInt8.toNat_ofNat']; omega
  refine ⟨by revert k; decide, ?_⟩
  rw [Lib.validD_cons _ _ h]; rfl
theorem ky_quote (b : UInt8) : quoteT [kyB b] = [34, kyB b, 34] := (ky_all ⟨b.toNat % 4, by omega⟩).1
theorem ky_word (b : UInt8) : wordT [kyB b] = true := by
  unfold wordT
  rw [show Lib.validD [kyB b] = true from (ky_all ⟨b.toNat % 4, by omega⟩).2]
  simp
theorem dg_all : ∀ k : Fin 9, dcMay ⟨false, [UInt8.ofNat (49 + k.val)], 0⟩ = true ∧ PrintM ⟨false, [UInt8.ofNat (49 + k.val)], 0⟩ = [UInt8.ofNat (49 + k.val)] := by decide
theorem dg_may (i : Nat) : dcMay ⟨false, [dgB i], 0⟩ = true := (dg_all ⟨i % 9, by omega⟩).1
theorem dg_print (i : Nat) : printT (dgV i) = [dgB i] := by rw [print4 rfl]; exact (dg_all ⟨i % 9, by omega⟩).2
theorem dgV_may (i : Nat) : mayT (dgV i) = true := by
  refine mayT_intro ?_ ?_ ?_ ?_ ?_ ?_ ?_ ?_ ?_ ?_ <;> simp [dgV, numV, dg_may]
theorem nV_bare (n : Nat) : bareV (nV n) = nV n := by rw [bareV_setK]; rfl
theorem dgV_bare (i : Nat) : bareV (dgV i) = dgV i := by rw [bareV_setK]; rfl
theorem dgV_poi (i : Nat) : poiV (dgV i) = false := by rw [poiV_eq]; simp [dgV, numV]
theorem dgV_sz (i : Nat) : Val.sz (dgV i) = 1 := by rw [sz_eq]; simp [dgV, numV]
theorem dgV_dep (i : Nat) : depV (dgV i) = 1 := by rw [depV_eq]; simp [dgV, numV]
theorem tail_head (bl : Bool) (i : Nat) (l : List UInt8) : ∀ b, (tailT bl i l).head? = some b → numl b = false := by
  intro b hb
  cases l with
  | nil => cases bl <;> (simp [tailT, wsT] at hb; subst hb; rfl)
  | cons c l => simp [tailT] at hb; subst hb; rfl
/-- The members are read one behind the other. -/
theorem keys_read (bl : Bool) : ∀ (l : List UInt8) (b : UInt8) (i n : Nat) (ws1 : List UInt8) (st : RS) (a : List (List UInt8) × List Nat), st.left = ws1 ++ ([34, kyB b, 34] ++ (wsT bl ++ 58 :: (wsT bl ++ ([dgB i] ++ tailT bl (i + 1) l)))) → ws1.all isBl = true →
    st.bad = false → st.deep = false → st.big = false → st.nodes + l.length + 1 ≤ 400 → i + l.length + 1 ≤ 200 → l.length + 3 ≤ n →
    ∃ nodes, objR n st 2 (i + 1) a.1 (a.2.map nV) = (⟨[], nodes, false, false, false⟩, (putA i (b :: l) a).1, (putA i (b :: l) a).2.map nV) := by
  intro l
  induction l with
  | nil =>
    intro b i n ws1 st a hl hw hb hd hg hn hi hf
    obtain ⟨n, rfl⟩ : ∃ k, n = k + 1 := ⟨n - 1, by omega⟩
    refine ⟨st.nodes + 1, ?_⟩
    rw [obj_one (v := dgV i) (ws2 := wsT bl) (ws3 := wsT bl) (read_back _ (dgV_may i) (dgV_poi i)) (ky_word b) (by rw [ky_quote, dg_print]; exact hl) hw (bl_ws bl) (bl_ws bl) hb (tail_head bl (i + 1) []) (by rw [dg_print]; simp at hf ⊢; omega)]
    simp only [dgV_sz, dgV_dep, hd, hg]
    rw [sep_end (ws := wsT bl) (rest := []) rfl rfl (bl_ws bl) (by decide) (by simp at hi; omega)]
    simp only [if_true, ← nV_dg, nV_bare, putN_map]
    simp [putA]
    simp at hn; omega
  | cons c l ih =>
    intro b i n ws1 st a hl hw hb hd hg hn hi hf
    obtain ⟨n, rfl⟩ : ∃ k, n = k + 1 := ⟨n - 1, by omega⟩
    rw [obj_one (v := dgV i) (ws2 := wsT bl) (ws3 := wsT bl) (read_back _ (dgV_may i) (dgV_poi i)) (ky_word b) (by rw [ky_quote, dg_print]; exact hl) hw (bl_ws bl) (bl_ws bl) hb (tail_head bl (i + 1) (c :: l)) (by rw [dg_print]; simp at hf ⊢; omega)]
    simp only [dgV_sz, dgV_dep, hd, hg]
    rw [sep_more (ws := []) (rest := wsT bl ++ (memT bl (i + 1) c ++ tailT bl (i + 1 + 1) l)) rfl rfl rfl (by decide) (by simp at hi; omega)]
    simp only [Bool.false_eq_true, if_false, ← nV_dg, nV_bare, putN_map]
    obtain ⟨nodes, h⟩ := ih c (i + 1) n (wsT bl ++ wsT bl) ⟨wsT bl ++ (memT bl (i + 1) c ++ tailT bl (i + 1 + 1) l), st.nodes + 1, false, false, false⟩ (putN a [kyB b] (1 + i % 9)) (by simp [memT]) (by rw [List.all_append, bl_ws]; rfl) rfl rfl rfl (by simp at hn ⊢; omega) (by simp at hi ⊢; omega) (by simp at hf ⊢; omega)
    refine ⟨nodes, ?_⟩
    rw [show decide (12 < 2 + 1 - 1) = false from rfl, show decide (400 < st.nodes + 1) = false by simp at hn ⊢; omega, Bool.false_or]
    exact h
def objV (a : List (List UInt8) × List Nat) : Val := .mk 7 0 dc0 [] a.1 (a.2.map nV) 0
/-- The whole text is read. -/
theorem keys_one (bl : Bool) (l : List UInt8) (hl : l.length ≤ 60) : (oneM (fullT bl l)).1 = objV (putA 0 l ([], [])) ∧ (oneM (fullT bl l)).2.2 = 0 := by
  have he : ∀ t : List UInt8, enterR ⟨[123] ++ t, 0, false, false, false⟩ 1 = ⟨123 :: t, 1, false, false, false⟩ := fun t => by
    rw [enter_at (ws := []) (b := 123) (l := t) 1 rfl rfl (by decide)]; rfl
  cases l with
  | nil =>
    have hv : ∀ n, valR (n + 1) ⟨fullT bl [], 0, false, false, false⟩ 1 = (⟨[], 1, false, false, false⟩, objV ([], [])) := fun n => by
      have hE : enterR ⟨fullT bl [], 0, false, false, false⟩ 1 = ⟨123 :: (wsT bl ++ [125]), 1, false, false, false⟩ := he _
      simp only [valR, hE, pre1]
      rw [if_neg (by decide), if_pos (by decide)]
      simp only [dropR, List.drop_succ_cons, List.drop_zero]
      rw [tk_hit (ws := wsT bl) (rest := []) (w := 125) rfl (bl_ws bl) (by decide)]
      rfl
    unfold oneM
    rw [hv]
    exact ⟨rfl, rfl⟩
  | cons b l =>
    obtain ⟨nodes, h⟩ := keys_read bl l b 0 (2 * (fullT bl (b :: l)).length + 1) [] ⟨34 :: ([kyB b, 34] ++ (wsT bl ++ 58 :: (wsT bl ++ ([dgB 0] ++ tailT bl 1 l)))), 1, false, false, false⟩ ([], []) rfl rfl rfl rfl rfl (by simp at hl ⊢; omega) (by simp at hl ⊢; omega) (by
      have : ∀ (l : List UInt8) (i : Nat), l.length ≤ (tailT bl i l).length := by
        intro l
        induction l with
        | nil => intro i; simp
        | cons c l ih => intro i; have := ih (i + 1); simp [tailT]; omega
      have := this l 1
      simp [fullT, memT]; omega)
    have hv : valR (2 * (fullT bl (b :: l)).length + 1 + 1) ⟨fullT bl (b :: l), 0, false, false, false⟩ 1 = (⟨[], nodes, false, false, false⟩, objV (putA 0 (b :: l) ([], []))) := by
      generalize 2 * (fullT bl (b :: l)).length + 1 = N at *
      have hE : enterR ⟨fullT bl (b :: l), 0, false, false, false⟩ 1 = ⟨123 :: (memT bl 0 b ++ tailT bl 1 l), 1, false, false, false⟩ := he _
      simp only [valR, hE, pre1]
      rw [if_neg (by decide), if_pos (by decide)]
      simp only [dropR, List.drop_succ_cons, List.drop_zero]
      rw [tk_miss (ws := wsT bl) (b := 34) (rest := [kyB b, 34] ++ (wsT bl ++ 58 :: (wsT bl ++ ([dgB 0] ++ tailT bl 1 l)))) (w := 125) (by simp [memT]) (bl_ws bl) (by decide) (by decide)]
      simp only [Bool.false_eq_true, if_false]
      simp only [List.map_nil, Nat.zero_add] at h
      rw [h]
      rfl
    unfold oneM
    rw [show 2 * (fullT bl (b :: l)).length + 2 = 2 * (fullT bl (b :: l)).length + 1 + 1 from rfl, hv]
    exact ⟨rfl, rfl⟩
/-! ### As it is made -/
def sT (bl : Bool) (l : List UInt8) : Nat → List UInt8
  | 0 => [123]
  | k + 1 => sT bl l k ++ ((if 0 < k then [44] ++ wsT bl else []) ++ memT bl k (l.getD k 0))
theorem sT_full (bl : Bool) (l : List UInt8) : ∀ k, k + 1 ≤ l.length → sT bl l (k + 1) ++ tailT bl (k + 1) (l.drop (k + 1)) = fullT bl l
  | 0, h => by
    cases l with
    | nil => simp at h
    | cons b l => simp [sT, fullT]
  | k + 1, h => by
    have ih := sT_full bl l k (by omega)
    have hd : l.drop (k + 1) = l.getD (k + 1) 0 :: l.drop (k + 1 + 1) := by
      rw [List.drop_eq_getElem_cons (by omega)]
      congr 1
      rw [List.getD_eq_getElem?_getD, List.getElem?_eq_getElem (by omega)]; rfl
    rw [hd] at ih
    rw [← ih, sT]
    simp [tailT]
theorem sT_end (bl : Bool) (l : List UInt8) : sT bl l l.length ++ (wsT bl ++ [125]) = fullT bl l := by
  cases h : l.length with
  | zero => rw [List.length_eq_zero_iff.1 h]; simp [sT, fullT]
  | succ k =>
    have := sT_full bl l k (by omega)
    rw [← h, List.drop_length] at this
    rw [← h]; exact this
theorem ws_len (bl : Bool) : (wsT bl).length ≤ 2 := by cases bl <;> simp [wsT]
theorem sT_len (bl : Bool) (l : List UInt8) : ∀ k, (sT bl l k).length ≤ 1 + 20 * k
  | 0 => by simp [sT]
  | k + 1 => by
    have := sT_len bl l k
    have := ws_len bl
    simp only [sT, memT, List.length_append, List.length_cons, List.length_nil]
    split
    · simp only [List.length_append, List.length_cons, List.length_nil]; omega
    · simp only [List.length_nil]; omega
def kN (l : List UInt8) : Nat → List (List UInt8) × List Nat
  | 0 => ([], [])
  | k + 1 => putN (kN l k) [kyB (l.getD k 0)] (1 + k % 9)
theorem kN_eq (l : List UInt8) : ∀ k, k ≤ l.length → putA k (l.drop k) (kN l k) = putA 0 l ([], [])
  | 0, _ => rfl
  | k + 1, h => by
    rw [← kN_eq l k (by omega)]
    have hd : l.drop k = l.getD k 0 :: l.drop (k + 1) := by
      rw [List.drop_eq_getElem_cons (by omega)]
      congr 1
      rw [List.getD_eq_getElem?_getD, List.getElem?_eq_getElem (by omega)]; rfl
    rw [hd]
    rfl
theorem kN_all (l : List UInt8) : kN l l.length = putA 0 l ([], []) := by
  have := kN_eq l l.length (Nat.le_refl _)
  rw [List.drop_length] at this
  exact this
theorem putN_ok {a : List (List UInt8) × List Nat} {key : List UInt8} {x : Nat} (h : a.1.length = a.2.length ∧ a.1.Nodup) : (putN a key x).1.length = (putN a key x).2.length ∧ (putN a key x).1.Nodup ∧ (putN a key x).1.length ≤ a.1.length + 1 := by
  unfold putN
  split
  · exact ⟨by simp [h.1], h.2, by simp⟩
  · rename_i hn
    refine ⟨by simp [h.1], ?_, by simp⟩
    rw [List.nodup_append]
    exact ⟨h.2, by simp, by intro a ha b hb; simp at hb; subst hb; rintro rfl; exact hn ha⟩
theorem kN_ok (l : List UInt8) : ∀ k, (kN l k).1.length = (kN l k).2.length ∧ (kN l k).1.Nodup ∧ (kN l k).1.length ≤ k
  | 0 => ⟨rfl, by simp [kN], by simp [kN]⟩
  | k + 1 => by
    have ih := kN_ok l k
    have := putN_ok (a := kN l k) (key := [kyB (l.getD k 0)]) (x := 1 + k % 9) ⟨ih.1, ih.2.1⟩
    exact ⟨this.1, this.2.1, by have := this.2.2; rw [kN]; omega⟩
theorem kN_small (l : List UInt8) : ∀ k, ∀ x ∈ (kN l k).2, x ≤ 9
  | 0 => by simp [kN]
  | k + 1 => by
    intro x hx
    have ih := kN_small l k
    rw [kN, putN] at hx
    split at hx
    · rcases List.mem_or_eq_of_mem_set hx with h | h
      · exact ih x h
      · omega
    · rcases List.mem_append.1 hx with h | h
      · exact ih x h
      · simp at h; omega
/-- The last one of this key. -/
def atN (ks : List (List UInt8)) (key : List UInt8) : Nat → Int
  | 0 => -1
  | j + 1 => if ks.getD j [] = key then (j : Int) else atN ks key j
theorem atN_no {ks : List (List UInt8)} {key : List UInt8} (h : key ∉ ks) : ∀ j, j ≤ ks.length → atN ks key j = -1
  | 0, _ => rfl
  | j + 1, hj => by
    rw [atN, if_neg, atN_no h j (by omega)]
    rintro rfl
    apply h
    rw [List.getD_eq_getElem?_getD, List.getElem?_eq_getElem (by omega)]
    exact List.getElem_mem _
theorem atN_yes {ks : List (List UInt8)} {key : List UInt8} (h : key ∈ ks) (hn : ks.Nodup) : ∀ j, j ≤ ks.length → atN ks key j = if ks.idxOf key < j then (ks.idxOf key : Int) else -1
  | 0, _ => by simp [atN]
  | j + 1, hj => by
    have hi := List.idxOf_lt_length_of_mem h
    rw [atN, atN_yes h hn j (by omega)]
    have hg : ks.getD j [] = ks[j]'(by omega) := by rw [List.getD_eq_getElem?_getD, List.getElem?_eq_getElem (by omega)]; rfl
    rw [hg]
    by_cases hj2 : ks.idxOf key = j
    · subst hj2
      rw [if_pos (List.getElem_idxOf hi), if_pos (by omega)]
    · rw [if_neg]
      · by_cases h3 : ks.idxOf key < j
        · rw [if_pos h3, if_pos (by omega)]
        · rw [if_neg h3, if_neg (by omega)]
      · intro e
        exact hj2 ((List.getElem_inj hn).1 ((List.getElem_idxOf hi).trans e.symm))
theorem atN_all {ks : List (List UInt8)} (key : List UInt8) (hn : ks.Nodup) : atN ks key ks.length = if key ∈ ks then (ks.idxOf key : Int) else -1 := by
  by_cases h : key ∈ ks
  · rw [atN_yes h hn _ (Nat.le_refl _), if_pos h, if_pos (List.idxOf_lt_length_of_mem h)]
  · rw [atN_no h _ (Nat.le_refl _), if_neg h]
end Go.Proofs.YtdlejiiiifhiiaaDoor
