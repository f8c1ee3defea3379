import Derived.Test.YtdojfdaglbphlaaGreatDoorK2
namespace Go.Proofs.YtdojfdaglbphlaaGreatDoor
open Sy Go
set_option linter.unusedSimpArgs false
set_option linter.unusedVariables false
theorem putM_pre (ks : List (List UInt8)) (vs : List Val) (key : List UInt8) (v : Val) : ∃ t, (putM ks vs key v).1 = ks ++ t := by
 unfold putM; split
 ·exact ⟨[], by simp⟩
 ·exact ⟨[key], rfl⟩
theorem putM_self {ks : List (List UInt8)} {vs : List Val} (h : ks.length = vs.length) (key : List UInt8) (v z : Val) :
  key ∈ (putM ks vs key v).1 ∧ (putM ks vs key v).2.getD ((putM ks vs key v).1.idxOf key) z = v := by
 unfold putM; split
 ·rename_i hin
  have := List.idxOf_lt_length_of_mem hin
  refine ⟨hin, ?_⟩
  simp only [List.getD_eq_getElem?_getD]
  rw [List.getElem?_set_self (by omega)]; rfl
 ·rename_i hno
  refine ⟨by simp, ?_⟩
  simp only [List.getD_eq_getElem?_getD]
  rw [List.idxOf_append, if_neg hno]
  simp [h]
theorem putM_other {ks : List (List UInt8)} {vs : List Val} (h : ks.length = vs.length) {key x : List UInt8} (v z : Val) (hx : x ∈ ks) (hne : x ≠ key) :
  x ∈ (putM ks vs key v).1 ∧ (putM ks vs key v).2.getD ((putM ks vs key v).1.idxOf x) z = vs.getD (ks.idxOf x) z := by
 have hxl := List.idxOf_lt_length_of_mem hx
 unfold putM; split
 ·rename_i hin
  refine ⟨hx, ?_⟩
  simp only [List.getD_eq_getElem?_getD]
  rw [List.getElem?_set_ne]
  intro e
  have hkl := List.idxOf_lt_length_of_mem hin
  have e1 : ks[ks.idxOf key] = key := List.getElem_idxOf hkl
  have e2 : ks[ks.idxOf x] = x := List.getElem_idxOf hxl
  simp only [e] at e1
  exact hne (e2.symm.trans e1)
 ·refine ⟨by simp [hx], ?_⟩
  simp only [List.getD_eq_getElem?_getD]
  rw [List.idxOf_append, if_pos hx, List.getElem?_append_left (by omega)]
theorem mergeG_pre (b : Val) (ks : List (List UInt8)) (vs : List Val) : ∀ k, ∃ t, (mergeG b k ks vs).1 = ks ++ t
 | 0 => ⟨[], by simp [mergeG]⟩
 | k + 1 => by
  obtain ⟨t, ht⟩ := mergeG_pre b ks vs k
  obtain ⟨u, hu⟩ := putM_pre (mergeG b k ks vs).1 (mergeG b k ks vs).2 (b.keys.getD k []) (b.kids.getD k zeroV)
  exact ⟨t ++ u, by simp only [mergeG]; rw [hu, ht, List.append_assoc]⟩
theorem mergeG_get {b : Val} (hn : b.keys.Nodup) (z : Val) {ks : List (List UInt8)} {vs : List Val} (h : ks.length = vs.length) : ∀ k, k ≤ b.keys.length → ∀ i, i < k →
  b.keys.getD i [] ∈ (mergeG b k ks vs).1 ∧ (mergeG b k ks vs).2.getD ((mergeG b k ks vs).1.idxOf (b.keys.getD i [])) z = b.kids.getD i zeroV
 | 0, _, i, hi => by omega
 | k + 1, hk, i, hi => by
  have hl := (mergeG_len b k h).1
  simp only [mergeG]
  by_cases e : i = k
  ·subst e
   exact putM_self hl _ _ _
  ·obtain ⟨h1, h2⟩ := mergeG_get hn z h k (by omega) i (by omega)
   have hne : b.keys.getD i [] ≠ b.keys.getD k [] := by
    rw [List.getD_eq_getElem?_getD, List.getD_eq_getElem?_getD, List.getElem?_eq_getElem (by omega), List.getElem?_eq_getElem (by omega)]
    simp only [Option.getD_some]
    exact (List.pairwise_iff_getElem.1 hn) i k (by omega) (by omega) (by omega)
   obtain ⟨h3, h4⟩ := putM_other hl (b.kids.getD k zeroV) z h1 hne
   exact ⟨h3, h4.trans h2⟩
theorem mergeG_self {a : Val} (hn : a.keys.Nodup) (hl : a.keys.length = a.kids.length) : ∀ k, k ≤ a.keys.length → mergeG a k a.keys a.kids = (a.keys, a.kids)
 | 0, _ => rfl
 | k + 1, hk => by
  simp only [mergeG]
  rw [mergeG_self hn hl k (by omega)]
  have hkl : k < a.keys.length := by omega
  have e1 : a.keys.getD k [] = a.keys[k] := by rw [List.getD_eq_getElem?_getD, List.getElem?_eq_getElem hkl]; rfl
  have e2 : a.kids.getD k zeroV = a.kids[k]'(by omega) := by rw [List.getD_eq_getElem?_getD, List.getElem?_eq_getElem (by omega)]; rfl
  rw [e1, e2]
  simp only [putM]
  rw [if_pos (List.getElem_mem hkl), List.Nodup.idxOf_getElem hn]
  simp
theorem merge_get {a b : Val} (ha : a.keys.length = a.kids.length) (hn : b.keys.Nodup) (m : Int) (h7 : a.kind = 7) {i : Nat} (hi : i < b.keys.length) :
  getV (mergeV a b m) (b.keys.getD i []) = (withV (b.kids.getD i zeroV) m, true) := by
 obtain ⟨h1, h2⟩ := mergeG_get hn nullV ha b.keys.length (Nat.le_refl _) i hi
 unfold getV kidOf
 show (if a.kind = 7 ∧ b.keys.getD i [] ∈ (mergeG b b.keys.length a.keys a.kids).1 then _ else _) = _
 rw [if_pos ⟨h7, h1⟩]
 show (withV ((mergeG b b.keys.length a.keys a.kids).2.getD ((mergeG b b.keys.length a.keys a.kids).1.idxOf (b.keys.getD i [])) nullV) m, true) = _
 rw [h2]
theorem merge_old {a b : Val} (m : Int) (h7 : a.kind = 7) {i : Nat} (hi : i < a.keys.length) :
  (getV (mergeV a b m) (a.keys.getD i [])).2 = true ∧ (mergeV a b m).keys[i]? = some (a.keys.getD i []) := by
 obtain ⟨t, ht⟩ := mergeG_pre b a.keys a.kids b.keys.length
 have hg : a.keys[i]? = some (a.keys.getD i []) := by rw [List.getD_eq_getElem?_getD, List.getElem?_eq_getElem hi]; rfl
 have hk : (mergeV a b m).keys = a.keys ++ t := ht
 refine ⟨?_, by rw [hk, List.getElem?_append_left hi, hg]⟩
 unfold getV
 rw [if_pos ⟨h7, by rw [hk]; exact List.mem_append_left _ (List.mem_of_getElem? hg)⟩]
theorem merge_self {a : Val} (hn : a.keys.Nodup) (hl : a.keys.length = a.kids.length) (hm : InM a.mask) : mergeV a a (orM a.mask a.mask) = a := by
 unfold mergeV
 rw [mergeG_self hn hl _ (Nat.le_refl _), or_self hm]
 cases a; rfl
theorem merge_len {a b : Val} (ha : a.keys.length = a.kids.length) (m : Int) : (mergeV a b m).keys.length = (mergeV a b m).kids.length ∧ (mergeV a b m).kids.length ≤ a.kids.length + b.keys.length :=
 mergeG_len b b.keys.length ha
end Go.Proofs.YtdojfdaglbphlaaGreatDoor
