import Derived.Test.YtdploelkmlbhnaaDoorTab
namespace Go.Proofs.YtdploelkmlbhnaaDoor
open Sy Go
/-- A row of truths. -/
def rowP (n : Nat) (F : Nat → Bool) : List PD := (List.range n).map fun i => .bool (F i)
@[simp] theorem rowP_len (n : Nat) (F : Nat → Bool) : (rowP n F).length = n := by simp [rowP]
@[simp] theorem rowP_getElem {n i : Nat} {F : Nat → Bool} (h : i < (rowP n F).length) : (rowP n F)[i] = .bool (F i) := by simp [rowP]
theorem rowP_get {n i : Nat} {F : Nat → Bool} (h : i < n) : (rowP n F)[i]? = some (.bool (F i)) := by simp [rowP, h]
@[simp] theorem rowP_set (n i : Nat) (F : Nat → Bool) (b : Bool) : (rowP n F).set i (.bool b) = rowP n fun k => if k = i then b else F k := by
  apply List.ext_getElem?
  intro k
  simp only [rowP, List.getElem?_set, List.getElem?_map, List.length_map, List.length_range]
  by_cases h : i = k
  · subst h
    by_cases h2 : i < n
    · simp [h2]
    · simp [h2]
  · simp only [h, if_false]
    by_cases h2 : k < n
    · simp [h2, Ne.symm h]
    · simp [h2]
theorem rowP_congr {n : Nat} {F F' : Nat → Bool} (h : ∀ i, i < n → F i = F' i) : rowP n F = rowP n F' := by
  simp only [rowP]
  exact List.map_congr_left fun i hi => by rw [h i (by simpa using hi)]
theorem rep_row (n : Nat) : List.replicate n (PD.bool false) = rowP n fun _ => false := by
  apply List.ext_getElem?
  intro i
  by_cases h : i < n
  · rw [rowP_get h]; simp [h]
  · rw [List.getElem?_eq_none (by simp; omega), List.getElem?_eq_none (by simp; omega)]
theorem reps_row (n : Nat) : reps n (PD.bool false) = rowP n fun _ => false := rep_row n
@[simp] theorem rowP_take (n : Nat) (F : Nat → Bool) : (rowP n F).take n = rowP n F := List.take_of_length_le (by simp)
@[simp] theorem rowP_drop (n : Nat) (F : Nat → Bool) : (rowP n F).drop n = [] := List.drop_eq_nil_of_le (by simp)
@[simp] theorem reps_drop (n : Nat) (d : PD) : (reps n d).drop n = [] := List.drop_eq_nil_of_le (by simp)
@[simp] theorem reps_take (n : Nat) (d : PD) : (reps n d).take n = reps n d := List.take_of_length_le (by simp)
end Go.Proofs.YtdploelkmlbhnaaDoor
