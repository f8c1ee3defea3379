import Derived.Test.YtgoepemmcibdaaaGreatDoorSTreeLaw
/-
  PLAIN LAWS: kids found by place and by key.
-/
namespace Go.Proofs.YtgoepemmcibdaaaGreatDoor
open Sy Go
set_option linter.unusedSimpArgs false
set_option linter.unusedVariables false
theorem at_in {v x : Val} {i : Int} (h6 : v.kind = 6) (h0 : 0 ≤ i) (hx : v.kids[i.toNat]? = some x) : atV v i = (withV x v.mask, true) ∧ atV v (i - v.kids.length) = (withV x v.mask, true) := by
  have hl := (List.getElem?_eq_some_iff.1 hx).1
  have e1 : atI v i = i := by unfold atI; rw [if_neg (by omega)]
  have e2 : atI v (i - v.kids.length) = i := by unfold atI; rw [if_pos (by omega)]; omega
  unfold atV
  rw [e1, e2, if_pos ⟨h6, h0, by omega⟩, List.getD_eq_getElem?_getD, hx]
  exact ⟨rfl, rfl⟩
theorem at_no {v : Val} {i : Int} (h : v.kind ≠ 6 ∨ atI v i < 0 ∨ (v.kids.length : Int) ≤ atI v i) : atV v i = (zeroV, false) := by
  unfold atV; rw [if_neg (by omega)]
theorem at_over (v : Val) : atV v v.kids.length = (zeroV, false) := at_no (.inr (.inr (by unfold atI; rw [if_neg (by omega)]; omega)))
theorem at_under (v : Val) : atV v (-v.kids.length - 1) = (zeroV, false) := at_no (.inr (.inl (by unfold atI; rw [if_pos (by omega)]; omega)))
theorem get_in {v x : Val} {s : List UInt8} {k : Nat} (hv : mayT v = true) (h7 : v.kind = 7) (hx : v.kids[k]? = some x) (hs : v.keys[k]? = some s) : getV v s = (withV x v.mask, true) := by
  obtain ⟨h1, h2, h3⟩ := may_obj hv h7
  obtain ⟨hl, he⟩ := List.getElem?_eq_some_iff.1 hs
  have hi : v.keys.idxOf s = k := by rw [← he]; exact List.Nodup.idxOf_getElem h3 k hl
  have hk : kidOf v s = x := by unfold kidOf; rw [hi, List.getD_eq_getElem?_getD, hx]; rfl
  unfold getV
  rw [if_pos ⟨h7, List.mem_of_getElem? hs⟩, hk]
theorem deep_kid_le {v k : Val} (hk : k ∈ v.kids) (hv : InV v) : LeM (deepV (withV k v.mask)) (deepV v) := by
  rw [deep_with]
  exact LeM.or (by rw [deepV_eq v]; exact deepL_mem _ hk) (mask_le v hv)
end Go.Proofs.YtgoepemmcibdaaaGreatDoor
