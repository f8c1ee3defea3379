import Derived.Test.YtdojfdaglbphlaaGreatDoorK1
import Derived.Test.YtdojfdaglbphlaaGreatDoorK2
namespace Go.Proofs.YtdojfdaglbphlaaGreatDoor
open Sy Go
set_option linter.unusedSimpArgs false
set_option linter.unusedVariables false
theorem built_key {P : List Val → Prop} {Q : Item → Prop} (h0 : P []) (hs : ∀ a x, Q x → P a → P (itemM a x)) (l : List Item) (hl : ∀ x ∈ l, Q x) : P (aloneM l) := by
 have key : ∀ (l : List Item) (a : List Val), (∀ x ∈ l, Q x) → P a → P (l.foldl itemM a) := by
  intro l
  induction l with
  | nil => exact fun a _ h => h
  | cons x l ih => exact fun a hq h => ih _ (fun y hy => hq y (by simp [hy])) (hs a x (hq x (by simp)) h)
 exact key _ [] (fun x hx => hl x (List.mem_of_mem_take hx)) h0
theorem built_in {l : List Item} (h : ∀ x ∈ l, InM x.mask) : InV (builtM l) := by
 have := built_key (P := fun a => ∀ v ∈ a, InV v) (Q := fun x => InM x.mask) (by simp) (fun a x hx ha v hv => by
  unfold itemM at hv
  rcases List.mem_append.1 hv with hv | hv
  ·unfold itemRest at hv; split at hv
   ·exact ha v (List.mem_of_mem_take hv)
   ·exact ha v hv
  ·simp at hv; rw [hv, InV_iff]
   exact ⟨hx, fun k hk => ha k (itemKids_mem hk)⟩) l h
 unfold builtM
 rw [List.getLastD_eq_getLast?]
 cases hx : (aloneM l).getLast? with
 | none => show InV nullV; rw [InV_iff]; exact ⟨by show InM 0; unfold InM; omega, fun k hk => by cases hk⟩
 | some v => exact this v (List.mem_of_getLast? hx)
theorem item_szL (a : List Val) (x : Item) : Val.szL (itemM a x) = Val.szL a + 1 := by
 have h1 : Val.szL (itemRest a x) + Val.szL (itemKids a x) = Val.szL a := by
  unfold itemRest itemKids
  split
  ·rw [← szL_append, List.take_append_drop]
  ·simp
 have h2 : Val.sz (itemV a x) = 1 + Val.szL (itemKids a x) := sz_eq _
 unfold itemM
 rw [szL_append, szL_one, h2]; omega
theorem alone_szL (l : List Item) : Val.szL (aloneM l) ≤ 80 := by
 have : ∀ (l : List Item) (a : List Val), Val.szL (l.foldl itemM a) = Val.szL a + l.length := by
  intro l
  induction l with
  | nil => intro a; rfl
  | cons x l ih => intro a; rw [List.foldl_cons, ih, item_szL, List.length_cons]; omega
 unfold aloneM
 rw [this, szL_nil, List.length_take]; omega
theorem built_sz (l : List Item) : Val.sz (builtM l) ≤ 80 := by
 unfold builtM
 rw [List.getLastD_eq_getLast?]
 cases hx : (aloneM l).getLast? with
 | none => show Val.sz nullV ≤ 80; decide +kernel
 | some v => exact Nat.le_trans (Val.szL_mem (List.mem_of_getLast? hx)) (alone_szL l)
end Go.Proofs.YtdojfdaglbphlaaGreatDoor
