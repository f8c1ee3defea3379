import Derived.Test.YtdojfdaglbphlaaGreatDoorK2
import Derived.Test.YtdojfdaglbphlaaGreatDoorK3
namespace Go.Proofs.YtdojfdaglbphlaaGreatDoor
open Sy Go
set_option linter.unusedSimpArgs false
set_option linter.unusedVariables false
theorem zIH {P : List Val → Prop} {Q : Item → Prop} (h0 : P []) (hs : ∀ a x, Q x → P a → P (uY a x)) (l : List Item) (hl : ∀ x ∈ l, Q x) : P (qEA l) := by
 have key : ∀ (l : List Item) (a : List Val), (∀ x ∈ l, Q x) → P a → P (l.foldl uY a) := by
  intro l
  induction l with
  | nil => exact fun a _ h => h
  | cons x l ih => exact fun a hq h => ih _ (fun y hy => hq y (by simp [hy])) (hs a x (hq x (by simp)) h)
 exact key _ [] (fun x hx => hl x (List.mem_of_mem_take hx)) h0
theorem qZY {l : List Item} (h : ∀ x ∈ l, InM x.mask) : InV (vK l) := by
 have := zIH (P := fun a => ∀ v ∈ a, InV v) (Q := fun x => InM x.mask) (by simp) (fun a x hx ha v hv => by
  unfold uY at hv
  rcases List.mem_append.1 hv with hv | hv
  ·unfold zN at hv; split at hv
   ·exact ha v (List.mem_of_mem_take hv)
   ·exact ha v hv
  ·simp at hv; rw [hv, qVW]
   exact ⟨hx, fun k hk => ha k (qIN hk)⟩) l h
 unfold vK
 rw [List.getLastD_eq_getLast?]
 cases hx : (qEA l).getLast? with
 | none => show InV qRK; rw [qVW]; exact ⟨by show InM 0; unfold InM; omega, fun k hk => by cases hk⟩
 | some v => exact this v (List.mem_of_getLast? hx)
theorem zLL (a : List Val) (x : Item) : Val.szL (uY a x) = Val.szL a + 1 := by
 have h1 : Val.szL (zN a x) + Val.szL (zF a x) = Val.szL a := by
  unfold zN zF
  split
  ·rw [← qMP, List.take_append_drop]
  ·simp
 have h2 : Val.sz (wI a x) = 1 + Val.szL (zF a x) := zDJ _
 unfold uY
 rw [qMP, zNX, h2]; omega
theorem zIL (l : List Item) : Val.szL (qEA l) ≤ 80 := by
 have : ∀ (l : List Item) (a : List Val), Val.szL (l.foldl uY a) = Val.szL a + l.length := by
  intro l
  induction l with
  | nil => intro a; rfl
  | cons x l ih => intro a; rw [List.foldl_cons, ih, zLL, List.length_cons]; omega
 unfold qEA
 rw [this, zNY, List.length_take]; omega
theorem qZX (l : List Item) : Val.sz (vK l) ≤ 80 := by
 unfold vK
 rw [List.getLastD_eq_getLast?]
 cases hx : (qEA l).getLast? with
 | none => show Val.sz qRK ≤ 80; decide +kernel
 | some v => exact Nat.le_trans (Val.szL_mem (List.mem_of_getLast? hx)) (zIL l)
end Go.Proofs.YtdojfdaglbphlaaGreatDoor
