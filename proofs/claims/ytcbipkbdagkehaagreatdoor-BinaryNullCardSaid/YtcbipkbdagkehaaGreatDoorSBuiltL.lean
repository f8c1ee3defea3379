import Derived.Test.YtcbipkbdagkehaaGreatDoorK1
import Derived.Test.YtcbipkbdagkehaaGreatDoorK2
namespace Go.Proofs.YtcbipkbdagkehaaGreatDoor
open Sy Go
set_option linter.unusedSimpArgs false
set_option linter.unusedVariables false
theorem item_szL (a : List Val) (x : Item) : Val.szL (itemM a x) = Val.szL a + 1 := by
 have h1 : Val.szL (itemRest a x) + Val.szL (itemKids a x) = Val.szL a := by
  unfold itemRest itemKids
  split
  ·rw [← szL_append, List.take_append_drop]
  ·simp
 have h2 : Val.sz (itemV a x) = 1 + Val.szL (itemKids a x) := sz_eq _
 unfold itemM
 rw [szL_append, szL_one, h2]; omega
theorem alone_szL (l : List Item) : Val.szL (aloneM l) ≤ 80 := by
 have : ∀ (l : List Item) (a : List Val), Val.szL (l.foldl itemM a) = Val.szL a + l.length := by
  intro l
  induction l with
  | nil => intro a; rfl
  | cons x l ih => intro a; rw [List.foldl_cons, ih, item_szL, List.length_cons]; omega
 unfold aloneM
 rw [this, szL_nil, List.length_take]; omega
theorem built_sz (l : List Item) : Val.sz (builtM l) ≤ 80 := by
 unfold builtM
 rw [List.getLastD_eq_getLast?]
 cases hx : (aloneM l).getLast? with
 | none => show Val.sz nullV ≤ 80; decide +kernel
 | some v => exact Nat.le_trans (Val.szL_mem (List.mem_of_getLast? hx)) (alone_szL l)
end Go.Proofs.YtcbipkbdagkehaaGreatDoor
