import Derived.Test.YtlmedakhioiahaaGreatDoorK2
import Derived.Test.YtlmedakhioiahaaGreatDoorK1
namespace Go.Proofs.YtlmedakhioiahaaGreatDoor
open Sy Go
set_option linter.unusedSimpArgs false
set_option linter.unusedVariables false
set_option maxRecDepth 100000
theorem qLS {v : Val} (h1 : 1 ≤ v.kind ∧ v.kind ≤ 8 ∧ v.kids.length ≤ 200) (h2 : v.kind = 8 ↔ v.code ≠ 0) (h3 : v.kind = 4 → wH v.num = true) (h3' : v.kind ≠ 4 → v.num = dc0)
  (h4:v.kind=5→xE v.text=true) (h4':v.kind≠5→v.text=[]) (h5:v.kind=7→v.keys.length=v.kids.length∧kY v.keys=true) (h5':v.kind≠7→v.keys=[]) (h6:v.kids=[]∨v.kind=6∨v.kind=7)
  (h7:∀ k∈v.kids,wC k=true):wC v=true:=by
 rw [qGF]
 simp only [Bool.and_eq_true,vN]
 refine ⟨⟨by simp [vF]; omega,⟨⟨⟨⟨?_, ?_⟩, ?_⟩, ?_⟩, ?_⟩⟩,List.all_eq_true.2 h7⟩
 ·unfold qCY
  by_cases h:v.kind=8
  ·simp [h,h2.1 h]
  ·have : v.code = 0 := by by_cases hc : v.code = 0; · exact hc
                           ·exact (h (h2.2 hc)).elim
   simp [h,this]
 ·unfold qJL
  by_cases h:v.kind=4
  ·rw [if_pos h]; exact h3 h
  rw [if_neg h,h3' h]; simp [dc0]
 ·unfold qEC
  by_cases h:v.kind=5
  ·rw [if_pos h]; exact h4 h
  rw [if_neg h,h4' h]; simp
 ·unfold qHK
  by_cases h:v.kind=7
  ·rw [if_pos h,(h5 h).1,(h5 h).2]; simp
  rw [if_neg h,h5' h]; simp
 unfold qOM
 rcases h6 with h | h | h <;> simp [h]
end Go.Proofs.YtlmedakhioiahaaGreatDoor
