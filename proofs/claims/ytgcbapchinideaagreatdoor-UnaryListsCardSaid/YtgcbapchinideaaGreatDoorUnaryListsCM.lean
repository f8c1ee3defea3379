/- For any row of items that is handed in, the law UnaryLists of chapter 13 returns true, and what was handed in reads as it did. No condition. -/
import Derived.Test.YtgcbapchinideaaGreatDoorSListsW
import Derived.Test.YtgcbapchinideaaGreatDoorSItemIn2
import Derived.Test.YtgcbapchinideaaGreatDoorM4
import Derived.Test.YtgcbapchinideaaGreatDoorCards
import Derived.Test.YtgcbapchinideaaGreatDoorTie
import Derived.SevenTiedAt
namespace Go.Proofs.YtgcbapchinideaaGreatDoor
open Sy Go Go.ChangeShapes Go.WideShapes Go.ChangeAt Go.RowKit
set_option linter.unusedVariables false
abbrev kB : qK := fun _ => none
theorem qDH (W : World) (_ : laidMetH Tryz.prog Rows.unaryListsRow.laid W) : GOK kB (qEJ W) W := ⟨fun n cs h => (by cases h), fun n cs h => (by cases h)⟩
theorem qJF (pds : List PD) (h : ShL T 5 Tryz.f5.params.toList pds) : AFn Tryz.prog kB 5 pds (.bool true) := by
  rw [Tryz.params5] at h
  obtain ⟨d0, _, rfl, ⟨c0, k0, t0, rfl, h0⟩, rfl⟩ := h
  obtain ⟨l, rfl, hl⟩ := qXD h0
  simp at t0
  subst t0
  have := qKU (G := kB) l (fun x hx => (hl x hx).1) (fun x hx => (hl x hx).2)
  simpa [uQ] using this
theorem qHZ : ownKnob Tryz.prog.godebug = none := by kernel_rfl
set_option maxRecDepth 100000 in
theorem qDR (os : Os) (started : os.Started) (H : Type) (enc : TypeId × Value → H) :
    ReturnsInHanded {} Tryz.checked os 5 .any (fun w args => (Rows.unaryListsSpec.pre enc Tryz.prog Tryz.f5 [] false w args ∧ laidMetH Tryz.prog Rows.unaryListsRow.laid w) ∧ sizedMet enc Tryz.prog Tryz.f5 (OpenSpec.ofChange Rows.unaryListsSpec) false w args)
      (Rows.unaryListsSpec.post enc Tryz.prog Tryz.f5 false true false false) := by
  refine returnsInHanded_of_change_and (C := Tryz.checked) (X := fun w _ => laidMetH Tryz.prog Rows.unaryListsRow.laid w) (fun _ _ _ hh h => h.of_heap hh) qHZ started (by kernel_rfl) Tryz.func5
    (ChangeSpec.witness_shaped (enc := enc) (C := Tryz.checked) (os := os) (X := fun w _ => laidMetH Tryz.prog Rows.unaryListsRow.laid w) false (World.laidAll Tryz.prog os Rows.unaryListsRow.laid) #[.slice none 0 0] 8 (World.laidAll_os _ _ _)
      (World.shaped_of_ZipB (by kernel_rfl) (by kernel_rfl)) (by kernel_rfl) (by kernel_rfl) (by kernel_rfl)
      (by rw [MakeChecks.laidMetH_plain _ _ _ (by kernel_rfl)]; exact laidMet_laidAll _ (by kernel_rfl) (by kernel_rfl))) ?_
  intro W base args ds gs before hval0 hW _ hS hL _
  exact qZT (n := 5) (tb := 4) (G := kB) tok hval0 hW (by kernel_rfl) (by kernel_rfl) (by kernel_rfl) rfl (fun ds h => by
    match ds, h with
    | [d1], _ => rfl) rfl (by kernel_rfl) (qDH W hL) hS qJF
set_option maxHeartbeats 4000000 in
theorem qHY : Rows.UnaryListsSaid :=
  OpenClaim.holds_of_wide 5 Tryz.f5 rfl rfl rfl rfl rfl rfl rfl ⟨rfl, rfl, rfl, rfl, rfl⟩ rfl rfl rfl rfl rfl (by as_aux_lemma => kernel_rfl) Tryz.func5 (by
    unfold joinedFacts
    simp only [Bool.and_eq_true]
    (repeat' apply And.intro) <;> as_aux_lemma => kernel_rfl)
    (of_decide_eq_true (by kernel_rfl)) (by unfold Func.isWrapper; first | (rw [if_pos (by decide +kernel)]; kernel_rfl) | (rw [if_neg (by decide +kernel)]; exact ⟨rfl, rfl⟩))
    (fun os started H enc _ => qDR os started H enc)
set_option maxHeartbeats 4000000 in
theorem unaryLists_holds : Rows.UnaryListsCardSaid :=
  Claim7.holds_tied_plain_at .later [] Rows.unaryListsCard.laidKinds true Rows.unaryListsCard.stood.harness Rows.unaryListsCard.stood.looks qHY (fun _ h => by cases h) (by as_aux_lemma => kernel_rfl) (fun _ h => by cases h) unaryLists_row_tie rfl ⟨rfl, rfl⟩ (by as_aux_lemma => kernel_rfl) rfl
    (fun f fn hf hfn => by
      obtain rfl : f = 5 := Option.some.inj ((show Tryz.prog.funcNamed Rows.unaryListsRow.func = some 5 by kernel_rfl).symm.trans hf) |>.symm
      obtain rfl : fn = Tryz.f5 := (Option.some.inj (Tryz.func5.symm.trans hfn)).symm
      exact ⟨by kernel_rfl, fun j t ht => by
        have hm : t ∈ Tryz.f5.params.toList := by simpa using Array.mem_of_getElem? ht
        have hall : (Tryz.f5.params.toList.all fun u => !Tryz.prog.wantsStandIn u) = true := by kernel_rfl
        exact (show Tryz.prog.wantsStandIn t = false by simpa using List.all_eq_true.1 hall t hm)⟩)
    (by as_aux_lemma => kernel_rfl)
#print axioms unaryLists_holds
end Go.Proofs.YtgcbapchinideaaGreatDoor

