/- For any two rows of items that are handed in, the law BinaryLists of chapter 14 returns true, and what was handed in reads as it did. No condition. -/
import Derived.Test.YtdojfdaglbphlaaGreatDoorSLists
import Derived.Test.YtdojfdaglbphlaaGreatDoorSItemIn2
import Derived.Test.YtdojfdaglbphlaaGreatDoorM4
import Derived.Test.YtdojfdaglbphlaaGreatDoorCards
import Derived.Test.YtdojfdaglbphlaaGreatDoorTie
import Derived.SevenTiedAt
namespace Go.Proofs.YtdojfdaglbphlaaGreatDoor
open Sy Go Go.ChangeShapes Go.WideShapes Go.ChangeAt Go.RowKit
set_option linter.unusedVariables false
abbrev kX : qQ := fun _ => none
theorem qGG (W : World) (_ : laidMetH Tryz.prog Rows.binaryListsRow.laid W) : GOK kX (qIH W) W := ⟨fun n cs h => (by cases h), fun n cs h => (by cases h)⟩
theorem qLN (pds : List PD) (h : ShL T 5 Tryz.f8.params.toList pds) : AFn Tryz.prog kX 8 pds (.bool true) := by
  rw [Tryz.params8] at h
  obtain ⟨d0, _, rfl, ⟨c0, k0, t0, rfl, h0⟩, d1, _, rfl, ⟨c1, k1, t1, rfl, h1⟩, rfl⟩ := h
  obtain ⟨l, rfl, hl⟩ := qSI h0
  obtain ⟨m, rfl, hm⟩ := qSI h1
  simp at t0 t1
  subst t0; subst t1
  have := qPO (G := kX) l m (fun x hx => (hl x hx).1) (fun x hx => (hm x hx).1) (fun x hx => (hl x hx).2) (fun x hx => (hm x hx).2)
  simpa [qCM] using this
theorem qLQ : ownKnob Tryz.prog.godebug = none := by kernel_rfl
set_option maxRecDepth 100000 in
theorem qHK (os : Os) (started : os.Started) (H : Type) (enc : TypeId × Value → H) :
    ReturnsInHanded {} Tryz.checked os 8 .any (fun w args => (Rows.binaryListsSpec.pre enc Tryz.prog Tryz.f8 [] false w args ∧ laidMetH Tryz.prog Rows.binaryListsRow.laid w) ∧ sizedMet enc Tryz.prog Tryz.f8 (OpenSpec.ofChange Rows.binaryListsSpec) false w args)
      (Rows.binaryListsSpec.post enc Tryz.prog Tryz.f8 false true false false) := by
  refine returnsInHanded_of_change_and (C := Tryz.checked) (X := fun w _ => laidMetH Tryz.prog Rows.binaryListsRow.laid w) (fun _ _ _ hh h => h.of_heap hh) qLQ started (by kernel_rfl) Tryz.func8
    (ChangeSpec.witness_shaped (enc := enc) (C := Tryz.checked) (os := os) (X := fun w _ => laidMetH Tryz.prog Rows.binaryListsRow.laid w) false (World.laidAll Tryz.prog os Rows.binaryListsRow.laid) #[.slice none 0 0, .slice none 0 0] 8 (World.laidAll_os _ _ _)
      (World.shaped_of_ZipB (by kernel_rfl) (by kernel_rfl)) (by kernel_rfl) (by kernel_rfl) (by kernel_rfl)
      (by rw [MakeChecks.laidMetH_plain _ _ _ (by kernel_rfl)]; exact laidMet_laidAll _ (by kernel_rfl) (by kernel_rfl))) ?_
  intro W base args ds gs before hval0 hW _ hS hL _
  exact zLF (n := 5) (tb := 4) (G := kX) tok hval0 hW (by kernel_rfl) (by kernel_rfl) (by kernel_rfl) rfl (fun ds h => by
    match ds, h with
    | [d1, d2], _ => rfl) rfl (by kernel_rfl) (qGG W hL) hS qLN
set_option maxHeartbeats 4000000 in
theorem qLP : Rows.BinaryListsSaid :=
  OpenClaim.holds_of_wide 8 Tryz.f8 rfl rfl rfl rfl rfl rfl rfl ⟨rfl, rfl, rfl, rfl, rfl⟩ rfl rfl rfl rfl rfl (by as_aux_lemma => kernel_rfl) Tryz.func8 (by
    unfold joinedFacts
    simp only [Bool.and_eq_true]
    (repeat' apply And.intro) <;> as_aux_lemma => kernel_rfl)
    (of_decide_eq_true (by kernel_rfl)) (by unfold Func.isWrapper; first | (rw [if_pos (by decide +kernel)]; kernel_rfl) | (rw [if_neg (by decide +kernel)]; exact ⟨rfl, rfl⟩))
    (fun os started H enc _ => qHK os started H enc)
set_option maxHeartbeats 4000000 in
theorem binaryLists_holds : Rows.BinaryListsCardSaid :=
  Claim7.holds_tied_plain_at .later [] Rows.binaryListsCard.laidKinds true Rows.binaryListsCard.stood.harness Rows.binaryListsCard.stood.looks qLP (fun _ h => by cases h) (by as_aux_lemma => kernel_rfl) (fun _ h => by cases h) binaryLists_row_tie rfl ⟨rfl, rfl⟩ (by as_aux_lemma => kernel_rfl) rfl
    (fun f fn hf hfn => by
      obtain rfl : f = 8 := Option.some.inj ((show Tryz.prog.funcNamed Rows.binaryListsRow.func = some 8 by kernel_rfl).symm.trans hf) |>.symm
      obtain rfl : fn = Tryz.f8 := (Option.some.inj (Tryz.func8.symm.trans hfn)).symm
      exact ⟨by kernel_rfl, fun j t ht => by
        have hm : t ∈ Tryz.f8.params.toList := by simpa using Array.mem_of_getElem? ht
        have hall : (Tryz.f8.params.toList.all fun u => !Tryz.prog.wantsStandIn u) = true := by kernel_rfl
        exact (show Tryz.prog.wantsStandIn t = false by simpa using List.all_eq_true.1 hall t hm)⟩)
    (by as_aux_lemma => kernel_rfl)
#print axioms binaryLists_holds
end Go.Proofs.YtdojfdaglbphlaaGreatDoor
