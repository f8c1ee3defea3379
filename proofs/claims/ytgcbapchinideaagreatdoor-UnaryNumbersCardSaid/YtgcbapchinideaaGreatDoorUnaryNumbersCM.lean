/- For any two decimals that are handed in, the law UnaryNumbers of chapter 13 returns true, and what was handed in reads as it did. No condition. -/
import Derived.Test.YtgcbapchinideaaGreatDoorSNumbersU
import Derived.Test.YtgcbapchinideaaGreatDoorSTextIn
import Derived.Test.YtgcbapchinideaaGreatDoorM4
import Derived.Test.YtgcbapchinideaaGreatDoorCards
import Derived.Test.YtgcbapchinideaaGreatDoorTie
import Derived.SevenTiedAt
namespace Go.Proofs.YtgcbapchinideaaGreatDoor
open Sy Go Go.ChangeShapes Go.WideShapes Go.ChangeAt Go.RowKit
set_option linter.unusedVariables false
abbrev wT : qM := fun _ => none
theorem uP (W : World) (_ : laidMetH Tryz.prog Rows.unaryNumbersRow.laid W) : GOK wT (qCE W) W := ⟨fun n cs h => (by cases h), fun n cs h => (by cases h)⟩
theorem qDG (pds : List PD) (h : ShL T 4 Tryz.f7.params.toList pds) : AFn Tryz.prog wT 7 pds (.bool true) := by
  rw [Tryz.params7] at h
  obtain ⟨d0, _, rfl, ⟨c0, k0, t0, rfl, h0⟩, d1, _, rfl, ⟨c1, k1, t1, rfl, h1⟩, rfl⟩ := h
  obtain ⟨a, ha⟩ := qVS h0
  obtain ⟨b, hb⟩ := qVS h1
  simp at t0 t1
  subst t0; subst t1
  have := qEW (G := wT) a b
  rw [← ha, ← hb] at this
  simpa [vA] using this
theorem qCW : ownKnob Tryz.prog.godebug = none := by kernel_rfl
set_option maxRecDepth 100000 in
theorem qAS (os : Os) (started : os.Started) (H : Type) (enc : TypeId × Value → H) :
    ReturnsInHanded {} Tryz.checked os 7 .any (fun w args => (Rows.unaryNumbersSpec.pre enc Tryz.prog Tryz.f7 [] false w args ∧ laidMetH Tryz.prog Rows.unaryNumbersRow.laid w) ∧ sizedMet enc Tryz.prog Tryz.f7 (OpenSpec.ofChange Rows.unaryNumbersSpec) false w args)
      (Rows.unaryNumbersSpec.post enc Tryz.prog Tryz.f7 false true false false) := by
  refine returnsInHanded_of_change_and (C := Tryz.checked) (X := fun w _ => laidMetH Tryz.prog Rows.unaryNumbersRow.laid w) (fun _ _ _ hh h => h.of_heap hh) qCW started (by kernel_rfl) Tryz.func7
    (ChangeSpec.witness_shaped (enc := enc) (C := Tryz.checked) (os := os) (X := fun w _ => laidMetH Tryz.prog Rows.unaryNumbersRow.laid w) false (World.laidAll Tryz.prog os Rows.unaryNumbersRow.laid) #[.agg #[.bool false, .string .empty, .int .i64 0], .agg #[.bool false, .string .empty, .int .i64 0]] 8 (World.laidAll_os _ _ _)
      (World.shaped_of_ZipB (by kernel_rfl) (by kernel_rfl)) (by kernel_rfl) (by kernel_rfl) (by kernel_rfl)
      (by rw [MakeChecks.laidMetH_plain _ _ _ (by kernel_rfl)]; exact laidMet_laidAll _ (by kernel_rfl) (by kernel_rfl))) ?_
  intro W base args ds gs before hval0 hW _ hS hL _
  exact qVM (n := 4) (tb := 4) (G := wT) tok hval0 hW (by kernel_rfl) (by kernel_rfl) (by kernel_rfl) rfl (fun ds h => by
    match ds, h with
    | [d1, d2], _ => rfl) rfl (by kernel_rfl) (uP W hL) hS qDG
set_option maxHeartbeats 4000000 in
theorem qCV : Rows.UnaryNumbersSaid :=
  OpenClaim.holds_of_wide 7 Tryz.f7 rfl rfl rfl rfl rfl rfl rfl ⟨rfl, rfl, rfl, rfl, rfl⟩ rfl rfl rfl rfl rfl (by as_aux_lemma => kernel_rfl) Tryz.func7 (by
    unfold joinedFacts
    simp only [Bool.and_eq_true]
    (repeat' apply And.intro) <;> as_aux_lemma => kernel_rfl)
    (of_decide_eq_true (by kernel_rfl)) (by unfold Func.isWrapper; first | (rw [if_pos (by decide +kernel)]; kernel_rfl) | (rw [if_neg (by decide +kernel)]; exact ⟨rfl, rfl⟩))
    (fun os started H enc _ => qAS os started H enc)
set_option maxHeartbeats 4000000 in
theorem unaryNumbers_holds : Rows.UnaryNumbersCardSaid :=
  Claim7.holds_tied_plain_at .later [] Rows.unaryNumbersCard.laidKinds true Rows.unaryNumbersCard.stood.harness Rows.unaryNumbersCard.stood.looks qCV (fun _ h => by cases h) (by as_aux_lemma => kernel_rfl) (fun _ h => by cases h) unaryNumbers_row_tie rfl ⟨rfl, rfl⟩ (by as_aux_lemma => kernel_rfl) rfl
    (fun f fn hf hfn => by
      obtain rfl : f = 7 := Option.some.inj ((show Tryz.prog.funcNamed Rows.unaryNumbersRow.func = some 7 by kernel_rfl).symm.trans hf) |>.symm
      obtain rfl : fn = Tryz.f7 := (Option.some.inj (Tryz.func7.symm.trans hfn)).symm
      exact ⟨by kernel_rfl, fun j t ht => by
        have hm : t ∈ Tryz.f7.params.toList := by simpa using Array.mem_of_getElem? ht
        have hall : (Tryz.f7.params.toList.all fun u => !Tryz.prog.wantsStandIn u) = true := by kernel_rfl
        exact (show Tryz.prog.wantsStandIn t = false by simpa using List.all_eq_true.1 hall t hm)⟩)
    (by as_aux_lemma => kernel_rfl)
#print axioms unaryNumbers_holds
end Go.Proofs.YtgcbapchinideaaGreatDoor

