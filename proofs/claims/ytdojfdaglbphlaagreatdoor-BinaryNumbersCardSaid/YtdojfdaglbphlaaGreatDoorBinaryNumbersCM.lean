/- For any two decimals that are handed in, the law BinaryNumbers of chapter 14 returns true, and what was handed in reads as it did. No condition. -/
import Derived.Test.YtdojfdaglbphlaaGreatDoorSNumbers
import Derived.Test.YtdojfdaglbphlaaGreatDoorSTextIn
import Derived.Test.YtdojfdaglbphlaaGreatDoorM4
import Derived.Test.YtdojfdaglbphlaaGreatDoorCards
import Derived.Test.YtdojfdaglbphlaaGreatDoorTie
import Derived.SevenTiedAt
namespace Go.Proofs.YtdojfdaglbphlaaGreatDoor
open Sy Go Go.ChangeShapes Go.WideShapes Go.ChangeAt Go.RowKit
set_option linter.unusedVariables false
abbrev yP : qS := fun _ => none
theorem qDB (W : World) (_ : laidMetH Tryz.prog Rows.binaryNumbersRow.laid W) : GOK yP (qGU W) W := ⟨fun n cs h => (by cases h), fun n cs h => (by cases h)⟩
theorem qGW (pds : List PD) (h : ShL T 4 Tryz.f6.params.toList pds) : AFn Tryz.prog yP 6 pds (.bool true) := by
  rw [Tryz.params6] at h
  obtain ⟨d0, _, rfl, ⟨c0, k0, t0, rfl, h0⟩, d1, _, rfl, ⟨c1, k1, t1, rfl, h1⟩, rfl⟩ := h
  obtain ⟨a, ha⟩ := in_dec h0
  obtain ⟨b, hb⟩ := in_dec h1
  simp at t0 t1
  subst t0; subst t1
  have := qIQ (G := yP) a b
  rw [← ha, ← hb] at this
  simpa [qBD] using this
theorem qHJ : ownKnob Tryz.prog.godebug = none := by kernel_rfl
set_option maxRecDepth 100000 in
theorem qEB (os : Os) (started : os.Started) (H : Type) (enc : TypeId × Value → H) :
    ReturnsInHanded {} Tryz.checked os 6 .any (fun w args => (Rows.binaryNumbersSpec.pre enc Tryz.prog Tryz.f6 [] false w args ∧ laidMetH Tryz.prog Rows.binaryNumbersRow.laid w) ∧ sizedMet enc Tryz.prog Tryz.f6 (OpenSpec.ofChange Rows.binaryNumbersSpec) false w args)
      (Rows.binaryNumbersSpec.post enc Tryz.prog Tryz.f6 false true false false) := by
  refine returnsInHanded_of_change_and (C := Tryz.checked) (X := fun w _ => laidMetH Tryz.prog Rows.binaryNumbersRow.laid w) (fun _ _ _ hh h => h.of_heap hh) qHJ started (by kernel_rfl) Tryz.func6
    (ChangeSpec.witness_shaped (enc := enc) (C := Tryz.checked) (os := os) (X := fun w _ => laidMetH Tryz.prog Rows.binaryNumbersRow.laid w) false (World.laidAll Tryz.prog os Rows.binaryNumbersRow.laid) #[.agg #[.bool false, .string .empty, .int .i64 0], .agg #[.bool false, .string .empty, .int .i64 0]] 8 (World.laidAll_os _ _ _)
      (World.shaped_of_ZipB (by kernel_rfl) (by kernel_rfl)) (by kernel_rfl) (by kernel_rfl) (by kernel_rfl)
      (by rw [MakeChecks.laidMetH_plain _ _ _ (by kernel_rfl)]; exact laidMet_laidAll _ (by kernel_rfl) (by kernel_rfl))) ?_
  intro W base args ds gs before hval0 hW _ hS hL _
  exact law_call (n := 4) (tb := 4) (G := yP) tok hval0 hW (by kernel_rfl) (by kernel_rfl) (by kernel_rfl) rfl (fun ds h => by
    match ds, h with
    | [d1, d2], _ => rfl) rfl (by kernel_rfl) (qDB W hL) hS qGW
set_option maxHeartbeats 4000000 in
theorem qHI : Rows.BinaryNumbersSaid :=
  OpenClaim.holds_of_wide 6 Tryz.f6 rfl rfl rfl rfl rfl rfl rfl ⟨rfl, rfl, rfl, rfl, rfl⟩ rfl rfl rfl rfl rfl (by as_aux_lemma => kernel_rfl) Tryz.func6 (by
    unfold joinedFacts
    simp only [Bool.and_eq_true]
    (repeat' apply And.intro) <;> as_aux_lemma => kernel_rfl)
    (of_decide_eq_true (by kernel_rfl)) (by unfold Func.isWrapper; first | (rw [if_pos (by decide +kernel)]; kernel_rfl) | (rw [if_neg (by decide +kernel)]; exact ⟨rfl, rfl⟩))
    (fun os started H enc _ => qEB os started H enc)
set_option maxHeartbeats 4000000 in
theorem binaryNumbers_holds : Rows.BinaryNumbersCardSaid :=
  Claim7.holds_tied_plain_at .later [] Rows.binaryNumbersCard.laidKinds true Rows.binaryNumbersCard.stood.harness Rows.binaryNumbersCard.stood.looks qHI (fun _ h => by cases h) (by as_aux_lemma => kernel_rfl) (fun _ h => by cases h) binaryNumbers_row_tie rfl ⟨rfl, rfl⟩ (by as_aux_lemma => kernel_rfl) rfl
    (fun f fn hf hfn => by
      obtain rfl : f = 6 := Option.some.inj ((show Tryz.prog.funcNamed Rows.binaryNumbersRow.func = some 6 by kernel_rfl).symm.trans hf) |>.symm
      obtain rfl : fn = Tryz.f6 := (Option.some.inj (Tryz.func6.symm.trans hfn)).symm
      exact ⟨by kernel_rfl, fun j t ht => by
        have hm : t ∈ Tryz.f6.params.toList := by simpa using Array.mem_of_getElem? ht
        have hall : (Tryz.f6.params.toList.all fun u => !Tryz.prog.wantsStandIn u) = true := by kernel_rfl
        exact (show Tryz.prog.wantsStandIn t = false by simpa using List.all_eq_true.1 hall t hm)⟩)
    (by as_aux_lemma => kernel_rfl)
#print axioms binaryNumbers_holds
end Go.Proofs.YtdojfdaglbphlaaGreatDoor
