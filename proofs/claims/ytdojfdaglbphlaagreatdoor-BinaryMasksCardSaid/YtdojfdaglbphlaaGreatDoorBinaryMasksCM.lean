/- For any two rows of items and any number of what is done that are handed in, the law BinaryMasks of chapter 14 returns true, and what was handed in reads as it did. No condition. -/
import Derived.Test.YtdojfdaglbphlaaGreatDoorSMasks14
import Derived.Test.YtdojfdaglbphlaaGreatDoorSItemIn2
import Derived.Test.YtdojfdaglbphlaaGreatDoorSIn8
import Derived.Test.YtdojfdaglbphlaaGreatDoorM4
import Derived.Test.YtdojfdaglbphlaaGreatDoorCards
import Derived.Test.YtdojfdaglbphlaaGreatDoorTie
import Derived.SevenTiedAt
namespace Go.Proofs.YtdojfdaglbphlaaGreatDoor
open Sy Go Go.ChangeShapes Go.WideShapes Go.ChangeAt Go.RowKit
set_option linter.unusedVariables false
abbrev jM : qV := fun _ => none
theorem qGZ (W : World) (_ : laidMetH Tryz.prog Rows.binaryMasksRow.laid W) : GOK jM (qHG W) W := ⟨fun n cs h => (by cases h), fun n cs h => (by cases h)⟩
theorem qML (pds : List PD) (h : ShL T 5 Tryz.f4.params.toList pds) : AFn Tryz.prog jM 4 pds (.bool true) := by
  rw [Tryz.params4] at h
  obtain ⟨d0, _, rfl, ⟨c0, k0, t0, rfl, h0⟩, d1, _, rfl, ⟨c1, k1, t1, rfl, h1⟩, d2, _, rfl, ⟨c2, k2, t2, rfl, h2⟩, rfl⟩ := h
  obtain ⟨l, rfl, hl⟩ := qAR h0
  obtain ⟨m, rfl, hm⟩ := qAR h1
  obtain ⟨n, rfl, hn⟩ := zRQ h2
  simp at t0 t1 t2
  subst t0; subst t1; subst t2
  have := qQW (G := jM) l m n (fun x hx => (hl x hx).1) (fun x hx => (hm x hx).1) (fun x hx => (hl x hx).2) (fun x hx => (hm x hx).2) hn
  simpa [qBV] using this
theorem qMP : ownKnob Tryz.prog.godebug = none := by kernel_rfl
set_option maxRecDepth 100000 in
theorem qIG (os : Os) (started : os.Started) (H : Type) (enc : TypeId × Value → H) :
    ReturnsInHanded {} Tryz.checked os 4 .any (fun w args => (Rows.binaryMasksSpec.pre enc Tryz.prog Tryz.f4 [] false w args ∧ laidMetH Tryz.prog Rows.binaryMasksRow.laid w) ∧ sizedMet enc Tryz.prog Tryz.f4 (OpenSpec.ofChange Rows.binaryMasksSpec) false w args)
      (Rows.binaryMasksSpec.post enc Tryz.prog Tryz.f4 false true false false) := by
  refine returnsInHanded_of_change_and (C := Tryz.checked) (X := fun w _ => laidMetH Tryz.prog Rows.binaryMasksRow.laid w) (fun _ _ _ hh h => h.of_heap hh) qMP started (by kernel_rfl) Tryz.func4
    (ChangeSpec.witness_shaped (enc := enc) (C := Tryz.checked) (os := os) (X := fun w _ => laidMetH Tryz.prog Rows.binaryMasksRow.laid w) false (World.laidAll Tryz.prog os Rows.binaryMasksRow.laid) #[.slice none 0 0, .slice none 0 0, .int .u8 0] 8 (World.laidAll_os _ _ _)
      (World.shaped_of_ZipB (by kernel_rfl) (by kernel_rfl)) (by kernel_rfl) (by kernel_rfl) (by kernel_rfl)
      (by rw [MakeChecks.laidMetH_plain _ _ _ (by kernel_rfl)]; exact laidMet_laidAll _ (by kernel_rfl) (by kernel_rfl))) ?_
  intro W base args ds gs before hval0 hW _ hS hL _
  exact zAC (n := 5) (tb := 4) (G := jM) tok hval0 hW (by kernel_rfl) (by kernel_rfl) (by kernel_rfl) rfl (fun ds h => by
    match ds, h with
    | [d1, d2, d3], _ => rfl) rfl (by kernel_rfl) (qGZ W hL) hS qML
set_option maxHeartbeats 4000000 in
theorem qMO : Rows.BinaryMasksSaid :=
  OpenClaim.holds_of_wide 4 Tryz.f4 rfl rfl rfl rfl rfl rfl rfl ⟨rfl, rfl, rfl, rfl, rfl⟩ rfl rfl rfl rfl rfl (by as_aux_lemma => kernel_rfl) Tryz.func4 (by
    unfold joinedFacts
    simp only [Bool.and_eq_true]
    (repeat' apply And.intro) <;> as_aux_lemma => kernel_rfl)
    (of_decide_eq_true (by kernel_rfl)) (by unfold Func.isWrapper; first | (rw [if_pos (by decide +kernel)]; kernel_rfl) | (rw [if_neg (by decide +kernel)]; exact ⟨rfl, rfl⟩))
    (fun os started H enc _ => qIG os started H enc)
set_option maxHeartbeats 4000000 in
theorem binaryMasks_holds : Rows.BinaryMasksCardSaid :=
  Claim7.holds_tied_plain_at .later [] Rows.binaryMasksCard.laidKinds true Rows.binaryMasksCard.stood.harness Rows.binaryMasksCard.stood.looks qMO (fun _ h => by cases h) (by as_aux_lemma => kernel_rfl) (fun _ h => by cases h) binaryMasks_row_tie rfl ⟨rfl, rfl⟩ (by as_aux_lemma => kernel_rfl) rfl
    (fun f fn hf hfn => by
      obtain rfl : f = 4 := Option.some.inj ((show Tryz.prog.funcNamed Rows.binaryMasksRow.func = some 4 by kernel_rfl).symm.trans hf) |>.symm
      obtain rfl : fn = Tryz.f4 := (Option.some.inj (Tryz.func4.symm.trans hfn)).symm
      exact ⟨by kernel_rfl, fun j t ht => by
        have hm : t ∈ Tryz.f4.params.toList := by simpa using Array.mem_of_getElem? ht
        have hall : (Tryz.f4.params.toList.all fun u => !Tryz.prog.wantsStandIn u) = true := by kernel_rfl
        exact (show Tryz.prog.wantsStandIn t = false by simpa using List.all_eq_true.1 hall t hm)⟩)
    (by as_aux_lemma => kernel_rfl)
#print axioms binaryMasks_holds
end Go.Proofs.YtdojfdaglbphlaaGreatDoor
