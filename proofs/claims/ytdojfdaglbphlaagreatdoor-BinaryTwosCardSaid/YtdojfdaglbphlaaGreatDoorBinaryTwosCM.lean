/- For any two rows of items and any number of what is done that are handed in, the law BinaryTwos of chapter 14 returns true, and what was handed in reads as it did. No condition. -/
import Derived.Test.YtdojfdaglbphlaaGreatDoorSTwos
import Derived.Test.YtdojfdaglbphlaaGreatDoorSItemIn2
import Derived.Test.YtdojfdaglbphlaaGreatDoorSIn8
import Derived.Test.YtdojfdaglbphlaaGreatDoorM4
import Derived.Test.YtdojfdaglbphlaaGreatDoorCards
import Derived.Test.YtdojfdaglbphlaaGreatDoorTie
import Derived.SevenTiedAt
namespace Go.Proofs.YtdojfdaglbphlaaGreatDoor
open Sy Go Go.ChangeShapes Go.WideShapes Go.ChangeAt Go.RowKit
set_option linter.unusedVariables false
abbrev jY : qR := fun _ => none
theorem qHT (W : World) (_ : laidMetH Tryz.prog Rows.binaryTwosRow.laid W) : GOK jY (qIW W) W := ⟨fun n cs h => (by cases h), fun n cs h => (by cases h)⟩
theorem qPF (pds : List PD) (h : ShL T 5 Tryz.f3.params.toList pds) : AFn Tryz.prog jY 3 pds (.bool true) := by
  rw [Tryz.params3] at h
  obtain ⟨d0, _, rfl, ⟨c0, k0, t0, rfl, h0⟩, d1, _, rfl, ⟨c1, k1, t1, rfl, h1⟩, d2, _, rfl, ⟨c2, k2, t2, rfl, h2⟩, rfl⟩ := h
  obtain ⟨l, rfl, hl⟩ := qTM h0
  obtain ⟨m, rfl, hm⟩ := qTM h1
  obtain ⟨n, rfl, hn⟩ := zYQ h2
  simp at t0 t1 t2
  subst t0; subst t1; subst t2
  have := qRO (G := jY) l m n (fun x hx => (hl x hx).1) (fun x hx => (hm x hx).1) hn
  simpa [qCX] using this
theorem qQN : ownKnob Tryz.prog.godebug = none := by kernel_rfl
set_option maxRecDepth 100000 in
theorem qJR (os : Os) (started : os.Started) (H : Type) (enc : TypeId × Value → H) :
    ReturnsInHanded {} Tryz.checked os 3 .any (fun w args => (Rows.binaryTwosSpec.pre enc Tryz.prog Tryz.f3 [] false w args ∧ laidMetH Tryz.prog Rows.binaryTwosRow.laid w) ∧ sizedMet enc Tryz.prog Tryz.f3 (OpenSpec.ofChange Rows.binaryTwosSpec) false w args)
      (Rows.binaryTwosSpec.post enc Tryz.prog Tryz.f3 false true false false) := by
  refine returnsInHanded_of_change_and (C := Tryz.checked) (X := fun w _ => laidMetH Tryz.prog Rows.binaryTwosRow.laid w) (fun _ _ _ hh h => h.of_heap hh) qQN started (by kernel_rfl) Tryz.func3
    (ChangeSpec.witness_shaped (enc := enc) (C := Tryz.checked) (os := os) (X := fun w _ => laidMetH Tryz.prog Rows.binaryTwosRow.laid w) false (World.laidAll Tryz.prog os Rows.binaryTwosRow.laid) #[.slice none 0 0, .slice none 0 0, .int .u8 0] 8 (World.laidAll_os _ _ _)
      (World.shaped_of_ZipB (by kernel_rfl) (by kernel_rfl)) (by kernel_rfl) (by kernel_rfl) (by kernel_rfl)
      (by rw [MakeChecks.laidMetH_plain _ _ _ (by kernel_rfl)]; exact laidMet_laidAll _ (by kernel_rfl) (by kernel_rfl))) ?_
  intro W base args ds gs before hval0 hW _ hS hL _
  exact zNB (n := 5) (tb := 4) (G := jY) tok hval0 hW (by kernel_rfl) (by kernel_rfl) (by kernel_rfl) rfl (fun ds h => by
    match ds, h with
    | [d1, d2, d3], _ => rfl) rfl (by kernel_rfl) (qHT W hL) hS qPF
set_option maxHeartbeats 4000000 in
theorem qQM : Rows.BinaryTwosSaid :=
  OpenClaim.holds_of_wide 3 Tryz.f3 rfl rfl rfl rfl rfl rfl rfl ⟨rfl, rfl, rfl, rfl, rfl⟩ rfl rfl rfl rfl rfl (by as_aux_lemma => kernel_rfl) Tryz.func3 (by
    unfold joinedFacts
    simp only [Bool.and_eq_true]
    (repeat' apply And.intro) <;> as_aux_lemma => kernel_rfl)
    (of_decide_eq_true (by kernel_rfl)) (by unfold Func.isWrapper; first | (rw [if_pos (by decide +kernel)]; kernel_rfl) | (rw [if_neg (by decide +kernel)]; exact ⟨rfl, rfl⟩))
    (fun os started H enc _ => qJR os started H enc)
set_option maxHeartbeats 4000000 in
theorem binaryTwos_holds : Rows.BinaryTwosCardSaid :=
  Claim7.holds_tied_plain_at .later [] Rows.binaryTwosCard.laidKinds true Rows.binaryTwosCard.stood.harness Rows.binaryTwosCard.stood.looks qQM (fun _ h => by cases h) (by as_aux_lemma => kernel_rfl) (fun _ h => by cases h) binaryTwos_row_tie rfl ⟨rfl, rfl⟩ (by as_aux_lemma => kernel_rfl) rfl
    (fun f fn hf hfn => by
      obtain rfl : f = 3 := Option.some.inj ((show Tryz.prog.funcNamed Rows.binaryTwosRow.func = some 3 by kernel_rfl).symm.trans hf) |>.symm
      obtain rfl : fn = Tryz.f3 := (Option.some.inj (Tryz.func3.symm.trans hfn)).symm
      exact ⟨by kernel_rfl, fun j t ht => by
        have hm : t ∈ Tryz.f3.params.toList := by simpa using Array.mem_of_getElem? ht
        have hall : (Tryz.f3.params.toList.all fun u => !Tryz.prog.wantsStandIn u) = true := by kernel_rfl
        exact (show Tryz.prog.wantsStandIn t = false by simpa using List.all_eq_true.1 hall t hm)⟩)
    (by as_aux_lemma => kernel_rfl)
#print axioms binaryTwos_holds
end Go.Proofs.YtdojfdaglbphlaaGreatDoor
