/- For any two rows of items and any mask that are handed in, the law BinaryNull of chapter 14 returns true, and what was handed in reads as it did. No condition. -/
import Derived.Test.YtcbipkbdagkehaaGreatDoorSNull
import Derived.Test.YtcbipkbdagkehaaGreatDoorSItemIn2
import Derived.Test.YtcbipkbdagkehaaGreatDoorM4
import Derived.Test.YtcbipkbdagkehaaGreatDoorCards
import Derived.Test.YtcbipkbdagkehaaGreatDoorTie
import Derived.SevenTiedAt
namespace Go.Proofs.YtcbipkbdagkehaaGreatDoor
open Sy Go Go.ChangeShapes Go.WideShapes Go.ChangeAt Go.RowKit
set_option linter.unusedVariables false
abbrev law_binaryNull_G : Glob := fun _ => none
theorem law_binaryNull_GOK (W : World) (_ : laidMetH Tryz.prog Rows.binaryNullRow.laid W) : GOK law_binaryNull_G (memOf W) W := ⟨fun n cs h => (by cases h), fun n cs h => (by cases h)⟩
theorem law_binaryNull (pds : List PD) (h : ShL T 5 Tryz.f10.params.toList pds) : AFn Tryz.prog law_binaryNull_G 10 pds (.bool true) := by
  rw [Tryz.params10] at h
  obtain ⟨d0, _, rfl, ⟨c0, k0, t0, rfl, h0⟩, d1, _, rfl, ⟨c1, k1, t1, rfl, h1⟩, d2, _, rfl, ⟨c2, k2, t2, rfl, h2⟩, rfl⟩ := h
  obtain ⟨l, rfl, hl⟩ := in_items2 h0
  obtain ⟨m, rfl, hm⟩ := in_items2 h1
  obtain ⟨k, rfl, hk⟩ := in_mask h2
  simp at t0 t1 t2
  subst t0; subst t1; subst t2
  have := BinaryNull_ev (G := law_binaryNull_G) l m k (fun x hx => (hl x hx).1) (fun x hx => (hm x hx).1)
  simpa [packD] using this
theorem binaryNull_own : ownKnob Tryz.prog.godebug = none := by kernel_rfl
set_option maxRecDepth 100000 in
theorem binaryNull_lifted (os : Os) (started : os.Started) (H : Type) (enc : TypeId × Value → H) :
    ReturnsInHanded {} Tryz.checked os 10 .any (fun w args => (Rows.binaryNullSpec.pre enc Tryz.prog Tryz.f10 [] false w args ∧ laidMetH Tryz.prog Rows.binaryNullRow.laid w) ∧ sizedMet enc Tryz.prog Tryz.f10 (OpenSpec.ofChange Rows.binaryNullSpec) false w args)
      (Rows.binaryNullSpec.post enc Tryz.prog Tryz.f10 false true false false) := by
  refine returnsInHanded_of_change_and (C := Tryz.checked) (X := fun w _ => laidMetH Tryz.prog Rows.binaryNullRow.laid w) (fun _ _ _ hh h => h.of_heap hh) binaryNull_own started (by kernel_rfl) Tryz.func10
    (ChangeSpec.witness_shaped (enc := enc) (C := Tryz.checked) (os := os) (X := fun w _ => laidMetH Tryz.prog Rows.binaryNullRow.laid w) false (World.laidAll Tryz.prog os Rows.binaryNullRow.laid) #[.slice none 0 0, .slice none 0 0, .int .u64 0] 8 (World.laidAll_os _ _ _)
      (World.shaped_of_ZipB (by kernel_rfl) (by kernel_rfl)) (by kernel_rfl) (by kernel_rfl) (by kernel_rfl)
      (by rw [MakeChecks.laidMetH_plain _ _ _ (by kernel_rfl)]; exact laidMet_laidAll _ (by kernel_rfl) (by kernel_rfl))) ?_
  intro W base args ds gs before hval0 hW _ hS hL _
  exact law_call (n := 5) (tb := 4) (G := law_binaryNull_G) tok hval0 hW (by kernel_rfl) (by kernel_rfl) (by kernel_rfl) rfl (fun ds h => by
    match ds, h with
    | [d1, d2, d3], _ => rfl) rfl (by kernel_rfl) (law_binaryNull_GOK W hL) hS law_binaryNull
set_option maxHeartbeats 4000000 in
theorem binaryNull_row : Rows.BinaryNullSaid :=
  OpenClaim.holds_of_wide 10 Tryz.f10 rfl rfl rfl rfl rfl rfl rfl ⟨rfl, rfl, rfl, rfl, rfl⟩ rfl rfl rfl rfl rfl (by as_aux_lemma => kernel_rfl) Tryz.func10 (by
    unfold joinedFacts
    simp only [Bool.and_eq_true]
    (repeat' apply And.intro) <;> as_aux_lemma => kernel_rfl)
    (of_decide_eq_true (by kernel_rfl)) (by unfold Func.isWrapper; first | (rw [if_pos (by decide +kernel)]; kernel_rfl) | (rw [if_neg (by decide +kernel)]; exact ⟨rfl, rfl⟩))
    (fun os started H enc _ => binaryNull_lifted os started H enc)
set_option maxHeartbeats 4000000 in
theorem binaryNull_holds : Rows.BinaryNullCardSaid :=
  Claim7.holds_tied_plain_at .later [] Rows.binaryNullCard.laidKinds true Rows.binaryNullCard.stood.harness Rows.binaryNullCard.stood.looks binaryNull_row (fun _ h => by cases h) (by as_aux_lemma => kernel_rfl) (fun _ h => by cases h) binaryNull_row_tie rfl ⟨rfl, rfl⟩ (by as_aux_lemma => kernel_rfl) rfl
    (fun f fn hf hfn => by
      obtain rfl : f = 10 := Option.some.inj ((show Tryz.prog.funcNamed Rows.binaryNullRow.func = some 10 by kernel_rfl).symm.trans hf) |>.symm
      obtain rfl : fn = Tryz.f10 := (Option.some.inj (Tryz.func10.symm.trans hfn)).symm
      exact ⟨by kernel_rfl, fun j t ht => by
        have hm : t ∈ Tryz.f10.params.toList := by simpa using Array.mem_of_getElem? ht
        have hall : (Tryz.f10.params.toList.all fun u => !Tryz.prog.wantsStandIn u) = true := by kernel_rfl
        exact (show Tryz.prog.wantsStandIn t = false by simpa using List.all_eq_true.1 hall t hm)⟩)
    (by as_aux_lemma => kernel_rfl)
#print axioms binaryNull_holds
end Go.Proofs.YtcbipkbdagkehaaGreatDoor
