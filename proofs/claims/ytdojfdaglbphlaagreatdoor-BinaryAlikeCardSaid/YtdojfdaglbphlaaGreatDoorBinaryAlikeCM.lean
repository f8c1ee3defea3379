/- For any four rows of items, any number of what is done and any clearance that are handed in, the law BinaryAlike of chapter 14 returns true, and what was handed in reads as it did. No condition. -/
import Derived.Test.YtdojfdaglbphlaaGreatDoorSAlike
import Derived.Test.YtdojfdaglbphlaaGreatDoorSFourIn
import Derived.Test.YtdojfdaglbphlaaGreatDoorSIn8
import Derived.Test.YtdojfdaglbphlaaGreatDoorM4
import Derived.Test.YtdojfdaglbphlaaGreatDoorCards
import Derived.Test.YtdojfdaglbphlaaGreatDoorTie
import Derived.SevenTiedAt
namespace Go.Proofs.YtdojfdaglbphlaaGreatDoor
open Sy Go Go.ChangeShapes Go.WideShapes Go.ChangeAt Go.RowKit
set_option linter.unusedVariables false
abbrev jN : qV := fun _ => none
theorem qHA (W : World) (_ : laidMetH Tryz.prog Rows.binaryAlikeRow.laid W) : GOK jN (qHG W) W := ⟨fun n cs h => (by cases h), fun n cs h => (by cases h)⟩
theorem qMM (pds : List PD) (h : ShL T 5 Tryz.f5.params.toList pds) : AFn Tryz.prog jN 5 pds (.bool true) := by
  rw [Tryz.params5] at h
  obtain ⟨d0, _, rfl, ⟨c0, k0, t0, rfl, h0⟩, d1, _, rfl, ⟨c1, k1, t1, rfl, h1⟩, d2, _, rfl, ⟨c2, k2, t2, rfl, h2⟩, rfl⟩ := h
  obtain ⟨l1, l2, l3, l4, rfl, g1, g2, g3, g4⟩ := zQE h0
  obtain ⟨n, rfl, hn⟩ := zRQ h1
  obtain ⟨c, rfl, hc⟩ := zQD h2
  simp at t0 t1 t2
  subst t0; subst t1; subst t2
  have := qQX (G := jN) l1 l2 l3 l4 n c (fun x hx => (g1 x hx).1) (fun x hx => (g2 x hx).1) (fun x hx => (g3 x hx).1) (fun x hx => (g4 x hx).1) (fun x hx => (g1 x hx).2) (fun x hx => (g2 x hx).2) (fun x hx => (g3 x hx).2) (fun x hx => (g4 x hx).2) hn
  simpa [qBV] using this
theorem qMR : ownKnob Tryz.prog.godebug = none := by kernel_rfl
set_option maxRecDepth 100000 in
theorem qIH (os : Os) (started : os.Started) (H : Type) (enc : TypeId × Value → H) :
    ReturnsInHanded {} Tryz.checked os 5 .any (fun w args => (Rows.binaryAlikeSpec.pre enc Tryz.prog Tryz.f5 [] false w args ∧ laidMetH Tryz.prog Rows.binaryAlikeRow.laid w) ∧ sizedMet enc Tryz.prog Tryz.f5 (OpenSpec.ofChange Rows.binaryAlikeSpec) false w args)
      (Rows.binaryAlikeSpec.post enc Tryz.prog Tryz.f5 false true false false) := by
  refine returnsInHanded_of_change_and (C := Tryz.checked) (X := fun w _ => laidMetH Tryz.prog Rows.binaryAlikeRow.laid w) (fun _ _ _ hh h => h.of_heap hh) qMR started (by kernel_rfl) Tryz.func5
    (ChangeSpec.witness_shaped (enc := enc) (C := Tryz.checked) (os := os) (X := fun w _ => laidMetH Tryz.prog Rows.binaryAlikeRow.laid w) false (World.laidAll Tryz.prog os Rows.binaryAlikeRow.laid) #[.agg #[.slice none 0 0, .slice none 0 0, .slice none 0 0, .slice none 0 0], .int .u8 0, .int .u64 0] 8 (World.laidAll_os _ _ _)
      (World.shaped_of_ZipB (by kernel_rfl) (by kernel_rfl)) (by kernel_rfl) (by kernel_rfl) (by kernel_rfl)
      (by rw [MakeChecks.laidMetH_plain _ _ _ (by kernel_rfl)]; exact laidMet_laidAll _ (by kernel_rfl) (by kernel_rfl))) ?_
  intro W base args ds gs before hval0 hW _ hS hL _
  exact zAC (n := 5) (tb := 4) (G := jN) tok hval0 hW (by kernel_rfl) (by kernel_rfl) (by kernel_rfl) rfl (fun ds h => by
    match ds, h with
    | [d1, d2, d3], _ => rfl) rfl (by kernel_rfl) (qHA W hL) hS qMM
set_option maxHeartbeats 4000000 in
theorem qMQ : Rows.BinaryAlikeSaid :=
  OpenClaim.holds_of_wide 5 Tryz.f5 rfl rfl rfl rfl rfl rfl rfl ⟨rfl, rfl, rfl, rfl, rfl⟩ rfl rfl rfl rfl rfl (by as_aux_lemma => kernel_rfl) Tryz.func5 (by
    unfold joinedFacts
    simp only [Bool.and_eq_true]
    (repeat' apply And.intro) <;> as_aux_lemma => kernel_rfl)
    (of_decide_eq_true (by kernel_rfl)) (by unfold Func.isWrapper; first | (rw [if_pos (by decide +kernel)]; kernel_rfl) | (rw [if_neg (by decide +kernel)]; exact ⟨rfl, rfl⟩))
    (fun os started H enc _ => qIH os started H enc)
set_option maxHeartbeats 4000000 in
theorem binaryAlike_holds : Rows.BinaryAlikeCardSaid :=
  Claim7.holds_tied_plain_at .later [] Rows.binaryAlikeCard.laidKinds true Rows.binaryAlikeCard.stood.harness Rows.binaryAlikeCard.stood.looks qMQ (fun _ h => by cases h) (by as_aux_lemma => kernel_rfl) (fun _ h => by cases h) binaryAlike_row_tie rfl ⟨rfl, rfl⟩ (by as_aux_lemma => kernel_rfl) rfl
    (fun f fn hf hfn => by
      obtain rfl : f = 5 := Option.some.inj ((show Tryz.prog.funcNamed Rows.binaryAlikeRow.func = some 5 by kernel_rfl).symm.trans hf) |>.symm
      obtain rfl : fn = Tryz.f5 := (Option.some.inj (Tryz.func5.symm.trans hfn)).symm
      exact ⟨by kernel_rfl, fun j t ht => by
        have hm : t ∈ Tryz.f5.params.toList := by simpa using Array.mem_of_getElem? ht
        have hall : (Tryz.f5.params.toList.all fun u => !Tryz.prog.wantsStandIn u) = true := by kernel_rfl
        exact (show Tryz.prog.wantsStandIn t = false by simpa using List.all_eq_true.1 hall t hm)⟩)
    (by as_aux_lemma => kernel_rfl)
#print axioms binaryAlike_holds
end Go.Proofs.YtdojfdaglbphlaaGreatDoor
