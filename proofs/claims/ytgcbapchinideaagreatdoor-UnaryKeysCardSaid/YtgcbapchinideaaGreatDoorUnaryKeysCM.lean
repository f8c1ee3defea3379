/- For any row of items and any text that are handed in, the law UnaryKeys of chapter 13 returns true, and what was handed in reads as it did. No condition. -/
import Derived.Test.YtgcbapchinideaaGreatDoorSKeysL
import Derived.Test.YtgcbapchinideaaGreatDoorSItemIn2
import Derived.Test.YtgcbapchinideaaGreatDoorSSynIn
import Derived.Test.YtgcbapchinideaaGreatDoorM4
import Derived.Test.YtgcbapchinideaaGreatDoorCards
import Derived.Test.YtgcbapchinideaaGreatDoorTie
import Derived.SevenTiedAt
namespace Go.Proofs.YtgcbapchinideaaGreatDoor
open Sy Go Go.ChangeShapes Go.WideShapes Go.ChangeAt Go.RowKit
set_option linter.unusedVariables false
abbrev yL : qG := fun _ => none
theorem qBN (W : World) (_ : laidMetH Tryz.prog Rows.unaryKeysRow.laid W) : GOK yL (qBL W) W := ⟨fun n cs h => (by cases h), fun n cs h => (by cases h)⟩
theorem qGF (pds : List PD) (h : ShL T 5 Tryz.f8.params.toList pds) : AFn Tryz.prog yL 8 pds (.bool true) := by
  rw [Tryz.params8] at h
  obtain ⟨d0, _, rfl, ⟨c0, k0, t0, rfl, h0⟩, d1, _, rfl, ⟨c1, k1, t1, rfl, h1⟩, rfl⟩ := h
  obtain ⟨l, rfl, hl⟩ := qQH h0
  obtain ⟨s, rfl⟩ := qSN h1
  simp at t0 t1
  subst t0; subst t1
  have := qJH (G := yL) l s (fun x hx => (hl x hx).1)
  simpa [xQ] using this
theorem qFV : ownKnob Tryz.prog.godebug = none := by kernel_rfl
set_option maxRecDepth 100000 in
theorem qCC (os : Os) (started : os.Started) (H : Type) (enc : TypeId × Value → H) :
    ReturnsInHanded {} Tryz.checked os 8 .any (fun w args => (Rows.unaryKeysSpec.pre enc Tryz.prog Tryz.f8 [] false w args ∧ laidMetH Tryz.prog Rows.unaryKeysRow.laid w) ∧ sizedMet enc Tryz.prog Tryz.f8 (OpenSpec.ofChange Rows.unaryKeysSpec) false w args)
      (Rows.unaryKeysSpec.post enc Tryz.prog Tryz.f8 false true false false) := by
  refine returnsInHanded_of_change_and (C := Tryz.checked) (X := fun w _ => laidMetH Tryz.prog Rows.unaryKeysRow.laid w) (fun _ _ _ hh h => h.of_heap hh) qFV started (by kernel_rfl) Tryz.func8
    (ChangeSpec.witness_shaped (enc := enc) (C := Tryz.checked) (os := os) (X := fun w _ => laidMetH Tryz.prog Rows.unaryKeysRow.laid w) false (World.laidAll Tryz.prog os Rows.unaryKeysRow.laid) #[.slice none 0 0, .string .empty] 8 (World.laidAll_os _ _ _)
      (World.shaped_of_ZipB (by kernel_rfl) (by kernel_rfl)) (by kernel_rfl) (by kernel_rfl) (by kernel_rfl)
      (by rw [MakeChecks.laidMetH_plain _ _ _ (by kernel_rfl)]; exact laidMet_laidAll _ (by kernel_rfl) (by kernel_rfl))) ?_
  intro W base args ds gs before hval0 hW _ hS hL _
  exact qSI (n := 5) (tb := 4) (G := yL) tok hval0 hW (by kernel_rfl) (by kernel_rfl) (by kernel_rfl) rfl (fun ds h => by
    match ds, h with
    | [d1, d2], _ => rfl) rfl (by kernel_rfl) (qBN W hL) hS qGF
set_option maxHeartbeats 4000000 in
theorem qFU : Rows.UnaryKeysSaid :=
  OpenClaim.holds_of_wide 8 Tryz.f8 rfl rfl rfl rfl rfl rfl rfl ⟨rfl, rfl, rfl, rfl, rfl⟩ rfl rfl rfl rfl rfl (by as_aux_lemma => kernel_rfl) Tryz.func8 (by
    unfold joinedFacts
    simp only [Bool.and_eq_true]
    (repeat' apply And.intro) <;> as_aux_lemma => kernel_rfl)
    (of_decide_eq_true (by kernel_rfl)) (by unfold Func.isWrapper; first | (rw [if_pos (by decide +kernel)]; kernel_rfl) | (rw [if_neg (by decide +kernel)]; exact ⟨rfl, rfl⟩))
    (fun os started H enc _ => qCC os started H enc)
set_option maxHeartbeats 4000000 in
theorem unaryKeys_holds : Rows.UnaryKeysCardSaid :=
  Claim7.holds_tied_plain_at .later [] Rows.unaryKeysCard.laidKinds true Rows.unaryKeysCard.stood.harness Rows.unaryKeysCard.stood.looks qFU (fun _ h => by cases h) (by as_aux_lemma => kernel_rfl) (fun _ h => by cases h) unaryKeys_row_tie rfl ⟨rfl, rfl⟩ (by as_aux_lemma => kernel_rfl) rfl
    (fun f fn hf hfn => by
      obtain rfl : f = 8 := Option.some.inj ((show Tryz.prog.funcNamed Rows.unaryKeysRow.func = some 8 by kernel_rfl).symm.trans hf) |>.symm
      obtain rfl : fn = Tryz.f8 := (Option.some.inj (Tryz.func8.symm.trans hfn)).symm
      exact ⟨by kernel_rfl, fun j t ht => by
        have hm : t ∈ Tryz.f8.params.toList := by simpa using Array.mem_of_getElem? ht
        have hall : (Tryz.f8.params.toList.all fun u => !Tryz.prog.wantsStandIn u) = true := by kernel_rfl
        exact (show Tryz.prog.wantsStandIn t = false by simpa using List.all_eq_true.1 hall t hm)⟩)
    (by as_aux_lemma => kernel_rfl)
#print axioms unaryKeys_holds
end Go.Proofs.YtgcbapchinideaaGreatDoor
