/- For any row of items that is handed in, the law TreeTidy of chapter 4 returns true, and what was handed in reads as it did. No condition. -/
import Derived.Test.YtgoepemmcibdaaaGreatDoorSTreeTidy
import Derived.Test.YtgoepemmcibdaaaGreatDoorSItemIn2
import Derived.Test.YtgoepemmcibdaaaGreatDoorM4
import Derived.Test.YtgoepemmcibdaaaGreatDoorCards
import Derived.Test.YtgoepemmcibdaaaGreatDoorTie
import Derived.SevenTiedAt
import Derived.Test.YtgoepemmcibdaaaGreatDoorSLibU
import Derived.PinnedBridge
namespace Go.Proofs.YtgoepemmcibdaaaGreatDoor
open Sy Go Go.ChangeShapes Go.WideShapes Go.ChangeAt Go.RowKit
set_option linter.unusedVariables false
abbrev law_treeTidy_G : Glob := u8G 1 2
theorem treeTidy_u8x : U8Extra Tryz.prog Tryz.lays196_ren := ⟨by kernel_rfl, by kernel_rfl, by kernel_rfl, by kernel_rfl, by kernel_rfl, by kernel_rfl, by kernel_rfl⟩
theorem treeTidy_acc : Rows.laid_unicode_utf8_acceptRanges = (Lib.acceptData : DataW Unit) := by kernel_rfl
theorem law_treeTidy_GOK (W : World) (h : laidMetH Tryz.prog Rows.treeTidyRow.laid W) : GOK law_treeTidy_G (memOf W) := by
  rw [MakeChecks.laidMetH_plain _ _ _ (by kernel_rfl)] at h
  have e3 : Rows.laid_unicode_utf8_first = (Lib.firstData : DataW Unit) := Pinned.utf8First_eq
  exact u8G_ok (utf8Tabs_of_readsT (.of196 Tryz.lays196) treeTidy_u8x (Lib.laidMet.reads h (by rw [← e3]; simp [Rows.treeTidyRow])) (Lib.laidMet.reads h (by rw [← treeTidy_acc]; simp [Rows.treeTidyRow]))) (by decide)
theorem law_treeTidy (pds : List PD) (h : ShL T 4 Tryz.f5.params.toList pds) : AFn Tryz.prog law_treeTidy_G 5 pds (.bool true) := by
  rw [Tryz.params5] at h
  obtain ⟨d0, _, rfl, ⟨c0, k0, t0, rfl, h0⟩, rfl⟩ := h
  obtain ⟨l, rfl, hl⟩ := in_items2 h0
  simp at t0
  subst t0
  have := TreeTidy_ev (u8G_has (by decide)) l (fun x hx => (hl x hx).1) (fun x hx => (hl x hx).2)
  simpa [packD] using this
theorem treeTidy_own : ownKnob Tryz.prog.godebug = none := by kernel_rfl
set_option maxRecDepth 100000 in
theorem treeTidy_lifted (os : Os) (started : os.Started) (H : Type) (enc : TypeId × Value → H) :
    ReturnsInHanded {} Tryz.checked os 5 .any (fun w args => (Rows.treeTidySpec.pre enc Tryz.prog Tryz.f5 [] false w args ∧ laidMetH Tryz.prog Rows.treeTidyRow.laid w) ∧ sizedMet enc Tryz.prog Tryz.f5 (OpenSpec.ofChange Rows.treeTidySpec) false w args)
      (Rows.treeTidySpec.post enc Tryz.prog Tryz.f5 false true false false) := by
  refine returnsInHanded_of_change_and (C := Tryz.checked) (X := fun w _ => laidMetH Tryz.prog Rows.treeTidyRow.laid w) (fun _ _ _ hh h => h.of_heap hh) treeTidy_own started (by kernel_rfl) Tryz.func5
    (ChangeSpec.witness_shaped (enc := enc) (C := Tryz.checked) (os := os) (X := fun w _ => laidMetH Tryz.prog Rows.treeTidyRow.laid w) false (World.laidAll Tryz.prog os Rows.treeTidyRow.laid) #[.slice none 0 0] 8 (World.laidAll_os _ _ _)
      (World.shaped_of_ZipB (by kernel_rfl) (by kernel_rfl)) (by kernel_rfl) (by kernel_rfl) (by kernel_rfl)
      (by rw [MakeChecks.laidMetH_plain _ _ _ (by kernel_rfl)]; exact laidMet_laidAll _ (by kernel_rfl) (by kernel_rfl))) ?_
  intro W base args ds gs before hval0 hW _ hS hL _
  exact law_call (n := 4) (tb := 4) (G := law_treeTidy_G) tok hval0 hW (by kernel_rfl) (by kernel_rfl) (by kernel_rfl) rfl (fun ds h => by
    match ds, h with
    | [d1], _ => rfl) rfl (by kernel_rfl) (law_treeTidy_GOK W hL) hS law_treeTidy
theorem treeTidy_row : Rows.TreeTidySaid :=
  OpenClaim.holds_of_wide 5 Tryz.f5 rfl rfl rfl rfl rfl rfl rfl ⟨rfl, rfl, rfl, rfl, rfl⟩ rfl rfl rfl rfl rfl (by kernel_rfl) Tryz.func5 (by kernel_rfl)
    (of_decide_eq_true (by kernel_rfl)) (by unfold Func.isWrapper; first | (rw [if_pos (by decide +kernel)]; kernel_rfl) | (rw [if_neg (by decide +kernel)]; exact ⟨rfl, rfl⟩))
    (fun os started H enc _ => treeTidy_lifted os started H enc)
theorem treeTidy_holds : Rows.TreeTidyCardSaid :=
  Claim7.holds_tied_plain_at .later [] Rows.treeTidyCard.laidKinds true Rows.treeTidyCard.stood.harness false treeTidy_row (fun _ h => by cases h) (by kernel_rfl) (fun _ h => by cases h) treeTidy_row_tie rfl ⟨rfl, rfl⟩ (by kernel_rfl) rfl
    (fun f fn hf hfn => by
      obtain rfl : f = 5 := Option.some.inj ((show Tryz.prog.funcNamed Rows.treeTidyRow.func = some 5 by kernel_rfl).symm.trans hf) |>.symm
      obtain rfl : fn = Tryz.f5 := (Option.some.inj (Tryz.func5.symm.trans hfn)).symm
      exact ⟨by kernel_rfl, fun j t ht => by
        have hm : t ∈ Tryz.f5.params.toList := by simpa using Array.mem_of_getElem? ht
        have hall : (Tryz.f5.params.toList.all fun u => !Tryz.prog.wantsStandIn u) = true := by kernel_rfl
        exact (show Tryz.prog.wantsStandIn t = false by simpa using List.all_eq_true.1 hall t hm)⟩)
    (by kernel_rfl)
#print axioms treeTidy_holds
end Go.Proofs.YtgoepemmcibdaaaGreatDoor
