/- For any row of items and any mask that are handed in, the law TreeWhole of chapter 4 returns true, and what was handed in reads as it did. No condition. -/
import Derived.Test.YtgoepemmcibdaaaGreatDoorSTreeWhole
import Derived.Test.YtgoepemmcibdaaaGreatDoorSItemIn2
import Derived.Test.YtgoepemmcibdaaaGreatDoorM4
import Derived.Test.YtgoepemmcibdaaaGreatDoorCards
import Derived.Test.YtgoepemmcibdaaaGreatDoorTie
import Derived.SevenTiedAt
import Derived.Test.YtgoepemmcibdaaaGreatDoorSLibU
import Derived.PinnedBridge
namespace Go.Proofs.YtgoepemmcibdaaaGreatDoor
open Sy Go Go.ChangeShapes Go.WideShapes Go.ChangeAt Go.RowKit
set_option linter.unusedVariables false
abbrev law_treeWhole_G : Glob := u8G 1 2
theorem treeWhole_u8x : U8Extra Tryz.prog Tryz.lays196_ren := ⟨by kernel_rfl, by kernel_rfl, by kernel_rfl, by kernel_rfl, by kernel_rfl, by kernel_rfl, by kernel_rfl⟩
theorem treeWhole_acc : Rows.laid_unicode_utf8_acceptRanges = (Lib.acceptData : DataW Unit) := by kernel_rfl
theorem law_treeWhole_GOK (W : World) (h : laidMetH Tryz.prog Rows.treeWholeRow.laid W) : GOK law_treeWhole_G (memOf W) := by
  rw [MakeChecks.laidMetH_plain _ _ _ (by kernel_rfl)] at h
  have e3 : Rows.laid_unicode_utf8_first = (Lib.firstData : DataW Unit) := Pinned.utf8First_eq
  exact u8G_ok (utf8Tabs_of_readsT (.of196 Tryz.lays196) treeWhole_u8x (Lib.laidMet.reads h (by rw [← e3]; simp [Rows.treeWholeRow])) (Lib.laidMet.reads h (by rw [← treeWhole_acc]; simp [Rows.treeWholeRow]))) (by decide)
theorem law_treeWhole (pds : List PD) (h : ShL T 4 Tryz.f8.params.toList pds) : AFn Tryz.prog law_treeWhole_G 8 pds (.bool true) := by
  rw [Tryz.params8] at h
  obtain ⟨d0, _, rfl, ⟨c0, k0, t0, rfl, h0⟩, d1, _, rfl, ⟨c1, k1, t1, rfl, h1⟩, rfl⟩ := h
  obtain ⟨l, rfl, hl⟩ := in_items2 h0
  obtain ⟨m, rfl, hm⟩ := in_mask h1
  simp at t0 t1
  subst t0; subst t1
  have := TreeWhole_ev (u8G_has (by decide)) l m (fun x hx => (hl x hx).1) (fun x hx => (hl x hx).2)
  simpa [packD] using this
theorem treeWhole_own : ownKnob Tryz.prog.godebug = none := by kernel_rfl
set_option maxRecDepth 100000 in
theorem treeWhole_lifted (os : Os) (started : os.Started) (H : Type) (enc : TypeId × Value → H) :
    ReturnsInHanded {} Tryz.checked os 8 .any (fun w args => (Rows.treeWholeSpec.pre enc Tryz.prog Tryz.f8 [] false w args ∧ laidMetH Tryz.prog Rows.treeWholeRow.laid w) ∧ sizedMet enc Tryz.prog Tryz.f8 (OpenSpec.ofChange Rows.treeWholeSpec) false w args)
      (Rows.treeWholeSpec.post enc Tryz.prog Tryz.f8 false true false false) := by
  refine returnsInHanded_of_change_and (C := Tryz.checked) (X := fun w _ => laidMetH Tryz.prog Rows.treeWholeRow.laid w) (fun _ _ _ hh h => h.of_heap hh) treeWhole_own started (by kernel_rfl) Tryz.func8
    (ChangeSpec.witness_shaped (enc := enc) (C := Tryz.checked) (os := os) (X := fun w _ => laidMetH Tryz.prog Rows.treeWholeRow.laid w) false (World.laidAll Tryz.prog os Rows.treeWholeRow.laid) #[.slice none 0 0, .int .u64 0] 8 (World.laidAll_os _ _ _)
      (World.shaped_of_ZipB (by kernel_rfl) (by kernel_rfl)) (by kernel_rfl) (by kernel_rfl) (by kernel_rfl)
      (by rw [MakeChecks.laidMetH_plain _ _ _ (by kernel_rfl)]; exact laidMet_laidAll _ (by kernel_rfl) (by kernel_rfl))) ?_
  intro W base args ds gs before hval0 hW _ hS hL _
  exact law_call (n := 4) (tb := 4) (G := law_treeWhole_G) tok hval0 hW (by kernel_rfl) (by kernel_rfl) (by kernel_rfl) rfl (fun ds h => by
    match ds, h with
    | [d1, d2], _ => rfl) rfl (by kernel_rfl) (law_treeWhole_GOK W hL) hS law_treeWhole
theorem treeWhole_row : Rows.TreeWholeSaid :=
  OpenClaim.holds_of_wide 8 Tryz.f8 rfl rfl rfl rfl rfl rfl rfl ⟨rfl, rfl, rfl, rfl, rfl⟩ rfl rfl rfl rfl rfl (by kernel_rfl) Tryz.func8 (by kernel_rfl)
    (of_decide_eq_true (by kernel_rfl)) (by unfold Func.isWrapper; first | (rw [if_pos (by decide +kernel)]; kernel_rfl) | (rw [if_neg (by decide +kernel)]; exact ⟨rfl, rfl⟩))
    (fun os started H enc _ => treeWhole_lifted os started H enc)
theorem treeWhole_holds : Rows.TreeWholeCardSaid :=
  Claim7.holds_tied_plain_at .later [] Rows.treeWholeCard.laidKinds true Rows.treeWholeCard.stood.harness false treeWhole_row (fun _ h => by cases h) (by kernel_rfl) (fun _ h => by cases h) treeWhole_row_tie rfl ⟨rfl, rfl⟩ (by kernel_rfl) rfl
    (fun f fn hf hfn => by
      obtain rfl : f = 8 := Option.some.inj ((show Tryz.prog.funcNamed Rows.treeWholeRow.func = some 8 by kernel_rfl).symm.trans hf) |>.symm
      obtain rfl : fn = Tryz.f8 := (Option.some.inj (Tryz.func8.symm.trans hfn)).symm
      exact ⟨by kernel_rfl, fun j t ht => by
        have hm : t ∈ Tryz.f8.params.toList := by simpa using Array.mem_of_getElem? ht
        have hall : (Tryz.f8.params.toList.all fun u => !Tryz.prog.wantsStandIn u) = true := by kernel_rfl
        exact (show Tryz.prog.wantsStandIn t = false by simpa using List.all_eq_true.1 hall t hm)⟩)
    (by kernel_rfl)
#print axioms treeWhole_holds
end Go.Proofs.YtgoepemmcibdaaaGreatDoor
