/- For any row of items that is handed in, the law TreeKids of chapter 4 returns true, and what was handed in reads as it did. No condition. -/
import Derived.Test.YtgoepemmcibdaaaGreatDoorSTreeKids
import Derived.Test.YtgoepemmcibdaaaGreatDoorSItemIn2
import Derived.Test.YtgoepemmcibdaaaGreatDoorM4
import Derived.Test.YtgoepemmcibdaaaGreatDoorCards
import Derived.Test.YtgoepemmcibdaaaGreatDoorTie
import Derived.SevenTiedAt
import Derived.Test.YtgoepemmcibdaaaGreatDoorSLibU
import Derived.PinnedBridge
namespace Go.Proofs.YtgoepemmcibdaaaGreatDoor
open Sy Go Go.ChangeShapes Go.WideShapes Go.ChangeAt Go.RowKit
set_option linter.unusedVariables false
abbrev law_treeKids_G : Glob := u8G 1 2
theorem treeKids_u8x : U8Extra Tryz.prog Tryz.lays196_ren := ⟨by kernel_rfl, by kernel_rfl, by kernel_rfl, by kernel_rfl, by kernel_rfl, by kernel_rfl, by kernel_rfl⟩
theorem treeKids_acc : Rows.laid_unicode_utf8_acceptRanges = (Lib.acceptData : DataW Unit) := by kernel_rfl
theorem law_treeKids_GOK (W : World) (h : laidMetH Tryz.prog Rows.treeKidsRow.laid W) : GOK law_treeKids_G (memOf W) := by
  rw [MakeChecks.laidMetH_plain _ _ _ (by kernel_rfl)] at h
  have e3 : Rows.laid_unicode_utf8_first = (Lib.firstData : DataW Unit) := Pinned.utf8First_eq
  exact u8G_ok (utf8Tabs_of_readsT (.of196 Tryz.lays196) treeKids_u8x (Lib.laidMet.reads h (by rw [← e3]; simp [Rows.treeKidsRow])) (Lib.laidMet.reads h (by rw [← treeKids_acc]; simp [Rows.treeKidsRow]))) (by decide)
theorem law_treeKids (pds : List PD) (h : ShL T 4 Tryz.f7.params.toList pds) : AFn Tryz.prog law_treeKids_G 7 pds (.bool true) := by
  rw [Tryz.params7] at h
  obtain ⟨d0, _, rfl, ⟨c0, k0, t0, rfl, h0⟩, rfl⟩ := h
  obtain ⟨l, rfl, hl⟩ := in_items2 h0
  simp at t0
  subst t0
  have := TreeKids_ev (u8G_has (by decide)) l (fun x hx => (hl x hx).1)
  simpa [packD] using this
theorem treeKids_own : ownKnob Tryz.prog.godebug = none := by kernel_rfl
set_option maxRecDepth 100000 in
theorem treeKids_lifted (os : Os) (started : os.Started) (H : Type) (enc : TypeId × Value → H) :
    ReturnsInHanded {} Tryz.checked os 7 .any (fun w args => (Rows.treeKidsSpec.pre enc Tryz.prog Tryz.f7 [] false w args ∧ laidMetH Tryz.prog Rows.treeKidsRow.laid w) ∧ sizedMet enc Tryz.prog Tryz.f7 (OpenSpec.ofChange Rows.treeKidsSpec) false w args)
      (Rows.treeKidsSpec.post enc Tryz.prog Tryz.f7 false true false false) := by
  refine returnsInHanded_of_change_and (C := Tryz.checked) (X := fun w _ => laidMetH Tryz.prog Rows.treeKidsRow.laid w) (fun _ _ _ hh h => h.of_heap hh) treeKids_own started (by kernel_rfl) Tryz.func7
    (ChangeSpec.witness_shaped (enc := enc) (C := Tryz.checked) (os := os) (X := fun w _ => laidMetH Tryz.prog Rows.treeKidsRow.laid w) false (World.laidAll Tryz.prog os Rows.treeKidsRow.laid) #[.slice none 0 0] 8 (World.laidAll_os _ _ _)
      (World.shaped_of_ZipB (by kernel_rfl) (by kernel_rfl)) (by kernel_rfl) (by kernel_rfl) (by kernel_rfl)
      (by rw [MakeChecks.laidMetH_plain _ _ _ (by kernel_rfl)]; exact laidMet_laidAll _ (by kernel_rfl) (by kernel_rfl))) ?_
  intro W base args ds gs before hval0 hW _ hS hL _
  exact law_call (n := 4) (tb := 4) (G := law_treeKids_G) tok hval0 hW (by kernel_rfl) (by kernel_rfl) (by kernel_rfl) rfl (fun ds h => by
    match ds, h with
    | [d1], _ => rfl) rfl (by kernel_rfl) (law_treeKids_GOK W hL) hS law_treeKids
theorem treeKids_row : Rows.TreeKidsSaid :=
  OpenClaim.holds_of_wide 7 Tryz.f7 rfl rfl rfl rfl rfl rfl rfl ⟨rfl, rfl, rfl, rfl, rfl⟩ rfl rfl rfl rfl rfl (by kernel_rfl) Tryz.func7 (by kernel_rfl)
    (of_decide_eq_true (by kernel_rfl)) (by unfold Func.isWrapper; first | (rw [if_pos (by decide +kernel)]; kernel_rfl) | (rw [if_neg (by decide +kernel)]; exact ⟨rfl, rfl⟩))
    (fun os started H enc _ => treeKids_lifted os started H enc)
theorem treeKids_holds : Rows.TreeKidsCardSaid :=
  Claim7.holds_tied_plain_at .later [] Rows.treeKidsCard.laidKinds true Rows.treeKidsCard.stood.harness false treeKids_row (fun _ h => by cases h) (by kernel_rfl) (fun _ h => by cases h) treeKids_row_tie rfl ⟨rfl, rfl⟩ (by kernel_rfl) rfl
    (fun f fn hf hfn => by
      obtain rfl : f = 7 := Option.some.inj ((show Tryz.prog.funcNamed Rows.treeKidsRow.func = some 7 by kernel_rfl).symm.trans hf) |>.symm
      obtain rfl : fn = Tryz.f7 := (Option.some.inj (Tryz.func7.symm.trans hfn)).symm
      exact ⟨by kernel_rfl, fun j t ht => by
        have hm : t ∈ Tryz.f7.params.toList := by simpa using Array.mem_of_getElem? ht
        have hall : (Tryz.f7.params.toList.all fun u => !Tryz.prog.wantsStandIn u) = true := by kernel_rfl
        exact (show Tryz.prog.wantsStandIn t = false by simpa using List.all_eq_true.1 hall t hm)⟩)
    (by kernel_rfl)
#print axioms treeKids_holds
end Go.Proofs.YtgoepemmcibdaaaGreatDoor
