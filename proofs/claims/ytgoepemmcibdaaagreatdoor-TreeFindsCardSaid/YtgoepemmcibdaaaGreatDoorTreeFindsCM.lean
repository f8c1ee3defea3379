/- For any two rows of items, any key and any place that are handed in, the law TreeFinds of chapter 4 returns true, and what was handed in reads as it did. No condition. -/
import Derived.Test.YtgoepemmcibdaaaGreatDoorSTreeFinds
import Derived.Test.YtgoepemmcibdaaaGreatDoorSAskIn
import Derived.Test.YtgoepemmcibdaaaGreatDoorM4
import Derived.Test.YtgoepemmcibdaaaGreatDoorCards
import Derived.Test.YtgoepemmcibdaaaGreatDoorTie
import Derived.SevenTiedAt
import Derived.Test.YtgoepemmcibdaaaGreatDoorK1
import Derived.PinnedBridge
namespace Go.Proofs.YtgoepemmcibdaaaGreatDoor
open Sy Go Go.ChangeShapes Go.WideShapes Go.ChangeAt Go.RowKit
set_option linter.unusedVariables false
abbrev law_treeFinds_G : Glob := u8G 1 2
theorem treeFinds_u8x : U8Extra Tryz.prog Tryz.lays196_ren := ⟨by kernel_rfl, by kernel_rfl, by kernel_rfl, by kernel_rfl, by kernel_rfl, by kernel_rfl, by kernel_rfl⟩
theorem treeFinds_acc : Rows.laid_unicode_utf8_acceptRanges = (Lib.acceptData : DataW Unit) := by kernel_rfl
theorem law_treeFinds_GOK (W : World) (h : laidMetH Tryz.prog Rows.treeFindsRow.laid W) : GOK law_treeFinds_G (memOf W) := by
  rw [MakeChecks.laidMetH_plain _ _ _ (by kernel_rfl)] at h
  have e3 : Rows.laid_unicode_utf8_first = (Lib.firstData : DataW Unit) := Pinned.utf8First_eq
  exact u8G_ok (utf8Tabs_of_readsT (.of196 Tryz.lays196) treeFinds_u8x (Lib.laidMet.reads h (by rw [← e3]; simp [Rows.treeFindsRow])) (Lib.laidMet.reads h (by rw [← treeFinds_acc]; simp [Rows.treeFindsRow]))) (by decide)
theorem law_treeFinds (pds : List PD) (h : ShL T 4 Tryz.f6.params.toList pds) : AFn Tryz.prog law_treeFinds_G 6 pds (.bool true) := by
  rw [Tryz.params6] at h
  obtain ⟨d0, _, rfl, ⟨c0, k0, t0, rfl, h0⟩, d1, _, rfl, ⟨c1, k1, t1, rfl, h1⟩, d2, _, rfl, ⟨c2, k2, t2, rfl, h2⟩, rfl⟩ := h
  obtain ⟨l, rfl, hl⟩ := in_items2 h0
  obtain ⟨m, rfl, hm⟩ := in_items2 h1
  obtain ⟨s, i, rfl, hi⟩ := in_ask h2
  simp at t0 t1 t2
  subst t0; subst t1; subst t2
  have := TreeFinds_ev (u8G_has (by decide)) l m s i (fun x hx => (hl x hx).1) (fun x hx => (hm x hx).1) hi
  simpa [packD] using this
theorem treeFinds_own : ownKnob Tryz.prog.godebug = none := by kernel_rfl
set_option maxRecDepth 100000 in
theorem treeFinds_lifted (os : Os) (started : os.Started) (H : Type) (enc : TypeId × Value → H) :
    ReturnsInHanded {} Tryz.checked os 6 .any (fun w args => (Rows.treeFindsSpec.pre enc Tryz.prog Tryz.f6 [] false w args ∧ laidMetH Tryz.prog Rows.treeFindsRow.laid w) ∧ sizedMet enc Tryz.prog Tryz.f6 (OpenSpec.ofChange Rows.treeFindsSpec) false w args)
      (Rows.treeFindsSpec.post enc Tryz.prog Tryz.f6 false true false false) := by
  refine returnsInHanded_of_change_and (C := Tryz.checked) (X := fun w _ => laidMetH Tryz.prog Rows.treeFindsRow.laid w) (fun _ _ _ hh h => h.of_heap hh) treeFinds_own started (by kernel_rfl) Tryz.func6
    (ChangeSpec.witness_shaped (enc := enc) (C := Tryz.checked) (os := os) (X := fun w _ => laidMetH Tryz.prog Rows.treeFindsRow.laid w) false (World.laidAll Tryz.prog os Rows.treeFindsRow.laid) #[.slice none 0 0, .slice none 0 0, .agg #[.string .empty, .int .i64 0]] 8 (World.laidAll_os _ _ _)
      (World.shaped_of_ZipB (by kernel_rfl) (by kernel_rfl)) (by kernel_rfl) (by kernel_rfl) (by kernel_rfl)
      (by rw [MakeChecks.laidMetH_plain _ _ _ (by kernel_rfl)]; exact laidMet_laidAll _ (by kernel_rfl) (by kernel_rfl))) ?_
  intro W base args ds gs before hval0 hW _ hS hL _
  exact law_call (n := 4) (tb := 4) (G := law_treeFinds_G) tok hval0 hW (by kernel_rfl) (by kernel_rfl) (by kernel_rfl) rfl (fun ds h => by
    match ds, h with
    | [d1, d2, d3], _ => rfl) rfl (by kernel_rfl) (law_treeFinds_GOK W hL) hS law_treeFinds
theorem treeFinds_row : Rows.TreeFindsSaid :=
  OpenClaim.holds_of_wide 6 Tryz.f6 rfl rfl rfl rfl rfl rfl rfl ⟨rfl, rfl, rfl, rfl, rfl⟩ rfl rfl rfl rfl rfl (by kernel_rfl) Tryz.func6 (by kernel_rfl)
    (of_decide_eq_true (by kernel_rfl)) (by unfold Func.isWrapper; first | (rw [if_pos (by decide +kernel)]; kernel_rfl) | (rw [if_neg (by decide +kernel)]; exact ⟨rfl, rfl⟩))
    (fun os started H enc _ => treeFinds_lifted os started H enc)
theorem treeFinds_holds : Rows.TreeFindsCardSaid :=
  Claim7.holds_tied_plain_at .later [] Rows.treeFindsCard.laidKinds true Rows.treeFindsCard.stood.harness false treeFinds_row (fun _ h => by cases h) (by kernel_rfl) (fun _ h => by cases h) treeFinds_row_tie rfl ⟨rfl, rfl⟩ (by kernel_rfl) rfl
    (fun f fn hf hfn => by
      obtain rfl : f = 6 := Option.some.inj ((show Tryz.prog.funcNamed Rows.treeFindsRow.func = some 6 by kernel_rfl).symm.trans hf) |>.symm
      obtain rfl : fn = Tryz.f6 := (Option.some.inj (Tryz.func6.symm.trans hfn)).symm
      exact ⟨by kernel_rfl, fun j t ht => by
        have hm : t ∈ Tryz.f6.params.toList := by simpa using Array.mem_of_getElem? ht
        have hall : (Tryz.f6.params.toList.all fun u => !Tryz.prog.wantsStandIn u) = true := by kernel_rfl
        exact (show Tryz.prog.wantsStandIn t = false by simpa using List.all_eq_true.1 hall t hm)⟩)
    (by kernel_rfl)
#print axioms treeFinds_holds
end Go.Proofs.YtgoepemmcibdaaaGreatDoor
