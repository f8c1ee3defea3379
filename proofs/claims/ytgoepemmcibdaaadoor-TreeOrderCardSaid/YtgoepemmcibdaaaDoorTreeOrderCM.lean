/- For any three rows of items that are handed in, the law TreeOrder of chapter 4 returns true, and what was handed in reads as it did. No condition. -/
import Derived.Test.YtgoepemmcibdaaaDoorM8
import Derived.Test.YtgoepemmcibdaaaDoorCards
import Derived.Test.YtgoepemmcibdaaaDoorTie
import Derived.SevenTiedAt
import Derived.PinnedBridge
namespace Go.Proofs.YtgoepemmcibdaaaDoor
open Sy Go Go.ChangeShapes Go.WideShapes Go.ChangeAt Go.RowKit
set_option linter.unusedVariables false
abbrev law_treeOrder_G : Glob := u8G 1 2
theorem treeOrder_u8x : U8Extra Tryd.prog Tryd.lays196_ren := ⟨by kernel_rfl, by kernel_rfl, by kernel_rfl, by kernel_rfl, by kernel_rfl, by kernel_rfl, by kernel_rfl⟩
theorem treeOrder_acc : Rows.laid_unicode_utf8_acceptRanges = (Lib.acceptData : DataW Unit) := by kernel_rfl
theorem law_treeOrder_GOK (W : World) (h : laidMetH Tryd.prog Rows.treeOrderRow.laid W) : GOK law_treeOrder_G (memOf W) := by
  rw [MakeChecks.laidMetH_plain _ _ _ (by kernel_rfl)] at h
  have e3 : Rows.laid_unicode_utf8_first = (Lib.firstData : DataW Unit) := Pinned.utf8First_eq
  exact u8G_ok (utf8Tabs_of_readsT (.of196 Tryd.lays196) treeOrder_u8x (Lib.laidMet.reads h (by rw [← e3]; simp [Rows.treeOrderRow])) (Lib.laidMet.reads h (by rw [← treeOrder_acc]; simp [Rows.treeOrderRow]))) (by decide)
theorem law_treeOrder (pds : List PD) (h : ShL T 4 Tryd.f4.params.toList pds) : AFn Tryd.prog law_treeOrder_G 4 pds (.bool true) := by
  rw [Tryd.params4] at h
  obtain ⟨d0, _, rfl, ⟨c0, k0, t0, rfl, h0⟩, d1, _, rfl, ⟨c1, k1, t1, rfl, h1⟩, d2, _, rfl, ⟨c2, k2, t2, rfl, h2⟩, rfl⟩ := h
  obtain ⟨l, rfl, hl⟩ := in_items h0
  obtain ⟨m, rfl, hm⟩ := in_items h1
  obtain ⟨n, rfl, hn⟩ := in_items h2
  simp at t0 t1 t2
  subst t0; subst t1; subst t2
  have := TreeOrder_ev (u8G_has (by decide)) l m n hl hm hn
  simpa [packD] using this
theorem treeOrder_own : ownKnob Tryd.prog.godebug = none := by kernel_rfl
set_option maxRecDepth 100000 in
theorem treeOrder_lifted (os : Os) (started : os.Started) (H : Type) (enc : TypeId × Value → H) :
    ReturnsInHanded {} Tryd.checked os 4 .any (fun w args => (Rows.treeOrderSpec.pre enc Tryd.prog Tryd.f4 [] false w args ∧ laidMetH Tryd.prog Rows.treeOrderRow.laid w) ∧ sizedMet enc Tryd.prog Tryd.f4 (OpenSpec.ofChange Rows.treeOrderSpec) false w args)
      (Rows.treeOrderSpec.post enc Tryd.prog Tryd.f4 false true false false) := by
  refine returnsInHanded_of_change_and (C := Tryd.checked) (X := fun w _ => laidMetH Tryd.prog Rows.treeOrderRow.laid w) (fun _ _ _ hh h => h.of_heap hh) treeOrder_own started (by kernel_rfl) Tryd.func4
    (ChangeSpec.witness_shaped (enc := enc) (C := Tryd.checked) (os := os) (X := fun w _ => laidMetH Tryd.prog Rows.treeOrderRow.laid w) false (World.laidAll Tryd.prog os Rows.treeOrderRow.laid) #[.slice none 0 0, .slice none 0 0, .slice none 0 0] 8 (World.laidAll_os _ _ _)
      (World.shaped_of_ZipB (by kernel_rfl) (by kernel_rfl)) (by kernel_rfl) (by kernel_rfl) (by kernel_rfl)
      (by rw [MakeChecks.laidMetH_plain _ _ _ (by kernel_rfl)]; exact laidMet_laidAll _ (by kernel_rfl) (by kernel_rfl))) ?_
  intro W base args ds gs before hval0 hW _ hS hL _
  exact law_call (n := 4) (tb := 4) (G := law_treeOrder_G) tok hval0 hW (by kernel_rfl) (by kernel_rfl) (by kernel_rfl) rfl (fun ds h => by
    match ds, h with
    | [d1, d2, d3], _ => rfl) rfl (by kernel_rfl) (law_treeOrder_GOK W hL) hS law_treeOrder
theorem treeOrder_row : Rows.TreeOrderSaid :=
  OpenClaim.holds_of_wide 4 Tryd.f4 rfl rfl rfl rfl rfl rfl rfl ⟨rfl, rfl, rfl, rfl, rfl⟩ rfl rfl rfl rfl rfl (by kernel_rfl) Tryd.func4 (by kernel_rfl)
    (of_decide_eq_true (by kernel_rfl)) (by unfold Func.isWrapper; first | (rw [if_pos (by decide +kernel)]; kernel_rfl) | (rw [if_neg (by decide +kernel)]; exact ⟨rfl, rfl⟩))
    (fun os started H enc _ => treeOrder_lifted os started H enc)
theorem treeOrder_holds : Rows.TreeOrderCardSaid :=
  Claim7.holds_tied_plain_at .later [] Rows.treeOrderCard.laidKinds true Rows.treeOrderCard.stood.harness false treeOrder_row (fun _ h => by cases h) (by kernel_rfl) (fun _ h => by cases h) treeOrder_row_tie rfl ⟨rfl, rfl⟩ (by kernel_rfl) rfl
    (fun f fn hf hfn => by
      obtain rfl : f = 4 := Option.some.inj ((show Tryd.prog.funcNamed Rows.treeOrderRow.func = some 4 by kernel_rfl).symm.trans hf) |>.symm
      obtain rfl : fn = Tryd.f4 := (Option.some.inj (Tryd.func4.symm.trans hfn)).symm
      exact ⟨by kernel_rfl, fun j t ht => by
        have hm : t ∈ Tryd.f4.params.toList := by simpa using Array.mem_of_getElem? ht
        have hall : (Tryd.f4.params.toList.all fun u => !Tryd.prog.wantsStandIn u) = true := by kernel_rfl
        exact (show Tryd.prog.wantsStandIn t = false by simpa using List.all_eq_true.1 hall t hm)⟩)
    (by kernel_rfl)
#print axioms treeOrder_holds
end Go.Proofs.YtgoepemmcibdaaaDoor
