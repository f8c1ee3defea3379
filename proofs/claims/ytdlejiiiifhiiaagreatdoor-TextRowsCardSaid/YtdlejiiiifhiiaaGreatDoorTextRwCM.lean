/- For any rows of items and any byte that are handed in, the law TextRows of chapter 5 returns true, and what was handed in reads as it did. No condition. -/
import Derived.Test.YtdlejiiiifhiiaaGreatDoorSTextRw
import Derived.Test.YtdlejiiiifhiiaaGreatDoorSRowsIn
import Derived.Test.YtdlejiiiifhiiaaGreatDoorM4
import Derived.Test.YtdlejiiiifhiiaaGreatDoorCards
import Derived.Test.YtdlejiiiifhiiaaGreatDoorTie
import Derived.SevenTiedAt
import Derived.Test.YtdlejiiiifhiiaaGreatDoorSLibU
import Derived.PinnedBridge
namespace Go.Proofs.YtdlejiiiifhiiaaGreatDoor
open Sy Go Go.ChangeShapes Go.WideShapes Go.ChangeAt Go.RowKit
set_option linter.unusedVariables false
abbrev law_textRows_G : Glob := u8G 1 2
theorem textRows_u8x : U8Extra Tryz.prog Tryz.lays197_ren := ⟨by kernel_rfl, by kernel_rfl, by kernel_rfl, by kernel_rfl, by kernel_rfl, by kernel_rfl, by kernel_rfl⟩
theorem textRows_acc : Rows.laid_unicode_utf8_acceptRanges = (Lib.acceptData : DataW Unit) := by kernel_rfl
theorem law_textRows_GOK (W : World) (h : laidMetH Tryz.prog Rows.textRowsRow.laid W) : GOK law_textRows_G (memOf W) := by
  rw [MakeChecks.laidMetH_plain _ _ _ (by kernel_rfl)] at h
  have e3 : Rows.laid_unicode_utf8_first = (Lib.firstData : DataW Unit) := Pinned.utf8First_eq
  exact u8G_ok (utf8Tabs_of_readsT { Tryz.lays197 with } textRows_u8x (Lib.laidMet.reads h (by rw [← e3]; simp [Rows.textRowsRow])) (Lib.laidMet.reads h (by rw [← textRows_acc]; simp [Rows.textRowsRow]))) (by decide)
theorem law_textRows (pds : List PD) (h : ShL T 5 Tryz.f5.params.toList pds) : AFn Tryz.prog law_textRows_G 5 pds (.bool true) := by
  rw [Tryz.params5] at h
  obtain ⟨d0, _, rfl, ⟨c0, k0, t0, rfl, h0⟩, d1, _, rfl, ⟨c1, k1, t1, rfl, h1⟩, rfl⟩ := h
  obtain ⟨l, rfl, hl⟩ := in_rows h0
  obtain ⟨b, rfl⟩ := in_byte h1
  simp at t0 t1
  subst t0; subst t1
  have := TextRows_ev (u8G_has (by decide)) l b hl
  simpa [packD] using this
theorem textRows_own : ownKnob Tryz.prog.godebug = none := by kernel_rfl
set_option maxRecDepth 100000 in
theorem textRows_lifted (os : Os) (started : os.Started) (H : Type) (enc : TypeId × Value → H) :
    ReturnsInHanded {} Tryz.checked os 5 .any (fun w args => (Rows.textRowsSpec.pre enc Tryz.prog Tryz.f5 [] false w args ∧ laidMetH Tryz.prog Rows.textRowsRow.laid w) ∧ sizedMet enc Tryz.prog Tryz.f5 (OpenSpec.ofChange Rows.textRowsSpec) false w args)
      (Rows.textRowsSpec.post enc Tryz.prog Tryz.f5 false true false false) := by
  refine returnsInHanded_of_change_and (C := Tryz.checked) (X := fun w _ => laidMetH Tryz.prog Rows.textRowsRow.laid w) (fun _ _ _ hh h => h.of_heap hh) textRows_own started (by kernel_rfl) Tryz.func5
    (ChangeSpec.witness_shaped (enc := enc) (C := Tryz.checked) (os := os) (X := fun w _ => laidMetH Tryz.prog Rows.textRowsRow.laid w) false (World.laidAll Tryz.prog os Rows.textRowsRow.laid) #[.slice none 0 0, .int .u8 0] 8 (World.laidAll_os _ _ _)
      (World.shaped_of_ZipB (by kernel_rfl) (by kernel_rfl)) (by kernel_rfl) (by kernel_rfl) (by kernel_rfl)
      (by rw [MakeChecks.laidMetH_plain _ _ _ (by kernel_rfl)]; exact laidMet_laidAll _ (by kernel_rfl) (by kernel_rfl))) ?_
  intro W base args ds gs before hval0 hW _ hS hL _
  exact law_call (n := 5) (tb := 4) (G := law_textRows_G) tok hval0 hW (by kernel_rfl) (by kernel_rfl) (by kernel_rfl) rfl (fun ds h => by
    match ds, h with
    | [d1, d2], _ => rfl) rfl (by kernel_rfl) (law_textRows_GOK W hL) hS law_textRows
theorem textRows_row : Rows.TextRowsSaid :=
  OpenClaim.holds_of_wide 5 Tryz.f5 rfl rfl rfl rfl rfl rfl rfl ⟨rfl, rfl, rfl, rfl, rfl⟩ rfl rfl rfl rfl rfl (by kernel_rfl) Tryz.func5 (by kernel_rfl)
    (of_decide_eq_true (by kernel_rfl)) (by unfold Func.isWrapper; first | (rw [if_pos (by decide +kernel)]; kernel_rfl) | (rw [if_neg (by decide +kernel)]; exact ⟨rfl, rfl⟩))
    (fun os started H enc _ => textRows_lifted os started H enc)
theorem textRows_holds : Rows.TextRowsCardSaid :=
  Claim7.holds_tied_plain_at .later [] Rows.textRowsCard.laidKinds true Rows.textRowsCard.stood.harness false textRows_row (fun _ h => by cases h) (by kernel_rfl) (fun _ h => by cases h) textRows_row_tie rfl ⟨rfl, rfl⟩ (by kernel_rfl) rfl
    (fun f fn hf hfn => by
      obtain rfl : f = 5 := Option.some.inj ((show Tryz.prog.funcNamed Rows.textRowsRow.func = some 5 by kernel_rfl).symm.trans hf) |>.symm
      obtain rfl : fn = Tryz.f5 := (Option.some.inj (Tryz.func5.symm.trans hfn)).symm
      exact ⟨by kernel_rfl, fun j t ht => by
        have hm : t ∈ Tryz.f5.params.toList := by simpa using Array.mem_of_getElem? ht
        have hall : (Tryz.f5.params.toList.all fun u => !Tryz.prog.wantsStandIn u) = true := by kernel_rfl
        exact (show Tryz.prog.wantsStandIn t = false by simpa using List.all_eq_true.1 hall t hm)⟩)
    (by kernel_rfl)
#print axioms textRows_holds
end Go.Proofs.YtdlejiiiifhiiaaGreatDoor
