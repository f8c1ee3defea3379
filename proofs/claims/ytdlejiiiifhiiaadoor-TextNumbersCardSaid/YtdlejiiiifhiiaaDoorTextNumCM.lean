/- For any decimal and any text that are handed in, the law TextNumbers of chapter 5 returns true, and what was handed in reads as it did. No condition. -/
import Derived.Test.YtdlejiiiifhiiaaDoorSTextNum
import Derived.Test.YtdlejiiiifhiiaaDoorSTextIn
import Derived.Test.YtdlejiiiifhiiaaDoorM4
import Derived.Test.YtdlejiiiifhiiaaDoorCards
import Derived.Test.YtdlejiiiifhiiaaDoorTie
import Derived.SevenTiedAt
import Derived.Test.YtdlejiiiifhiiaaDoorSLibU
import Derived.PinnedBridge
namespace Go.Proofs.YtdlejiiiifhiiaaDoor
open Sy Go Go.ChangeShapes Go.WideShapes Go.ChangeAt Go.RowKit
set_option linter.unusedVariables false
abbrev law_textNumbers_G : Glob := u8G 1 2
theorem textNumbers_u8x : U8Extra Tryd.prog Tryd.lays197_ren := ⟨by kernel_rfl, by kernel_rfl, by kernel_rfl, by kernel_rfl, by kernel_rfl, by kernel_rfl, by kernel_rfl⟩
theorem textNumbers_acc : Rows.laid_unicode_utf8_acceptRanges = (Lib.acceptData : DataW Unit) := by kernel_rfl
theorem law_textNumbers_GOK (W : World) (h : laidMetH Tryd.prog Rows.textNumbersRow.laid W) : GOK law_textNumbers_G (memOf W) := by
  rw [MakeChecks.laidMetH_plain _ _ _ (by kernel_rfl)] at h
  have e3 : Rows.laid_unicode_utf8_first = (Lib.firstData : DataW Unit) := Pinned.utf8First_eq
  exact u8G_ok (utf8Tabs_of_readsT { Tryd.lays197 with } textNumbers_u8x (Lib.laidMet.reads h (by rw [← e3]; simp [Rows.textNumbersRow])) (Lib.laidMet.reads h (by rw [← textNumbers_acc]; simp [Rows.textNumbersRow]))) (by decide)
theorem law_textNumbers (pds : List PD) (h : ShL T 4 Tryd.f4.params.toList pds) : AFn Tryd.prog law_textNumbers_G 4 pds (.bool true) := by
  rw [Tryd.params4] at h
  obtain ⟨d0, _, rfl, ⟨c0, k0, t0, rfl, h0⟩, d1, _, rfl, ⟨c1, k1, t1, rfl, h1⟩, rfl⟩ := h
  obtain ⟨d, hd⟩ := in_dec h0
  obtain ⟨s, rfl, hs⟩ := in_text h1
  simp at t0 t1
  subst t0; subst t1
  have := TextNumbers_ev (u8G_has (by decide)) d s hs
  rw [← hd] at this
  simpa [packD] using this
theorem textNumbers_own : ownKnob Tryd.prog.godebug = none := by kernel_rfl
set_option maxRecDepth 100000 in
theorem textNumbers_lifted (os : Os) (started : os.Started) (H : Type) (enc : TypeId × Value → H) :
    ReturnsInHanded {} Tryd.checked os 4 .any (fun w args => (Rows.textNumbersSpec.pre enc Tryd.prog Tryd.f4 [] false w args ∧ laidMetH Tryd.prog Rows.textNumbersRow.laid w) ∧ sizedMet enc Tryd.prog Tryd.f4 (OpenSpec.ofChange Rows.textNumbersSpec) false w args)
      (Rows.textNumbersSpec.post enc Tryd.prog Tryd.f4 false true false false) := by
  refine returnsInHanded_of_change_and (C := Tryd.checked) (X := fun w _ => laidMetH Tryd.prog Rows.textNumbersRow.laid w) (fun _ _ _ hh h => h.of_heap hh) textNumbers_own started (by kernel_rfl) Tryd.func4
    (ChangeSpec.witness_shaped (enc := enc) (C := Tryd.checked) (os := os) (X := fun w _ => laidMetH Tryd.prog Rows.textNumbersRow.laid w) false (World.laidAll Tryd.prog os Rows.textNumbersRow.laid) #[.agg #[.bool false, .string .empty, .int .i64 0], .string .empty] 8 (World.laidAll_os _ _ _)
      (World.shaped_of_ZipB (by kernel_rfl) (by kernel_rfl)) (by kernel_rfl) (by kernel_rfl) (by kernel_rfl)
      (by rw [MakeChecks.laidMetH_plain _ _ _ (by kernel_rfl)]; exact laidMet_laidAll _ (by kernel_rfl) (by kernel_rfl))) ?_
  intro W base args ds gs before hval0 hW _ hS hL _
  exact law_call (n := 4) (tb := 4) (G := law_textNumbers_G) tok hval0 hW (by kernel_rfl) (by kernel_rfl) (by kernel_rfl) rfl (fun ds h => by
    match ds, h with
    | [d1, d2], _ => rfl) rfl (by kernel_rfl) (law_textNumbers_GOK W hL) hS law_textNumbers
theorem textNumbers_row : Rows.TextNumbersSaid :=
  OpenClaim.holds_of_wide 4 Tryd.f4 rfl rfl rfl rfl rfl rfl rfl ⟨rfl, rfl, rfl, rfl, rfl⟩ rfl rfl rfl rfl rfl (by kernel_rfl) Tryd.func4 (by kernel_rfl)
    (of_decide_eq_true (by kernel_rfl)) (by unfold Func.isWrapper; first | (rw [if_pos (by decide +kernel)]; kernel_rfl) | (rw [if_neg (by decide +kernel)]; exact ⟨rfl, rfl⟩))
    (fun os started H enc _ => textNumbers_lifted os started H enc)
theorem textNumbers_holds : Rows.TextNumbersCardSaid :=
  Claim7.holds_tied_plain_at .later [] Rows.textNumbersCard.laidKinds true Rows.textNumbersCard.stood.harness false textNumbers_row (fun _ h => by cases h) (by kernel_rfl) (fun _ h => by cases h) textNumbers_row_tie rfl ⟨rfl, rfl⟩ (by kernel_rfl) rfl
    (fun f fn hf hfn => by
      obtain rfl : f = 4 := Option.some.inj ((show Tryd.prog.funcNamed Rows.textNumbersRow.func = some 4 by kernel_rfl).symm.trans hf) |>.symm
      obtain rfl : fn = Tryd.f4 := (Option.some.inj (Tryd.func4.symm.trans hfn)).symm
      exact ⟨by kernel_rfl, fun j t ht => by
        have hm : t ∈ Tryd.f4.params.toList := by simpa using Array.mem_of_getElem? ht
        have hall : (Tryd.f4.params.toList.all fun u => !Tryd.prog.wantsStandIn u) = true := by kernel_rfl
        exact (show Tryd.prog.wantsStandIn t = false by simpa using List.all_eq_true.1 hall t hm)⟩)
    (by kernel_rfl)
#print axioms textNumbers_holds
end Go.Proofs.YtdlejiiiifhiiaaDoor
