/- For any keys and any blanks that are handed in, the law TextKeys of chapter 5 returns true, and what was handed in reads as it did. No condition. -/
import Derived.Test.YtdlejiiiifhiiaaDoorSTextKeys
import Derived.Test.YtdlejiiiifhiiaaDoorSTextIn
import Derived.Test.YtdlejiiiifhiiaaDoorM4
import Derived.Test.YtdlejiiiifhiiaaDoorCards
import Derived.Test.YtdlejiiiifhiiaaDoorTie
import Derived.SevenTiedAt
import Derived.Test.YtdlejiiiifhiiaaDoorSLibU
import Derived.PinnedBridge
namespace Go.Proofs.YtdlejiiiifhiiaaDoor
open Sy Go Go.ChangeShapes Go.WideShapes Go.ChangeAt Go.RowKit
set_option linter.unusedVariables false
abbrev law_textKeys_G : Glob := u8G 1 2
theorem textKeys_u8x : U8Extra Tryd.prog Tryd.lays197_ren := ⟨by kernel_rfl, by kernel_rfl, by kernel_rfl, by kernel_rfl, by kernel_rfl, by kernel_rfl, by kernel_rfl⟩
theorem textKeys_acc : Rows.laid_unicode_utf8_acceptRanges = (Lib.acceptData : DataW Unit) := by kernel_rfl
theorem law_textKeys_GOK (W : World) (h : laidMetH Tryd.prog Rows.textKeysRow.laid W) : GOK law_textKeys_G (memOf W) := by
  rw [MakeChecks.laidMetH_plain _ _ _ (by kernel_rfl)] at h
  have e3 : Rows.laid_unicode_utf8_first = (Lib.firstData : DataW Unit) := Pinned.utf8First_eq
  exact u8G_ok (utf8Tabs_of_readsT { Tryd.lays197 with } textKeys_u8x (Lib.laidMet.reads h (by rw [← e3]; simp [Rows.textKeysRow])) (Lib.laidMet.reads h (by rw [← textKeys_acc]; simp [Rows.textKeysRow]))) (by decide)
theorem law_textKeys (pds : List PD) (h : ShL T 4 Tryd.f3.params.toList pds) : AFn Tryd.prog law_textKeys_G 3 pds (.bool true) := by
  rw [Tryd.params3] at h
  obtain ⟨d0, _, rfl, ⟨c0, k0, t0, rfl, h0⟩, d1, _, rfl, ⟨c1, k1, t1, rfl, h1⟩, rfl⟩ := h
  obtain ⟨l, rfl⟩ := in_bytes h0
  obtain ⟨b, rfl⟩ := in_bool h1
  simp at t0 t1
  subst t0; subst t1
  have := TextKeys_ev (u8G_has (by decide)) l b
  simpa [packD] using this
theorem textKeys_own : ownKnob Tryd.prog.godebug = none := by kernel_rfl
set_option maxRecDepth 100000 in
theorem textKeys_lifted (os : Os) (started : os.Started) (H : Type) (enc : TypeId × Value → H) :
    ReturnsInHanded {} Tryd.checked os 3 .any (fun w args => (Rows.textKeysSpec.pre enc Tryd.prog Tryd.f3 [] false w args ∧ laidMetH Tryd.prog Rows.textKeysRow.laid w) ∧ sizedMet enc Tryd.prog Tryd.f3 (OpenSpec.ofChange Rows.textKeysSpec) false w args)
      (Rows.textKeysSpec.post enc Tryd.prog Tryd.f3 false true false false) := by
  refine returnsInHanded_of_change_and (C := Tryd.checked) (X := fun w _ => laidMetH Tryd.prog Rows.textKeysRow.laid w) (fun _ _ _ hh h => h.of_heap hh) textKeys_own started (by kernel_rfl) Tryd.func3
    (ChangeSpec.witness_shaped (enc := enc) (C := Tryd.checked) (os := os) (X := fun w _ => laidMetH Tryd.prog Rows.textKeysRow.laid w) false (World.laidAll Tryd.prog os Rows.textKeysRow.laid) #[.slice none 0 0, .bool false] 8 (World.laidAll_os _ _ _)
      (World.shaped_of_ZipB (by kernel_rfl) (by kernel_rfl)) (by kernel_rfl) (by kernel_rfl) (by kernel_rfl)
      (by rw [MakeChecks.laidMetH_plain _ _ _ (by kernel_rfl)]; exact laidMet_laidAll _ (by kernel_rfl) (by kernel_rfl))) ?_
  intro W base args ds gs before hval0 hW _ hS hL _
  exact law_call (n := 4) (tb := 4) (G := law_textKeys_G) tok hval0 hW (by kernel_rfl) (by kernel_rfl) (by kernel_rfl) rfl (fun ds h => by
    match ds, h with
    | [d1, d2], _ => rfl) rfl (by kernel_rfl) (law_textKeys_GOK W hL) hS law_textKeys
theorem textKeys_row : Rows.TextKeysSaid :=
  OpenClaim.holds_of_wide 3 Tryd.f3 rfl rfl rfl rfl rfl rfl rfl ⟨rfl, rfl, rfl, rfl, rfl⟩ rfl rfl rfl rfl rfl (by kernel_rfl) Tryd.func3 (by kernel_rfl)
    (of_decide_eq_true (by kernel_rfl)) (by unfold Func.isWrapper; first | (rw [if_pos (by decide +kernel)]; kernel_rfl) | (rw [if_neg (by decide +kernel)]; exact ⟨rfl, rfl⟩))
    (fun os started H enc _ => textKeys_lifted os started H enc)
theorem textKeys_holds : Rows.TextKeysCardSaid :=
  Claim7.holds_tied_plain_at .later [] Rows.textKeysCard.laidKinds true Rows.textKeysCard.stood.harness false textKeys_row (fun _ h => by cases h) (by kernel_rfl) (fun _ h => by cases h) textKeys_row_tie rfl ⟨rfl, rfl⟩ (by kernel_rfl) rfl
    (fun f fn hf hfn => by
      obtain rfl : f = 3 := Option.some.inj ((show Tryd.prog.funcNamed Rows.textKeysRow.func = some 3 by kernel_rfl).symm.trans hf) |>.symm
      obtain rfl : fn = Tryd.f3 := (Option.some.inj (Tryd.func3.symm.trans hfn)).symm
      exact ⟨by kernel_rfl, fun j t ht => by
        have hm : t ∈ Tryd.f3.params.toList := by simpa using Array.mem_of_getElem? ht
        have hall : (Tryd.f3.params.toList.all fun u => !Tryd.prog.wantsStandIn u) = true := by kernel_rfl
        exact (show Tryd.prog.wantsStandIn t = false by simpa using List.all_eq_true.1 hall t hm)⟩)
    (by kernel_rfl)
#print axioms textKeys_holds
end Go.Proofs.YtdlejiiiifhiiaaDoor
