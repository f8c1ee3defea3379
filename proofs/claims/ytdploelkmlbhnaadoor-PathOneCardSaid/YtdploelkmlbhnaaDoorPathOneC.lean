/- For any pattern and any place that are handed in, the law PathOne of chapter 7 returns true, and what was handed in reads as it did. No condition. -/
import Derived.Test.YtdploelkmlbhnaaDoorPathOne
import Derived.Test.YtdploelkmlbhnaaDoorPathIn
import Derived.Test.YtdploelkmlbhnaaDoorLaw
import Derived.Test.YtdploelkmlbhnaaDoorCards
import Derived.Test.YtdploelkmlbhnaaDoorTie
import Derived.SevenTiedAt
import Derived.Test.YtdploelkmlbhnaaDoorLibU
import Derived.PinnedBridge
namespace Go.Proofs.YtdploelkmlbhnaaDoor
open Sy Go Go.ChangeShapes Go.WideShapes Go.ChangeAt Go.RowKit
set_option linter.unusedVariables false
abbrev law_pathOne_G : Glob := u8G 0 1
theorem pathOne_u8x : U8Extra Tryd.prog Tryd.lays196_ren := ⟨by kernel_rfl, by kernel_rfl, by kernel_rfl, by kernel_rfl, by kernel_rfl, by kernel_rfl, by kernel_rfl⟩
theorem pathOne_acc : Rows.laid_unicode_utf8_acceptRanges = (Lib.acceptData : DataW Unit) := by kernel_rfl
theorem law_pathOne_GOK (W : World) (h : laidMetH Tryd.prog Rows.pathOneRow.laid W) : GOK law_pathOne_G (memOf W) := by
  rw [MakeChecks.laidMetH_plain _ _ _ (by kernel_rfl)] at h
  have e3 : Rows.laid_unicode_utf8_first = (Lib.firstData : DataW Unit) := Pinned.utf8First_eq
  exact u8G_ok (utf8Tabs_of_readsT (.of196 Tryd.lays196) pathOne_u8x (Lib.laidMet.reads h (by rw [← e3]; simp [Rows.pathOneRow])) (Lib.laidMet.reads h (by rw [← pathOne_acc]; simp [Rows.pathOneRow]))) (by decide)
theorem law_pathOne (pds : List PD) (h : ShL T 4 Tryd.f7.params.toList pds) : AFn Tryd.prog law_pathOne_G 7 pds (.bool true) := by
  rw [Tryd.params7] at h
  obtain ⟨d0, _, rfl, ⟨c0, k0, t0, rfl, h0⟩, d1, _, rfl, ⟨c1, k1, t1, rfl, h1⟩, rfl⟩ := h
  obtain ⟨l, rfl⟩ := in_steps h0
  obtain ⟨m, rfl⟩ := in_steps h1
  simp at t0 t1
  subst t0; subst t1
  simpa [packD] using PathOne_ev (u8G_has (by decide)) l m
theorem pathOne_own : ownKnob Tryd.prog.godebug = none := by kernel_rfl
set_option maxRecDepth 100000 in
theorem pathOne_lifted (os : Os) (started : os.Started) (H : Type) (enc : TypeId × Value → H) :
    ReturnsInHanded {} Tryd.checked os 7 .any (fun w args => (Rows.pathOneSpec.pre enc Tryd.prog Tryd.f7 [] false w args ∧ laidMetH Tryd.prog Rows.pathOneRow.laid w) ∧ sizedMet enc Tryd.prog Tryd.f7 (OpenSpec.ofChange Rows.pathOneSpec) false w args)
      (Rows.pathOneSpec.post enc Tryd.prog Tryd.f7 false true false false) := by
  refine returnsInHanded_of_change_and (C := Tryd.checked) (X := fun w _ => laidMetH Tryd.prog Rows.pathOneRow.laid w) (fun _ _ _ hh h => h.of_heap hh) pathOne_own started (by kernel_rfl) Tryd.func7
    (ChangeSpec.witness_shaped (enc := enc) (C := Tryd.checked) (os := os) (X := fun w _ => laidMetH Tryd.prog Rows.pathOneRow.laid w) false (World.laidAll Tryd.prog os Rows.pathOneRow.laid) #[.slice none 0 0, .slice none 0 0] 8 (World.laidAll_os _ _ _)
      (World.shaped_of_ZipB (by kernel_rfl) (by kernel_rfl)) (by kernel_rfl) (by kernel_rfl) (by kernel_rfl)
      (by rw [MakeChecks.laidMetH_plain _ _ _ (by kernel_rfl)]; exact laidMet_laidAll _ (by kernel_rfl) (by kernel_rfl))) ?_
  intro W base args ds gs before hval0 hW _ _ hL _
  exact law_call (n := 4) (tb := 4) (G := law_pathOne_G) tok hval0 hW (by kernel_rfl) (by kernel_rfl) (by kernel_rfl) rfl (fun ds h => by
    match ds, h with
    | [d1, d2], _ => rfl) rfl (by kernel_rfl) (law_pathOne_GOK W hL) law_pathOne
theorem pathOne_row : Rows.PathOneSaid :=
  OpenClaim.holds_of_wide 7 Tryd.f7 rfl rfl rfl rfl rfl rfl rfl ⟨rfl, rfl, rfl, rfl, rfl⟩ rfl rfl rfl rfl rfl (by kernel_rfl) Tryd.func7 (by kernel_rfl)
    (of_decide_eq_true (by kernel_rfl)) (by unfold Func.isWrapper; first | (rw [if_pos (by decide +kernel)]; kernel_rfl) | (rw [if_neg (by decide +kernel)]; exact ⟨rfl, rfl⟩))
    (fun os started H enc _ => pathOne_lifted os started H enc)
theorem pathOne_holds : Rows.PathOneCardSaid :=
  Claim7.holds_tied_plain_at .later [] Rows.pathOneCard.laidKinds true Rows.pathOneCard.stood.harness false pathOne_row (fun _ h => by cases h) (by kernel_rfl) (fun _ h => by cases h) pathOne_row_tie rfl ⟨rfl, rfl⟩ (by kernel_rfl) rfl
    (fun f fn hf hfn => by
      obtain rfl : f = 7 := Option.some.inj ((show Tryd.prog.funcNamed Rows.pathOneRow.func = some 7 by kernel_rfl).symm.trans hf) |>.symm
      obtain rfl : fn = Tryd.f7 := (Option.some.inj (Tryd.func7.symm.trans hfn)).symm
      exact ⟨by kernel_rfl, fun j t ht => by
        have hm : t ∈ Tryd.f7.params.toList := by simpa using Array.mem_of_getElem? ht
        have hall : (Tryd.f7.params.toList.all fun u => !Tryd.prog.wantsStandIn u) = true := by kernel_rfl
        exact (show Tryd.prog.wantsStandIn t = false by simpa using List.all_eq_true.1 hall t hm)⟩)
    (by kernel_rfl)
#print axioms pathOne_holds
end Go.Proofs.YtdploelkmlbhnaaDoor
