/- For any row of items and any parts that are handed in, the law TreeSpoilt of chapter 4 returns true, and what was handed in reads as it did. No condition. -/
import Derived.Test.YtgoepemmcibdaaaDoorM7
import Derived.Test.YtgoepemmcibdaaaDoorCards
import Derived.Test.YtgoepemmcibdaaaDoorTie
import Derived.SevenTiedAt
import Derived.PinnedBridge
namespace Go.Proofs.YtgoepemmcibdaaaDoor
open Sy Go Go.ChangeShapes Go.WideShapes Go.ChangeAt Go.RowKit
set_option linter.unusedVariables false
abbrev law_treeSpoilt_G : Glob := u8G 1 2
theorem treeSpoilt_u8x : U8Extra Tryd.prog Tryd.lays196_ren := ⟨by kernel_rfl, by kernel_rfl, by kernel_rfl, by kernel_rfl, by kernel_rfl, by kernel_rfl, by kernel_rfl⟩
theorem treeSpoilt_acc : Rows.laid_unicode_utf8_acceptRanges = (Lib.acceptData : DataW Unit) := by kernel_rfl
theorem law_treeSpoilt_GOK (W : World) (h : laidMetH Tryd.prog Rows.treeSpoiltRow.laid W) : GOK law_treeSpoilt_G (memOf W) := by
  rw [MakeChecks.laidMetH_plain _ _ _ (by kernel_rfl)] at h
  have e3 : Rows.laid_unicode_utf8_first = (Lib.firstData : DataW Unit) := Pinned.utf8First_eq
  exact u8G_ok (utf8Tabs_of_readsT (.of196 Tryd.lays196) treeSpoilt_u8x (Lib.laidMet.reads h (by rw [← e3]; simp [Rows.treeSpoiltRow])) (Lib.laidMet.reads h (by rw [← treeSpoilt_acc]; simp [Rows.treeSpoiltRow]))) (by decide)
theorem law_treeSpoilt (pds : List PD) (h : ShL T 4 Tryd.f3.params.toList pds) : AFn Tryd.prog law_treeSpoilt_G 3 pds (.bool true) := by
  rw [Tryd.params3] at h
  obtain ⟨d0, _, rfl, ⟨c0, k0, t0, rfl, h0⟩, d1, _, rfl, ⟨c1, k1, t1, rfl, h1⟩, rfl⟩ := h
  obtain ⟨l, rfl, hl⟩ := in_items h0
  obtain ⟨x, hx⟩ := in_spo h1
  simp at t0 t1
  subst t0; subst t1
  have := TreeSpoilt_ev (u8G_has (by decide)) l x hl
  rw [← hx] at this
  simpa [packD] using this
theorem treeSpoilt_own : ownKnob Tryd.prog.godebug = none := by kernel_rfl
set_option maxRecDepth 100000 in
theorem treeSpoilt_lifted (os : Os) (started : os.Started) (H : Type) (enc : TypeId × Value → H) :
    ReturnsInHanded {} Tryd.checked os 3 .any (fun w args => (Rows.treeSpoiltSpec.pre enc Tryd.prog Tryd.f3 [] false w args ∧ laidMetH Tryd.prog Rows.treeSpoiltRow.laid w) ∧ sizedMet enc Tryd.prog Tryd.f3 (OpenSpec.ofChange Rows.treeSpoiltSpec) false w args)
      (Rows.treeSpoiltSpec.post enc Tryd.prog Tryd.f3 false true false false) := by
  refine returnsInHanded_of_change_and (C := Tryd.checked) (X := fun w _ => laidMetH Tryd.prog Rows.treeSpoiltRow.laid w) (fun _ _ _ hh h => h.of_heap hh) treeSpoilt_own started (by kernel_rfl) Tryd.func3
    (ChangeSpec.witness_shaped (enc := enc) (C := Tryd.checked) (os := os) (X := fun w _ => laidMetH Tryd.prog Rows.treeSpoiltRow.laid w) false (World.laidAll Tryd.prog os Rows.treeSpoiltRow.laid) #[.slice none 0 0, .agg #[.int .i64 0, .int .i64 0, .bool false, .string .empty, .int .i64 0, .string .empty, .slice none 0 0]] 8 (World.laidAll_os _ _ _)
      (World.shaped_of_ZipB (by kernel_rfl) (by kernel_rfl)) (by kernel_rfl) (by kernel_rfl) (by kernel_rfl)
      (by rw [MakeChecks.laidMetH_plain _ _ _ (by kernel_rfl)]; exact laidMet_laidAll _ (by kernel_rfl) (by kernel_rfl))) ?_
  intro W base args ds gs before hval0 hW _ hS hL _
  exact law_call (n := 4) (tb := 4) (G := law_treeSpoilt_G) tok hval0 hW (by kernel_rfl) (by kernel_rfl) (by kernel_rfl) rfl (fun ds h => by
    match ds, h with
    | [d1, d2], _ => rfl) rfl (by kernel_rfl) (law_treeSpoilt_GOK W hL) hS law_treeSpoilt
theorem treeSpoilt_row : Rows.TreeSpoiltSaid :=
  OpenClaim.holds_of_wide 3 Tryd.f3 rfl rfl rfl rfl rfl rfl rfl ⟨rfl, rfl, rfl, rfl, rfl⟩ rfl rfl rfl rfl rfl (by kernel_rfl) Tryd.func3 (by kernel_rfl)
    (of_decide_eq_true (by kernel_rfl)) (by unfold Func.isWrapper; first | (rw [if_pos (by decide +kernel)]; kernel_rfl) | (rw [if_neg (by decide +kernel)]; exact ⟨rfl, rfl⟩))
    (fun os started H enc _ => treeSpoilt_lifted os started H enc)
theorem treeSpoilt_holds : Rows.TreeSpoiltCardSaid :=
  Claim7.holds_tied_plain_at .later [] Rows.treeSpoiltCard.laidKinds true Rows.treeSpoiltCard.stood.harness false treeSpoilt_row (fun _ h => by cases h) (by kernel_rfl) (fun _ h => by cases h) treeSpoilt_row_tie rfl ⟨rfl, rfl⟩ (by kernel_rfl) rfl
    (fun f fn hf hfn => by
      obtain rfl : f = 3 := Option.some.inj ((show Tryd.prog.funcNamed Rows.treeSpoiltRow.func = some 3 by kernel_rfl).symm.trans hf) |>.symm
      obtain rfl : fn = Tryd.f3 := (Option.some.inj (Tryd.func3.symm.trans hfn)).symm
      exact ⟨by kernel_rfl, fun j t ht => by
        have hm : t ∈ Tryd.f3.params.toList := by simpa using Array.mem_of_getElem? ht
        have hall : (Tryd.f3.params.toList.all fun u => !Tryd.prog.wantsStandIn u) = true := by kernel_rfl
        exact (show Tryd.prog.wantsStandIn t = false by simpa using List.all_eq_true.1 hall t hm)⟩)
    (by kernel_rfl)
#print axioms treeSpoilt_holds
end Go.Proofs.YtgoepemmcibdaaaDoor
