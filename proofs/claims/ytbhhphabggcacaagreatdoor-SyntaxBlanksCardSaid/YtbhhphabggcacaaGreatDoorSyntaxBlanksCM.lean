/- For any text that is handed in, the law SyntaxBlanks of chapter 11 returns true, and what was handed in reads as it did. No condition. -/
import Derived.Test.YtbhhphabggcacaaGreatDoorSLaws11
import Derived.Test.YtbhhphabggcacaaGreatDoorSSynIn
import Derived.Test.YtbhhphabggcacaaGreatDoorM4
import Derived.Test.YtbhhphabggcacaaGreatDoorCards
import Derived.Test.YtbhhphabggcacaaGreatDoorTie
import Derived.SevenTiedAt
import Derived.Test.YtbhhphabggcacaaGreatDoorSLibU
import Derived.Test.YtbhhphabggcacaaGreatDoorK1
import Derived.PinnedBridge
namespace Go.Proofs.YtbhhphabggcacaaGreatDoor
open Sy Go Go.ChangeShapes Go.WideShapes Go.ChangeAt Go.RowKit
set_option linter.unusedVariables false
abbrev jB : qS := qJX 1 2 3 4 5
theorem qHS : U8Extra Tryz.prog Tryz.lays197_ren := ⟨by kernel_rfl, by kernel_rfl, by kernel_rfl, by kernel_rfl, by kernel_rfl, by kernel_rfl, by kernel_rfl⟩
theorem qHW : Rows.laid_unicode_utf8_acceptRanges = (Lib.acceptData : DataW Unit) := by kernel_rfl
theorem qHU : Rows.laid_internal_strconv_uint64pow10 = (Lib.tabData .u64 Lib.pow10Tab : DataW Unit) := by kernel_rfl
theorem qDL (W : World) (h : laidMetH Tryz.prog Rows.syntaxBlanksRow.laid W) : GOK jB (jX W) W := by
  rw [MakeChecks.laidMetH_plain _ _ _ (by kernel_rfl)] at h
  have e3 : Rows.laid_unicode_utf8_first = (Lib.firstData : DataW Unit) := Pinned.utf8First_eq
  have ht := Lib.laidMet.reads h (n := "internal/strconv.uint64pow10") (d := Rows.laid_internal_strconv_uint64pow10) (by simp [Rows.syntaxBlanksRow])
  rw [qHU] at ht
  have e1 := Lib.laidMet.reads h (n := "strconv.ErrSyntax") (d := Rows.laid_strconv_ErrSyntax) (by simp [Rows.syntaxBlanksRow])
  have e2 := Lib.laidMet.reads h (n := "strconv.ErrRange") (d := Rows.laid_strconv_ErrRange) (by simp [Rows.syntaxBlanksRow])
  exact qYF (qYE (utf8Tabs_of_readsT { Tryz.lays197 with } qHS (Lib.laidMet.reads h (by rw [← e3]; simp [Rows.syntaxBlanksRow])) (Lib.laidMet.reads h (by rw [← qHW]; simp [Rows.syntaxBlanksRow]))) (by decide) (by kernel_rfl)
    (qGK (g := 3) (t := 153) (e := 136) (n := 20) (by kernel_rfl) (by kernel_rfl) (by kernel_rfl) (by kernel_rfl) (by kernel_rfl) (by kernel_rfl) ht))
    (uK (t := 88) (by kernel_rfl) (by kernel_rfl) (by kernel_rfl) e1) (uK (t := 88) (by kernel_rfl) (by kernel_rfl) (by kernel_rfl) e2)
theorem qII (pds : List PD) (h : ShL T 6 Tryz.f5.params.toList pds) : AFn Tryz.prog jB 5 pds (.bool true) := by
  rw [Tryz.params5] at h
  obtain ⟨d0, _, rfl, ⟨c0, k0, t0, rfl, h0⟩, rfl⟩ := h
  obtain ⟨s, rfl⟩ := qUW h0
  simp at t0
  subst t0
  have := qKE (G := jB) (qSR (by decide) (by decide) (by decide) (by decide)) (qSS _ _ _ _ _) s (fun n => qVV (g := 3) (qSQ (by decide)) (by kernel_rfl) n)
  simpa [qCT] using this
theorem qHV : ownKnob Tryz.prog.godebug = none := by kernel_rfl
set_option maxRecDepth 100000 in
theorem qER (os : Os) (started : os.Started) (H : Type) (enc : TypeId × Value → H) :
    ReturnsInHanded {} Tryz.checked os 5 .any (fun w args => (Rows.syntaxBlanksSpec.pre enc Tryz.prog Tryz.f5 [] false w args ∧ laidMetH Tryz.prog Rows.syntaxBlanksRow.laid w) ∧ sizedMet enc Tryz.prog Tryz.f5 (OpenSpec.ofChange Rows.syntaxBlanksSpec) false w args)
      (Rows.syntaxBlanksSpec.post enc Tryz.prog Tryz.f5 false true false false) := by
  refine returnsInHanded_of_change_and (C := Tryz.checked) (X := fun w _ => laidMetH Tryz.prog Rows.syntaxBlanksRow.laid w) (fun _ _ _ hh h => h.of_heap hh) qHV started (by kernel_rfl) Tryz.func5
    (ChangeSpec.witness_shaped (enc := enc) (C := Tryz.checked) (os := os) (X := fun w _ => laidMetH Tryz.prog Rows.syntaxBlanksRow.laid w) false (World.laidAll Tryz.prog os Rows.syntaxBlanksRow.laid) #[.string .empty] 8 (World.laidAll_os _ _ _)
      (World.shaped_of_ZipB (by kernel_rfl) (by kernel_rfl)) (by kernel_rfl) (by kernel_rfl) (by kernel_rfl)
      (by rw [MakeChecks.laidMetH_plain _ _ _ (by kernel_rfl)]; exact laidMet_laidAll _ (by kernel_rfl) (by kernel_rfl))) ?_
  intro W base args ds gs before hval0 hW _ hS hL _
  exact qUR (n := 6) (tb := 4) (G := jB) tok hval0 hW (by kernel_rfl) (by kernel_rfl) (by kernel_rfl) rfl (fun ds h => by
    match ds, h with
    | [d1], _ => rfl) rfl (by kernel_rfl) (qDL W hL) hS qII
theorem qHT : Rows.SyntaxBlanksSaid :=
  OpenClaim.holds_of_wide 5 Tryz.f5 rfl rfl rfl rfl rfl rfl rfl ⟨rfl, rfl, rfl, rfl, rfl⟩ rfl rfl rfl rfl rfl (by kernel_rfl) Tryz.func5 (by kernel_rfl)
    (of_decide_eq_true (by kernel_rfl)) (by unfold Func.isWrapper; first | (rw [if_pos (by decide +kernel)]; kernel_rfl) | (rw [if_neg (by decide +kernel)]; exact ⟨rfl, rfl⟩))
    (fun os started H enc _ => qER os started H enc)
theorem syntaxBlanks_holds : Rows.SyntaxBlanksCardSaid :=
  Claim7.holds_tied_plain_at .later [] Rows.syntaxBlanksCard.laidKinds true Rows.syntaxBlanksCard.stood.harness Rows.syntaxBlanksCard.stood.looks qHT (fun _ h => by cases h) (by kernel_rfl) (fun _ h => by cases h) syntaxBlanks_row_tie rfl ⟨rfl, rfl⟩ (by kernel_rfl) rfl
    (fun f fn hf hfn => by
      obtain rfl : f = 5 := Option.some.inj ((show Tryz.prog.funcNamed Rows.syntaxBlanksRow.func = some 5 by kernel_rfl).symm.trans hf) |>.symm
      obtain rfl : fn = Tryz.f5 := (Option.some.inj (Tryz.func5.symm.trans hfn)).symm
      exact ⟨by kernel_rfl, fun j t ht => by
        have hm : t ∈ Tryz.f5.params.toList := by simpa using Array.mem_of_getElem? ht
        have hall : (Tryz.f5.params.toList.all fun u => !Tryz.prog.wantsStandIn u) = true := by kernel_rfl
        exact (show Tryz.prog.wantsStandIn t = false by simpa using List.all_eq_true.1 hall t hm)⟩)
    (by kernel_rfl)
#print axioms syntaxBlanks_holds
end Go.Proofs.YtbhhphabggcacaaGreatDoor
