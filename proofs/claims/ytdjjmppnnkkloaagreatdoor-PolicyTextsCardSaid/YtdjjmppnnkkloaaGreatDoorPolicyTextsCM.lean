/- For any text and any policy that are handed in, the law PolicyTexts of chapter 8 returns true, and what was handed in reads as it did. No condition. -/
import Derived.Test.YtdjjmppnnkkloaaGreatDoorSTexts8
import Derived.Test.YtdjjmppnnkkloaaGreatDoorSPathIn
import Derived.Test.YtdjjmppnnkkloaaGreatDoorSPolIn
import Derived.Test.YtdjjmppnnkkloaaGreatDoorM4
import Derived.Test.YtdjjmppnnkkloaaGreatDoorCards
import Derived.Test.YtdjjmppnnkkloaaGreatDoorTie
import Derived.SevenTiedAt
import Derived.Test.YtdjjmppnnkkloaaGreatDoorK1
import Derived.Test.YtdjjmppnnkkloaaGreatDoorSErrG
import Derived.PinnedBridge
namespace Go.Proofs.YtdjjmppnnkkloaaGreatDoor
open Sy Go Go.ChangeShapes Go.WideShapes Go.ChangeAt Go.RowKit
set_option linter.unusedVariables false
abbrev law_policyTexts_G : Glob := u8eG 0 1 3 4 5
theorem policyTexts_u8x : U8Extra Tryz.prog Tryz.lays197_ren := ⟨by kernel_rfl, by kernel_rfl, by kernel_rfl, by kernel_rfl, by kernel_rfl, by kernel_rfl, by kernel_rfl⟩
theorem policyTexts_acc : Rows.laid_unicode_utf8_acceptRanges = (Lib.acceptData : DataW Unit) := by kernel_rfl
theorem policyTexts_pow : Rows.laid_internal_strconv_uint64pow10 = (Lib.tabData .u64 Lib.pow10Tab : DataW Unit) := by kernel_rfl
theorem law_policyTexts_GOK (W : World) (h : laidMetH Tryz.prog Rows.policyTextsRow.laid W) : GOK law_policyTexts_G (memOf W) W := by
  rw [MakeChecks.laidMetH_plain _ _ _ (by kernel_rfl)] at h
  have e3 : Rows.laid_unicode_utf8_first = (Lib.firstData : DataW Unit) := Pinned.utf8First_eq
  have ht := Lib.laidMet.reads h (n := "internal/strconv.uint64pow10") (d := Rows.laid_internal_strconv_uint64pow10) (by simp [Rows.policyTextsRow])
  rw [policyTexts_pow] at ht
  have e1 := Lib.laidMet.reads h (n := "strconv.ErrSyntax") (d := Rows.laid_strconv_ErrSyntax) (by simp [Rows.policyTextsRow])
  have e2 := Lib.laidMet.reads h (n := "strconv.ErrRange") (d := Rows.laid_strconv_ErrRange) (by simp [Rows.policyTextsRow])
  exact u8eG_ok (u8pG_ok (utf8Tabs_of_readsT { Tryz.lays197 with } policyTexts_u8x (Lib.laidMet.reads h (by rw [← e3]; simp [Rows.policyTextsRow])) (Lib.laidMet.reads h (by rw [← policyTexts_acc]; simp [Rows.policyTextsRow]))) (by decide) (by kernel_rfl)
    (tab_of_reads (g := 3) (t := 178) (e := 37) (n := 20) (by kernel_rfl) (by kernel_rfl) (by kernel_rfl) (by kernel_rfl) (by kernel_rfl) (by kernel_rfl) ht))
    (err_of_reads (t := 114) (by kernel_rfl) (by kernel_rfl) (by kernel_rfl) e1) (err_of_reads (t := 114) (by kernel_rfl) (by kernel_rfl) (by kernel_rfl) e2)
theorem law_policyTexts (pds : List PD) (h : ShL T 6 Tryz.f3.params.toList pds) : AFn Tryz.prog law_policyTexts_G 3 pds (.bool true) := by
  rw [Tryz.params3] at h
  obtain ⟨d0, _, rfl, ⟨c0, k0, t0, rfl, h0⟩, d1, _, rfl, ⟨c1, k1, t1, rfl, h1⟩, rfl⟩ := h
  obtain ⟨s, rfl⟩ := in_str h0
  obtain ⟨p, rfl, hp⟩ := in_pol h1
  simp at t0 t1
  subst t0; subst t1
  have := PolicyTexts_ev (u8eG_has (by decide) (by decide) (by decide) (by decide)) (u8eG_pow (by decide)) (u8eG_err _ _ _ _ _) s p hp
  simpa [packD] using this
theorem policyTexts_own : ownKnob Tryz.prog.godebug = none := by kernel_rfl
set_option maxRecDepth 100000 in
theorem policyTexts_lifted (os : Os) (started : os.Started) (H : Type) (enc : TypeId × Value → H) :
    ReturnsInHanded {} Tryz.checked os 3 .any (fun w args => (Rows.policyTextsSpec.pre enc Tryz.prog Tryz.f3 [] false w args ∧ laidMetH Tryz.prog Rows.policyTextsRow.laid w) ∧ sizedMet enc Tryz.prog Tryz.f3 (OpenSpec.ofChange Rows.policyTextsSpec) false w args)
      (Rows.policyTextsSpec.post enc Tryz.prog Tryz.f3 false true false false) := by
  refine returnsInHanded_of_change_and (C := Tryz.checked) (X := fun w _ => laidMetH Tryz.prog Rows.policyTextsRow.laid w) (fun _ _ _ hh h => h.of_heap hh) policyTexts_own started (by kernel_rfl) Tryz.func3
    (ChangeSpec.witness_shaped (enc := enc) (C := Tryz.checked) (os := os) (X := fun w _ => laidMetH Tryz.prog Rows.policyTextsRow.laid w) false (World.laidAll Tryz.prog os Rows.policyTextsRow.laid) #[.string ByteArray.empty, .agg #[.slice none 0 0, .slice none 0 0, .string ByteArray.empty, .int .i64 0, .int .i64 0]] 8 (World.laidAll_os _ _ _)
      (World.shaped_of_ZipB (by kernel_rfl) (by kernel_rfl)) (by kernel_rfl) (by kernel_rfl) (by kernel_rfl)
      (by rw [MakeChecks.laidMetH_plain _ _ _ (by kernel_rfl)]; exact laidMet_laidAll _ (by kernel_rfl) (by kernel_rfl))) ?_
  intro W base args ds gs before hval0 hW _ hS hL _
  exact law_call (n := 6) (tb := 4) (G := law_policyTexts_G) tok hval0 hW (by kernel_rfl) (by kernel_rfl) (by kernel_rfl) rfl (fun ds h => by
    match ds, h with
    | [d1, d2], _ => rfl) rfl (by kernel_rfl) (law_policyTexts_GOK W hL) hS law_policyTexts
theorem policyTexts_row : Rows.PolicyTextsSaid :=
  OpenClaim.holds_of_wide 3 Tryz.f3 rfl rfl rfl rfl rfl rfl rfl ⟨rfl, rfl, rfl, rfl, rfl⟩ rfl rfl rfl rfl rfl (by kernel_rfl) Tryz.func3 (by kernel_rfl)
    (of_decide_eq_true (by kernel_rfl)) (by unfold Func.isWrapper; first | (rw [if_pos (by decide +kernel)]; kernel_rfl) | (rw [if_neg (by decide +kernel)]; exact ⟨rfl, rfl⟩))
    (fun os started H enc _ => policyTexts_lifted os started H enc)
theorem policyTexts_holds : Rows.PolicyTextsCardSaid :=
  Claim7.holds_tied_plain_at .later [] Rows.policyTextsCard.laidKinds true Rows.policyTextsCard.stood.harness Rows.policyTextsCard.stood.looks policyTexts_row (fun _ h => by cases h) (by kernel_rfl) (fun _ h => by cases h) policyTexts_row_tie rfl ⟨rfl, rfl⟩ (by kernel_rfl) rfl
    (fun f fn hf hfn => by
      obtain rfl : f = 3 := Option.some.inj ((show Tryz.prog.funcNamed Rows.policyTextsRow.func = some 3 by kernel_rfl).symm.trans hf) |>.symm
      obtain rfl : fn = Tryz.f3 := (Option.some.inj (Tryz.func3.symm.trans hfn)).symm
      exact ⟨by kernel_rfl, fun j t ht => by
        have hm : t ∈ Tryz.f3.params.toList := by simpa using Array.mem_of_getElem? ht
        have hall : (Tryz.f3.params.toList.all fun u => !Tryz.prog.wantsStandIn u) = true := by kernel_rfl
        exact (show Tryz.prog.wantsStandIn t = false by simpa using List.all_eq_true.1 hall t hm)⟩)
    (by kernel_rfl)
#print axioms policyTexts_holds
end Go.Proofs.YtdjjmppnnkkloaaGreatDoor
