/- For any policy and any two rows of items that are handed in, the law PolicyPlaces of chapter 8 returns true, and what was handed in reads as it did. No condition. -/
import Derived.Test.YtdjjmppnnkkloaaGreatDoorSPlaces
import Derived.Test.YtdjjmppnnkkloaaGreatDoorSPolIn
import Derived.Test.YtdjjmppnnkkloaaGreatDoorM4
import Derived.Test.YtdjjmppnnkkloaaGreatDoorCards
import Derived.Test.YtdjjmppnnkkloaaGreatDoorTie
import Derived.SevenTiedAt
import Derived.Test.YtdjjmppnnkkloaaGreatDoorK1
import Derived.Test.YtdjjmppnnkkloaaGreatDoorSErrG
import Derived.PinnedBridge
namespace Go.Proofs.YtdjjmppnnkkloaaGreatDoor
open Sy Go Go.ChangeShapes Go.WideShapes Go.ChangeAt Go.RowKit
set_option linter.unusedVariables false
abbrev law_policyPlaces_G : Glob := u8eG 0 1 3 4 5
theorem policyPlaces_u8x : U8Extra Tryz.prog Tryz.lays197_ren := ⟨by kernel_rfl, by kernel_rfl, by kernel_rfl, by kernel_rfl, by kernel_rfl, by kernel_rfl, by kernel_rfl⟩
theorem policyPlaces_acc : Rows.laid_unicode_utf8_acceptRanges = (Lib.acceptData : DataW Unit) := by kernel_rfl
theorem policyPlaces_pow : Rows.laid_internal_strconv_uint64pow10 = (Lib.tabData .u64 Lib.pow10Tab : DataW Unit) := by kernel_rfl
theorem law_policyPlaces_GOK (W : World) (h : laidMetH Tryz.prog Rows.policyPlacesRow.laid W) : GOK law_policyPlaces_G (memOf W) W := by
  rw [MakeChecks.laidMetH_plain _ _ _ (by kernel_rfl)] at h
  have e3 : Rows.laid_unicode_utf8_first = (Lib.firstData : DataW Unit) := Pinned.utf8First_eq
  have ht := Lib.laidMet.reads h (n := "internal/strconv.uint64pow10") (d := Rows.laid_internal_strconv_uint64pow10) (by simp [Rows.policyPlacesRow])
  rw [policyPlaces_pow] at ht
  have e1 := Lib.laidMet.reads h (n := "strconv.ErrSyntax") (d := Rows.laid_strconv_ErrSyntax) (by simp [Rows.policyPlacesRow])
  have e2 := Lib.laidMet.reads h (n := "strconv.ErrRange") (d := Rows.laid_strconv_ErrRange) (by simp [Rows.policyPlacesRow])
  exact u8eG_ok (u8pG_ok (utf8Tabs_of_readsT { Tryz.lays197 with } policyPlaces_u8x (Lib.laidMet.reads h (by rw [← e3]; simp [Rows.policyPlacesRow])) (Lib.laidMet.reads h (by rw [← policyPlaces_acc]; simp [Rows.policyPlacesRow]))) (by decide) (by kernel_rfl)
    (tab_of_reads (g := 3) (t := 178) (e := 37) (n := 20) (by kernel_rfl) (by kernel_rfl) (by kernel_rfl) (by kernel_rfl) (by kernel_rfl) (by kernel_rfl) ht))
    (err_of_reads (t := 114) (by kernel_rfl) (by kernel_rfl) (by kernel_rfl) e1) (err_of_reads (t := 114) (by kernel_rfl) (by kernel_rfl) (by kernel_rfl) e2)
theorem law_policyPlaces (pds : List PD) (h : ShL T 6 Tryz.f6.params.toList pds) : AFn Tryz.prog law_policyPlaces_G 6 pds (.bool true) := by
  rw [Tryz.params6] at h
  obtain ⟨d0, _, rfl, ⟨c0, k0, t0, rfl, h0⟩, d1, _, rfl, ⟨c1, k1, t1, rfl, h1⟩, d2, _, rfl, ⟨c2, k2, t2, rfl, h2⟩, rfl⟩ := h
  obtain ⟨p, rfl, hp⟩ := in_pol h0
  obtain ⟨l, rfl, hl⟩ := in_items2 h1
  obtain ⟨m, rfl, hm⟩ := in_items2 h2
  simp at t0 t1 t2
  subst t0; subst t1; subst t2
  have := PolicyPlaces_ev (u8eG_has (by decide) (by decide) (by decide) (by decide)) (u8eG_pow (by decide)) (u8eG_err _ _ _ _ _) p l m hp (fun x hx => (hl x hx).1) (fun x hx => (hm x hx).1)
  simpa [packD] using this
theorem policyPlaces_own : ownKnob Tryz.prog.godebug = none := by kernel_rfl
set_option maxRecDepth 100000 in
theorem policyPlaces_lifted (os : Os) (started : os.Started) (H : Type) (enc : TypeId × Value → H) :
    ReturnsInHanded {} Tryz.checked os 6 .any (fun w args => (Rows.policyPlacesSpec.pre enc Tryz.prog Tryz.f6 [] false w args ∧ laidMetH Tryz.prog Rows.policyPlacesRow.laid w) ∧ sizedMet enc Tryz.prog Tryz.f6 (OpenSpec.ofChange Rows.policyPlacesSpec) false w args)
      (Rows.policyPlacesSpec.post enc Tryz.prog Tryz.f6 false true false false) := by
  refine returnsInHanded_of_change_and (C := Tryz.checked) (X := fun w _ => laidMetH Tryz.prog Rows.policyPlacesRow.laid w) (fun _ _ _ hh h => h.of_heap hh) policyPlaces_own started (by kernel_rfl) Tryz.func6
    (ChangeSpec.witness_shaped (enc := enc) (C := Tryz.checked) (os := os) (X := fun w _ => laidMetH Tryz.prog Rows.policyPlacesRow.laid w) false (World.laidAll Tryz.prog os Rows.policyPlacesRow.laid) #[.agg #[.slice none 0 0, .slice none 0 0, .string ByteArray.empty, .int .i64 0, .int .i64 0], .slice none 0 0, .slice none 0 0] 8 (World.laidAll_os _ _ _)
      (World.shaped_of_ZipB (by kernel_rfl) (by kernel_rfl)) (by kernel_rfl) (by kernel_rfl) (by kernel_rfl)
      (by rw [MakeChecks.laidMetH_plain _ _ _ (by kernel_rfl)]; exact laidMet_laidAll _ (by kernel_rfl) (by kernel_rfl))) ?_
  intro W base args ds gs before hval0 hW _ hS hL _
  exact law_call (n := 6) (tb := 4) (G := law_policyPlaces_G) tok hval0 hW (by kernel_rfl) (by kernel_rfl) (by kernel_rfl) rfl (fun ds h => by
    match ds, h with
    | [d1, d2, d3], _ => rfl) rfl (by kernel_rfl) (law_policyPlaces_GOK W hL) hS law_policyPlaces
theorem policyPlaces_row : Rows.PolicyPlacesSaid :=
  OpenClaim.holds_of_wide 6 Tryz.f6 rfl rfl rfl rfl rfl rfl rfl ⟨rfl, rfl, rfl, rfl, rfl⟩ rfl rfl rfl rfl rfl (by kernel_rfl) Tryz.func6 (by kernel_rfl)
    (of_decide_eq_true (by kernel_rfl)) (by unfold Func.isWrapper; first | (rw [if_pos (by decide +kernel)]; kernel_rfl) | (rw [if_neg (by decide +kernel)]; exact ⟨rfl, rfl⟩))
    (fun os started H enc _ => policyPlaces_lifted os started H enc)
theorem policyPlaces_holds : Rows.PolicyPlacesCardSaid :=
  Claim7.holds_tied_plain_at .later [] Rows.policyPlacesCard.laidKinds true Rows.policyPlacesCard.stood.harness Rows.policyPlacesCard.stood.looks policyPlaces_row (fun _ h => by cases h) (by kernel_rfl) (fun _ h => by cases h) policyPlaces_row_tie rfl ⟨rfl, rfl⟩ (by kernel_rfl) rfl
    (fun f fn hf hfn => by
      obtain rfl : f = 6 := Option.some.inj ((show Tryz.prog.funcNamed Rows.policyPlacesRow.func = some 6 by kernel_rfl).symm.trans hf) |>.symm
      obtain rfl : fn = Tryz.f6 := (Option.some.inj (Tryz.func6.symm.trans hfn)).symm
      exact ⟨by kernel_rfl, fun j t ht => by
        have hm : t ∈ Tryz.f6.params.toList := by simpa using Array.mem_of_getElem? ht
        have hall : (Tryz.f6.params.toList.all fun u => !Tryz.prog.wantsStandIn u) = true := by kernel_rfl
        exact (show Tryz.prog.wantsStandIn t = false by simpa using List.all_eq_true.1 hall t hm)⟩)
    (by kernel_rfl)
#print axioms policyPlaces_holds
end Go.Proofs.YtdjjmppnnkkloaaGreatDoor
