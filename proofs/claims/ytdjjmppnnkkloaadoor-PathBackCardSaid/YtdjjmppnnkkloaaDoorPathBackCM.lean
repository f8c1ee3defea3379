/- For any pattern and any text that are handed in, the law PathBack of chapter 7 returns true, and what was handed in reads as it did. No condition. -/
import Derived.Test.YtdjjmppnnkkloaaDoorSPathBack
import Derived.Test.YtdjjmppnnkkloaaDoorSPathIn
import Derived.Test.YtdjjmppnnkkloaaDoorM4
import Derived.Test.YtdjjmppnnkkloaaDoorCards
import Derived.Test.YtdjjmppnnkkloaaDoorTie
import Derived.SevenTiedAt
import Derived.Test.YtdjjmppnnkkloaaDoorSLibU
import Derived.Test.YtdjjmppnnkkloaaDoorSItoaN
import Derived.PinnedBridge
namespace Go.Proofs.YtdjjmppnnkkloaaDoor
open Sy Go Go.ChangeShapes Go.WideShapes Go.ChangeAt Go.RowKit
set_option linter.unusedVariables false
abbrev law_pathBack_G : Glob := u8pG 0 1 3
theorem pathBack_u8x : U8Extra Tryd.prog Tryd.lays197_ren := ⟨by kernel_rfl, by kernel_rfl, by kernel_rfl, by kernel_rfl, by kernel_rfl, by kernel_rfl, by kernel_rfl⟩
theorem pathBack_acc : Rows.laid_unicode_utf8_acceptRanges = (Lib.acceptData : DataW Unit) := by kernel_rfl
theorem pathBack_pow : Rows.laid_internal_strconv_uint64pow10 = (Lib.tabData .u64 Lib.pow10Tab : DataW Unit) := by kernel_rfl
theorem law_pathBack_GOK (W : World) (h : laidMetH Tryd.prog Rows.pathBackRow.laid W) : GOK law_pathBack_G (memOf W) W := by
  rw [MakeChecks.laidMetH_plain _ _ _ (by kernel_rfl)] at h
  have e3 : Rows.laid_unicode_utf8_first = (Lib.firstData : DataW Unit) := Pinned.utf8First_eq
  have ht := Lib.laidMet.reads h (n := "internal/strconv.uint64pow10") (d := Rows.laid_internal_strconv_uint64pow10) (by simp [Rows.pathBackRow])
  rw [pathBack_pow] at ht
  exact u8pG_ok (utf8Tabs_of_readsT { Tryd.lays197 with } pathBack_u8x (Lib.laidMet.reads h (by rw [← e3]; simp [Rows.pathBackRow])) (Lib.laidMet.reads h (by rw [← pathBack_acc]; simp [Rows.pathBackRow]))) (by decide) (by kernel_rfl)
    (tab_of_reads (g := 3) (t := 99) (e := 85) (n := 20) (by kernel_rfl) (by kernel_rfl) (by kernel_rfl) (by kernel_rfl) (by kernel_rfl) (by kernel_rfl) ht)
theorem law_pathBack (pds : List PD) (h : ShL T 4 Tryd.f3.params.toList pds) : AFn Tryd.prog law_pathBack_G 3 pds (.bool true) := by
  rw [Tryd.params3] at h
  obtain ⟨d0, _, rfl, ⟨c0, k0, t0, rfl, h0⟩, d1, _, rfl, ⟨c1, k1, t1, rfl, h1⟩, rfl⟩ := h
  obtain ⟨l, rfl⟩ := in_steps h0
  obtain ⟨s, rfl⟩ := in_str h1
  simp at t0 t1
  subst t0; subst t1
  have := PathBack_ev (u8pG_has (by decide) (by decide) (by decide)) (u8pG_pow _ _ _) l s
  simpa [packD] using this
theorem pathBack_own : ownKnob Tryd.prog.godebug = none := by kernel_rfl
set_option maxRecDepth 100000 in
theorem pathBack_lifted (os : Os) (started : os.Started) (H : Type) (enc : TypeId × Value → H) :
    ReturnsInHanded {} Tryd.checked os 3 .any (fun w args => (Rows.pathBackSpec.pre enc Tryd.prog Tryd.f3 [] false w args ∧ laidMetH Tryd.prog Rows.pathBackRow.laid w) ∧ sizedMet enc Tryd.prog Tryd.f3 (OpenSpec.ofChange Rows.pathBackSpec) false w args)
      (Rows.pathBackSpec.post enc Tryd.prog Tryd.f3 false true false false) := by
  refine returnsInHanded_of_change_and (C := Tryd.checked) (X := fun w _ => laidMetH Tryd.prog Rows.pathBackRow.laid w) (fun _ _ _ hh h => h.of_heap hh) pathBack_own started (by kernel_rfl) Tryd.func3
    (ChangeSpec.witness_shaped (enc := enc) (C := Tryd.checked) (os := os) (X := fun w _ => laidMetH Tryd.prog Rows.pathBackRow.laid w) false (World.laidAll Tryd.prog os Rows.pathBackRow.laid) #[.slice none 0 0, .string ByteArray.empty] 8 (World.laidAll_os _ _ _)
      (World.shaped_of_ZipB (by kernel_rfl) (by kernel_rfl)) (by kernel_rfl) (by kernel_rfl) (by kernel_rfl)
      (by rw [MakeChecks.laidMetH_plain _ _ _ (by kernel_rfl)]; exact laidMet_laidAll _ (by kernel_rfl) (by kernel_rfl))) ?_
  intro W base args ds gs before hval0 hW _ hS hL _
  exact law_call (n := 4) (tb := 4) (G := law_pathBack_G) tok hval0 hW (by kernel_rfl) (by kernel_rfl) (by kernel_rfl) rfl (fun ds h => by
    match ds, h with
    | [d1, d2], _ => rfl) rfl (by kernel_rfl) (law_pathBack_GOK W hL) hS law_pathBack
theorem pathBack_row : Rows.PathBackSaid :=
  OpenClaim.holds_of_wide 3 Tryd.f3 rfl rfl rfl rfl rfl rfl rfl ⟨rfl, rfl, rfl, rfl, rfl⟩ rfl rfl rfl rfl rfl (by kernel_rfl) Tryd.func3 (by kernel_rfl)
    (of_decide_eq_true (by kernel_rfl)) (by unfold Func.isWrapper; first | (rw [if_pos (by decide +kernel)]; kernel_rfl) | (rw [if_neg (by decide +kernel)]; exact ⟨rfl, rfl⟩))
    (fun os started H enc _ => pathBack_lifted os started H enc)
theorem pathBack_holds : Rows.PathBackCardSaid :=
  Claim7.holds_tied_plain_at .later [] Rows.pathBackCard.laidKinds true Rows.pathBackCard.stood.harness false pathBack_row (fun _ h => by cases h) (by kernel_rfl) (fun _ h => by cases h) pathBack_row_tie rfl ⟨rfl, rfl⟩ (by kernel_rfl) rfl
    (fun f fn hf hfn => by
      obtain rfl : f = 3 := Option.some.inj ((show Tryd.prog.funcNamed Rows.pathBackRow.func = some 3 by kernel_rfl).symm.trans hf) |>.symm
      obtain rfl : fn = Tryd.f3 := (Option.some.inj (Tryd.func3.symm.trans hfn)).symm
      exact ⟨by kernel_rfl, fun j t ht => by
        have hm : t ∈ Tryd.f3.params.toList := by simpa using Array.mem_of_getElem? ht
        have hall : (Tryd.f3.params.toList.all fun u => !Tryd.prog.wantsStandIn u) = true := by kernel_rfl
        exact (show Tryd.prog.wantsStandIn t = false by simpa using List.all_eq_true.1 hall t hm)⟩)
    (by kernel_rfl)
#print axioms pathBack_holds
end Go.Proofs.YtdjjmppnnkkloaaDoor
