/- For any job and any byte that are handed in, the law ScriptOrder of chapter 21 returns true, and what was handed in reads as it did. No condition. -/
import Derived.Test.YtlmedakhioiahaaGreatDoorSOrder21
import Derived.Test.YtlmedakhioiahaaGreatDoorSJobIn
import Derived.Test.YtlmedakhioiahaaGreatDoorM4
import Derived.Test.YtlmedakhioiahaaGreatDoorCards
import Derived.Test.YtlmedakhioiahaaGreatDoorTie
import Derived.SevenTiedAt
import Derived.Test.YtlmedakhioiahaaGreatDoorK2
import Derived.Test.YtlmedakhioiahaaGreatDoorSErrG
import Derived.PinnedBridge
namespace Go.Proofs.YtlmedakhioiahaaGreatDoor
open Sy Go Go.ChangeShapes Go.WideShapes Go.ChangeAt Go.RowKit
set_option linter.unusedVariables false
abbrev kP : qR := qPP 0 1 4 2 3
theorem qJF : U8Extra Tryz.prog Tryz.lays197_ren := ⟨by kernel_rfl, by kernel_rfl, by kernel_rfl, by kernel_rfl, by kernel_rfl, by kernel_rfl, by kernel_rfl⟩
theorem qJJ : Rows.laid_unicode_utf8_acceptRanges = (Lib.acceptData : DataW Unit) := by kernel_rfl
theorem qJH : Rows.laid_internal_strconv_uint64pow10 = (Lib.tabData .u64 Lib.pow10Tab : DataW Unit) := by kernel_rfl
theorem qDY (W : World) (h : laidMetH Tryz.prog Rows.scriptOrderRow.laid W) : GOK kP (jM W) W := by
  rw [MakeChecks.laidMetH_plain _ _ _ (by kernel_rfl)] at h
  have e3 : Rows.laid_unicode_utf8_first = (Lib.firstData : DataW Unit) := Pinned.utf8First_eq
  have ht := Lib.laidMet.reads h (n := "internal/strconv.uint64pow10") (d := Rows.laid_internal_strconv_uint64pow10) (by simp [Rows.scriptOrderRow])
  rw [qJH] at ht
  have e1 := Lib.laidMet.reads h (n := "strconv.ErrSyntax") (d := Rows.laid_strconv_ErrSyntax) (by simp [Rows.scriptOrderRow])
  have e2 := Lib.laidMet.reads h (n := "strconv.ErrRange") (d := Rows.laid_strconv_ErrRange) (by simp [Rows.scriptOrderRow])
  exact zGN (zGM (utf8Tabs_of_readsT { Tryz.lays197 with } qJF (Lib.laidMet.reads h (by rw [← e3]; simp [Rows.scriptOrderRow])) (Lib.laidMet.reads h (by rw [← qJJ]; simp [Rows.scriptOrderRow]))) (by decide) (by kernel_rfl)
    (qPU (g := 4) (t := 186) (e := 37) (n := 20) (by kernel_rfl) (by kernel_rfl) (by kernel_rfl) (by kernel_rfl) (by kernel_rfl) (by kernel_rfl) ht))
    (qGK (t := 95) (by kernel_rfl) (by kernel_rfl) (by kernel_rfl) e1) (qGK (t := 95) (by kernel_rfl) (by kernel_rfl) (by kernel_rfl) e2)
theorem qJN (pds : List PD) (h : ShL T 6 Tryz.f5.params.toList pds) : AFn Tryz.prog kP 5 pds (.bool true) := by
  rw [Tryz.params5] at h
  obtain ⟨d0, _, rfl, ⟨c0, k0, t0, rfl, h0⟩, d1, _, rfl, ⟨c1, k1, t1, rfl, h1⟩, rfl⟩ := h
  obtain ⟨j, rfl, hj⟩ := zKG h0
  obtain ⟨m, rfl, hm⟩ := zOA h1
  simp at t0 t1
  subst t0; subst t1
  have := qMU (G := kP) (zCK (by decide) (by decide) (by decide) (by decide)) (zCL _ _ _ _ _) j m hj hm
  simpa [qCJ] using this
theorem qJI : ownKnob Tryz.prog.godebug = none := by kernel_rfl
set_option maxRecDepth 100000 in
theorem qEN (os : Os) (started : os.Started) (H : Type) (enc : TypeId × Value → H) :
    ReturnsInHanded {} Tryz.checked os 5 .any (fun w args => (Rows.scriptOrderSpec.pre enc Tryz.prog Tryz.f5 [] false w args ∧ laidMetH Tryz.prog Rows.scriptOrderRow.laid w) ∧ sizedMet enc Tryz.prog Tryz.f5 (OpenSpec.ofChange Rows.scriptOrderSpec) false w args)
      (Rows.scriptOrderSpec.post enc Tryz.prog Tryz.f5 false true false false) := by
  refine returnsInHanded_of_change_and (C := Tryz.checked) (X := fun w _ => laidMetH Tryz.prog Rows.scriptOrderRow.laid w) (fun _ _ _ hh h => h.of_heap hh) qJI started (by kernel_rfl) Tryz.func5
    (ChangeSpec.witness_shaped (enc := enc) (C := Tryz.checked) (os := os) (X := fun w _ => laidMetH Tryz.prog Rows.scriptOrderRow.laid w) false (World.laidAll Tryz.prog os Rows.scriptOrderRow.laid) #[.agg #[.string .empty, .string .empty, .string .empty, .string .empty, .int .i64 0, .int .i64 0, .int .i64 0, .int .i64 0], .int .u8 0] 8 (World.laidAll_os _ _ _)
      (World.shaped_of_ZipB (by kernel_rfl) (by kernel_rfl)) (by kernel_rfl) (by kernel_rfl) (by kernel_rfl)
      (by rw [MakeChecks.laidMetH_plain _ _ _ (by kernel_rfl)]; exact laidMet_laidAll _ (by kernel_rfl) (by kernel_rfl))) ?_
  intro W base args ds gs before hval0 hW _ hS hL _
  exact zDV (n := 6) (tb := 4) (G := kP) tok hval0 hW (by kernel_rfl) (by kernel_rfl) (by kernel_rfl) rfl (fun ds h => by
    match ds, h with
    | [d1, d2], _ => rfl) rfl (by kernel_rfl) (qDY W hL) hS qJN
theorem qJG : Rows.ScriptOrderSaid :=
  OpenClaim.holds_of_wide 5 Tryz.f5 rfl rfl rfl rfl rfl rfl rfl ⟨rfl, rfl, rfl, rfl, rfl⟩ rfl rfl rfl rfl rfl (by kernel_rfl) Tryz.func5 (by kernel_rfl)
    (of_decide_eq_true (by kernel_rfl)) (by unfold Func.isWrapper; first | (rw [if_pos (by decide +kernel)]; kernel_rfl) | (rw [if_neg (by decide +kernel)]; exact ⟨rfl, rfl⟩))
    (fun os started H enc _ => qEN os started H enc)
theorem scriptOrder_holds : Rows.ScriptOrderCardSaid :=
  Claim7.holds_tied_plain_at .later [] Rows.scriptOrderCard.laidKinds true Rows.scriptOrderCard.stood.harness Rows.scriptOrderCard.stood.looks qJG (fun _ h => by cases h) (by kernel_rfl) (fun _ h => by cases h) scriptOrder_row_tie rfl ⟨rfl, rfl⟩ (by kernel_rfl) rfl
    (fun f fn hf hfn => by
      obtain rfl : f = 5 := Option.some.inj ((show Tryz.prog.funcNamed Rows.scriptOrderRow.func = some 5 by kernel_rfl).symm.trans hf) |>.symm
      obtain rfl : fn = Tryz.f5 := (Option.some.inj (Tryz.func5.symm.trans hfn)).symm
      exact ⟨by kernel_rfl, fun j t ht => by
        have hm : t ∈ Tryz.f5.params.toList := by simpa using Array.mem_of_getElem? ht
        have hall : (Tryz.f5.params.toList.all fun u => !Tryz.prog.wantsStandIn u) = true := by kernel_rfl
        exact (show Tryz.prog.wantsStandIn t = false by simpa using List.all_eq_true.1 hall t hm)⟩)
    (by kernel_rfl)
#print axioms scriptOrder_holds
end Go.Proofs.YtlmedakhioiahaaGreatDoor
