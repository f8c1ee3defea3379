/- For any job and any text that are handed in, the law ScriptTexts of chapter 21 returns true, and what was handed in reads as it did. No condition. -/
import Derived.Test.YtlmedakhioiahaaGreatDoorSTexts22
import Derived.Test.YtlmedakhioiahaaGreatDoorSJobIn
import Derived.Test.YtlmedakhioiahaaGreatDoorM4
import Derived.Test.YtlmedakhioiahaaGreatDoorCards
import Derived.Test.YtlmedakhioiahaaGreatDoorTie
import Derived.SevenTiedAt
import Derived.Test.YtlmedakhioiahaaGreatDoorK2
import Derived.Test.YtlmedakhioiahaaGreatDoorSErrG
import Derived.PinnedBridge
namespace Go.Proofs.YtlmedakhioiahaaGreatDoor
open Sy Go Go.ChangeShapes Go.WideShapes Go.ChangeAt Go.RowKit
set_option linter.unusedVariables false
abbrev kI : qO := qOX 0 1 4 2 3
theorem qIQ : U8Extra Tryz.prog Tryz.lays197_ren := ⟨by kernel_rfl, by kernel_rfl, by kernel_rfl, by kernel_rfl, by kernel_rfl, by kernel_rfl, by kernel_rfl⟩
theorem qIU : Rows.laid_unicode_utf8_acceptRanges = (Lib.acceptData : DataW Unit) := by kernel_rfl
theorem qIS : Rows.laid_internal_strconv_uint64pow10 = (Lib.tabData .u64 Lib.pow10Tab : DataW Unit) := by kernel_rfl
theorem qDO (W : World) (h : laidMetH Tryz.prog Rows.scriptTextsRow.laid W) : GOK kI (jE W) W := by
  rw [MakeChecks.laidMetH_plain _ _ _ (by kernel_rfl)] at h
  have e3 : Rows.laid_unicode_utf8_first = (Lib.firstData : DataW Unit) := Pinned.utf8First_eq
  have ht := Lib.laidMet.reads h (n := "internal/strconv.uint64pow10") (d := Rows.laid_internal_strconv_uint64pow10) (by simp [Rows.scriptTextsRow])
  rw [qIS] at ht
  have e1 := Lib.laidMet.reads h (n := "strconv.ErrSyntax") (d := Rows.laid_strconv_ErrSyntax) (by simp [Rows.scriptTextsRow])
  have e2 := Lib.laidMet.reads h (n := "strconv.ErrRange") (d := Rows.laid_strconv_ErrRange) (by simp [Rows.scriptTextsRow])
  exact zEY (zEX (utf8Tabs_of_readsT { Tryz.lays197 with } qIQ (Lib.laidMet.reads h (by rw [← e3]; simp [Rows.scriptTextsRow])) (Lib.laidMet.reads h (by rw [← qIU]; simp [Rows.scriptTextsRow]))) (by decide) (by kernel_rfl)
    (qPB (g := 4) (t := 186) (e := 37) (n := 20) (by kernel_rfl) (by kernel_rfl) (by kernel_rfl) (by kernel_rfl) (by kernel_rfl) (by kernel_rfl) ht))
    (qFY (t := 95) (by kernel_rfl) (by kernel_rfl) (by kernel_rfl) e1) (qFY (t := 95) (by kernel_rfl) (by kernel_rfl) (by kernel_rfl) e2)
theorem qIY (pds : List PD) (h : ShL T 6 Tryz.f3.params.toList pds) : AFn Tryz.prog kI 3 pds (.bool true) := by
  rw [Tryz.params3] at h
  obtain ⟨d0, _, rfl, ⟨c0, k0, t0, rfl, h0⟩, d1, _, rfl, ⟨c1, k1, t1, rfl, h1⟩, rfl⟩ := h
  obtain ⟨j, rfl, hj⟩ := zJB h0
  obtain ⟨s, rfl⟩ := zJA h1
  simp at t0 t1
  subst t0; subst t1
  have := qME (G := kI) (zBC (by decide) (by decide) (by decide) (by decide)) (zBD _ _ _ _ _) j s hj
  simpa [qBY] using this
theorem qIT : ownKnob Tryz.prog.godebug = none := by kernel_rfl
set_option maxRecDepth 100000 in
theorem qED (os : Os) (started : os.Started) (H : Type) (enc : TypeId × Value → H) :
    ReturnsInHanded {} Tryz.checked os 3 .any (fun w args => (Rows.scriptTextsSpec.pre enc Tryz.prog Tryz.f3 [] false w args ∧ laidMetH Tryz.prog Rows.scriptTextsRow.laid w) ∧ sizedMet enc Tryz.prog Tryz.f3 (OpenSpec.ofChange Rows.scriptTextsSpec) false w args)
      (Rows.scriptTextsSpec.post enc Tryz.prog Tryz.f3 false true false false) := by
  refine returnsInHanded_of_change_and (C := Tryz.checked) (X := fun w _ => laidMetH Tryz.prog Rows.scriptTextsRow.laid w) (fun _ _ _ hh h => h.of_heap hh) qIT started (by kernel_rfl) Tryz.func3
    (ChangeSpec.witness_shaped (enc := enc) (C := Tryz.checked) (os := os) (X := fun w _ => laidMetH Tryz.prog Rows.scriptTextsRow.laid w) false (World.laidAll Tryz.prog os Rows.scriptTextsRow.laid) #[.agg #[.string .empty, .string .empty, .string .empty, .string .empty, .int .i64 0, .int .i64 0, .int .i64 0, .int .i64 0], .string .empty] 8 (World.laidAll_os _ _ _)
      (World.shaped_of_ZipB (by kernel_rfl) (by kernel_rfl)) (by kernel_rfl) (by kernel_rfl) (by kernel_rfl)
      (by rw [MakeChecks.laidMetH_plain _ _ _ (by kernel_rfl)]; exact laidMet_laidAll _ (by kernel_rfl) (by kernel_rfl))) ?_
  intro W base args ds gs before hval0 hW _ hS hL _
  exact zCG (n := 6) (tb := 4) (G := kI) tok hval0 hW (by kernel_rfl) (by kernel_rfl) (by kernel_rfl) rfl (fun ds h => by
    match ds, h with
    | [d1, d2], _ => rfl) rfl (by kernel_rfl) (qDO W hL) hS qIY
theorem qIR : Rows.ScriptTextsSaid :=
  OpenClaim.holds_of_wide 3 Tryz.f3 rfl rfl rfl rfl rfl rfl rfl ⟨rfl, rfl, rfl, rfl, rfl⟩ rfl rfl rfl rfl rfl (by kernel_rfl) Tryz.func3 (by kernel_rfl)
    (of_decide_eq_true (by kernel_rfl)) (by unfold Func.isWrapper; first | (rw [if_pos (by decide +kernel)]; kernel_rfl) | (rw [if_neg (by decide +kernel)]; exact ⟨rfl, rfl⟩))
    (fun os started H enc _ => qED os started H enc)
theorem scriptTexts_holds : Rows.ScriptTextsCardSaid :=
  Claim7.holds_tied_plain_at .later [] Rows.scriptTextsCard.laidKinds true Rows.scriptTextsCard.stood.harness Rows.scriptTextsCard.stood.looks qIR (fun _ h => by cases h) (by kernel_rfl) (fun _ h => by cases h) scriptTexts_row_tie rfl ⟨rfl, rfl⟩ (by kernel_rfl) rfl
    (fun f fn hf hfn => by
      obtain rfl : f = 3 := Option.some.inj ((show Tryz.prog.funcNamed Rows.scriptTextsRow.func = some 3 by kernel_rfl).symm.trans hf) |>.symm
      obtain rfl : fn = Tryz.f3 := (Option.some.inj (Tryz.func3.symm.trans hfn)).symm
      exact ⟨by kernel_rfl, fun j t ht => by
        have hm : t ∈ Tryz.f3.params.toList := by simpa using Array.mem_of_getElem? ht
        have hall : (Tryz.f3.params.toList.all fun u => !Tryz.prog.wantsStandIn u) = true := by kernel_rfl
        exact (show Tryz.prog.wantsStandIn t = false by simpa using List.all_eq_true.1 hall t hm)⟩)
    (by kernel_rfl)
#print axioms scriptTexts_holds
end Go.Proofs.YtlmedakhioiahaaGreatDoor
