/- For any two texts that are handed in, the law UnaryTexts of chapter 13 returns true, and what was handed in reads as it did. No condition. -/
import Derived.Test.YtgcbapchinideaaGreatDoorSTextsW
import Derived.Test.YtgcbapchinideaaGreatDoorSSynIn
import Derived.Test.YtgcbapchinideaaGreatDoorM4
import Derived.Test.YtgcbapchinideaaGreatDoorCards
import Derived.Test.YtgcbapchinideaaGreatDoorTie
import Derived.SevenTiedAt
import Derived.Test.YtgcbapchinideaaGreatDoorK1
import Derived.Test.YtgcbapchinideaaGreatDoorSMaxG
import Derived.PinnedBridge
namespace Go.Proofs.YtgcbapchinideaaGreatDoor
open Sy Go Go.ChangeShapes Go.WideShapes Go.ChangeAt Go.RowKit
set_option linter.unusedVariables false
abbrev wX (m : Int) : qJ := mxG 0 m (u8G 1 2)
theorem qEB : U8Extra Tryz.prog Tryz.lays197_ren := ⟨by kernel_rfl, by kernel_rfl, by kernel_rfl, by kernel_rfl, by kernel_rfl, by kernel_rfl, by kernel_rfl⟩
theorem qEE : Rows.laid_unicode_utf8_acceptRanges = (Lib.acceptData : DataW Unit) := by kernel_rfl
theorem qAK (W : World) (m : Int) (hm : W.cell? ⟨0, 0, none⟩ = some (.int .i64 m)) (h1 : IntKind.i64.min ≤ m) (h2 : m ≤ IntKind.i64.max) (h : laidMetH Tryz.prog Rows.unaryTextsRow.laid W) : GOK (wX m) (kP W) W := by
  rw [MakeChecks.laidMetH_plain _ _ _ (by kernel_rfl)] at h
  have e3 : Rows.laid_unicode_utf8_first = (Lib.firstData : DataW Unit) := Pinned.utf8First_eq
  exact qXX (qXE (utf8Tabs_of_readsT { Tryz.lays197 with } qEB (Lib.laidMet.reads h (by rw [← e3]; simp [Rows.unaryTextsRow])) (Lib.laidMet.reads h (by rw [← qEE]; simp [Rows.unaryTextsRow]))) (by decide)) hm h1 h2
theorem qFB (m : Int) (pds : List PD) (h : ShL T 6 Tryz.f6.params.toList pds) : AFn Tryz.prog (wX m) 6 pds (.bool true) := by
  rw [Tryz.params6] at h
  obtain ⟨d0, _, rfl, ⟨c0, k0, t0, rfl, h0⟩, d1, _, rfl, ⟨c1, k1, t1, rfl, h1⟩, rfl⟩ := h
  obtain ⟨s, rfl⟩ := qLP h0
  obtain ⟨p, rfl⟩ := qLP h1
  simp at t0 t1
  subst t0; subst t1
  have := qGR (G := wX m) s p (qXW (qVN (by decide)) (by decide) (by decide)) (qVV _ _ _)
  simpa [vN] using this
theorem qED : ownKnob Tryz.prog.godebug = none := by kernel_rfl
set_option maxRecDepth 100000 in
theorem qAT (os : Os) (started : os.Started) (H : Type) (enc : TypeId × Value → H) :
    ReturnsInHanded {} Tryz.checked os 6 .any (fun w args => (Rows.unaryTextsSpec.pre enc Tryz.prog Tryz.f6 [] false w args ∧ laidMetH Tryz.prog Rows.unaryTextsRow.laid w) ∧ sizedMet enc Tryz.prog Tryz.f6 (OpenSpec.ofChange Rows.unaryTextsSpec) false w args)
      (Rows.unaryTextsSpec.post enc Tryz.prog Tryz.f6 false true false false) := by
  refine qGJ (C := Tryz.checked) (X := fun w _ => laidMetH Tryz.prog Rows.unaryTextsRow.laid w) (fun _ _ _ hh h => h.of_heap hh) qED started (by kernel_rfl) Tryz.func6
    (ChangeSpec.witness_shaped (enc := enc) (C := Tryz.checked) (os := os) (X := fun w _ => laidMetH Tryz.prog Rows.unaryTextsRow.laid w) false (World.laidAll Tryz.prog os Rows.unaryTextsRow.laid) #[.string .empty, .string .empty] 8 (World.laidAll_os _ _ _)
      (World.shaped_of_ZipB (by kernel_rfl) (by kernel_rfl)) (by kernel_rfl) (by kernel_rfl) (by kernel_rfl)
      (by rw [MakeChecks.laidMetH_plain _ _ _ (by kernel_rfl)]; exact laidMet_laidAll _ (by kernel_rfl) (by kernel_rfl))) ?_
  intro W base args ds gs before hval0 hW hS hL hsh
  obtain ⟨m, hm, hm1, hm2⟩ := qQE (g := 0) (zero := #[.int .i64 0]) (t := 3) hsh (of_decide_eq_true (by kernel_rfl)) (by kernel_rfl) rfl (by kernel_rfl) (by kernel_rfl) Tryz.underlying3
  exact qTG (n := 6) (tb := 4) (G := wX m) tok hval0 hW (by kernel_rfl) (by kernel_rfl) (by kernel_rfl) rfl (fun ds h => by
    match ds, h with
    | [d1, d2], _ => rfl) rfl (by kernel_rfl) (qAK W m hm hm1 hm2 hL) hS (qFB m)
set_option maxHeartbeats 4000000 in
theorem qEC : Rows.UnaryTextsSaid :=
  OpenClaim.holds_of_wide 6 Tryz.f6 rfl rfl rfl rfl rfl rfl rfl ⟨rfl, rfl, rfl, rfl, rfl⟩ rfl rfl rfl rfl rfl (by as_aux_lemma => kernel_rfl) Tryz.func6 (by
    unfold joinedFacts
    simp only [Bool.and_eq_true]
    (repeat' apply And.intro) <;> as_aux_lemma => kernel_rfl)
    (of_decide_eq_true (by kernel_rfl)) (by unfold Func.isWrapper; first | (rw [if_pos (by decide +kernel)]; kernel_rfl) | (rw [if_neg (by decide +kernel)]; exact ⟨rfl, rfl⟩))
    (fun os started H enc _ => qAT os started H enc)
set_option maxHeartbeats 4000000 in
theorem unaryTexts_holds : Rows.UnaryTextsCardSaid :=
  Claim7.holds_tied_plain_at .later [] Rows.unaryTextsCard.laidKinds true Rows.unaryTextsCard.stood.harness Rows.unaryTextsCard.stood.looks qEC (fun _ h => by cases h) (by as_aux_lemma => kernel_rfl) (fun _ h => by cases h) unaryTexts_row_tie rfl ⟨rfl, rfl⟩ (by as_aux_lemma => kernel_rfl) rfl
    (fun f fn hf hfn => by
      obtain rfl : f = 6 := Option.some.inj ((show Tryz.prog.funcNamed Rows.unaryTextsRow.func = some 6 by kernel_rfl).symm.trans hf) |>.symm
      obtain rfl : fn = Tryz.f6 := (Option.some.inj (Tryz.func6.symm.trans hfn)).symm
      exact ⟨by kernel_rfl, fun j t ht => by
        have hm : t ∈ Tryz.f6.params.toList := by simpa using Array.mem_of_getElem? ht
        have hall : (Tryz.f6.params.toList.all fun u => !Tryz.prog.wantsStandIn u) = true := by kernel_rfl
        exact (show Tryz.prog.wantsStandIn t = false by simpa using List.all_eq_true.1 hall t hm)⟩)
    (by as_aux_lemma => kernel_rfl)
#print axioms unaryTexts_holds
end Go.Proofs.YtgcbapchinideaaGreatDoor

