/- For any two rows of items with a text, any number of a call and any clearance that are handed in, the law UnaryAlike of chapter 13 returns true, and what was handed in reads as it did. No condition. -/
import Derived.Test.YtgcbapchinideaaGreatDoorSAlike13
import Derived.Test.YtgcbapchinideaaGreatDoorSTwoIn
import Derived.Test.YtgcbapchinideaaGreatDoorSIn8
import Derived.Test.YtgcbapchinideaaGreatDoorM4
import Derived.Test.YtgcbapchinideaaGreatDoorCards
import Derived.Test.YtgcbapchinideaaGreatDoorTie
import Derived.SevenTiedAt
import Derived.Test.YtgcbapchinideaaGreatDoorK3
import Derived.Test.YtgcbapchinideaaGreatDoorSMaxG
import Derived.PinnedBridge
namespace Go.Proofs.YtgcbapchinideaaGreatDoor
open Sy Go Go.ChangeShapes Go.WideShapes Go.ChangeAt Go.RowKit
set_option linter.unusedVariables false
abbrev jU (m : Int) : qR := mxG 0 m (u8G 1 2)
theorem qOV : U8Extra Tryz.prog Tryz.lays197_ren := ⟨by kernel_rfl, by kernel_rfl, by kernel_rfl, by kernel_rfl, by kernel_rfl, by kernel_rfl, by kernel_rfl⟩
theorem qOY : Rows.laid_unicode_utf8_acceptRanges = (Lib.acceptData : DataW Unit) := by kernel_rfl
theorem qIS (W : World) (m : Int) (hm : W.cell? ⟨0, 0, none⟩ = some (.int .i64 m)) (h1 : IntKind.i64.min ≤ m) (h2 : m ≤ IntKind.i64.max) (h : laidMetH Tryz.prog Rows.unaryAlikeRow.laid W) : GOK (jU m) (uX W) W := by
  rw [MakeChecks.laidMetH_plain _ _ _ (by kernel_rfl)] at h
  have e3 : Rows.laid_unicode_utf8_first = (Lib.firstData : DataW Unit) := Pinned.utf8First_eq
  exact zXQ (zWQ (utf8Tabs_of_readsT { Tryz.lays197 with } qOV (Lib.laidMet.reads h (by rw [← e3]; simp [Rows.unaryAlikeRow])) (Lib.laidMet.reads h (by rw [← qOY]; simp [Rows.unaryAlikeRow]))) (by decide)) hm h1 h2
theorem qQJ (m : Int) (pds : List PD) (h : ShL T 6 Tryz.f4.params.toList pds) : AFn Tryz.prog (jU m) 4 pds (.bool true) := by
  rw [Tryz.params4] at h
  obtain ⟨d0, _, rfl, ⟨c0, k0, t0, rfl, h0⟩, d1, _, rfl, ⟨c1, k1, t1, rfl, h1⟩, d2, _, rfl, ⟨c2, k2, t2, rfl, h2⟩, rfl⟩ := h
  obtain ⟨l1, l2, s, rfl, g1, g2⟩ := zOY h0
  obtain ⟨n, rfl, hn⟩ := wBV h1
  obtain ⟨c, rfl, hc⟩ := zTX h2
  simp at t0 t1 t2
  subst t0; subst t1; subst t2
  have := qSM (G := jU m) l1 l2 s n c (zXP (zSI (by decide)) (by decide) (by decide)) (zTJ _ _ _) (fun x hx => (g1 x hx).1) (fun x hx => (g2 x hx).1) hn
  simpa [qCS] using this
theorem qOX : ownKnob Tryz.prog.godebug = none := by kernel_rfl
set_option maxRecDepth 100000 in
theorem qJD (os : Os) (started : os.Started) (H : Type) (enc : TypeId × Value → H) :
    ReturnsInHanded {} Tryz.checked os 4 .any (fun w args => (Rows.unaryAlikeSpec.pre enc Tryz.prog Tryz.f4 [] false w args ∧ laidMetH Tryz.prog Rows.unaryAlikeRow.laid w) ∧ sizedMet enc Tryz.prog Tryz.f4 (OpenSpec.ofChange Rows.unaryAlikeSpec) false w args)
      (Rows.unaryAlikeSpec.post enc Tryz.prog Tryz.f4 false true false false) := by
  refine qSE (C := Tryz.checked) (X := fun w _ => laidMetH Tryz.prog Rows.unaryAlikeRow.laid w) (fun _ _ _ hh h => h.of_heap hh) qOX started (by kernel_rfl) Tryz.func4
    (ChangeSpec.witness_shaped (enc := enc) (C := Tryz.checked) (os := os) (X := fun w _ => laidMetH Tryz.prog Rows.unaryAlikeRow.laid w) false (World.laidAll Tryz.prog os Rows.unaryAlikeRow.laid) #[.agg #[.slice none 0 0, .slice none 0 0, .string .empty], .int .u8 0, .int .u64 0] 8 (World.laidAll_os _ _ _)
      (World.shaped_of_ZipB (by kernel_rfl) (by kernel_rfl)) (by kernel_rfl) (by kernel_rfl) (by kernel_rfl)
      (by rw [MakeChecks.laidMetH_plain _ _ _ (by kernel_rfl)]; exact laidMet_laidAll _ (by kernel_rfl) (by kernel_rfl))) ?_
  intro W base args ds gs before hval0 hW hS hL hsh
  obtain ⟨m, hm, hm1, hm2⟩ := zJM (g := 0) (zero := #[.int .i64 0]) (t := 3) hsh (of_decide_eq_true (by kernel_rfl)) (by kernel_rfl) rfl (by kernel_rfl) (by kernel_rfl) Tryz.underlying3
  exact zOQ (n := 6) (tb := 4) (G := jU m) tok hval0 hW (by kernel_rfl) (by kernel_rfl) (by kernel_rfl) rfl (fun ds h => by
    match ds, h with
    | [d1, d2, d3], _ => rfl) rfl (by kernel_rfl) (qIS W m hm hm1 hm2 hL) hS (qQJ m)
set_option maxHeartbeats 4000000 in
theorem qOW : Rows.UnaryAlikeSaid :=
  OpenClaim.holds_of_wide 4 Tryz.f4 rfl rfl rfl rfl rfl rfl rfl ⟨rfl, rfl, rfl, rfl, rfl⟩ rfl rfl rfl rfl rfl (by as_aux_lemma => kernel_rfl) Tryz.func4 (by
    unfold joinedFacts
    simp only [Bool.and_eq_true]
    (repeat' apply And.intro) <;> as_aux_lemma => kernel_rfl)
    (of_decide_eq_true (by kernel_rfl)) (by unfold Func.isWrapper; first | (rw [if_pos (by decide +kernel)]; kernel_rfl) | (rw [if_neg (by decide +kernel)]; exact ⟨rfl, rfl⟩))
    (fun os started H enc _ => qJD os started H enc)
set_option maxHeartbeats 4000000 in
theorem unaryAlike_holds : Rows.UnaryAlikeCardSaid :=
  Claim7.holds_tied_plain_at .later [] Rows.unaryAlikeCard.laidKinds true Rows.unaryAlikeCard.stood.harness Rows.unaryAlikeCard.stood.looks qOW (fun _ h => by cases h) (by as_aux_lemma => kernel_rfl) (fun _ h => by cases h) unaryAlike_row_tie rfl ⟨rfl, rfl⟩ (by as_aux_lemma => kernel_rfl) rfl
    (fun f fn hf hfn => by
      obtain rfl : f = 4 := Option.some.inj ((show Tryz.prog.funcNamed Rows.unaryAlikeRow.func = some 4 by kernel_rfl).symm.trans hf) |>.symm
      obtain rfl : fn = Tryz.f4 := (Option.some.inj (Tryz.func4.symm.trans hfn)).symm
      exact ⟨by kernel_rfl, fun j t ht => by
        have hm : t ∈ Tryz.f4.params.toList := by simpa using Array.mem_of_getElem? ht
        have hall : (Tryz.f4.params.toList.all fun u => !Tryz.prog.wantsStandIn u) = true := by kernel_rfl
        exact (show Tryz.prog.wantsStandIn t = false by simpa using List.all_eq_true.1 hall t hm)⟩)
    (by as_aux_lemma => kernel_rfl)
#print axioms unaryAlike_holds
end Go.Proofs.YtgcbapchinideaaGreatDoor
