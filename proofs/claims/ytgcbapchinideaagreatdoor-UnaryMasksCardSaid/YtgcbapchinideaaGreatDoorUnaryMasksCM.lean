/- For any row of items, any number of a call and any text that are handed in, the law UnaryMasks of chapter 13 returns true, and what was handed in reads as it did. No condition. -/
import Derived.Test.YtgcbapchinideaaGreatDoorSMasks13
import Derived.Test.YtgcbapchinideaaGreatDoorSTwoIn
import Derived.Test.YtgcbapchinideaaGreatDoorSIn8
import Derived.Test.YtgcbapchinideaaGreatDoorM4
import Derived.Test.YtgcbapchinideaaGreatDoorCards
import Derived.Test.YtgcbapchinideaaGreatDoorTie
import Derived.SevenTiedAt
import Derived.Test.YtgcbapchinideaaGreatDoorK3
import Derived.Test.YtgcbapchinideaaGreatDoorSMaxG
import Derived.PinnedBridge
namespace Go.Proofs.YtgcbapchinideaaGreatDoor
open Sy Go Go.ChangeShapes Go.WideShapes Go.ChangeAt Go.RowKit
set_option linter.unusedVariables false
abbrev xQ (m : Int) : qT := mxG 0 m (u8G 1 2)
theorem qRD : U8Extra Tryz.prog mI := ⟨by kernel_rfl, by kernel_rfl, by kernel_rfl, by kernel_rfl, by kernel_rfl, by kernel_rfl, by kernel_rfl⟩
theorem qRG : Rows.laid_unicode_utf8_acceptRanges = (Lib.acceptData : DataW Unit) := by kernel_rfl
theorem qKJ (W : World) (m : Int) (hm : W.cell? ⟨0, 0, none⟩ = some (.int .i64 m)) (h1 : IntKind.i64.min ≤ m) (h2 : m ≤ IntKind.i64.max) (h : laidMetH Tryz.prog Rows.unaryMasksRow.laid W) : GOK (xQ m) (qBB W) W := by
  rw [MakeChecks.laidMetH_plain _ _ _ (by kernel_rfl)] at h
  have e3 : Rows.laid_unicode_utf8_first = (Lib.firstData : DataW Unit) := Pinned.utf8First_eq
  exact wCC (wBH (utf8Tabs_of_readsT { nH with } qRD (Lib.laidMet.reads h (by rw [← e3]; simp [Rows.unaryMasksRow])) (Lib.laidMet.reads h (by rw [← qRG]; simp [Rows.unaryMasksRow]))) (by decide)) hm h1 h2
theorem qTC (m : Int) (pds : List PD) (h : ShL T 6 Tryz.f3.params.toList pds) : AFn Tryz.prog (xQ m) 3 pds (.bool true) := by
  rw [Tryz.params3] at h
  obtain ⟨d0, _, rfl, ⟨c0, k0, t0, rfl, h0⟩, d1, _, rfl, ⟨c1, k1, t1, rfl, h1⟩, d2, _, rfl, ⟨c2, k2, t2, rfl, h2⟩, rfl⟩ := h
  obtain ⟨l, rfl, hl⟩ := zPI h0
  obtain ⟨n, rfl, hn⟩ := wGW h1
  obtain ⟨s, rfl⟩ := zTQ h2
  simp at t0 t1 t2
  subst t0; subst t1; subst t2
  have := qVE (G := xQ m) l n s (wCB (zWW (by decide)) (by decide) (by decide)) (zXX _ _ _) (fun x hx => (hl x hx).1) (fun x hx => (hl x hx).2) hn
  simpa [qEM] using this
theorem qRF : ownKnob Tryz.prog.godebug = none := by kernel_rfl
set_option maxRecDepth 100000 in
theorem qKZ (os : Os) (started : os.Started) (H : Type) (enc : TypeId × Value → H) :
    ReturnsInHanded {} Tryz.checked os 3 .any (fun w args => (Rows.unaryMasksSpec.pre enc Tryz.prog Tryz.f3 [] false w args ∧ laidMetH Tryz.prog Rows.unaryMasksRow.laid w) ∧ sizedMet enc Tryz.prog Tryz.f3 (OpenSpec.ofChange Rows.unaryMasksSpec) false w args)
      (Rows.unaryMasksSpec.post enc Tryz.prog Tryz.f3 false true false false) := by
  refine qUX (C := Tryz.checked) (X := fun w _ => laidMetH Tryz.prog Rows.unaryMasksRow.laid w) (fun _ _ _ hh h => h.of_heap hh) qRF started (by kernel_rfl) Tryz.func3
    (ChangeSpec.witness_shaped (enc := enc) (C := Tryz.checked) (os := os) (X := fun w _ => laidMetH Tryz.prog Rows.unaryMasksRow.laid w) false (World.laidAll Tryz.prog os Rows.unaryMasksRow.laid) #[.slice none 0 0, .int .u8 0, .string .empty] 8 (World.laidAll_os _ _ _)
      (World.shaped_of_ZipB (by kernel_rfl) (by kernel_rfl)) (by kernel_rfl) (by kernel_rfl) (by kernel_rfl)
      (by rw [MakeChecks.laidMetH_plain _ _ _ (by kernel_rfl)]; exact laidMet_laidAll _ (by kernel_rfl) (by kernel_rfl))) ?_
  intro W base args ds gs before hval0 hW hS hL hsh
  obtain ⟨m, hm, hm1, hm2⟩ := zNM (g := 0) (zero := #[.int .i64 0]) (t := 3) hsh (of_decide_eq_true (by kernel_rfl)) (by kernel_rfl) rfl (by kernel_rfl) (by kernel_rfl) Tryz.underlying3
  exact zTJ (n := 6) (tb := 4) (G := xQ m) tok hval0 hW (by kernel_rfl) (by kernel_rfl) (by kernel_rfl) rfl (fun ds h => by
    match ds, h with
    | [d1, d2, d3], _ => rfl) rfl (by kernel_rfl) (qKJ W m hm hm1 hm2 hL) hS (qTC m)
set_option maxHeartbeats 4000000 in
theorem qRE : Rows.UnaryMasksSaid :=
  OpenClaim.holds_of_wide 3 Tryz.f3 rfl rfl rfl rfl rfl rfl rfl ⟨rfl, rfl, rfl, rfl, rfl⟩ rfl rfl rfl rfl rfl (by as_aux_lemma => kernel_rfl) Tryz.func3 (by
    unfold joinedFacts
    simp only [Bool.and_eq_true]
    (repeat' apply And.intro) <;> as_aux_lemma => kernel_rfl)
    (of_decide_eq_true (by kernel_rfl)) (by unfold Func.isWrapper; first | (rw [if_pos (by decide +kernel)]; kernel_rfl) | (rw [if_neg (by decide +kernel)]; exact ⟨rfl, rfl⟩))
    (fun os started H enc _ => qKZ os started H enc)
set_option maxHeartbeats 4000000 in
theorem unaryMasks_holds : Rows.UnaryMasksCardSaid :=
  Claim7.holds_tied_plain_at .later [] Rows.unaryMasksCard.laidKinds true Rows.unaryMasksCard.stood.harness Rows.unaryMasksCard.stood.looks qRE (fun _ h => by cases h) (by as_aux_lemma => kernel_rfl) (fun _ h => by cases h) unaryMasks_row_tie rfl ⟨rfl, rfl⟩ (by as_aux_lemma => kernel_rfl) rfl
    (fun f fn hf hfn => by
      obtain rfl : f = 3 := Option.some.inj ((show Tryz.prog.funcNamed Rows.unaryMasksRow.func = some 3 by kernel_rfl).symm.trans hf) |>.symm
      obtain rfl : fn = Tryz.f3 := (Option.some.inj (Tryz.func3.symm.trans hfn)).symm
      exact ⟨by kernel_rfl, fun j t ht => by
        have hm : t ∈ Tryz.f3.params.toList := by simpa using Array.mem_of_getElem? ht
        have hall : (Tryz.f3.params.toList.all fun u => !Tryz.prog.wantsStandIn u) = true := by kernel_rfl
        exact (show Tryz.prog.wantsStandIn t = false by simpa using List.all_eq_true.1 hall t hm)⟩)
    (by as_aux_lemma => kernel_rfl)
#print axioms unaryMasks_holds
end Go.Proofs.YtgcbapchinideaaGreatDoor
