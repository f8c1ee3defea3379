/- For any two places and any pattern that are handed in, the law PathLeads of chapter 7 returns true, and what was handed in reads as it did. No condition. -/
import Derived.Test.YtdploelkmlbhnaaDoorPathLeads
import Derived.Test.YtdploelkmlbhnaaDoorPathIn
import Derived.Test.YtdploelkmlbhnaaDoorLaw
import Derived.Test.YtdploelkmlbhnaaDoorCards
import Derived.Test.YtdploelkmlbhnaaDoorTie
import Derived.SevenTiedAt
namespace Go.Proofs.YtdploelkmlbhnaaDoor
open Sy Go Go.ChangeShapes Go.WideShapes Go.ChangeAt Go.RowKit
set_option linter.unusedVariables false
def law_pathLeads_G : Glob := fun _ => none
theorem law_pathLeads_GOK (W : World) (_ : laidMetH Tryd.prog Rows.pathLeadsRow.laid W) : GOK law_pathLeads_G (memOf W) := fun n cs h => by cases h
theorem law_pathLeads (pds : List PD) (h : ShL T 4 Tryd.f4.params.toList pds) : AFn Tryd.prog law_pathLeads_G 4 pds (.bool true) := by
  rw [Tryd.params4] at h
  obtain ⟨d0, _, rfl, ⟨c0, k0, t0, rfl, h0⟩, d1, _, rfl, ⟨c1, k1, t1, rfl, h1⟩, d2, _, rfl, ⟨c2, k2, t2, rfl, h2⟩, rfl⟩ := h
  obtain ⟨l, rfl⟩ := in_steps h0
  obtain ⟨m, rfl⟩ := in_steps h1
  obtain ⟨n, rfl⟩ := in_steps h2
  simp at t0 t1 t2
  subst t0; subst t1; subst t2
  simpa [packD] using PathLeads_ev l m n
theorem pathLeads_own : ownKnob Tryd.prog.godebug = none := by kernel_rfl
set_option maxRecDepth 100000 in
theorem pathLeads_lifted (os : Os) (started : os.Started) (H : Type) (enc : TypeId × Value → H) :
    ReturnsInHanded {} Tryd.checked os 4 .any (fun w args => (Rows.pathLeadsSpec.pre enc Tryd.prog Tryd.f4 [] false w args ∧ laidMetH Tryd.prog Rows.pathLeadsRow.laid w) ∧ sizedMet enc Tryd.prog Tryd.f4 (OpenSpec.ofChange Rows.pathLeadsSpec) false w args)
      (Rows.pathLeadsSpec.post enc Tryd.prog Tryd.f4 false true false false) := by
  refine returnsInHanded_of_change_and (C := Tryd.checked) (X := fun w _ => laidMetH Tryd.prog Rows.pathLeadsRow.laid w) (fun _ _ _ hh h => h.of_heap hh) pathLeads_own started (by kernel_rfl) Tryd.func4
    (ChangeSpec.witness_shaped (enc := enc) (C := Tryd.checked) (os := os) (X := fun w _ => laidMetH Tryd.prog Rows.pathLeadsRow.laid w) false (World.laidAll Tryd.prog os Rows.pathLeadsRow.laid) #[.slice none 0 0, .slice none 0 0, .slice none 0 0] 8 (World.laidAll_os _ _ _)
      (World.shaped_of_ZipB (by kernel_rfl) (by kernel_rfl)) (by kernel_rfl) (by kernel_rfl) (by kernel_rfl)
      (by rw [MakeChecks.laidMetH_plain _ _ _ (by kernel_rfl)]; exact laidMet_laidAll _ (by kernel_rfl) (by kernel_rfl))) ?_
  intro W base args ds gs before hval0 hW _ _ hL _
  exact law_call (n := 4) (tb := 4) (G := law_pathLeads_G) tok hval0 hW (by kernel_rfl) (by kernel_rfl) (by kernel_rfl) rfl (fun ds h => by
    match ds, h with
    | [d1, d2, d3], _ => rfl) rfl (by kernel_rfl) (law_pathLeads_GOK W hL) law_pathLeads
theorem pathLeads_row : Rows.PathLeadsSaid :=
  OpenClaim.holds_of_wide 4 Tryd.f4 rfl rfl rfl rfl rfl rfl rfl ⟨rfl, rfl, rfl, rfl, rfl⟩ rfl rfl rfl rfl rfl (by kernel_rfl) Tryd.func4 (by kernel_rfl)
    (of_decide_eq_true (by kernel_rfl)) (by unfold Func.isWrapper; first | (rw [if_pos (by decide +kernel)]; kernel_rfl) | (rw [if_neg (by decide +kernel)]; exact ⟨rfl, rfl⟩))
    (fun os started H enc _ => pathLeads_lifted os started H enc)
theorem pathLeads_holds : Rows.PathLeadsCardSaid :=
  Claim7.holds_tied_plain_at .later [] Rows.pathLeadsCard.laidKinds true Rows.pathLeadsCard.stood.harness false pathLeads_row (fun _ h => by cases h) (by kernel_rfl) (fun _ h => by cases h) pathLeads_row_tie rfl ⟨rfl, rfl⟩ (by kernel_rfl) rfl
    (fun f fn hf hfn => by
      obtain rfl : f = 4 := Option.some.inj ((show Tryd.prog.funcNamed Rows.pathLeadsRow.func = some 4 by kernel_rfl).symm.trans hf) |>.symm
      obtain rfl : fn = Tryd.f4 := (Option.some.inj (Tryd.func4.symm.trans hfn)).symm
      exact ⟨by kernel_rfl, fun j t ht => by
        have hm : t ∈ Tryd.f4.params.toList := by simpa using Array.mem_of_getElem? ht
        have hall : (Tryd.f4.params.toList.all fun u => !Tryd.prog.wantsStandIn u) = true := by kernel_rfl
        exact (show Tryd.prog.wantsStandIn t = false by simpa using List.all_eq_true.1 hall t hm)⟩)
    (by kernel_rfl)
#print axioms pathLeads_holds
end Go.Proofs.YtdploelkmlbhnaaDoor
