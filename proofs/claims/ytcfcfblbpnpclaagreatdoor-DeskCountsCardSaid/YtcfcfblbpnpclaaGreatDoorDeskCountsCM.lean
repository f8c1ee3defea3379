/- For any outcomes that are handed in, the law DeskCounts of chapter 22 returns true, and what was handed in reads as it did. No condition. -/
import Derived.Test.YtcfcfblbpnpclaaGreatDoorSDeskCountsR
import Derived.Test.YtcfcfblbpnpclaaGreatDoorSGoes
import Derived.Test.YtcfcfblbpnpclaaGreatDoorCards
import Derived.Test.YtcfcfblbpnpclaaGreatDoorTie
import Derived.SevenTiedAt
namespace Go.Proofs.YtcfcfblbpnpclaaGreatDoor
open Sy Go Go.ChangeShapes Go.WideShapes Go.ChangeAt Go.RowKit
set_option linter.unusedVariables false
set_option maxHeartbeats 4000000 in
theorem deskCounts_holds : Rows.DeskCountsCardSaid :=
  Claim7.holds_tied_plain_at .later [] Rows.deskCountsCard.laidKinds true Rows.deskCountsCard.stood.harness Rows.deskCountsCard.stood.looks qBB (fun _ h => by cases h) (by as_aux_lemma => kernel_rfl) (fun _ h => by cases h) deskCounts_row_tie rfl ⟨rfl, rfl⟩ (by as_aux_lemma => kernel_rfl) rfl
    (fun f fn hf hfn => by
      obtain rfl : f = 4 := Option.some.inj ((show Tryz.prog.funcNamed Rows.deskCountsRow.func = some 4 by kernel_rfl).symm.trans hf) |>.symm
      obtain rfl : fn = Tryz.f4 := (Option.some.inj (Tryz.func4.symm.trans hfn)).symm
      exact ⟨by kernel_rfl, fun j t ht => by
        have hm : t ∈ Tryz.f4.params.toList := by simpa using Array.mem_of_getElem? ht
        have hall : (Tryz.f4.params.toList.all fun u => !Tryz.prog.wantsStandIn u) = true := by kernel_rfl
        exact (show Tryz.prog.wantsStandIn t = false by simpa using List.all_eq_true.1 hall t hm)⟩)
    (qFE _ _ rfl qUI).symm
#print axioms deskCounts_holds
end Go.Proofs.YtcfcfblbpnpclaaGreatDoor
