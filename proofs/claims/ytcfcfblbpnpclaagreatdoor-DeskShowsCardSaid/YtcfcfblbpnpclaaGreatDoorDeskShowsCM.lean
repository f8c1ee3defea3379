/- For any outcomes that are handed in, the law DeskShows of chapter 22 returns true, and what was handed in reads as it did. No condition. -/
import Derived.Test.YtcfcfblbpnpclaaGreatDoorSDeskShowsR
import Derived.Test.YtcfcfblbpnpclaaGreatDoorSGoes
import Derived.Test.YtcfcfblbpnpclaaGreatDoorCards
import Derived.Test.YtcfcfblbpnpclaaGreatDoorTie
import Derived.SevenTiedAt
namespace Go.Proofs.YtcfcfblbpnpclaaGreatDoor
open Sy Go Go.ChangeShapes Go.WideShapes Go.ChangeAt Go.RowKit
set_option linter.unusedVariables false
set_option maxHeartbeats 4000000 in
theorem deskShows_holds : Rows.DeskShowsCardSaid :=
  Claim7.holds_tied_plain_at .later [] Rows.deskShowsCard.laidKinds true Rows.deskShowsCard.stood.harness Rows.deskShowsCard.stood.looks qBP (fun _ h => by cases h) (by as_aux_lemma => kernel_rfl) (fun _ h => by cases h) deskShows_row_tie rfl ⟨rfl, rfl⟩ (by as_aux_lemma => kernel_rfl) rfl
    (fun f fn hf hfn => by
      obtain rfl : f = 3 := Option.some.inj ((show Tryz.prog.funcNamed Rows.deskShowsRow.func = some 3 by kernel_rfl).symm.trans hf) |>.symm
      obtain rfl : fn = Tryz.f3 := (Option.some.inj (Tryz.func3.symm.trans hfn)).symm
      exact ⟨by kernel_rfl, fun j t ht => by
        have hm : t ∈ Tryz.f3.params.toList := by simpa using Array.mem_of_getElem? ht
        have hall : (Tryz.f3.params.toList.all fun u => !Tryz.prog.wantsStandIn u) = true := by kernel_rfl
        exact (show Tryz.prog.wantsStandIn t = false by simpa using List.all_eq_true.1 hall t hm)⟩)
    (qFH _ _ rfl qUG).symm
#print axioms deskShows_holds
end Go.Proofs.YtcfcfblbpnpclaaGreatDoor

