/-
  DERIVED. GIVEN WITH THE SEED: THE CARDS: each row of YtgoepemmcibdaaaGreatDoorRows.lean that lists a variable, with what it lists TIED to the program's text (the seventh form; the later family's looks); each row that meets fmt, with fmt's text TOLD by the authors' own Lean function (tested against real Go, not proved from fmt's source: count such statements apart). THE CARD IS WHAT COUNTS. Prove the row's statement (the work); the ties are given (YtgoepemmcibdaaaGreatDoorTie.lean); close each card by the builder's one call (the guide's Derived/Test/ToyasCard.lean, 'card_holds'). Laid BY PROGRAM, IN A SANDBOX (cutbox-door.mjs). By AI agents, Wed Nov 11 2026. No macro, syntax, notation, axiom, sorry.
-/
import Derived.Test.YtgoepemmcibdaaaGreatDoorRows
import GoSem.ClaimSeven
namespace Go.Proofs.YtgoepemmcibdaaaGreatDoor
namespace Rows

/-- THE TIED CARD OF 'bowdlerlaw04.TreeBuilds'. -/
def treeBuildsCard : Claim7 := { stood := { row := treeBuildsRow, standIns := [], harness := (true, "0a42a768782e404999603d865c59617bc0c7db4e38f6d1e0daf19e84df5c9f11"), looks := false }, kinds := [], alts := [], laidByText := true, laidKinds := [.data, .pinned], laidTests := true, laidLooks := .later }
def TreeBuildsCardSaid : Prop := Claim7.holds Tryz.pinned (.plain (OpenSpec.ofChange treeBuildsSpec)) treeBuildsCard

/-- THE TIED CARD OF 'bowdlerlaw04.TreeMasks'. -/
def treeMasksCard : Claim7 := { stood := { row := treeMasksRow, standIns := [], harness := (true, "0a42a768782e404999603d865c59617bc0c7db4e38f6d1e0daf19e84df5c9f11"), looks := false }, kinds := [], alts := [], laidByText := true, laidKinds := [.data, .pinned], laidTests := true, laidLooks := .later }
def TreeMasksCardSaid : Prop := Claim7.holds Tryz.pinned (.plain (OpenSpec.ofChange treeMasksSpec)) treeMasksCard

/-- THE TIED CARD OF 'bowdlerlaw04.TreeTidy'. -/
def treeTidyCard : Claim7 := { stood := { row := treeTidyRow, standIns := [], harness := (true, "0a42a768782e404999603d865c59617bc0c7db4e38f6d1e0daf19e84df5c9f11"), looks := false }, kinds := [], alts := [], laidByText := true, laidKinds := [.data, .pinned], laidTests := true, laidLooks := .later }
def TreeTidyCardSaid : Prop := Claim7.holds Tryz.pinned (.plain (OpenSpec.ofChange treeTidySpec)) treeTidyCard

/-- THE TIED CARD OF 'bowdlerlaw04.TreeFinds'. -/
def treeFindsCard : Claim7 := { stood := { row := treeFindsRow, standIns := [], harness := (true, "0a42a768782e404999603d865c59617bc0c7db4e38f6d1e0daf19e84df5c9f11"), looks := false }, kinds := [], alts := [], laidByText := true, laidKinds := [.data, .pinned], laidTests := true, laidLooks := .later }
def TreeFindsCardSaid : Prop := Claim7.holds Tryz.pinned (.plain (OpenSpec.ofChange treeFindsSpec)) treeFindsCard

/-- THE TIED CARD OF 'bowdlerlaw04.TreeKids'. -/
def treeKidsCard : Claim7 := { stood := { row := treeKidsRow, standIns := [], harness := (true, "0a42a768782e404999603d865c59617bc0c7db4e38f6d1e0daf19e84df5c9f11"), looks := false }, kinds := [], alts := [], laidByText := true, laidKinds := [.data, .pinned], laidTests := true, laidLooks := .later }
def TreeKidsCardSaid : Prop := Claim7.holds Tryz.pinned (.plain (OpenSpec.ofChange treeKidsSpec)) treeKidsCard

/-- THE TIED CARD OF 'bowdlerlaw04.TreeWhole'. -/
def treeWholeCard : Claim7 := { stood := { row := treeWholeRow, standIns := [], harness := (true, "0a42a768782e404999603d865c59617bc0c7db4e38f6d1e0daf19e84df5c9f11"), looks := false }, kinds := [], alts := [], laidByText := true, laidKinds := [.data, .pinned], laidTests := true, laidLooks := .later }
def TreeWholeCardSaid : Prop := Claim7.holds Tryz.pinned (.plain (OpenSpec.ofChange treeWholeSpec)) treeWholeCard

/-- THE SECOND FORM's CARD OF 'bowdlerlaw04.TreeBuilds'. -/
def treeBuildsUptoCard : Claim7 := { stood := { row := treeBuildsUptoRow, standIns := [], harness := (true, "0a42a768782e404999603d865c59617bc0c7db4e38f6d1e0daf19e84df5c9f11"), looks := false }, kinds := [], alts := [], laidByText := true, laidKinds := [.data, .pinned], laidTests := true, laidLooks := .later }
def TreeBuildsUptoCardSaid : Prop := Claim7.holds Tryz.pinned (.plain (OpenSpec.upto treeBuildsSpec)) treeBuildsUptoCard

/-- THE SECOND FORM's CARD OF 'bowdlerlaw04.TreeMasks'. -/
def treeMasksUptoCard : Claim7 := { stood := { row := treeMasksUptoRow, standIns := [], harness := (true, "0a42a768782e404999603d865c59617bc0c7db4e38f6d1e0daf19e84df5c9f11"), looks := false }, kinds := [], alts := [], laidByText := true, laidKinds := [.data, .pinned], laidTests := true, laidLooks := .later }
def TreeMasksUptoCardSaid : Prop := Claim7.holds Tryz.pinned (.plain (OpenSpec.upto treeMasksSpec)) treeMasksUptoCard

/-- THE SECOND FORM's CARD OF 'bowdlerlaw04.TreeTidy'. -/
def treeTidyUptoCard : Claim7 := { stood := { row := treeTidyUptoRow, standIns := [], harness := (true, "0a42a768782e404999603d865c59617bc0c7db4e38f6d1e0daf19e84df5c9f11"), looks := false }, kinds := [], alts := [], laidByText := true, laidKinds := [.data, .pinned], laidTests := true, laidLooks := .later }
def TreeTidyUptoCardSaid : Prop := Claim7.holds Tryz.pinned (.plain (OpenSpec.upto treeTidySpec)) treeTidyUptoCard

/-- THE SECOND FORM's CARD OF 'bowdlerlaw04.TreeFinds'. -/
def treeFindsUptoCard : Claim7 := { stood := { row := treeFindsUptoRow, standIns := [], harness := (true, "0a42a768782e404999603d865c59617bc0c7db4e38f6d1e0daf19e84df5c9f11"), looks := false }, kinds := [], alts := [], laidByText := true, laidKinds := [.data, .pinned], laidTests := true, laidLooks := .later }
def TreeFindsUptoCardSaid : Prop := Claim7.holds Tryz.pinned (.plain (OpenSpec.upto treeFindsSpec)) treeFindsUptoCard

/-- THE SECOND FORM's CARD OF 'bowdlerlaw04.TreeKids'. -/
def treeKidsUptoCard : Claim7 := { stood := { row := treeKidsUptoRow, standIns := [], harness := (true, "0a42a768782e404999603d865c59617bc0c7db4e38f6d1e0daf19e84df5c9f11"), looks := false }, kinds := [], alts := [], laidByText := true, laidKinds := [.data, .pinned], laidTests := true, laidLooks := .later }
def TreeKidsUptoCardSaid : Prop := Claim7.holds Tryz.pinned (.plain (OpenSpec.upto treeKidsSpec)) treeKidsUptoCard

/-- THE SECOND FORM's CARD OF 'bowdlerlaw04.TreeWhole'. -/
def treeWholeUptoCard : Claim7 := { stood := { row := treeWholeUptoRow, standIns := [], harness := (true, "0a42a768782e404999603d865c59617bc0c7db4e38f6d1e0daf19e84df5c9f11"), looks := false }, kinds := [], alts := [], laidByText := true, laidKinds := [.data, .pinned], laidTests := true, laidLooks := .later }
def TreeWholeUptoCardSaid : Prop := Claim7.holds Tryz.pinned (.plain (OpenSpec.upto treeWholeSpec)) treeWholeUptoCard
end Rows
end Go.Proofs.YtgoepemmcibdaaaGreatDoor
