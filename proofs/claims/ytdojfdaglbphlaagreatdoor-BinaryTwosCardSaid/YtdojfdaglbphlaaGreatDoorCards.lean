/-
  DERIVED. GIVEN WITH THE SEED: THE CARDS: each row of YtdojfdaglbphlaaGreatDoorRows.lean that lists a variable, with what it lists TIED to the program's text (the seventh form; the later family's looks); each row that meets fmt, with fmt's text TOLD by the authors' own Lean function (tested against real Go, not proved from fmt's source: count such statements apart). THE CARD IS WHAT COUNTS. Prove the row's statement (the work); the ties are given (YtdojfdaglbphlaaGreatDoorTie.lean); close each card by the builder's one call (the guide's Derived/Test/ToyasCard.lean, 'card_holds'). Laid BY PROGRAM, IN A SANDBOX (cutbox-door.mjs). By AI agents, Wed Nov 11 2026. No macro, syntax, notation, axiom, sorry.
-/
import Derived.Test.YtdojfdaglbphlaaGreatDoorRows
import GoSem.ClaimSeven
namespace Go.Proofs.YtdojfdaglbphlaaGreatDoor
namespace Rows

/-- THE TIED CARD OF 'bowdlerlaw14.BinaryTwos'. -/
def binaryTwosCard : Claim7 := { stood := { row := binaryTwosRow, standIns := [], harness := (true, "7f18572378d1bf1322e57b5138b2a40266700f0f4d4d15066a79b51d3867a7b8"), looks := false }, kinds := [], alts := [], laidByText := true, laidKinds := [.data, .data, .data, .data, .pinned], laidTests := true, laidLooks := .later }
def BinaryTwosCardSaid : Prop := Claim7.holds Tryz.pinned (.plain (OpenSpec.ofChange binaryTwosSpec)) binaryTwosCard

/-- THE TIED CARD OF 'bowdlerlaw14.BinaryMasks'. -/
def binaryMasksCard : Claim7 := { stood := { row := binaryMasksRow, standIns := [], harness := (true, "7f18572378d1bf1322e57b5138b2a40266700f0f4d4d15066a79b51d3867a7b8"), looks := false }, kinds := [], alts := [], laidByText := true, laidKinds := [.data, .data, .data, .data, .pinned], laidTests := true, laidLooks := .later }
def BinaryMasksCardSaid : Prop := Claim7.holds Tryz.pinned (.plain (OpenSpec.ofChange binaryMasksSpec)) binaryMasksCard

/-- THE TIED CARD OF 'bowdlerlaw14.BinaryAlike'. -/
def binaryAlikeCard : Claim7 := { stood := { row := binaryAlikeRow, standIns := [], harness := (true, "7f18572378d1bf1322e57b5138b2a40266700f0f4d4d15066a79b51d3867a7b8"), looks := false }, kinds := [], alts := [], laidByText := true, laidKinds := [.data, .data, .data, .data, .pinned], laidTests := true, laidLooks := .later }
def BinaryAlikeCardSaid : Prop := Claim7.holds Tryz.pinned (.plain (OpenSpec.ofChange binaryAlikeSpec)) binaryAlikeCard

/-- THE TIED CARD OF 'bowdlerlaw14.BinaryNumbers'. -/
def binaryNumbersCard : Claim7 := { stood := { row := binaryNumbersRow, standIns := [], harness := (true, "7f18572378d1bf1322e57b5138b2a40266700f0f4d4d15066a79b51d3867a7b8"), looks := false }, kinds := [], alts := [], laidByText := true, laidKinds := [.data, .data, .data, .data, .pinned], laidTests := true, laidLooks := .later }
def BinaryNumbersCardSaid : Prop := Claim7.holds Tryz.pinned (.plain (OpenSpec.ofChange binaryNumbersSpec)) binaryNumbersCard

/-- THE TIED CARD OF 'bowdlerlaw14.BinaryMerge'. -/
def binaryMergeCard : Claim7 := { stood := { row := binaryMergeRow, standIns := [], harness := (true, "7f18572378d1bf1322e57b5138b2a40266700f0f4d4d15066a79b51d3867a7b8"), looks := false }, kinds := [], alts := [], laidByText := true, laidKinds := [.data, .data, .data, .data, .pinned], laidTests := true, laidLooks := .later }
def BinaryMergeCardSaid : Prop := Claim7.holds Tryz.pinned (.plain (OpenSpec.ofChange binaryMergeSpec)) binaryMergeCard

/-- THE TIED CARD OF 'bowdlerlaw14.BinaryLists'. -/
def binaryListsCard : Claim7 := { stood := { row := binaryListsRow, standIns := [], harness := (true, "7f18572378d1bf1322e57b5138b2a40266700f0f4d4d15066a79b51d3867a7b8"), looks := false }, kinds := [], alts := [], laidByText := true, laidKinds := [.data, .data, .data, .data, .pinned], laidTests := true, laidLooks := .later }
def BinaryListsCardSaid : Prop := Claim7.holds Tryz.pinned (.plain (OpenSpec.ofChange binaryListsSpec)) binaryListsCard

/-- THE SECOND FORM's CARD OF 'bowdlerlaw14.BinaryTwos'. -/
def binaryTwosUptoCard : Claim7 := { stood := { row := binaryTwosUptoRow, standIns := [], harness := (true, "7f18572378d1bf1322e57b5138b2a40266700f0f4d4d15066a79b51d3867a7b8"), looks := false }, kinds := [], alts := [], laidByText := true, laidKinds := [.data, .data, .data, .data, .pinned], laidTests := true, laidLooks := .later }
def BinaryTwosUptoCardSaid : Prop := Claim7.holds Tryz.pinned (.plain (OpenSpec.upto binaryTwosSpec)) binaryTwosUptoCard

/-- THE SECOND FORM's CARD OF 'bowdlerlaw14.BinaryMasks'. -/
def binaryMasksUptoCard : Claim7 := { stood := { row := binaryMasksUptoRow, standIns := [], harness := (true, "7f18572378d1bf1322e57b5138b2a40266700f0f4d4d15066a79b51d3867a7b8"), looks := false }, kinds := [], alts := [], laidByText := true, laidKinds := [.data, .data, .data, .data, .pinned], laidTests := true, laidLooks := .later }
def BinaryMasksUptoCardSaid : Prop := Claim7.holds Tryz.pinned (.plain (OpenSpec.upto binaryMasksSpec)) binaryMasksUptoCard

/-- THE SECOND FORM's CARD OF 'bowdlerlaw14.BinaryAlike'. -/
def binaryAlikeUptoCard : Claim7 := { stood := { row := binaryAlikeUptoRow, standIns := [], harness := (true, "7f18572378d1bf1322e57b5138b2a40266700f0f4d4d15066a79b51d3867a7b8"), looks := false }, kinds := [], alts := [], laidByText := true, laidKinds := [.data, .data, .data, .data, .pinned], laidTests := true, laidLooks := .later }
def BinaryAlikeUptoCardSaid : Prop := Claim7.holds Tryz.pinned (.plain (OpenSpec.upto binaryAlikeSpec)) binaryAlikeUptoCard

/-- THE SECOND FORM's CARD OF 'bowdlerlaw14.BinaryNumbers'. -/
def binaryNumbersUptoCard : Claim7 := { stood := { row := binaryNumbersUptoRow, standIns := [], harness := (true, "7f18572378d1bf1322e57b5138b2a40266700f0f4d4d15066a79b51d3867a7b8"), looks := false }, kinds := [], alts := [], laidByText := true, laidKinds := [.data, .data, .data, .data, .pinned], laidTests := true, laidLooks := .later }
def BinaryNumbersUptoCardSaid : Prop := Claim7.holds Tryz.pinned (.plain (OpenSpec.upto binaryNumbersSpec)) binaryNumbersUptoCard

/-- THE SECOND FORM's CARD OF 'bowdlerlaw14.BinaryMerge'. -/
def binaryMergeUptoCard : Claim7 := { stood := { row := binaryMergeUptoRow, standIns := [], harness := (true, "7f18572378d1bf1322e57b5138b2a40266700f0f4d4d15066a79b51d3867a7b8"), looks := false }, kinds := [], alts := [], laidByText := true, laidKinds := [.data, .data, .data, .data, .pinned], laidTests := true, laidLooks := .later }
def BinaryMergeUptoCardSaid : Prop := Claim7.holds Tryz.pinned (.plain (OpenSpec.upto binaryMergeSpec)) binaryMergeUptoCard

/-- THE SECOND FORM's CARD OF 'bowdlerlaw14.BinaryLists'. -/
def binaryListsUptoCard : Claim7 := { stood := { row := binaryListsUptoRow, standIns := [], harness := (true, "7f18572378d1bf1322e57b5138b2a40266700f0f4d4d15066a79b51d3867a7b8"), looks := false }, kinds := [], alts := [], laidByText := true, laidKinds := [.data, .data, .data, .data, .pinned], laidTests := true, laidLooks := .later }
def BinaryListsUptoCardSaid : Prop := Claim7.holds Tryz.pinned (.plain (OpenSpec.upto binaryListsSpec)) binaryListsUptoCard
end Rows
end Go.Proofs.YtdojfdaglbphlaaGreatDoor
