/-
  DERIVED. GIVEN WITH THE SEED: THE CARDS: each row of YtgcbapchinideaaGreatDoorRows.lean that lists a variable, with what it lists TIED to the program's text (the seventh form; the later family's looks); each row that meets fmt, with fmt's text TOLD by the authors' own Lean function (tested against real Go, not proved from fmt's source: count such statements apart). THE CARD IS WHAT COUNTS. Prove the row's statement (the work); the ties are given (YtgcbapchinideaaGreatDoorTie.lean); close each card by the builder's one call (the guide's Derived/Test/ToyasCard.lean, 'card_holds'). Laid BY PROGRAM, IN A SANDBOX (cutbox-door.mjs). By AI agents, Wed Nov 11 2026. No macro, syntax, notation, axiom, sorry.
-/
import Derived.Test.YtgcbapchinideaaGreatDoorRows
import GoSem.ClaimSeven
namespace Go.Proofs.YtgcbapchinideaaGreatDoor
namespace Rows

/-- THE TIED CARD OF 'bowdlerlaw13.UnaryMasks'. -/
def unaryMasksCard : Claim7 := { stood := { row := unaryMasksRow, standIns := [], harness := (true, "de99cb679468be669cc1bce1bf94413553e70b875ea5a06a6caf4ae54ba77b09"), looks := false }, kinds := [], alts := [], laidByText := true, laidKinds := [.data, .data, .data, .data, .pinned], laidTests := true, laidLooks := .later }
def UnaryMasksCardSaid : Prop := Claim7.holds Tryz.pinned (.plain (OpenSpec.ofChange unaryMasksSpec)) unaryMasksCard

/-- THE TIED CARD OF 'bowdlerlaw13.UnaryAlike'. -/
def unaryAlikeCard : Claim7 := { stood := { row := unaryAlikeRow, standIns := [], harness := (true, "de99cb679468be669cc1bce1bf94413553e70b875ea5a06a6caf4ae54ba77b09"), looks := false }, kinds := [], alts := [], laidByText := true, laidKinds := [.data, .data, .data, .data, .pinned], laidTests := true, laidLooks := .later }
def UnaryAlikeCardSaid : Prop := Claim7.holds Tryz.pinned (.plain (OpenSpec.ofChange unaryAlikeSpec)) unaryAlikeCard

/-- THE TIED CARD OF 'bowdlerlaw13.UnaryLists'. -/
def unaryListsCard : Claim7 := { stood := { row := unaryListsRow, standIns := [], harness := (true, "de99cb679468be669cc1bce1bf94413553e70b875ea5a06a6caf4ae54ba77b09"), looks := false }, kinds := [], alts := [], laidByText := true, laidKinds := [.data, .data, .data, .data, .pinned], laidTests := true, laidLooks := .later }
def UnaryListsCardSaid : Prop := Claim7.holds Tryz.pinned (.plain (OpenSpec.ofChange unaryListsSpec)) unaryListsCard

/-- THE TIED CARD OF 'bowdlerlaw13.UnaryTexts'. -/
def unaryTextsCard : Claim7 := { stood := { row := unaryTextsRow, standIns := [], harness := (true, "de99cb679468be669cc1bce1bf94413553e70b875ea5a06a6caf4ae54ba77b09"), looks := false }, kinds := [], alts := [], laidByText := true, laidKinds := [.data, .data, .data, .data, .pinned], laidTests := true, laidLooks := .later }
def UnaryTextsCardSaid : Prop := Claim7.holds Tryz.pinned (.plain (OpenSpec.ofChange unaryTextsSpec)) unaryTextsCard

/-- THE TIED CARD OF 'bowdlerlaw13.UnaryNumbers'. -/
def unaryNumbersCard : Claim7 := { stood := { row := unaryNumbersRow, standIns := [], harness := (true, "de99cb679468be669cc1bce1bf94413553e70b875ea5a06a6caf4ae54ba77b09"), looks := false }, kinds := [], alts := [], laidByText := true, laidKinds := [.data, .data, .data, .data, .pinned], laidTests := true, laidLooks := .later }
def UnaryNumbersCardSaid : Prop := Claim7.holds Tryz.pinned (.plain (OpenSpec.ofChange unaryNumbersSpec)) unaryNumbersCard

/-- THE TIED CARD OF 'bowdlerlaw13.UnaryKeys'. -/
def unaryKeysCard : Claim7 := { stood := { row := unaryKeysRow, standIns := [], harness := (true, "de99cb679468be669cc1bce1bf94413553e70b875ea5a06a6caf4ae54ba77b09"), looks := false }, kinds := [], alts := [], laidByText := true, laidKinds := [.data, .data, .data, .data, .pinned], laidTests := true, laidLooks := .later }
def UnaryKeysCardSaid : Prop := Claim7.holds Tryz.pinned (.plain (OpenSpec.ofChange unaryKeysSpec)) unaryKeysCard

/-- THE SECOND FORM's CARD OF 'bowdlerlaw13.UnaryMasks'. -/
def unaryMasksUptoCard : Claim7 := { stood := { row := unaryMasksUptoRow, standIns := [], harness := (true, "de99cb679468be669cc1bce1bf94413553e70b875ea5a06a6caf4ae54ba77b09"), looks := false }, kinds := [], alts := [], laidByText := true, laidKinds := [.data, .data, .data, .data, .pinned], laidTests := true, laidLooks := .later }
def UnaryMasksUptoCardSaid : Prop := Claim7.holds Tryz.pinned (.plain (OpenSpec.upto unaryMasksSpec)) unaryMasksUptoCard

/-- THE SECOND FORM's CARD OF 'bowdlerlaw13.UnaryAlike'. -/
def unaryAlikeUptoCard : Claim7 := { stood := { row := unaryAlikeUptoRow, standIns := [], harness := (true, "de99cb679468be669cc1bce1bf94413553e70b875ea5a06a6caf4ae54ba77b09"), looks := false }, kinds := [], alts := [], laidByText := true, laidKinds := [.data, .data, .data, .data, .pinned], laidTests := true, laidLooks := .later }
def UnaryAlikeUptoCardSaid : Prop := Claim7.holds Tryz.pinned (.plain (OpenSpec.upto unaryAlikeSpec)) unaryAlikeUptoCard

/-- THE SECOND FORM's CARD OF 'bowdlerlaw13.UnaryLists'. -/
def unaryListsUptoCard : Claim7 := { stood := { row := unaryListsUptoRow, standIns := [], harness := (true, "de99cb679468be669cc1bce1bf94413553e70b875ea5a06a6caf4ae54ba77b09"), looks := false }, kinds := [], alts := [], laidByText := true, laidKinds := [.data, .data, .data, .data, .pinned], laidTests := true, laidLooks := .later }
def UnaryListsUptoCardSaid : Prop := Claim7.holds Tryz.pinned (.plain (OpenSpec.upto unaryListsSpec)) unaryListsUptoCard

/-- THE SECOND FORM's CARD OF 'bowdlerlaw13.UnaryTexts'. -/
def unaryTextsUptoCard : Claim7 := { stood := { row := unaryTextsUptoRow, standIns := [], harness := (true, "de99cb679468be669cc1bce1bf94413553e70b875ea5a06a6caf4ae54ba77b09"), looks := false }, kinds := [], alts := [], laidByText := true, laidKinds := [.data, .data, .data, .data, .pinned], laidTests := true, laidLooks := .later }
def UnaryTextsUptoCardSaid : Prop := Claim7.holds Tryz.pinned (.plain (OpenSpec.upto unaryTextsSpec)) unaryTextsUptoCard

/-- THE SECOND FORM's CARD OF 'bowdlerlaw13.UnaryNumbers'. -/
def unaryNumbersUptoCard : Claim7 := { stood := { row := unaryNumbersUptoRow, standIns := [], harness := (true, "de99cb679468be669cc1bce1bf94413553e70b875ea5a06a6caf4ae54ba77b09"), looks := false }, kinds := [], alts := [], laidByText := true, laidKinds := [.data, .data, .data, .data, .pinned], laidTests := true, laidLooks := .later }
def UnaryNumbersUptoCardSaid : Prop := Claim7.holds Tryz.pinned (.plain (OpenSpec.upto unaryNumbersSpec)) unaryNumbersUptoCard

/-- THE SECOND FORM's CARD OF 'bowdlerlaw13.UnaryKeys'. -/
def unaryKeysUptoCard : Claim7 := { stood := { row := unaryKeysUptoRow, standIns := [], harness := (true, "de99cb679468be669cc1bce1bf94413553e70b875ea5a06a6caf4ae54ba77b09"), looks := false }, kinds := [], alts := [], laidByText := true, laidKinds := [.data, .data, .data, .data, .pinned], laidTests := true, laidLooks := .later }
def UnaryKeysUptoCardSaid : Prop := Claim7.holds Tryz.pinned (.plain (OpenSpec.upto unaryKeysSpec)) unaryKeysUptoCard
end Rows
end Go.Proofs.YtgcbapchinideaaGreatDoor
