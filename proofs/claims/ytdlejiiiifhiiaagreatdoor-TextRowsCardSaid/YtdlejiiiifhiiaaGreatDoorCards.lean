/-
  DERIVED. GIVEN WITH THE SEED: THE CARDS: each row of YtdlejiiiifhiiaaGreatDoorRows.lean that lists a variable, with what it lists TIED to the program's text (the seventh form; the later family's looks); each row that meets fmt, with fmt's text TOLD by the authors' own Lean function (tested against real Go, not proved from fmt's source: count such statements apart). THE CARD IS WHAT COUNTS. Prove the row's statement (the work); the ties are given (YtdlejiiiifhiiaaGreatDoorTie.lean); close each card by the builder's one call (the guide's Derived/Test/ToyasCard.lean, 'card_holds'). Laid BY PROGRAM, IN A SANDBOX (cutbox-door.mjs). By AI agents, Wed Nov 11 2026. No macro, syntax, notation, axiom, sorry.
-/
import Derived.Test.YtdlejiiiifhiiaaGreatDoorRows
import GoSem.ClaimSeven
namespace Go.Proofs.YtdlejiiiifhiiaaGreatDoor
namespace Rows

/-- THE TIED CARD OF 'bowdlerlaw05.TextPrints'. -/
def textPrintsCard : Claim7 := { stood := { row := textPrintsRow, standIns := [], harness := (true, "97bafe5e4b3209b844720d928e348f08c73ebc84d856a327498668a403e79aa7"), looks := false }, kinds := [], alts := [], laidByText := true, laidKinds := [.data, .data, .data, .data, .pinned], laidTests := true, laidLooks := .later }
def TextPrintsCardSaid : Prop := Claim7.holds Tryz.pinned (.plain (OpenSpec.ofChange textPrintsSpec)) textPrintsCard

/-- THE TIED CARD OF 'bowdlerlaw05.TextBlanks'. -/
def textBlanksCard : Claim7 := { stood := { row := textBlanksRow, standIns := [], harness := (true, "97bafe5e4b3209b844720d928e348f08c73ebc84d856a327498668a403e79aa7"), looks := false }, kinds := [], alts := [], laidByText := true, laidKinds := [.data, .data, .data, .data, .pinned], laidTests := true, laidLooks := .later }
def TextBlanksCardSaid : Prop := Claim7.holds Tryz.pinned (.plain (OpenSpec.ofChange textBlanksSpec)) textBlanksCard

/-- THE TIED CARD OF 'bowdlerlaw05.TextRows'. -/
def textRowsCard : Claim7 := { stood := { row := textRowsRow, standIns := [], harness := (true, "97bafe5e4b3209b844720d928e348f08c73ebc84d856a327498668a403e79aa7"), looks := false }, kinds := [], alts := [], laidByText := true, laidKinds := [.data, .data, .data, .data, .pinned], laidTests := true, laidLooks := .later }
def TextRowsCardSaid : Prop := Claim7.holds Tryz.pinned (.plain (OpenSpec.ofChange textRowsSpec)) textRowsCard

/-- THE SECOND FORM's CARD OF 'bowdlerlaw05.TextPrints'. -/
def textPrintsUptoCard : Claim7 := { stood := { row := textPrintsUptoRow, standIns := [], harness := (true, "97bafe5e4b3209b844720d928e348f08c73ebc84d856a327498668a403e79aa7"), looks := false }, kinds := [], alts := [], laidByText := true, laidKinds := [.data, .data, .data, .data, .pinned], laidTests := true, laidLooks := .later }
def TextPrintsUptoCardSaid : Prop := Claim7.holds Tryz.pinned (.plain (OpenSpec.upto textPrintsSpec)) textPrintsUptoCard

/-- THE SECOND FORM's CARD OF 'bowdlerlaw05.TextBlanks'. -/
def textBlanksUptoCard : Claim7 := { stood := { row := textBlanksUptoRow, standIns := [], harness := (true, "97bafe5e4b3209b844720d928e348f08c73ebc84d856a327498668a403e79aa7"), looks := false }, kinds := [], alts := [], laidByText := true, laidKinds := [.data, .data, .data, .data, .pinned], laidTests := true, laidLooks := .later }
def TextBlanksUptoCardSaid : Prop := Claim7.holds Tryz.pinned (.plain (OpenSpec.upto textBlanksSpec)) textBlanksUptoCard

/-- THE SECOND FORM's CARD OF 'bowdlerlaw05.TextRows'. -/
def textRowsUptoCard : Claim7 := { stood := { row := textRowsUptoRow, standIns := [], harness := (true, "97bafe5e4b3209b844720d928e348f08c73ebc84d856a327498668a403e79aa7"), looks := false }, kinds := [], alts := [], laidByText := true, laidKinds := [.data, .data, .data, .data, .pinned], laidTests := true, laidLooks := .later }
def TextRowsUptoCardSaid : Prop := Claim7.holds Tryz.pinned (.plain (OpenSpec.upto textRowsSpec)) textRowsUptoCard
end Rows
end Go.Proofs.YtdlejiiiifhiiaaGreatDoor
