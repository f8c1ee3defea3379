/-
  DERIVED. GIVEN WITH THE SEED: THE CARDS: each row of YtdjjmppnnkkloaaGreatDoorRows.lean that lists a variable, with what it lists TIED to the program's text (the seventh form; the later family's looks); each row that meets fmt, with fmt's text TOLD by the authors' own Lean function (tested against real Go, not proved from fmt's source: count such statements apart). THE CARD IS WHAT COUNTS. Prove the row's statement (the work); the ties are given (YtdjjmppnnkkloaaGreatDoorTie.lean); close each card by the builder's one call (the guide's Derived/Test/ToyasCard.lean, 'card_holds'). Laid BY PROGRAM, IN A SANDBOX (cutbox-door.mjs). By AI agents, Wed Nov 11 2026. No macro, syntax, notation, axiom, sorry.
-/
import Derived.Test.YtdjjmppnnkkloaaGreatDoorRows
import GoSem.ClaimSeven
namespace Go.Proofs.YtdjjmppnnkkloaaGreatDoor
namespace Rows

/-- THE TIED CARD OF 'bowdlerlaw08.PolicyTexts'. -/
def policyTextsCard : Claim7 := { stood := { row := policyTextsRow, standIns := [], harness := (true, "d1e104bac6f6c0123aed858aa13755d43719c917561b3ec93b6d0be4d6505261"), looks := true }, kinds := [], alts := [], laidByText := true, laidKinds := [.data, .data, .data, .data, .sentinel, .sentinel, .pinned], laidTests := true, laidLooks := .later }
def PolicyTextsCardSaid : Prop := Claim7.holds Tryz.pinned (.plain (OpenSpec.ofChange policyTextsSpec)) policyTextsCard

/-- THE TIED CARD OF 'bowdlerlaw08.PolicyBack'. -/
def policyBackCard : Claim7 := { stood := { row := policyBackRow, standIns := [], harness := (true, "d1e104bac6f6c0123aed858aa13755d43719c917561b3ec93b6d0be4d6505261"), looks := true }, kinds := [], alts := [], laidByText := true, laidKinds := [.data, .data, .data, .data, .sentinel, .sentinel, .pinned], laidTests := true, laidLooks := .later }
def PolicyBackCardSaid : Prop := Claim7.holds Tryz.pinned (.plain (OpenSpec.ofChange policyBackSpec)) policyBackCard

/-- THE TIED CARD OF 'bowdlerlaw08.PolicyMarks'. -/
def policyMarksCard : Claim7 := { stood := { row := policyMarksRow, standIns := [], harness := (true, "d1e104bac6f6c0123aed858aa13755d43719c917561b3ec93b6d0be4d6505261"), looks := true }, kinds := [], alts := [], laidByText := true, laidKinds := [.data, .data, .data, .data, .sentinel, .sentinel, .pinned], laidTests := true, laidLooks := .later }
def PolicyMarksCardSaid : Prop := Claim7.holds Tryz.pinned (.plain (OpenSpec.ofChange policyMarksSpec)) policyMarksCard

/-- THE TIED CARD OF 'bowdlerlaw08.PolicyPlaces'. -/
def policyPlacesCard : Claim7 := { stood := { row := policyPlacesRow, standIns := [], harness := (true, "d1e104bac6f6c0123aed858aa13755d43719c917561b3ec93b6d0be4d6505261"), looks := true }, kinds := [], alts := [], laidByText := true, laidKinds := [.data, .data, .data, .data, .sentinel, .sentinel, .pinned], laidTests := true, laidLooks := .later }
def PolicyPlacesCardSaid : Prop := Claim7.holds Tryz.pinned (.plain (OpenSpec.ofChange policyPlacesSpec)) policyPlacesCard

/-- THE TIED CARD OF 'bowdlerlaw08.PolicyUnion'. -/
def policyUnionCard : Claim7 := { stood := { row := policyUnionRow, standIns := [], harness := (true, "d1e104bac6f6c0123aed858aa13755d43719c917561b3ec93b6d0be4d6505261"), looks := true }, kinds := [], alts := [], laidByText := true, laidKinds := [.data, .data, .data, .data, .sentinel, .sentinel, .pinned], laidTests := true, laidLooks := .later }
def PolicyUnionCardSaid : Prop := Claim7.holds Tryz.pinned (.plain (OpenSpec.ofChange policyUnionSpec)) policyUnionCard

/-- THE TIED CARD OF 'bowdlerlaw08.PolicyWild'. -/
def policyWildCard : Claim7 := { stood := { row := policyWildRow, standIns := [], harness := (true, "d1e104bac6f6c0123aed858aa13755d43719c917561b3ec93b6d0be4d6505261"), looks := true }, kinds := [], alts := [], laidByText := true, laidKinds := [.data, .data, .data, .data, .sentinel, .sentinel, .pinned], laidTests := true, laidLooks := .later }
def PolicyWildCardSaid : Prop := Claim7.holds Tryz.pinned (.plain (OpenSpec.ofChange policyWildSpec)) policyWildCard

/-- THE SECOND FORM's CARD OF 'bowdlerlaw08.PolicyTexts'. -/
def policyTextsUptoCard : Claim7 := { stood := { row := policyTextsUptoRow, standIns := [], harness := (true, "d1e104bac6f6c0123aed858aa13755d43719c917561b3ec93b6d0be4d6505261"), looks := true }, kinds := [], alts := [], laidByText := true, laidKinds := [.data, .data, .data, .data, .sentinel, .sentinel, .pinned], laidTests := true, laidLooks := .later }
def PolicyTextsUptoCardSaid : Prop := Claim7.holds Tryz.pinned (.plain (OpenSpec.upto policyTextsSpec)) policyTextsUptoCard

/-- THE SECOND FORM's CARD OF 'bowdlerlaw08.PolicyBack'. -/
def policyBackUptoCard : Claim7 := { stood := { row := policyBackUptoRow, standIns := [], harness := (true, "d1e104bac6f6c0123aed858aa13755d43719c917561b3ec93b6d0be4d6505261"), looks := true }, kinds := [], alts := [], laidByText := true, laidKinds := [.data, .data, .data, .data, .sentinel, .sentinel, .pinned], laidTests := true, laidLooks := .later }
def PolicyBackUptoCardSaid : Prop := Claim7.holds Tryz.pinned (.plain (OpenSpec.upto policyBackSpec)) policyBackUptoCard

/-- THE SECOND FORM's CARD OF 'bowdlerlaw08.PolicyMarks'. -/
def policyMarksUptoCard : Claim7 := { stood := { row := policyMarksUptoRow, standIns := [], harness := (true, "d1e104bac6f6c0123aed858aa13755d43719c917561b3ec93b6d0be4d6505261"), looks := true }, kinds := [], alts := [], laidByText := true, laidKinds := [.data, .data, .data, .data, .sentinel, .sentinel, .pinned], laidTests := true, laidLooks := .later }
def PolicyMarksUptoCardSaid : Prop := Claim7.holds Tryz.pinned (.plain (OpenSpec.upto policyMarksSpec)) policyMarksUptoCard

/-- THE SECOND FORM's CARD OF 'bowdlerlaw08.PolicyPlaces'. -/
def policyPlacesUptoCard : Claim7 := { stood := { row := policyPlacesUptoRow, standIns := [], harness := (true, "d1e104bac6f6c0123aed858aa13755d43719c917561b3ec93b6d0be4d6505261"), looks := true }, kinds := [], alts := [], laidByText := true, laidKinds := [.data, .data, .data, .data, .sentinel, .sentinel, .pinned], laidTests := true, laidLooks := .later }
def PolicyPlacesUptoCardSaid : Prop := Claim7.holds Tryz.pinned (.plain (OpenSpec.upto policyPlacesSpec)) policyPlacesUptoCard

/-- THE SECOND FORM's CARD OF 'bowdlerlaw08.PolicyUnion'. -/
def policyUnionUptoCard : Claim7 := { stood := { row := policyUnionUptoRow, standIns := [], harness := (true, "d1e104bac6f6c0123aed858aa13755d43719c917561b3ec93b6d0be4d6505261"), looks := true }, kinds := [], alts := [], laidByText := true, laidKinds := [.data, .data, .data, .data, .sentinel, .sentinel, .pinned], laidTests := true, laidLooks := .later }
def PolicyUnionUptoCardSaid : Prop := Claim7.holds Tryz.pinned (.plain (OpenSpec.upto policyUnionSpec)) policyUnionUptoCard

/-- THE SECOND FORM's CARD OF 'bowdlerlaw08.PolicyWild'. -/
def policyWildUptoCard : Claim7 := { stood := { row := policyWildUptoRow, standIns := [], harness := (true, "d1e104bac6f6c0123aed858aa13755d43719c917561b3ec93b6d0be4d6505261"), looks := true }, kinds := [], alts := [], laidByText := true, laidKinds := [.data, .data, .data, .data, .sentinel, .sentinel, .pinned], laidTests := true, laidLooks := .later }
def PolicyWildUptoCardSaid : Prop := Claim7.holds Tryz.pinned (.plain (OpenSpec.upto policyWildSpec)) policyWildUptoCard
end Rows
end Go.Proofs.YtdjjmppnnkkloaaGreatDoor
