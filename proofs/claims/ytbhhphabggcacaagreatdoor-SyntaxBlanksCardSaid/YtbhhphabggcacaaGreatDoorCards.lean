/-
  DERIVED. GIVEN WITH THE SEED: THE CARDS: each row of YtbhhphabggcacaaGreatDoorRows.lean that lists a variable, with what it lists TIED to the program's text (the seventh form; the later family's looks); each row that meets fmt, with fmt's text TOLD by the authors' own Lean function (tested against real Go, not proved from fmt's source: count such statements apart). THE CARD IS WHAT COUNTS. Prove the row's statement (the work); the ties are given (YtbhhphabggcacaaGreatDoorTie.lean); close each card by the builder's one call (the guide's Derived/Test/ToyasCard.lean, 'card_holds'). Laid BY PROGRAM, IN A SANDBOX (cutbox-door.mjs). By AI agents, Wed Nov 11 2026. No macro, syntax, notation, axiom, sorry.
-/
import Derived.Test.YtbhhphabggcacaaGreatDoorRows
import GoSem.ClaimSeven
namespace Go.Proofs.YtbhhphabggcacaaGreatDoor
namespace Rows

/-- THE TIED CARD OF 'bowdlerlaw11.SyntaxBack'. -/
def syntaxBackCard : Claim7 := { stood := { row := syntaxBackRow, standIns := [], harness := (true, "895a72dba4f6d3862a6160f367bf9b0bf4c3a65b69a9423f8c24e1b1e59bad86"), looks := true }, kinds := [], alts := [], laidByText := true, laidKinds := [.data, .data, .data, .data, .sentinel, .sentinel, .pinned], laidTests := true, laidLooks := .later }
def SyntaxBackCardSaid : Prop := Claim7.holds Tryz.pinned (.plain (OpenSpec.ofChange syntaxBackSpec)) syntaxBackCard

/-- THE TIED CARD OF 'bowdlerlaw11.SyntaxRows'. -/
def syntaxRowsCard : Claim7 := { stood := { row := syntaxRowsRow, standIns := [], harness := (true, "895a72dba4f6d3862a6160f367bf9b0bf4c3a65b69a9423f8c24e1b1e59bad86"), looks := true }, kinds := [], alts := [], laidByText := true, laidKinds := [.data, .data, .data, .data, .sentinel, .sentinel, .pinned], laidTests := true, laidLooks := .later }
def SyntaxRowsCardSaid : Prop := Claim7.holds Tryz.pinned (.plain (OpenSpec.ofChange syntaxRowsSpec)) syntaxRowsCard

/-- THE TIED CARD OF 'bowdlerlaw11.SyntaxBlanks'. -/
def syntaxBlanksCard : Claim7 := { stood := { row := syntaxBlanksRow, standIns := [], harness := (true, "895a72dba4f6d3862a6160f367bf9b0bf4c3a65b69a9423f8c24e1b1e59bad86"), looks := true }, kinds := [], alts := [], laidByText := true, laidKinds := [.data, .data, .data, .data, .sentinel, .sentinel, .pinned], laidTests := true, laidLooks := .later }
def SyntaxBlanksCardSaid : Prop := Claim7.holds Tryz.pinned (.plain (OpenSpec.ofChange syntaxBlanksSpec)) syntaxBlanksCard

/-- THE SECOND FORM's CARD OF 'bowdlerlaw11.SyntaxBack'. -/
def syntaxBackUptoCard : Claim7 := { stood := { row := syntaxBackUptoRow, standIns := [], harness := (true, "895a72dba4f6d3862a6160f367bf9b0bf4c3a65b69a9423f8c24e1b1e59bad86"), looks := true }, kinds := [], alts := [], laidByText := true, laidKinds := [.data, .data, .data, .data, .sentinel, .sentinel, .pinned], laidTests := true, laidLooks := .later }
def SyntaxBackUptoCardSaid : Prop := Claim7.holds Tryz.pinned (.plain (OpenSpec.upto syntaxBackSpec)) syntaxBackUptoCard

/-- THE SECOND FORM's CARD OF 'bowdlerlaw11.SyntaxRows'. -/
def syntaxRowsUptoCard : Claim7 := { stood := { row := syntaxRowsUptoRow, standIns := [], harness := (true, "895a72dba4f6d3862a6160f367bf9b0bf4c3a65b69a9423f8c24e1b1e59bad86"), looks := true }, kinds := [], alts := [], laidByText := true, laidKinds := [.data, .data, .data, .data, .sentinel, .sentinel, .pinned], laidTests := true, laidLooks := .later }
def SyntaxRowsUptoCardSaid : Prop := Claim7.holds Tryz.pinned (.plain (OpenSpec.upto syntaxRowsSpec)) syntaxRowsUptoCard

/-- THE SECOND FORM's CARD OF 'bowdlerlaw11.SyntaxBlanks'. -/
def syntaxBlanksUptoCard : Claim7 := { stood := { row := syntaxBlanksUptoRow, standIns := [], harness := (true, "895a72dba4f6d3862a6160f367bf9b0bf4c3a65b69a9423f8c24e1b1e59bad86"), looks := true }, kinds := [], alts := [], laidByText := true, laidKinds := [.data, .data, .data, .data, .sentinel, .sentinel, .pinned], laidTests := true, laidLooks := .later }
def SyntaxBlanksUptoCardSaid : Prop := Claim7.holds Tryz.pinned (.plain (OpenSpec.upto syntaxBlanksSpec)) syntaxBlanksUptoCard
end Rows
end Go.Proofs.YtbhhphabggcacaaGreatDoor
