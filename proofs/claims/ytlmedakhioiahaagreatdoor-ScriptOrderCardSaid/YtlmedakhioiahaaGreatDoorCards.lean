/-
  DERIVED. GIVEN WITH THE SEED: THE CARDS: each row of YtlmedakhioiahaaGreatDoorRows.lean that lists a variable, with what it lists TIED to the program's text (the seventh form; the later family's looks); each row that meets fmt, with fmt's text TOLD by the authors' own Lean function (tested against real Go, not proved from fmt's source: count such statements apart). THE CARD IS WHAT COUNTS. Prove the row's statement (the work); the ties are given (YtlmedakhioiahaaGreatDoorTie.lean); close each card by the builder's one call (the guide's Derived/Test/ToyasCard.lean, 'card_holds'). Laid BY PROGRAM, IN A SANDBOX (cutbox-door.mjs). By AI agents, Wed Nov 11 2026. No macro, syntax, notation, axiom, sorry.
-/
import Derived.Test.YtlmedakhioiahaaGreatDoorRows
import GoSem.ClaimSeven
namespace Go.Proofs.YtlmedakhioiahaaGreatDoor
namespace Rows

/-- THE TIED CARD OF 'bowdlerlaw21.ScriptTexts'. -/
def scriptTextsCard : Claim7 := { stood := { row := scriptTextsRow, standIns := [], harness := (true, "698921af1de2de78d18ecb161376f4821dfdbdff3749ca274ffe3dc478f9ce4d"), looks := true }, kinds := [], alts := [], laidByText := true, laidKinds := [.data, .data, .data, .data, .sentinel, .sentinel, .pinned], laidTests := true, laidLooks := .later }
def ScriptTextsCardSaid : Prop := Claim7.holds Tryz.pinned (.plain (OpenSpec.ofChange scriptTextsSpec)) scriptTextsCard

/-- THE TIED CARD OF 'bowdlerlaw21.ScriptBack'. -/
def scriptBackCard : Claim7 := { stood := { row := scriptBackRow, standIns := [], harness := (true, "698921af1de2de78d18ecb161376f4821dfdbdff3749ca274ffe3dc478f9ce4d"), looks := true }, kinds := [], alts := [], laidByText := true, laidKinds := [.data, .data, .data, .data, .sentinel, .sentinel, .pinned], laidTests := true, laidLooks := .later }
def ScriptBackCardSaid : Prop := Claim7.holds Tryz.pinned (.plain (OpenSpec.ofChange scriptBackSpec)) scriptBackCard

/-- THE TIED CARD OF 'bowdlerlaw21.ScriptOrder'. -/
def scriptOrderCard : Claim7 := { stood := { row := scriptOrderRow, standIns := [], harness := (true, "698921af1de2de78d18ecb161376f4821dfdbdff3749ca274ffe3dc478f9ce4d"), looks := true }, kinds := [], alts := [], laidByText := true, laidKinds := [.data, .data, .data, .data, .sentinel, .sentinel, .pinned], laidTests := true, laidLooks := .later }
def ScriptOrderCardSaid : Prop := Claim7.holds Tryz.pinned (.plain (OpenSpec.ofChange scriptOrderSpec)) scriptOrderCard

/-- THE SECOND FORM's CARD OF 'bowdlerlaw21.ScriptTexts'. -/
def scriptTextsUptoCard : Claim7 := { stood := { row := scriptTextsUptoRow, standIns := [], harness := (true, "698921af1de2de78d18ecb161376f4821dfdbdff3749ca274ffe3dc478f9ce4d"), looks := true }, kinds := [], alts := [], laidByText := true, laidKinds := [.data, .data, .data, .data, .sentinel, .sentinel, .pinned], laidTests := true, laidLooks := .later }
def ScriptTextsUptoCardSaid : Prop := Claim7.holds Tryz.pinned (.plain (OpenSpec.upto scriptTextsSpec)) scriptTextsUptoCard

/-- THE SECOND FORM's CARD OF 'bowdlerlaw21.ScriptBack'. -/
def scriptBackUptoCard : Claim7 := { stood := { row := scriptBackUptoRow, standIns := [], harness := (true, "698921af1de2de78d18ecb161376f4821dfdbdff3749ca274ffe3dc478f9ce4d"), looks := true }, kinds := [], alts := [], laidByText := true, laidKinds := [.data, .data, .data, .data, .sentinel, .sentinel, .pinned], laidTests := true, laidLooks := .later }
def ScriptBackUptoCardSaid : Prop := Claim7.holds Tryz.pinned (.plain (OpenSpec.upto scriptBackSpec)) scriptBackUptoCard

/-- THE SECOND FORM's CARD OF 'bowdlerlaw21.ScriptOrder'. -/
def scriptOrderUptoCard : Claim7 := { stood := { row := scriptOrderUptoRow, standIns := [], harness := (true, "698921af1de2de78d18ecb161376f4821dfdbdff3749ca274ffe3dc478f9ce4d"), looks := true }, kinds := [], alts := [], laidByText := true, laidKinds := [.data, .data, .data, .data, .sentinel, .sentinel, .pinned], laidTests := true, laidLooks := .later }
def ScriptOrderUptoCardSaid : Prop := Claim7.holds Tryz.pinned (.plain (OpenSpec.upto scriptOrderSpec)) scriptOrderUptoCard
end Rows
end Go.Proofs.YtlmedakhioiahaaGreatDoor
