/-
  DERIVED. GIVEN WITH THE SEED: THE CARDS: each row of YtdlejiiiifhiiaaDoorRows.lean that lists a variable, with what it lists TIED to the program's text (the seventh form; the later family's looks); each row that meets fmt, with fmt's text TOLD by the authors' own Lean function (tested against real Go, not proved from fmt's source: count such statements apart). THE CARD IS WHAT COUNTS. Prove the row's statement (the work); the ties are given (YtdlejiiiifhiiaaDoorTie.lean); close each card by the builder's one call (the guide's Derived/Test/ToyasCard.lean, 'card_holds'). Laid BY PROGRAM, IN A SANDBOX (cutbox-door.mjs). By AI agents, Wed Nov 11 2026. No macro, syntax, notation, axiom, sorry.
-/
import Derived.Test.YtdlejiiiifhiiaaDoorRows
import GoSem.ClaimSeven
namespace Go.Proofs.YtdlejiiiifhiiaaDoor
namespace Rows

/-- THE TIED CARD OF 'bowdlerlaw05.TextKeys'. -/
def textKeysCard : Claim7 := { stood := { row := textKeysRow, standIns := [], harness := (true, "f9e28866e5dd91b658e184c5ed026a62448170ed2b84fdac2e4b446520971fa7"), looks := false }, kinds := [], alts := [], laidByText := true, laidKinds := [.data, .data, .data, .data, .pinned], laidTests := true, laidLooks := .later }
def TextKeysCardSaid : Prop := Claim7.holds Tryd.pinned (.plain (OpenSpec.ofChange textKeysSpec)) textKeysCard

/-- THE TIED CARD OF 'bowdlerlaw05.TextNumbers'. -/
def textNumbersCard : Claim7 := { stood := { row := textNumbersRow, standIns := [], harness := (true, "f9e28866e5dd91b658e184c5ed026a62448170ed2b84fdac2e4b446520971fa7"), looks := false }, kinds := [], alts := [], laidByText := true, laidKinds := [.data, .data, .data, .data, .pinned], laidTests := true, laidLooks := .later }
def TextNumbersCardSaid : Prop := Claim7.holds Tryd.pinned (.plain (OpenSpec.ofChange textNumbersSpec)) textNumbersCard

/-- THE SECOND FORM's CARD OF 'bowdlerlaw05.TextKeys'. -/
def textKeysUptoCard : Claim7 := { stood := { row := textKeysUptoRow, standIns := [], harness := (true, "f9e28866e5dd91b658e184c5ed026a62448170ed2b84fdac2e4b446520971fa7"), looks := false }, kinds := [], alts := [], laidByText := true, laidKinds := [.data, .data, .data, .data, .pinned], laidTests := true, laidLooks := .later }
def TextKeysUptoCardSaid : Prop := Claim7.holds Tryd.pinned (.plain (OpenSpec.upto textKeysSpec)) textKeysUptoCard

/-- THE SECOND FORM's CARD OF 'bowdlerlaw05.TextNumbers'. -/
def textNumbersUptoCard : Claim7 := { stood := { row := textNumbersUptoRow, standIns := [], harness := (true, "f9e28866e5dd91b658e184c5ed026a62448170ed2b84fdac2e4b446520971fa7"), looks := false }, kinds := [], alts := [], laidByText := true, laidKinds := [.data, .data, .data, .data, .pinned], laidTests := true, laidLooks := .later }
def TextNumbersUptoCardSaid : Prop := Claim7.holds Tryd.pinned (.plain (OpenSpec.upto textNumbersSpec)) textNumbersUptoCard
end Rows
end Go.Proofs.YtdlejiiiifhiiaaDoor
