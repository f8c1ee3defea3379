/-
  DERIVED. GIVEN WITH THE SEED: THE CARDS: each row of YtdploelkmlbhnaaDoorRows.lean that lists a variable, with what it lists TIED to the program's text (the seventh form; the later family's looks); each row that meets fmt, with fmt's text TOLD by the authors' own Lean function (tested against real Go, not proved from fmt's source: count such statements apart). THE CARD IS WHAT COUNTS. Prove the row's statement (the work); the ties are given (YtdploelkmlbhnaaDoorTie.lean); close each card by the builder's one call (the guide's Derived/Test/ToyasCard.lean, 'card_holds'). Laid BY PROGRAM, IN A SANDBOX (cutbox-door.mjs). By AI agents, Wed Nov 11 2026. No macro, syntax, notation, axiom, sorry.
-/
import Derived.Test.YtdploelkmlbhnaaDoorRows
import GoSem.ClaimSeven
namespace Go.Proofs.YtdploelkmlbhnaaDoor
namespace Rows

/-- THE TIED CARD OF 'bowdlerlaw07.PathMatches'. -/
def pathMatchesCard : Claim7 := { stood := { row := pathMatchesRow, standIns := [], harness := (true, "1d3fc2c08e331ff6860333ca87ab4f4095e869136cacd7b59ef629541e36c56f"), looks := false }, kinds := [], alts := [], laidByText := true, laidKinds := [.data, .data, .data, .data, .pinned], laidTests := true, laidLooks := .later }
def PathMatchesCardSaid : Prop := Claim7.holds Tryd.pinned (.plain (OpenSpec.ofChange pathMatchesSpec)) pathMatchesCard

/-- THE TIED CARD OF 'bowdlerlaw07.PathLeads'. -/
def pathLeadsCard : Claim7 := { stood := { row := pathLeadsRow, standIns := [], harness := (true, "1d3fc2c08e331ff6860333ca87ab4f4095e869136cacd7b59ef629541e36c56f"), looks := false }, kinds := [], alts := [], laidByText := true, laidKinds := [.data, .data, .data, .data, .pinned], laidTests := true, laidLooks := .later }
def PathLeadsCardSaid : Prop := Claim7.holds Tryd.pinned (.plain (OpenSpec.ofChange pathLeadsSpec)) pathLeadsCard

/-- THE TIED CARD OF 'bowdlerlaw07.PathBack'. -/
def pathBackCard : Claim7 := { stood := { row := pathBackRow, standIns := [], harness := (true, "1d3fc2c08e331ff6860333ca87ab4f4095e869136cacd7b59ef629541e36c56f"), looks := false }, kinds := [], alts := [], laidByText := true, laidKinds := [.data, .data, .data, .data, .pinned], laidTests := true, laidLooks := .later }
def PathBackCardSaid : Prop := Claim7.holds Tryd.pinned (.plain (OpenSpec.ofChange pathBackSpec)) pathBackCard

/-- THE TIED CARD OF 'bowdlerlaw07.PathDeep'. -/
def pathDeepCard : Claim7 := { stood := { row := pathDeepRow, standIns := [], harness := (true, "1d3fc2c08e331ff6860333ca87ab4f4095e869136cacd7b59ef629541e36c56f"), looks := false }, kinds := [], alts := [], laidByText := true, laidKinds := [.data, .data, .data, .data, .pinned], laidTests := true, laidLooks := .later }
def PathDeepCardSaid : Prop := Claim7.holds Tryd.pinned (.plain (OpenSpec.ofChange pathDeepSpec)) pathDeepCard

/-- THE TIED CARD OF 'bowdlerlaw07.PathOne'. -/
def pathOneCard : Claim7 := { stood := { row := pathOneRow, standIns := [], harness := (true, "1d3fc2c08e331ff6860333ca87ab4f4095e869136cacd7b59ef629541e36c56f"), looks := false }, kinds := [], alts := [], laidByText := true, laidKinds := [.data, .data, .data, .data, .pinned], laidTests := true, laidLooks := .later }
def PathOneCardSaid : Prop := Claim7.holds Tryd.pinned (.plain (OpenSpec.ofChange pathOneSpec)) pathOneCard

/-- THE SECOND FORM's CARD OF 'bowdlerlaw07.PathMatches'. -/
def pathMatchesUptoCard : Claim7 := { stood := { row := pathMatchesUptoRow, standIns := [], harness := (true, "1d3fc2c08e331ff6860333ca87ab4f4095e869136cacd7b59ef629541e36c56f"), looks := false }, kinds := [], alts := [], laidByText := true, laidKinds := [.data, .data, .data, .data, .pinned], laidTests := true, laidLooks := .later }
def PathMatchesUptoCardSaid : Prop := Claim7.holds Tryd.pinned (.plain (OpenSpec.upto pathMatchesSpec)) pathMatchesUptoCard

/-- THE SECOND FORM's CARD OF 'bowdlerlaw07.PathLeads'. -/
def pathLeadsUptoCard : Claim7 := { stood := { row := pathLeadsUptoRow, standIns := [], harness := (true, "1d3fc2c08e331ff6860333ca87ab4f4095e869136cacd7b59ef629541e36c56f"), looks := false }, kinds := [], alts := [], laidByText := true, laidKinds := [.data, .data, .data, .data, .pinned], laidTests := true, laidLooks := .later }
def PathLeadsUptoCardSaid : Prop := Claim7.holds Tryd.pinned (.plain (OpenSpec.upto pathLeadsSpec)) pathLeadsUptoCard

/-- THE SECOND FORM's CARD OF 'bowdlerlaw07.PathBack'. -/
def pathBackUptoCard : Claim7 := { stood := { row := pathBackUptoRow, standIns := [], harness := (true, "1d3fc2c08e331ff6860333ca87ab4f4095e869136cacd7b59ef629541e36c56f"), looks := false }, kinds := [], alts := [], laidByText := true, laidKinds := [.data, .data, .data, .data, .pinned], laidTests := true, laidLooks := .later }
def PathBackUptoCardSaid : Prop := Claim7.holds Tryd.pinned (.plain (OpenSpec.upto pathBackSpec)) pathBackUptoCard

/-- THE SECOND FORM's CARD OF 'bowdlerlaw07.PathDeep'. -/
def pathDeepUptoCard : Claim7 := { stood := { row := pathDeepUptoRow, standIns := [], harness := (true, "1d3fc2c08e331ff6860333ca87ab4f4095e869136cacd7b59ef629541e36c56f"), looks := false }, kinds := [], alts := [], laidByText := true, laidKinds := [.data, .data, .data, .data, .pinned], laidTests := true, laidLooks := .later }
def PathDeepUptoCardSaid : Prop := Claim7.holds Tryd.pinned (.plain (OpenSpec.upto pathDeepSpec)) pathDeepUptoCard

/-- THE SECOND FORM's CARD OF 'bowdlerlaw07.PathOne'. -/
def pathOneUptoCard : Claim7 := { stood := { row := pathOneUptoRow, standIns := [], harness := (true, "1d3fc2c08e331ff6860333ca87ab4f4095e869136cacd7b59ef629541e36c56f"), looks := false }, kinds := [], alts := [], laidByText := true, laidKinds := [.data, .data, .data, .data, .pinned], laidTests := true, laidLooks := .later }
def PathOneUptoCardSaid : Prop := Claim7.holds Tryd.pinned (.plain (OpenSpec.upto pathOneSpec)) pathOneUptoCard
end Rows
end Go.Proofs.YtdploelkmlbhnaaDoor
