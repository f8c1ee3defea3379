/-
  DERIVED. GIVEN WITH THE SEED: THE CARDS: each row of YtgoepemmcibdaaaDoorRows.lean that lists a variable, with what it lists TIED to the program's text (the seventh form; the later family's looks); each row that meets fmt, with fmt's text TOLD by the authors' own Lean function (tested against real Go, not proved from fmt's source: count such statements apart). THE CARD IS WHAT COUNTS. Prove the row's statement (the work); the ties are given (YtgoepemmcibdaaaDoorTie.lean); close each card by the builder's one call (the guide's Derived/Test/ToyasCard.lean, 'card_holds'). Laid BY PROGRAM, IN A SANDBOX (cutbox-door.mjs). By AI agents, Wed Nov 11 2026. No macro, syntax, notation, axiom, sorry.
-/
import Derived.Test.YtgoepemmcibdaaaDoorRows
import GoSem.ClaimSeven
namespace Go.Proofs.YtgoepemmcibdaaaDoor
namespace Rows

/-- THE TIED CARD OF 'bowdlerlaw04.TreeSpoilt'. -/
def treeSpoiltCard : Claim7 := { stood := { row := treeSpoiltRow, standIns := [], harness := (true, "d5518f2c61ac7d7629045992ff58871a4f79d918d6620e7405a112ce1b08e190"), looks := false }, kinds := [], alts := [], laidByText := true, laidKinds := [.data, .pinned], laidTests := true, laidLooks := .later }
def TreeSpoiltCardSaid : Prop := Claim7.holds Tryd.pinned (.plain (OpenSpec.ofChange treeSpoiltSpec)) treeSpoiltCard

/-- THE TIED CARD OF 'bowdlerlaw04.TreeOrder'. -/
def treeOrderCard : Claim7 := { stood := { row := treeOrderRow, standIns := [], harness := (true, "d5518f2c61ac7d7629045992ff58871a4f79d918d6620e7405a112ce1b08e190"), looks := false }, kinds := [], alts := [], laidByText := true, laidKinds := [.data, .pinned], laidTests := true, laidLooks := .later }
def TreeOrderCardSaid : Prop := Claim7.holds Tryd.pinned (.plain (OpenSpec.ofChange treeOrderSpec)) treeOrderCard

/-- THE SECOND FORM's CARD OF 'bowdlerlaw04.TreeSpoilt'. -/
def treeSpoiltUptoCard : Claim7 := { stood := { row := treeSpoiltUptoRow, standIns := [], harness := (true, "d5518f2c61ac7d7629045992ff58871a4f79d918d6620e7405a112ce1b08e190"), looks := false }, kinds := [], alts := [], laidByText := true, laidKinds := [.data, .pinned], laidTests := true, laidLooks := .later }
def TreeSpoiltUptoCardSaid : Prop := Claim7.holds Tryd.pinned (.plain (OpenSpec.upto treeSpoiltSpec)) treeSpoiltUptoCard

/-- THE SECOND FORM's CARD OF 'bowdlerlaw04.TreeOrder'. -/
def treeOrderUptoCard : Claim7 := { stood := { row := treeOrderUptoRow, standIns := [], harness := (true, "d5518f2c61ac7d7629045992ff58871a4f79d918d6620e7405a112ce1b08e190"), looks := false }, kinds := [], alts := [], laidByText := true, laidKinds := [.data, .pinned], laidTests := true, laidLooks := .later }
def TreeOrderUptoCardSaid : Prop := Claim7.holds Tryd.pinned (.plain (OpenSpec.upto treeOrderSpec)) treeOrderUptoCard
end Rows
end Go.Proofs.YtgoepemmcibdaaaDoor
