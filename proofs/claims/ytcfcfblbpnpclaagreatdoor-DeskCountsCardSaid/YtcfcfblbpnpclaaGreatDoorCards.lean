/-
  DERIVED. GIVEN WITH THE SEED: THE CARDS: each row of YtcfcfblbpnpclaaGreatDoorRows.lean that lists a variable, with what it lists TIED to the program's text (the seventh form; the later family's looks); each row that meets fmt, with fmt's text TOLD by the authors' own Lean function (tested against real Go, not proved from fmt's source: count such statements apart). THE CARD IS WHAT COUNTS. Prove the row's statement (the work); the ties are given (YtcfcfblbpnpclaaGreatDoorTie.lean); close each card by the builder's one call (the guide's Derived/Test/ToyasCard.lean, 'card_holds'). Laid BY PROGRAM, IN A SANDBOX (cutbox-door.mjs). By AI agents, Wed Nov 11 2026. No macro, syntax, notation, axiom, sorry.
-/
import Derived.Test.YtcfcfblbpnpclaaGreatDoorRows
import GoSem.ClaimSeven
namespace Go.Proofs.YtcfcfblbpnpclaaGreatDoor
namespace Rows

/-- THE TIED CARD OF 'bowdlerlaw22.DeskShows'. -/
def deskShowsCard : Claim7 := { stood := { row := deskShowsRow, standIns := [], harness := (true, "cd281dd6027112804334074962ab9f701a83b241c5a5de3d54ff34f58a044f24"), looks := true }, kinds := [], alts := [], laidByText := true, laidKinds := [.data, .data, .data, .data, .sentinel, .sentinel, .pinned], laidTests := true, laidLooks := .later }
def DeskShowsCardSaid : Prop := Claim7.holds Tryz.pinned (.plain (OpenSpec.ofChange deskShowsSpec)) deskShowsCard

/-- THE TIED CARD OF 'bowdlerlaw22.DeskCounts'. -/
def deskCountsCard : Claim7 := { stood := { row := deskCountsRow, standIns := [], harness := (true, "cd281dd6027112804334074962ab9f701a83b241c5a5de3d54ff34f58a044f24"), looks := true }, kinds := [], alts := [], laidByText := true, laidKinds := [.data, .data, .data, .data, .sentinel, .sentinel, .pinned], laidTests := true, laidLooks := .later }
def DeskCountsCardSaid : Prop := Claim7.holds Tryz.pinned (.plain (OpenSpec.ofChange deskCountsSpec)) deskCountsCard

/-- THE SECOND FORM's CARD OF 'bowdlerlaw22.DeskShows'. -/
def deskShowsUptoCard : Claim7 := { stood := { row := deskShowsUptoRow, standIns := [], harness := (true, "cd281dd6027112804334074962ab9f701a83b241c5a5de3d54ff34f58a044f24"), looks := true }, kinds := [], alts := [], laidByText := true, laidKinds := [.data, .data, .data, .data, .sentinel, .sentinel, .pinned], laidTests := true, laidLooks := .later }
def DeskShowsUptoCardSaid : Prop := Claim7.holds Tryz.pinned (.plain (OpenSpec.upto deskShowsSpec)) deskShowsUptoCard

/-- THE SECOND FORM's CARD OF 'bowdlerlaw22.DeskCounts'. -/
def deskCountsUptoCard : Claim7 := { stood := { row := deskCountsUptoRow, standIns := [], harness := (true, "cd281dd6027112804334074962ab9f701a83b241c5a5de3d54ff34f58a044f24"), looks := true }, kinds := [], alts := [], laidByText := true, laidKinds := [.data, .data, .data, .data, .sentinel, .sentinel, .pinned], laidTests := true, laidLooks := .later }
def DeskCountsUptoCardSaid : Prop := Claim7.holds Tryz.pinned (.plain (OpenSpec.upto deskCountsSpec)) deskCountsUptoCard
end Rows
end Go.Proofs.YtcfcfblbpnpclaaGreatDoor
