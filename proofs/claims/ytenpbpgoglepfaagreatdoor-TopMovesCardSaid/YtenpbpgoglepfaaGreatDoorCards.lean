/-
  DERIVED. GIVEN WITH THE SEED: THE CARDS: each row of YtenpbpgoglepfaaGreatDoorRows.lean that lists a variable, with what it lists TIED to the program's text (the seventh form; the later family's looks); each row that meets fmt, with fmt's text TOLD by the authors' own Lean function (tested against real Go, not proved from fmt's source: count such statements apart). THE CARD IS WHAT COUNTS. Prove the row's statement (the work); the ties are given (YtenpbpgoglepfaaGreatDoorTie.lean); close each card by the builder's one call (the guide's Derived/Test/ToyasCard.lean, 'card_holds'). Laid BY PROGRAM, IN A SANDBOX (cutbox-door.mjs). By AI agents, Wed Nov 11 2026. No macro, syntax, notation, axiom, sorry.
-/
import Derived.Test.YtenpbpgoglepfaaGreatDoorRows
import GoSem.ClaimSeven
namespace Go.Proofs.YtenpbpgoglepfaaGreatDoor
namespace Rows

/-- THE TIED CARD OF 'tableautop.TopPings'. -/
def topPingsCard : Claim7 := { stood := { row := topPingsRow, standIns := [], harness := (true, "316419569ed596906dac7d5c95b17b2f4773be05027c83646fdd703d61ca538c"), looks := true }, kinds := [], alts := [], laidByText := true, laidKinds := [.handle, .sentinel, .sentinel, .sentinel, .sentinel, .sentinel, .sentinel, .sentinel, .sentinel, .sentinel, .sentinel, .sentinel, .sentinel, .sentinel, .sentinel, .sentinel, .sentinel], laidTests := true, laidLooks := .later }
def TopPingsCardSaid : Prop := Claim7.holds Tryz.pinned (.plain (OpenSpec.ofChange topPingsSpec)) topPingsCard

/-- THE TIED CARD OF 'tableautop.TopUnmaps'. -/
def topUnmapsCard : Claim7 := { stood := { row := topUnmapsRow, standIns := [], harness := (true, "316419569ed596906dac7d5c95b17b2f4773be05027c83646fdd703d61ca538c"), looks := true }, kinds := [], alts := [], laidByText := true, laidKinds := [.handle, .sentinel, .sentinel, .sentinel, .sentinel, .sentinel, .sentinel, .sentinel, .sentinel, .sentinel, .sentinel, .sentinel, .sentinel, .sentinel, .sentinel, .sentinel, .sentinel], laidTests := true, laidLooks := .later }
def TopUnmapsCardSaid : Prop := Claim7.holds Tryz.pinned (.plain (OpenSpec.ofChange topUnmapsSpec)) topUnmapsCard

/-- THE TIED CARD OF 'tableautop.TopMoves'. -/
def topMovesCard : Claim7 := { stood := { row := topMovesRow, standIns := [], harness := (true, "316419569ed596906dac7d5c95b17b2f4773be05027c83646fdd703d61ca538c"), looks := true }, kinds := [], alts := [], laidByText := true, laidKinds := [.handle, .sentinel, .sentinel, .sentinel, .sentinel, .sentinel, .sentinel, .sentinel, .sentinel, .sentinel, .sentinel, .sentinel, .sentinel, .sentinel, .sentinel, .sentinel, .sentinel], laidTests := true, laidLooks := .later }
def TopMovesCardSaid : Prop := Claim7.holds Tryz.pinned (.plain (OpenSpec.ofChange topMovesSpec)) topMovesCard

/-- THE TIED CARD OF 'tableautop.TopResizes'. -/
def topResizesCard : Claim7 := { stood := { row := topResizesRow, standIns := [], harness := (true, "316419569ed596906dac7d5c95b17b2f4773be05027c83646fdd703d61ca538c"), looks := true }, kinds := [], alts := [], laidByText := true, laidKinds := [.handle, .sentinel, .sentinel, .sentinel, .sentinel, .sentinel, .sentinel, .sentinel, .sentinel, .sentinel, .sentinel, .sentinel, .sentinel, .sentinel, .sentinel, .sentinel, .sentinel], laidTests := true, laidLooks := .later }
def TopResizesCardSaid : Prop := Claim7.holds Tryz.pinned (.plain (OpenSpec.ofChange topResizesSpec)) topResizesCard

/-- THE SECOND FORM's CARD OF 'tableautop.TopPings'. -/
def topPingsUptoCard : Claim7 := { stood := { row := topPingsUptoRow, standIns := [], harness := (true, "316419569ed596906dac7d5c95b17b2f4773be05027c83646fdd703d61ca538c"), looks := true }, kinds := [], alts := [], laidByText := true, laidKinds := [.handle, .sentinel, .sentinel, .sentinel, .sentinel, .sentinel, .sentinel, .sentinel, .sentinel, .sentinel, .sentinel, .sentinel, .sentinel, .sentinel, .sentinel, .sentinel, .sentinel], laidTests := true, laidLooks := .later }
def TopPingsUptoCardSaid : Prop := Claim7.holds Tryz.pinned (.plain (OpenSpec.upto topPingsSpec)) topPingsUptoCard

/-- THE SECOND FORM's CARD OF 'tableautop.TopUnmaps'. -/
def topUnmapsUptoCard : Claim7 := { stood := { row := topUnmapsUptoRow, standIns := [], harness := (true, "316419569ed596906dac7d5c95b17b2f4773be05027c83646fdd703d61ca538c"), looks := true }, kinds := [], alts := [], laidByText := true, laidKinds := [.handle, .sentinel, .sentinel, .sentinel, .sentinel, .sentinel, .sentinel, .sentinel, .sentinel, .sentinel, .sentinel, .sentinel, .sentinel, .sentinel, .sentinel, .sentinel, .sentinel], laidTests := true, laidLooks := .later }
def TopUnmapsUptoCardSaid : Prop := Claim7.holds Tryz.pinned (.plain (OpenSpec.upto topUnmapsSpec)) topUnmapsUptoCard

/-- THE SECOND FORM's CARD OF 'tableautop.TopMoves'. -/
def topMovesUptoCard : Claim7 := { stood := { row := topMovesUptoRow, standIns := [], harness := (true, "316419569ed596906dac7d5c95b17b2f4773be05027c83646fdd703d61ca538c"), looks := true }, kinds := [], alts := [], laidByText := true, laidKinds := [.handle, .sentinel, .sentinel, .sentinel, .sentinel, .sentinel, .sentinel, .sentinel, .sentinel, .sentinel, .sentinel, .sentinel, .sentinel, .sentinel, .sentinel, .sentinel, .sentinel], laidTests := true, laidLooks := .later }
def TopMovesUptoCardSaid : Prop := Claim7.holds Tryz.pinned (.plain (OpenSpec.upto topMovesSpec)) topMovesUptoCard

/-- THE SECOND FORM's CARD OF 'tableautop.TopResizes'. -/
def topResizesUptoCard : Claim7 := { stood := { row := topResizesUptoRow, standIns := [], harness := (true, "316419569ed596906dac7d5c95b17b2f4773be05027c83646fdd703d61ca538c"), looks := true }, kinds := [], alts := [], laidByText := true, laidKinds := [.handle, .sentinel, .sentinel, .sentinel, .sentinel, .sentinel, .sentinel, .sentinel, .sentinel, .sentinel, .sentinel, .sentinel, .sentinel, .sentinel, .sentinel, .sentinel, .sentinel], laidTests := true, laidLooks := .later }
def TopResizesUptoCardSaid : Prop := Claim7.holds Tryz.pinned (.plain (OpenSpec.upto topResizesSpec)) topResizesUptoCard
end Rows
end Go.Proofs.YtenpbpgoglepfaaGreatDoor
