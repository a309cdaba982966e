/-
  DERIVED. GIVEN WITH THE SEED: THE CARDS: each row of YtagjmkgbfbaekaaDoorRows.lean that lists a variable, with what it lists TIED to the program's text (the seventh form; the later family's looks); each row that meets fmt, with fmt's text TOLD by the authors' own Lean function (tested against real Go, not proved from fmt's source: count such statements apart). THE CARD IS WHAT COUNTS. Prove the row's statement (the work); the ties are given (YtagjmkgbfbaekaaDoorTie.lean); close each card by the builder's one call (the guide's Derived/Test/ToyasCard.lean, 'card_holds'). Laid BY PROGRAM, IN A SANDBOX (cutbox-door.mjs). By AI agents, Wed Nov 11 2026. No macro, syntax, notation, axiom, sorry.
-/
import Derived.Test.YtagjmkgbfbaekaaDoorRows
import GoSem.ClaimSeven
namespace Go.Proofs.YtagjmkgbfbaekaaDoor
namespace Rows

/-- THE TIED CARD OF 'tableaulaw10.MemoryWords'. -/
def memoryWordsCard : Claim7 := { stood := { row := memoryWordsRow, standIns := [], harness := (true, "0bc87f9d141ce9a682eec1f7e9a0133f5f8204ba483ca73c0c00c5bb95868110"), looks := true }, kinds := [], alts := [], laidByText := true, laidKinds := [.sentinel, .sentinel, .sentinel], laidTests := true, laidLooks := .later }
def MemoryWordsCardSaid : Prop := Claim7.holds Tryd.pinned (.plain (OpenSpec.ofChange memoryWordsSpec)) memoryWordsCard

/-- THE TIED CARD OF 'tableaulaw10.MemoryApart'. -/
def memoryApartCard : Claim7 := { stood := { row := memoryApartRow, standIns := [], harness := (true, "0bc87f9d141ce9a682eec1f7e9a0133f5f8204ba483ca73c0c00c5bb95868110"), looks := true }, kinds := [], alts := [], laidByText := true, laidKinds := [.sentinel, .sentinel, .sentinel], laidTests := true, laidLooks := .later }
def MemoryApartCardSaid : Prop := Claim7.holds Tryd.pinned (.plain (OpenSpec.ofChange memoryApartSpec)) memoryApartCard

/-- THE TIED CARD OF 'tableaulaw10.MemoryPlays'. -/
def memoryPlaysCard : Claim7 := { stood := { row := memoryPlaysRow, standIns := [], harness := (true, "0bc87f9d141ce9a682eec1f7e9a0133f5f8204ba483ca73c0c00c5bb95868110"), looks := true }, kinds := [], alts := [], laidByText := true, laidKinds := [.sentinel, .sentinel, .sentinel, .sentinel, .sentinel, .sentinel, .sentinel, .sentinel, .sentinel, .sentinel, .sentinel, .sentinel, .sentinel, .sentinel, .sentinel, .sentinel], laidTests := true, laidLooks := .later }
def MemoryPlaysCardSaid : Prop := Claim7.holds Tryd.pinned (.plain (OpenSpec.ofChange memoryPlaysSpec)) memoryPlaysCard

/-- THE TIED CARD OF 'tableaulaw10.MemoryKeeps'. -/
def memoryKeepsCard : Claim7 := { stood := { row := memoryKeepsRow, standIns := [], harness := (true, "0bc87f9d141ce9a682eec1f7e9a0133f5f8204ba483ca73c0c00c5bb95868110"), looks := true }, kinds := [], alts := [], laidByText := true, laidKinds := [.sentinel, .sentinel, .sentinel, .sentinel, .sentinel, .sentinel, .sentinel, .sentinel, .sentinel, .sentinel, .sentinel, .sentinel, .sentinel, .sentinel, .sentinel, .sentinel], laidTests := true, laidLooks := .later }
def MemoryKeepsCardSaid : Prop := Claim7.holds Tryd.pinned (.plain (OpenSpec.ofChange memoryKeepsSpec)) memoryKeepsCard

/-- THE TIED CARD OF 'tableaulaw25.QueueOrder'. -/
def queueOrderCard : Claim7 := { stood := { row := queueOrderRow, standIns := [], harness := (true, "0bc87f9d141ce9a682eec1f7e9a0133f5f8204ba483ca73c0c00c5bb95868110"), looks := true }, kinds := [], alts := [], laidByText := true, laidKinds := [.sentinel, .sentinel, .sentinel, .sentinel, .sentinel, .sentinel, .sentinel, .sentinel, .sentinel, .sentinel, .sentinel, .sentinel, .sentinel, .sentinel, .sentinel, .sentinel], laidTests := true, laidLooks := .later }
def QueueOrderCardSaid : Prop := Claim7.holds Tryd.pinned (.plain (OpenSpec.ofChange queueOrderSpec)) queueOrderCard

/-- THE TIED CARD OF 'tableaulaw25.QueueRooms'. -/
def queueRoomsCard : Claim7 := { stood := { row := queueRoomsRow, standIns := [], harness := (true, "0bc87f9d141ce9a682eec1f7e9a0133f5f8204ba483ca73c0c00c5bb95868110"), looks := true }, kinds := [], alts := [], laidByText := true, laidKinds := [.sentinel, .sentinel, .sentinel, .sentinel, .sentinel, .sentinel, .sentinel, .sentinel, .sentinel, .sentinel, .sentinel, .sentinel, .sentinel, .sentinel, .sentinel, .sentinel], laidTests := true, laidLooks := .later }
def QueueRoomsCardSaid : Prop := Claim7.holds Tryd.pinned (.plain (OpenSpec.ofChange queueRoomsSpec)) queueRoomsCard

/-- THE TIED CARD OF 'tableaulaw25.QueuePlays'. -/
def queuePlaysCard : Claim7 := { stood := { row := queuePlaysRow, standIns := [], harness := (true, "0bc87f9d141ce9a682eec1f7e9a0133f5f8204ba483ca73c0c00c5bb95868110"), looks := true }, kinds := [], alts := [], laidByText := true, laidKinds := [.sentinel, .sentinel, .sentinel, .sentinel, .sentinel, .sentinel, .sentinel, .sentinel, .sentinel, .sentinel, .sentinel, .sentinel, .sentinel, .sentinel, .sentinel, .sentinel], laidTests := true, laidLooks := .later }
def QueuePlaysCardSaid : Prop := Claim7.holds Tryd.pinned (.plain (OpenSpec.ofChange queuePlaysSpec)) queuePlaysCard

/-- THE TIED CARD OF 'tableaulaw03.SigLetters'. -/
def sigLettersCard : Claim7 := { stood := { row := sigLettersRow, standIns := [], harness := (true, "0bc87f9d141ce9a682eec1f7e9a0133f5f8204ba483ca73c0c00c5bb95868110"), looks := true }, kinds := [], alts := [], laidByText := true, laidKinds := [.sentinel], laidTests := true, laidLooks := .later }
def SigLettersCardSaid : Prop := Claim7.holds Tryd.pinned (.plain (OpenSpec.ofChange sigLettersSpec)) sigLettersCard

/-- THE TIED CARD OF 'tableaulaw03.SigTable'. -/
def sigTableCard : Claim7 := { stood := { row := sigTableRow, standIns := [], harness := (true, "0bc87f9d141ce9a682eec1f7e9a0133f5f8204ba483ca73c0c00c5bb95868110"), looks := true }, kinds := [], alts := [], laidByText := true, laidKinds := [.sentinel], laidTests := true, laidLooks := .later }
def SigTableCardSaid : Prop := Claim7.holds Tryd.pinned (.plain (OpenSpec.ofChange sigTableSpec)) sigTableCard

/-- THE TIED CARD OF 'tableaulaw03.SigNames'. -/
def sigNamesCard : Claim7 := { stood := { row := sigNamesRow, standIns := [], harness := (true, "0bc87f9d141ce9a682eec1f7e9a0133f5f8204ba483ca73c0c00c5bb95868110"), looks := true }, kinds := [], alts := [], laidByText := true, laidKinds := [.sentinel], laidTests := true, laidLooks := .later }
def SigNamesCardSaid : Prop := Claim7.holds Tryd.pinned (.plain (OpenSpec.ofChange sigNamesSpec)) sigNamesCard

/-- THE TIED CARD OF 'tableaulaw03.SigAll'. -/
def sigAllCard : Claim7 := { stood := { row := sigAllRow, standIns := [], harness := (true, "0bc87f9d141ce9a682eec1f7e9a0133f5f8204ba483ca73c0c00c5bb95868110"), looks := true }, kinds := [], alts := [], laidByText := true, laidKinds := [.sentinel, .sentinel, .sentinel, .sentinel, .sentinel, .sentinel, .sentinel, .sentinel, .sentinel, .sentinel, .sentinel, .sentinel, .sentinel, .sentinel, .sentinel, .sentinel], laidTests := true, laidLooks := .later }
def SigAllCardSaid : Prop := Claim7.holds Tryd.pinned (.plain (OpenSpec.ofChange sigAllSpec)) sigAllCard

/-- THE SECOND FORM's CARD OF 'tableaulaw10.MemoryWords'. -/
def memoryWordsUptoCard : Claim7 := { stood := { row := memoryWordsUptoRow, standIns := [], harness := (true, "0bc87f9d141ce9a682eec1f7e9a0133f5f8204ba483ca73c0c00c5bb95868110"), looks := true }, kinds := [], alts := [], laidByText := true, laidKinds := [.sentinel, .sentinel, .sentinel], laidTests := true, laidLooks := .later }
def MemoryWordsUptoCardSaid : Prop := Claim7.holds Tryd.pinned (.plain (OpenSpec.upto memoryWordsSpec)) memoryWordsUptoCard

/-- THE SECOND FORM's CARD OF 'tableaulaw10.MemoryApart'. -/
def memoryApartUptoCard : Claim7 := { stood := { row := memoryApartUptoRow, standIns := [], harness := (true, "0bc87f9d141ce9a682eec1f7e9a0133f5f8204ba483ca73c0c00c5bb95868110"), looks := true }, kinds := [], alts := [], laidByText := true, laidKinds := [.sentinel, .sentinel, .sentinel], laidTests := true, laidLooks := .later }
def MemoryApartUptoCardSaid : Prop := Claim7.holds Tryd.pinned (.plain (OpenSpec.upto memoryApartSpec)) memoryApartUptoCard

/-- THE SECOND FORM's CARD OF 'tableaulaw10.MemoryPlays'. -/
def memoryPlaysUptoCard : Claim7 := { stood := { row := memoryPlaysUptoRow, standIns := [], harness := (true, "0bc87f9d141ce9a682eec1f7e9a0133f5f8204ba483ca73c0c00c5bb95868110"), looks := true }, kinds := [], alts := [], laidByText := true, laidKinds := [.sentinel, .sentinel, .sentinel, .sentinel, .sentinel, .sentinel, .sentinel, .sentinel, .sentinel, .sentinel, .sentinel, .sentinel, .sentinel, .sentinel, .sentinel, .sentinel], laidTests := true, laidLooks := .later }
def MemoryPlaysUptoCardSaid : Prop := Claim7.holds Tryd.pinned (.plain (OpenSpec.upto memoryPlaysSpec)) memoryPlaysUptoCard

/-- THE SECOND FORM's CARD OF 'tableaulaw10.MemoryKeeps'. -/
def memoryKeepsUptoCard : Claim7 := { stood := { row := memoryKeepsUptoRow, standIns := [], harness := (true, "0bc87f9d141ce9a682eec1f7e9a0133f5f8204ba483ca73c0c00c5bb95868110"), looks := true }, kinds := [], alts := [], laidByText := true, laidKinds := [.sentinel, .sentinel, .sentinel, .sentinel, .sentinel, .sentinel, .sentinel, .sentinel, .sentinel, .sentinel, .sentinel, .sentinel, .sentinel, .sentinel, .sentinel, .sentinel], laidTests := true, laidLooks := .later }
def MemoryKeepsUptoCardSaid : Prop := Claim7.holds Tryd.pinned (.plain (OpenSpec.upto memoryKeepsSpec)) memoryKeepsUptoCard

/-- THE SECOND FORM's CARD OF 'tableaulaw25.QueueOrder'. -/
def queueOrderUptoCard : Claim7 := { stood := { row := queueOrderUptoRow, standIns := [], harness := (true, "0bc87f9d141ce9a682eec1f7e9a0133f5f8204ba483ca73c0c00c5bb95868110"), looks := true }, kinds := [], alts := [], laidByText := true, laidKinds := [.sentinel, .sentinel, .sentinel, .sentinel, .sentinel, .sentinel, .sentinel, .sentinel, .sentinel, .sentinel, .sentinel, .sentinel, .sentinel, .sentinel, .sentinel, .sentinel], laidTests := true, laidLooks := .later }
def QueueOrderUptoCardSaid : Prop := Claim7.holds Tryd.pinned (.plain (OpenSpec.upto queueOrderSpec)) queueOrderUptoCard

/-- THE SECOND FORM's CARD OF 'tableaulaw25.QueueRooms'. -/
def queueRoomsUptoCard : Claim7 := { stood := { row := queueRoomsUptoRow, standIns := [], harness := (true, "0bc87f9d141ce9a682eec1f7e9a0133f5f8204ba483ca73c0c00c5bb95868110"), looks := true }, kinds := [], alts := [], laidByText := true, laidKinds := [.sentinel, .sentinel, .sentinel, .sentinel, .sentinel, .sentinel, .sentinel, .sentinel, .sentinel, .sentinel, .sentinel, .sentinel, .sentinel, .sentinel, .sentinel, .sentinel], laidTests := true, laidLooks := .later }
def QueueRoomsUptoCardSaid : Prop := Claim7.holds Tryd.pinned (.plain (OpenSpec.upto queueRoomsSpec)) queueRoomsUptoCard

/-- THE SECOND FORM's CARD OF 'tableaulaw25.QueuePlays'. -/
def queuePlaysUptoCard : Claim7 := { stood := { row := queuePlaysUptoRow, standIns := [], harness := (true, "0bc87f9d141ce9a682eec1f7e9a0133f5f8204ba483ca73c0c00c5bb95868110"), looks := true }, kinds := [], alts := [], laidByText := true, laidKinds := [.sentinel, .sentinel, .sentinel, .sentinel, .sentinel, .sentinel, .sentinel, .sentinel, .sentinel, .sentinel, .sentinel, .sentinel, .sentinel, .sentinel, .sentinel, .sentinel], laidTests := true, laidLooks := .later }
def QueuePlaysUptoCardSaid : Prop := Claim7.holds Tryd.pinned (.plain (OpenSpec.upto queuePlaysSpec)) queuePlaysUptoCard

/-- THE SECOND FORM's CARD OF 'tableaulaw03.SigLetters'. -/
def sigLettersUptoCard : Claim7 := { stood := { row := sigLettersUptoRow, standIns := [], harness := (true, "0bc87f9d141ce9a682eec1f7e9a0133f5f8204ba483ca73c0c00c5bb95868110"), looks := true }, kinds := [], alts := [], laidByText := true, laidKinds := [.sentinel], laidTests := true, laidLooks := .later }
def SigLettersUptoCardSaid : Prop := Claim7.holds Tryd.pinned (.plain (OpenSpec.upto sigLettersSpec)) sigLettersUptoCard

/-- THE SECOND FORM's CARD OF 'tableaulaw03.SigTable'. -/
def sigTableUptoCard : Claim7 := { stood := { row := sigTableUptoRow, standIns := [], harness := (true, "0bc87f9d141ce9a682eec1f7e9a0133f5f8204ba483ca73c0c00c5bb95868110"), looks := true }, kinds := [], alts := [], laidByText := true, laidKinds := [.sentinel], laidTests := true, laidLooks := .later }
def SigTableUptoCardSaid : Prop := Claim7.holds Tryd.pinned (.plain (OpenSpec.upto sigTableSpec)) sigTableUptoCard

/-- THE SECOND FORM's CARD OF 'tableaulaw03.SigNames'. -/
def sigNamesUptoCard : Claim7 := { stood := { row := sigNamesUptoRow, standIns := [], harness := (true, "0bc87f9d141ce9a682eec1f7e9a0133f5f8204ba483ca73c0c00c5bb95868110"), looks := true }, kinds := [], alts := [], laidByText := true, laidKinds := [.sentinel], laidTests := true, laidLooks := .later }
def SigNamesUptoCardSaid : Prop := Claim7.holds Tryd.pinned (.plain (OpenSpec.upto sigNamesSpec)) sigNamesUptoCard

/-- THE SECOND FORM's CARD OF 'tableaulaw03.SigAll'. -/
def sigAllUptoCard : Claim7 := { stood := { row := sigAllUptoRow, standIns := [], harness := (true, "0bc87f9d141ce9a682eec1f7e9a0133f5f8204ba483ca73c0c00c5bb95868110"), looks := true }, kinds := [], alts := [], laidByText := true, laidKinds := [.sentinel, .sentinel, .sentinel, .sentinel, .sentinel, .sentinel, .sentinel, .sentinel, .sentinel, .sentinel, .sentinel, .sentinel, .sentinel, .sentinel, .sentinel, .sentinel], laidTests := true, laidLooks := .later }
def SigAllUptoCardSaid : Prop := Claim7.holds Tryd.pinned (.plain (OpenSpec.upto sigAllSpec)) sigAllUptoCard
end Rows
end Go.Proofs.YtagjmkgbfbaekaaDoor
