/-
  DERIVED. GIVEN WITH THE SEED: THE CARDS: each row of YtplegaadljbhoaaDoorRows.lean that lists a variable, with what it lists TIED to the program's text (the seventh form; the later family's looks); each row that meets fmt, with fmt's text TOLD by the authors' own Lean function (tested against real Go, not proved from fmt's source: count such statements apart). THE CARD IS WHAT COUNTS. Prove the row's statement (the work); the ties are given (YtplegaadljbhoaaDoorTie.lean); close each card by the builder's one call (the guide's Derived/Test/ToyasCard.lean, 'card_holds'). Laid BY PROGRAM, IN A SANDBOX (cutbox-door.mjs). By AI agents, Wed Nov 11 2026. No macro, syntax, notation, axiom, sorry.
-/
import Derived.Test.YtplegaadljbhoaaDoorRows
import GoSem.ClaimSeven
namespace Go.Proofs.YtplegaadljbhoaaDoor
namespace Rows

/-- THE TIED CARD OF 'tableaulaw02.FaultFirst'. -/
def faultFirstCard : Claim7 := { stood := { row := faultFirstRow, standIns := [], harness := (true, "9b40c12dfa169be06eac7ecac57efd84652612104caa85c99b3b712177ae98bd"), looks := true }, kinds := [], alts := [], laidByText := true, laidKinds := [.handle, .sentinel, .sentinel, .sentinel, .sentinel, .sentinel, .sentinel, .sentinel, .sentinel, .sentinel, .sentinel, .sentinel, .sentinel, .sentinel, .sentinel, .sentinel, .sentinel], laidTests := true, laidLooks := .later }
def FaultFirstCardSaid : Prop := Claim7.holds Tryd.pinned (.plain (OpenSpec.ofChange faultFirstSpec)) faultFirstCard

/-- THE TIED CARD OF 'tableaulaw02.FaultWraps'. -/
def faultWrapsCard : Claim7 := { stood := { row := faultWrapsRow, standIns := [], harness := (true, "9b40c12dfa169be06eac7ecac57efd84652612104caa85c99b3b712177ae98bd"), looks := true }, kinds := [], alts := [], laidByText := true, laidKinds := [.handle, .sentinel, .sentinel, .sentinel, .sentinel, .sentinel, .sentinel, .sentinel, .sentinel, .sentinel, .sentinel, .sentinel, .sentinel, .sentinel, .sentinel, .sentinel, .sentinel], laidTests := true, laidLooks := .later }
def FaultWrapsCardSaid : Prop := Claim7.holds Tryd.pinned (.plain (OpenSpec.ofChange faultWrapsSpec)) faultWrapsCard

/-- THE TIED CARD OF 'tableaulaw02.FaultApart'. -/
def faultApartCard : Claim7 := { stood := { row := faultApartRow, standIns := [], harness := (true, "9b40c12dfa169be06eac7ecac57efd84652612104caa85c99b3b712177ae98bd"), looks := true }, kinds := [], alts := [], laidByText := true, laidKinds := [.handle, .sentinel, .sentinel, .sentinel, .sentinel, .sentinel, .sentinel, .sentinel, .sentinel, .sentinel, .sentinel, .sentinel, .sentinel, .sentinel, .sentinel, .sentinel, .sentinel], laidTests := true, laidLooks := .later }
def FaultApartCardSaid : Prop := Claim7.holds Tryd.pinned (.plain (OpenSpec.ofChange faultApartSpec)) faultApartCard

/-- THE TIED CARD OF 'tableaulaw02.FaultAll'. -/
def faultAllCard : Claim7 := { stood := { row := faultAllRow, standIns := [], harness := (true, "9b40c12dfa169be06eac7ecac57efd84652612104caa85c99b3b712177ae98bd"), looks := true }, kinds := [], alts := [], laidByText := true, laidKinds := [.handle, .sentinel, .sentinel, .sentinel, .sentinel, .sentinel, .sentinel, .sentinel, .sentinel, .sentinel, .sentinel, .sentinel, .sentinel, .sentinel, .sentinel, .sentinel, .sentinel], laidTests := true, laidLooks := .later }
def FaultAllCardSaid : Prop := Claim7.holds Tryd.pinned (.plain (OpenSpec.ofChange faultAllSpec)) faultAllCard

/-- THE TIED CARD OF 'tableaulaw02.FaultCodes'. -/
def faultCodesCard : Claim7 := { stood := { row := faultCodesRow, standIns := [], harness := (true, "9b40c12dfa169be06eac7ecac57efd84652612104caa85c99b3b712177ae98bd"), looks := true }, kinds := [], alts := [], laidByText := true, laidKinds := [.handle, .sentinel, .sentinel, .sentinel, .sentinel, .sentinel, .sentinel, .sentinel, .sentinel, .sentinel, .sentinel, .sentinel, .sentinel, .sentinel, .sentinel, .sentinel, .sentinel], laidTests := true, laidLooks := .later }
def FaultCodesCardSaid : Prop := Claim7.holds Tryd.pinned (.plain (OpenSpec.ofChange faultCodesSpec)) faultCodesCard

/-- THE SECOND FORM's CARD OF 'tableaulaw02.FaultFirst'. -/
def faultFirstUptoCard : Claim7 := { stood := { row := faultFirstUptoRow, standIns := [], harness := (true, "9b40c12dfa169be06eac7ecac57efd84652612104caa85c99b3b712177ae98bd"), looks := true }, kinds := [], alts := [], laidByText := true, laidKinds := [.handle, .sentinel, .sentinel, .sentinel, .sentinel, .sentinel, .sentinel, .sentinel, .sentinel, .sentinel, .sentinel, .sentinel, .sentinel, .sentinel, .sentinel, .sentinel, .sentinel], laidTests := true, laidLooks := .later }
def FaultFirstUptoCardSaid : Prop := Claim7.holds Tryd.pinned (.plain (OpenSpec.upto faultFirstSpec)) faultFirstUptoCard

/-- THE SECOND FORM's CARD OF 'tableaulaw02.FaultWraps'. -/
def faultWrapsUptoCard : Claim7 := { stood := { row := faultWrapsUptoRow, standIns := [], harness := (true, "9b40c12dfa169be06eac7ecac57efd84652612104caa85c99b3b712177ae98bd"), looks := true }, kinds := [], alts := [], laidByText := true, laidKinds := [.handle, .sentinel, .sentinel, .sentinel, .sentinel, .sentinel, .sentinel, .sentinel, .sentinel, .sentinel, .sentinel, .sentinel, .sentinel, .sentinel, .sentinel, .sentinel, .sentinel], laidTests := true, laidLooks := .later }
def FaultWrapsUptoCardSaid : Prop := Claim7.holds Tryd.pinned (.plain (OpenSpec.upto faultWrapsSpec)) faultWrapsUptoCard

/-- THE SECOND FORM's CARD OF 'tableaulaw02.FaultApart'. -/
def faultApartUptoCard : Claim7 := { stood := { row := faultApartUptoRow, standIns := [], harness := (true, "9b40c12dfa169be06eac7ecac57efd84652612104caa85c99b3b712177ae98bd"), looks := true }, kinds := [], alts := [], laidByText := true, laidKinds := [.handle, .sentinel, .sentinel, .sentinel, .sentinel, .sentinel, .sentinel, .sentinel, .sentinel, .sentinel, .sentinel, .sentinel, .sentinel, .sentinel, .sentinel, .sentinel, .sentinel], laidTests := true, laidLooks := .later }
def FaultApartUptoCardSaid : Prop := Claim7.holds Tryd.pinned (.plain (OpenSpec.upto faultApartSpec)) faultApartUptoCard

/-- THE SECOND FORM's CARD OF 'tableaulaw02.FaultAll'. -/
def faultAllUptoCard : Claim7 := { stood := { row := faultAllUptoRow, standIns := [], harness := (true, "9b40c12dfa169be06eac7ecac57efd84652612104caa85c99b3b712177ae98bd"), looks := true }, kinds := [], alts := [], laidByText := true, laidKinds := [.handle, .sentinel, .sentinel, .sentinel, .sentinel, .sentinel, .sentinel, .sentinel, .sentinel, .sentinel, .sentinel, .sentinel, .sentinel, .sentinel, .sentinel, .sentinel, .sentinel], laidTests := true, laidLooks := .later }
def FaultAllUptoCardSaid : Prop := Claim7.holds Tryd.pinned (.plain (OpenSpec.upto faultAllSpec)) faultAllUptoCard

/-- THE SECOND FORM's CARD OF 'tableaulaw02.FaultCodes'. -/
def faultCodesUptoCard : Claim7 := { stood := { row := faultCodesUptoRow, standIns := [], harness := (true, "9b40c12dfa169be06eac7ecac57efd84652612104caa85c99b3b712177ae98bd"), looks := true }, kinds := [], alts := [], laidByText := true, laidKinds := [.handle, .sentinel, .sentinel, .sentinel, .sentinel, .sentinel, .sentinel, .sentinel, .sentinel, .sentinel, .sentinel, .sentinel, .sentinel, .sentinel, .sentinel, .sentinel, .sentinel], laidTests := true, laidLooks := .later }
def FaultCodesUptoCardSaid : Prop := Claim7.holds Tryd.pinned (.plain (OpenSpec.upto faultCodesSpec)) faultCodesUptoCard
end Rows
end Go.Proofs.YtplegaadljbhoaaDoor
