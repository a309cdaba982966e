/-
  DERIVED. GIVEN WITH THE SEED: THE CARDS: each row of YtihbgkighckiiaaDoorRows.lean that lists a variable, with what it lists TIED to the program's text (the seventh form; the later family's looks); each row that meets fmt, with fmt's text TOLD by the authors' own Lean function (tested against real Go, not proved from fmt's source: count such statements apart). THE CARD IS WHAT COUNTS. Prove the row's statement (the work); the ties are given (YtihbgkighckiiaaDoorTie.lean); close each card by the builder's one call (the guide's Derived/Test/ToyasCard.lean, 'card_holds'). Laid BY PROGRAM, IN A SANDBOX (cutbox-door.mjs). By AI agents, Wed Nov 11 2026. No macro, syntax, notation, axiom, sorry.
-/
import Derived.Test.YtihbgkighckiiaaDoorRows
import GoSem.ClaimSeven
namespace Go.Proofs.YtihbgkighckiiaaDoor
namespace Rows

/-- THE TIED CARD OF 'tableaulaw04.WireLimits'. -/
def wireLimitsCard : Claim7 := { stood := { row := wireLimitsRow, standIns := [], harness := (true, "a0cacfff764cf53ed524f48ffc6f6138b5b6db2430021805615d49d420c8fb7a"), looks := true }, kinds := [], alts := [], laidByText := true, laidKinds := [.sentinel, .sentinel], laidTests := true, laidLooks := .later }
def WireLimitsCardSaid : Prop := Claim7.holds Tryd.pinned (.plain (OpenSpec.ofChange wireLimitsSpec)) wireLimitsCard

/-- THE TIED CARD OF 'tableaulaw04.WireHeads'. -/
def wireHeadsCard : Claim7 := { stood := { row := wireHeadsRow, standIns := [], harness := (true, "a0cacfff764cf53ed524f48ffc6f6138b5b6db2430021805615d49d420c8fb7a"), looks := true }, kinds := [], alts := [], laidByText := true, laidKinds := [.sentinel, .sentinel, .sentinel, .sentinel, .sentinel, .sentinel, .sentinel, .sentinel, .sentinel, .sentinel, .sentinel, .sentinel, .sentinel, .sentinel, .sentinel, .sentinel], laidTests := true, laidLooks := .later }
def WireHeadsCardSaid : Prop := Claim7.holds Tryd.pinned (.plain (OpenSpec.ofChange wireHeadsSpec)) wireHeadsCard

/-- THE TIED CARD OF 'tableaulaw04.WireSizes'. -/
def wireSizesCard : Claim7 := { stood := { row := wireSizesRow, standIns := [], harness := (true, "a0cacfff764cf53ed524f48ffc6f6138b5b6db2430021805615d49d420c8fb7a"), looks := true }, kinds := [], alts := [], laidByText := true, laidKinds := [.sentinel, .sentinel, .sentinel, .sentinel, .sentinel, .sentinel, .sentinel, .sentinel, .sentinel, .sentinel, .sentinel, .sentinel, .sentinel, .sentinel, .sentinel, .sentinel], laidTests := true, laidLooks := .later }
def WireSizesCardSaid : Prop := Claim7.holds Tryd.pinned (.plain (OpenSpec.ofChange wireSizesSpec)) wireSizesCard

/-- THE TIED CARD OF 'tableaulaw04.WireCuts'. -/
def wireCutsCard : Claim7 := { stood := { row := wireCutsRow, standIns := [], harness := (true, "a0cacfff764cf53ed524f48ffc6f6138b5b6db2430021805615d49d420c8fb7a"), looks := true }, kinds := [], alts := [], laidByText := true, laidKinds := [.sentinel, .sentinel, .sentinel, .sentinel, .sentinel, .sentinel, .sentinel, .sentinel, .sentinel, .sentinel, .sentinel, .sentinel, .sentinel, .sentinel, .sentinel, .sentinel], laidTests := true, laidLooks := .later }
def WireCutsCardSaid : Prop := Claim7.holds Tryd.pinned (.plain (OpenSpec.ofChange wireCutsSpec)) wireCutsCard

/-- THE TIED CARD OF 'tableaulaw04.WireAll'. -/
def wireAllCard : Claim7 := { stood := { row := wireAllRow, standIns := [], harness := (true, "a0cacfff764cf53ed524f48ffc6f6138b5b6db2430021805615d49d420c8fb7a"), looks := true }, kinds := [], alts := [], laidByText := true, laidKinds := [.sentinel, .sentinel, .sentinel, .sentinel, .sentinel, .sentinel, .sentinel, .sentinel, .sentinel, .sentinel, .sentinel, .sentinel, .sentinel, .sentinel, .sentinel, .sentinel], laidTests := true, laidLooks := .later }
def WireAllCardSaid : Prop := Claim7.holds Tryd.pinned (.plain (OpenSpec.ofChange wireAllSpec)) wireAllCard

/-- THE TIED CARD OF 'tableaulaw04.WireBack'. -/
def wireBackCard : Claim7 := { stood := { row := wireBackRow, standIns := [], harness := (true, "a0cacfff764cf53ed524f48ffc6f6138b5b6db2430021805615d49d420c8fb7a"), looks := true }, kinds := [], alts := [], laidByText := true, laidKinds := [.sentinel, .sentinel, .sentinel, .sentinel], laidTests := true, laidLooks := .later }
def WireBackCardSaid : Prop := Claim7.holds Tryd.pinned (.plain (OpenSpec.ofChange wireBackSpec)) wireBackCard

/-- THE TIED CARD OF 'tableaulaw05.ReaderFeeds'. -/
def readerFeedsCard : Claim7 := { stood := { row := readerFeedsRow, standIns := [], harness := (true, "a0cacfff764cf53ed524f48ffc6f6138b5b6db2430021805615d49d420c8fb7a"), looks := true }, kinds := [], alts := [], laidByText := true, laidKinds := [.sentinel, .sentinel, .sentinel, .sentinel, .sentinel, .sentinel, .sentinel, .sentinel, .sentinel, .sentinel, .sentinel, .sentinel, .sentinel, .sentinel, .sentinel, .sentinel], laidTests := true, laidLooks := .later }
def ReaderFeedsCardSaid : Prop := Claim7.holds Tryd.pinned (.plain (OpenSpec.ofChange readerFeedsSpec)) readerFeedsCard

/-- THE TIED CARD OF 'tableaulaw05.ReaderCuts'. -/
def readerCutsCard : Claim7 := { stood := { row := readerCutsRow, standIns := [], harness := (true, "a0cacfff764cf53ed524f48ffc6f6138b5b6db2430021805615d49d420c8fb7a"), looks := true }, kinds := [], alts := [], laidByText := true, laidKinds := [.sentinel, .sentinel, .sentinel, .sentinel, .sentinel, .sentinel, .sentinel, .sentinel, .sentinel, .sentinel, .sentinel, .sentinel, .sentinel, .sentinel, .sentinel, .sentinel], laidTests := true, laidLooks := .later }
def ReaderCutsCardSaid : Prop := Claim7.holds Tryd.pinned (.plain (OpenSpec.ofChange readerCutsSpec)) readerCutsCard

/-- THE TIED CARD OF 'tableaulaw05.ReaderMany'. -/
def readerManyCard : Claim7 := { stood := { row := readerManyRow, standIns := [], harness := (true, "a0cacfff764cf53ed524f48ffc6f6138b5b6db2430021805615d49d420c8fb7a"), looks := true }, kinds := [], alts := [], laidByText := true, laidKinds := [.sentinel, .sentinel, .sentinel, .sentinel, .sentinel, .sentinel, .sentinel, .sentinel, .sentinel, .sentinel, .sentinel, .sentinel, .sentinel, .sentinel, .sentinel, .sentinel], laidTests := true, laidLooks := .later }
def ReaderManyCardSaid : Prop := Claim7.holds Tryd.pinned (.plain (OpenSpec.ofChange readerManySpec)) readerManyCard

/-- THE TIED CARD OF 'tableaulaw05.ReaderStops'. -/
def readerStopsCard : Claim7 := { stood := { row := readerStopsRow, standIns := [], harness := (true, "a0cacfff764cf53ed524f48ffc6f6138b5b6db2430021805615d49d420c8fb7a"), looks := true }, kinds := [], alts := [], laidByText := true, laidKinds := [.sentinel, .sentinel, .sentinel, .sentinel, .sentinel, .sentinel, .sentinel, .sentinel, .sentinel, .sentinel, .sentinel, .sentinel, .sentinel, .sentinel, .sentinel, .sentinel], laidTests := true, laidLooks := .later }
def ReaderStopsCardSaid : Prop := Claim7.holds Tryd.pinned (.plain (OpenSpec.ofChange readerStopsSpec)) readerStopsCard

/-- THE SECOND FORM's CARD OF 'tableaulaw04.WireLimits'. -/
def wireLimitsUptoCard : Claim7 := { stood := { row := wireLimitsUptoRow, standIns := [], harness := (true, "a0cacfff764cf53ed524f48ffc6f6138b5b6db2430021805615d49d420c8fb7a"), looks := true }, kinds := [], alts := [], laidByText := true, laidKinds := [.sentinel, .sentinel], laidTests := true, laidLooks := .later }
def WireLimitsUptoCardSaid : Prop := Claim7.holds Tryd.pinned (.plain (OpenSpec.upto wireLimitsSpec)) wireLimitsUptoCard

/-- THE SECOND FORM's CARD OF 'tableaulaw04.WireHeads'. -/
def wireHeadsUptoCard : Claim7 := { stood := { row := wireHeadsUptoRow, standIns := [], harness := (true, "a0cacfff764cf53ed524f48ffc6f6138b5b6db2430021805615d49d420c8fb7a"), looks := true }, kinds := [], alts := [], laidByText := true, laidKinds := [.sentinel, .sentinel, .sentinel, .sentinel, .sentinel, .sentinel, .sentinel, .sentinel, .sentinel, .sentinel, .sentinel, .sentinel, .sentinel, .sentinel, .sentinel, .sentinel], laidTests := true, laidLooks := .later }
def WireHeadsUptoCardSaid : Prop := Claim7.holds Tryd.pinned (.plain (OpenSpec.upto wireHeadsSpec)) wireHeadsUptoCard

/-- THE SECOND FORM's CARD OF 'tableaulaw04.WireSizes'. -/
def wireSizesUptoCard : Claim7 := { stood := { row := wireSizesUptoRow, standIns := [], harness := (true, "a0cacfff764cf53ed524f48ffc6f6138b5b6db2430021805615d49d420c8fb7a"), looks := true }, kinds := [], alts := [], laidByText := true, laidKinds := [.sentinel, .sentinel, .sentinel, .sentinel, .sentinel, .sentinel, .sentinel, .sentinel, .sentinel, .sentinel, .sentinel, .sentinel, .sentinel, .sentinel, .sentinel, .sentinel], laidTests := true, laidLooks := .later }
def WireSizesUptoCardSaid : Prop := Claim7.holds Tryd.pinned (.plain (OpenSpec.upto wireSizesSpec)) wireSizesUptoCard

/-- THE SECOND FORM's CARD OF 'tableaulaw04.WireCuts'. -/
def wireCutsUptoCard : Claim7 := { stood := { row := wireCutsUptoRow, standIns := [], harness := (true, "a0cacfff764cf53ed524f48ffc6f6138b5b6db2430021805615d49d420c8fb7a"), looks := true }, kinds := [], alts := [], laidByText := true, laidKinds := [.sentinel, .sentinel, .sentinel, .sentinel, .sentinel, .sentinel, .sentinel, .sentinel, .sentinel, .sentinel, .sentinel, .sentinel, .sentinel, .sentinel, .sentinel, .sentinel], laidTests := true, laidLooks := .later }
def WireCutsUptoCardSaid : Prop := Claim7.holds Tryd.pinned (.plain (OpenSpec.upto wireCutsSpec)) wireCutsUptoCard

/-- THE SECOND FORM's CARD OF 'tableaulaw04.WireAll'. -/
def wireAllUptoCard : Claim7 := { stood := { row := wireAllUptoRow, standIns := [], harness := (true, "a0cacfff764cf53ed524f48ffc6f6138b5b6db2430021805615d49d420c8fb7a"), looks := true }, kinds := [], alts := [], laidByText := true, laidKinds := [.sentinel, .sentinel, .sentinel, .sentinel, .sentinel, .sentinel, .sentinel, .sentinel, .sentinel, .sentinel, .sentinel, .sentinel, .sentinel, .sentinel, .sentinel, .sentinel], laidTests := true, laidLooks := .later }
def WireAllUptoCardSaid : Prop := Claim7.holds Tryd.pinned (.plain (OpenSpec.upto wireAllSpec)) wireAllUptoCard

/-- THE SECOND FORM's CARD OF 'tableaulaw04.WireBack'. -/
def wireBackUptoCard : Claim7 := { stood := { row := wireBackUptoRow, standIns := [], harness := (true, "a0cacfff764cf53ed524f48ffc6f6138b5b6db2430021805615d49d420c8fb7a"), looks := true }, kinds := [], alts := [], laidByText := true, laidKinds := [.sentinel, .sentinel, .sentinel, .sentinel], laidTests := true, laidLooks := .later }
def WireBackUptoCardSaid : Prop := Claim7.holds Tryd.pinned (.plain (OpenSpec.upto wireBackSpec)) wireBackUptoCard

/-- THE SECOND FORM's CARD OF 'tableaulaw05.ReaderFeeds'. -/
def readerFeedsUptoCard : Claim7 := { stood := { row := readerFeedsUptoRow, standIns := [], harness := (true, "a0cacfff764cf53ed524f48ffc6f6138b5b6db2430021805615d49d420c8fb7a"), looks := true }, kinds := [], alts := [], laidByText := true, laidKinds := [.sentinel, .sentinel, .sentinel, .sentinel, .sentinel, .sentinel, .sentinel, .sentinel, .sentinel, .sentinel, .sentinel, .sentinel, .sentinel, .sentinel, .sentinel, .sentinel], laidTests := true, laidLooks := .later }
def ReaderFeedsUptoCardSaid : Prop := Claim7.holds Tryd.pinned (.plain (OpenSpec.upto readerFeedsSpec)) readerFeedsUptoCard

/-- THE SECOND FORM's CARD OF 'tableaulaw05.ReaderCuts'. -/
def readerCutsUptoCard : Claim7 := { stood := { row := readerCutsUptoRow, standIns := [], harness := (true, "a0cacfff764cf53ed524f48ffc6f6138b5b6db2430021805615d49d420c8fb7a"), looks := true }, kinds := [], alts := [], laidByText := true, laidKinds := [.sentinel, .sentinel, .sentinel, .sentinel, .sentinel, .sentinel, .sentinel, .sentinel, .sentinel, .sentinel, .sentinel, .sentinel, .sentinel, .sentinel, .sentinel, .sentinel], laidTests := true, laidLooks := .later }
def ReaderCutsUptoCardSaid : Prop := Claim7.holds Tryd.pinned (.plain (OpenSpec.upto readerCutsSpec)) readerCutsUptoCard

/-- THE SECOND FORM's CARD OF 'tableaulaw05.ReaderMany'. -/
def readerManyUptoCard : Claim7 := { stood := { row := readerManyUptoRow, standIns := [], harness := (true, "a0cacfff764cf53ed524f48ffc6f6138b5b6db2430021805615d49d420c8fb7a"), looks := true }, kinds := [], alts := [], laidByText := true, laidKinds := [.sentinel, .sentinel, .sentinel, .sentinel, .sentinel, .sentinel, .sentinel, .sentinel, .sentinel, .sentinel, .sentinel, .sentinel, .sentinel, .sentinel, .sentinel, .sentinel], laidTests := true, laidLooks := .later }
def ReaderManyUptoCardSaid : Prop := Claim7.holds Tryd.pinned (.plain (OpenSpec.upto readerManySpec)) readerManyUptoCard

/-- THE SECOND FORM's CARD OF 'tableaulaw05.ReaderStops'. -/
def readerStopsUptoCard : Claim7 := { stood := { row := readerStopsUptoRow, standIns := [], harness := (true, "a0cacfff764cf53ed524f48ffc6f6138b5b6db2430021805615d49d420c8fb7a"), looks := true }, kinds := [], alts := [], laidByText := true, laidKinds := [.sentinel, .sentinel, .sentinel, .sentinel, .sentinel, .sentinel, .sentinel, .sentinel, .sentinel, .sentinel, .sentinel, .sentinel, .sentinel, .sentinel, .sentinel, .sentinel], laidTests := true, laidLooks := .later }
def ReaderStopsUptoCardSaid : Prop := Claim7.holds Tryd.pinned (.plain (OpenSpec.upto readerStopsSpec)) readerStopsUptoCard
end Rows
end Go.Proofs.YtihbgkighckiiaaDoor
