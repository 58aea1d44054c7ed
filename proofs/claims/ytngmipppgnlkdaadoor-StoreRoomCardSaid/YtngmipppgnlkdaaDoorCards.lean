/-
  DERIVED. GIVEN WITH THE SEED: THE CARDS: each row of YtngmipppgnlkdaaDoorRows.lean that lists a variable, with what it lists TIED to the program's text (the seventh form; the later family's looks); each row that meets fmt, with fmt's text TOLD by the authors' own Lean function (tested against real Go, not proved from fmt's source: count such statements apart). THE CARD IS WHAT COUNTS. Prove the row's statement (the work); the ties are given (YtngmipppgnlkdaaDoorTie.lean); close each card by the builder's one call (the guide's Derived/Test/ToyasCard.lean, 'card_holds'). Laid BY PROGRAM, IN A SANDBOX (cutbox-door.mjs). By AI agents, Wed Nov 11 2026. No macro, syntax, notation, axiom, sorry.
-/
import Derived.Test.YtngmipppgnlkdaaDoorRows
import GoSem.ClaimSeven
namespace Go.Proofs.YtngmipppgnlkdaaDoor
namespace Rows

/-- THE TIED CARD OF 'cooperagelaw7.StoreRoom'. -/
def storeRoomCard : Claim7 := { stood := { row := storeRoomRow, standIns := [], harness := (true, "e5ec73d1fa6a846cfedf95bead6a02f20a6d7da9723606b257e8d268d98ca1f1"), looks := true }, kinds := [], alts := [], laidByText := true, laidKinds := [.data, .pinned], laidTests := true, laidLooks := .later }
def StoreRoomCardSaid : Prop := Claim7.holds Tryd.pinned (.plain (OpenSpec.ofChange storeRoomSpec)) storeRoomCard

/-- THE TIED CARD OF 'cooperagelaw7.StoreFaults'. -/
def storeFaultsCard : Claim7 := { stood := { row := storeFaultsRow, standIns := [], harness := (true, "e5ec73d1fa6a846cfedf95bead6a02f20a6d7da9723606b257e8d268d98ca1f1"), looks := true }, kinds := [], alts := [], laidByText := true, laidKinds := [.data, .pinned], laidTests := true, laidLooks := .later }
def StoreFaultsCardSaid : Prop := Claim7.holds Tryd.pinned (.plain (OpenSpec.ofChange storeFaultsSpec)) storeFaultsCard

/-- THE TIED CARD OF 'cooperagelaw27.GenLots'. -/
def genLotsCard : Claim7 := { stood := { row := genLotsRow, standIns := [], harness := (true, "e5ec73d1fa6a846cfedf95bead6a02f20a6d7da9723606b257e8d268d98ca1f1"), looks := true }, kinds := [], alts := [], laidByText := true, laidKinds := [.data, .data, .data], laidTests := true, laidLooks := .later }
def GenLotsCardSaid : Prop := Claim7.holds Tryd.pinned (.plain (OpenSpec.ofChange genLotsSpec)) genLotsCard

/-- THE TIED CARD OF 'cooperagelaw27.GenEvents'. -/
def genEventsCard : Claim7 := { stood := { row := genEventsRow, standIns := [], harness := (true, "e5ec73d1fa6a846cfedf95bead6a02f20a6d7da9723606b257e8d268d98ca1f1"), looks := true }, kinds := [], alts := [], laidByText := true, laidKinds := [.data, .data, .data], laidTests := true, laidLooks := .later }
def GenEventsCardSaid : Prop := Claim7.holds Tryd.pinned (.plain (OpenSpec.ofChange genEventsSpec)) genEventsCard

/-- THE TIED CARD OF 'cooperagelaw7.StorePlays'. -/
def storePlaysCard : Claim7 := { stood := { row := storePlaysRow, standIns := [], harness := (true, "e5ec73d1fa6a846cfedf95bead6a02f20a6d7da9723606b257e8d268d98ca1f1"), looks := true }, kinds := [], alts := [], laidByText := true, laidKinds := [.data, .pinned], laidTests := true, laidLooks := .later }
def StorePlaysCardSaid : Prop := Claim7.holds Tryd.pinned (.plain (OpenSpec.ofChange storePlaysSpec)) storePlaysCard

/-- THE SECOND FORM's CARD OF 'cooperagelaw7.StoreRoom'. -/
def storeRoomUptoCard : Claim7 := { stood := { row := storeRoomUptoRow, standIns := [], harness := (true, "e5ec73d1fa6a846cfedf95bead6a02f20a6d7da9723606b257e8d268d98ca1f1"), looks := true }, kinds := [], alts := [], laidByText := true, laidKinds := [.data, .pinned], laidTests := true, laidLooks := .later }
def StoreRoomUptoCardSaid : Prop := Claim7.holds Tryd.pinned (.plain (OpenSpec.upto storeRoomSpec)) storeRoomUptoCard

/-- THE SECOND FORM's CARD OF 'cooperagelaw7.StoreFaults'. -/
def storeFaultsUptoCard : Claim7 := { stood := { row := storeFaultsUptoRow, standIns := [], harness := (true, "e5ec73d1fa6a846cfedf95bead6a02f20a6d7da9723606b257e8d268d98ca1f1"), looks := true }, kinds := [], alts := [], laidByText := true, laidKinds := [.data, .pinned], laidTests := true, laidLooks := .later }
def StoreFaultsUptoCardSaid : Prop := Claim7.holds Tryd.pinned (.plain (OpenSpec.upto storeFaultsSpec)) storeFaultsUptoCard

/-- THE SECOND FORM's CARD OF 'cooperagelaw27.GenLots'. -/
def genLotsUptoCard : Claim7 := { stood := { row := genLotsUptoRow, standIns := [], harness := (true, "e5ec73d1fa6a846cfedf95bead6a02f20a6d7da9723606b257e8d268d98ca1f1"), looks := true }, kinds := [], alts := [], laidByText := true, laidKinds := [.data, .data, .data], laidTests := true, laidLooks := .later }
def GenLotsUptoCardSaid : Prop := Claim7.holds Tryd.pinned (.plain (OpenSpec.upto genLotsSpec)) genLotsUptoCard

/-- THE SECOND FORM's CARD OF 'cooperagelaw27.GenEvents'. -/
def genEventsUptoCard : Claim7 := { stood := { row := genEventsUptoRow, standIns := [], harness := (true, "e5ec73d1fa6a846cfedf95bead6a02f20a6d7da9723606b257e8d268d98ca1f1"), looks := true }, kinds := [], alts := [], laidByText := true, laidKinds := [.data, .data, .data], laidTests := true, laidLooks := .later }
def GenEventsUptoCardSaid : Prop := Claim7.holds Tryd.pinned (.plain (OpenSpec.upto genEventsSpec)) genEventsUptoCard

/-- THE SECOND FORM's CARD OF 'cooperagelaw7.StorePlays'. -/
def storePlaysUptoCard : Claim7 := { stood := { row := storePlaysUptoRow, standIns := [], harness := (true, "e5ec73d1fa6a846cfedf95bead6a02f20a6d7da9723606b257e8d268d98ca1f1"), looks := true }, kinds := [], alts := [], laidByText := true, laidKinds := [.data, .pinned], laidTests := true, laidLooks := .later }
def StorePlaysUptoCardSaid : Prop := Claim7.holds Tryd.pinned (.plain (OpenSpec.upto storePlaysSpec)) storePlaysUptoCard
end Rows
end Go.Proofs.YtngmipppgnlkdaaDoor
