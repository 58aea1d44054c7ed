/-
  DERIVED. GIVEN WITH THE SEED: THE CARDS: each row of YtfjndjbpgcggkaaDoorRows.lean that lists a variable, with what it lists TIED to the program's text (the seventh form; the later family's looks); each row that meets fmt, with fmt's text TOLD by the authors' own Lean function (tested against real Go, not proved from fmt's source: count such statements apart). THE CARD IS WHAT COUNTS. Prove the row's statement (the work); the ties are given (YtfjndjbpgcggkaaDoorTie.lean); close each card by the builder's one call (the guide's Derived/Test/ToyasCard.lean, 'card_holds'). Laid BY PROGRAM, IN A SANDBOX (cutbox-door.mjs). By AI agents, Wed Nov 11 2026. No macro, syntax, notation, axiom, sorry.
-/
import Derived.Test.YtfjndjbpgcggkaaDoorRows
import GoSem.ClaimSeven
namespace Go.Proofs.YtfjndjbpgcggkaaDoor
namespace Rows

/-- THE TIED CARD OF 'cooperagelaw6.DiskRoom'. -/
def diskRoomCard : Claim7 := { stood := { row := diskRoomRow, standIns := [], harness := (true, "ae8090c7dc77da958685f5d29da60590ff4b2ea3688660439c83851eee4e48ba"), looks := true }, kinds := [], alts := [], laidByText := true, laidKinds := [.data, .pinned], laidTests := true, laidLooks := .later }
def DiskRoomCardSaid : Prop := Claim7.holds Tryd.pinned (.plain (OpenSpec.ofChange diskRoomSpec)) diskRoomCard

/-- THE TIED CARD OF 'cooperagelaw6.DiskSynced'. -/
def diskSyncedCard : Claim7 := { stood := { row := diskSyncedRow, standIns := [], harness := (true, "ae8090c7dc77da958685f5d29da60590ff4b2ea3688660439c83851eee4e48ba"), looks := true }, kinds := [], alts := [], laidByText := true, laidKinds := [.data, .pinned], laidTests := true, laidLooks := .later }
def DiskSyncedCardSaid : Prop := Claim7.holds Tryd.pinned (.plain (OpenSpec.ofChange diskSyncedSpec)) diskSyncedCard

/-- THE TIED CARD OF 'cooperagelaw6.DiskCuts'. -/
def diskCutsCard : Claim7 := { stood := { row := diskCutsRow, standIns := [], harness := (true, "ae8090c7dc77da958685f5d29da60590ff4b2ea3688660439c83851eee4e48ba"), looks := true }, kinds := [], alts := [], laidByText := true, laidKinds := [.data, .pinned], laidTests := true, laidLooks := .later }
def DiskCutsCardSaid : Prop := Claim7.holds Tryd.pinned (.plain (OpenSpec.ofChange diskCutsSpec)) diskCutsCard

/-- THE TIED CARD OF 'cooperagelaw6.DiskRenames'. -/
def diskRenamesCard : Claim7 := { stood := { row := diskRenamesRow, standIns := [], harness := (true, "ae8090c7dc77da958685f5d29da60590ff4b2ea3688660439c83851eee4e48ba"), looks := true }, kinds := [], alts := [], laidByText := true, laidKinds := [.data, .pinned], laidTests := true, laidLooks := .later }
def DiskRenamesCardSaid : Prop := Claim7.holds Tryd.pinned (.plain (OpenSpec.ofChange diskRenamesSpec)) diskRenamesCard

/-- THE TIED CARD OF 'cooperagelaw20.JournalFull'. -/
def journalFullCard : Claim7 := { stood := { row := journalFullRow, standIns := [], harness := (true, "ae8090c7dc77da958685f5d29da60590ff4b2ea3688660439c83851eee4e48ba"), looks := true }, kinds := [], alts := [], laidByText := true, laidKinds := [.data, .pinned], laidTests := true, laidLooks := .later }
def JournalFullCardSaid : Prop := Claim7.holds Tryd.pinned (.plain (OpenSpec.ofChange journalFullSpec)) journalFullCard

/-- THE TIED CARD OF 'cooperagelaw6.DiskErrors'. -/
def diskErrorsCard : Claim7 := { stood := { row := diskErrorsRow, standIns := [], harness := (true, "ae8090c7dc77da958685f5d29da60590ff4b2ea3688660439c83851eee4e48ba"), looks := true }, kinds := [], alts := [], laidByText := true, laidKinds := [.data, .pinned], laidTests := true, laidLooks := .later }
def DiskErrorsCardSaid : Prop := Claim7.holds Tryd.pinned (.plain (OpenSpec.ofChange diskErrorsSpec)) diskErrorsCard

/-- THE TIED CARD OF 'cooperagelaw6.DiskPlays'. -/
def diskPlaysCard : Claim7 := { stood := { row := diskPlaysRow, standIns := [], harness := (true, "ae8090c7dc77da958685f5d29da60590ff4b2ea3688660439c83851eee4e48ba"), looks := true }, kinds := [], alts := [], laidByText := true, laidKinds := [.data, .pinned], laidTests := true, laidLooks := .later }
def DiskPlaysCardSaid : Prop := Claim7.holds Tryd.pinned (.plain (OpenSpec.ofChange diskPlaysSpec)) diskPlaysCard

/-- THE TIED CARD OF 'cooperagelaw22.TierBack'. -/
def tierBackCard : Claim7 := { stood := { row := tierBackRow, standIns := [], harness := (true, "ae8090c7dc77da958685f5d29da60590ff4b2ea3688660439c83851eee4e48ba"), looks := true }, kinds := [], alts := [], laidByText := true, laidKinds := [.data, .data, .data, .data, .pinned], laidTests := true, laidLooks := .later }
def TierBackCardSaid : Prop := Claim7.holds Tryd.pinned (.plain (OpenSpec.ofChange tierBackSpec)) tierBackCard

/-- THE TIED CARD OF 'cooperagelaw22.TierNames'. -/
def tierNamesCard : Claim7 := { stood := { row := tierNamesRow, standIns := [], harness := (true, "ae8090c7dc77da958685f5d29da60590ff4b2ea3688660439c83851eee4e48ba"), looks := true }, kinds := [], alts := [], laidByText := true, laidKinds := [.data, .data, .data, .data, .pinned], laidTests := true, laidLooks := .later }
def TierNamesCardSaid : Prop := Claim7.holds Tryd.pinned (.plain (OpenSpec.ofChange tierNamesSpec)) tierNamesCard

/-- THE SECOND FORM's CARD OF 'cooperagelaw6.DiskRoom'. -/
def diskRoomUptoCard : Claim7 := { stood := { row := diskRoomUptoRow, standIns := [], harness := (true, "ae8090c7dc77da958685f5d29da60590ff4b2ea3688660439c83851eee4e48ba"), looks := true }, kinds := [], alts := [], laidByText := true, laidKinds := [.data, .pinned], laidTests := true, laidLooks := .later }
def DiskRoomUptoCardSaid : Prop := Claim7.holds Tryd.pinned (.plain (OpenSpec.upto diskRoomSpec)) diskRoomUptoCard

/-- THE SECOND FORM's CARD OF 'cooperagelaw6.DiskSynced'. -/
def diskSyncedUptoCard : Claim7 := { stood := { row := diskSyncedUptoRow, standIns := [], harness := (true, "ae8090c7dc77da958685f5d29da60590ff4b2ea3688660439c83851eee4e48ba"), looks := true }, kinds := [], alts := [], laidByText := true, laidKinds := [.data, .pinned], laidTests := true, laidLooks := .later }
def DiskSyncedUptoCardSaid : Prop := Claim7.holds Tryd.pinned (.plain (OpenSpec.upto diskSyncedSpec)) diskSyncedUptoCard

/-- THE SECOND FORM's CARD OF 'cooperagelaw6.DiskCuts'. -/
def diskCutsUptoCard : Claim7 := { stood := { row := diskCutsUptoRow, standIns := [], harness := (true, "ae8090c7dc77da958685f5d29da60590ff4b2ea3688660439c83851eee4e48ba"), looks := true }, kinds := [], alts := [], laidByText := true, laidKinds := [.data, .pinned], laidTests := true, laidLooks := .later }
def DiskCutsUptoCardSaid : Prop := Claim7.holds Tryd.pinned (.plain (OpenSpec.upto diskCutsSpec)) diskCutsUptoCard

/-- THE SECOND FORM's CARD OF 'cooperagelaw6.DiskRenames'. -/
def diskRenamesUptoCard : Claim7 := { stood := { row := diskRenamesUptoRow, standIns := [], harness := (true, "ae8090c7dc77da958685f5d29da60590ff4b2ea3688660439c83851eee4e48ba"), looks := true }, kinds := [], alts := [], laidByText := true, laidKinds := [.data, .pinned], laidTests := true, laidLooks := .later }
def DiskRenamesUptoCardSaid : Prop := Claim7.holds Tryd.pinned (.plain (OpenSpec.upto diskRenamesSpec)) diskRenamesUptoCard

/-- THE SECOND FORM's CARD OF 'cooperagelaw20.JournalFull'. -/
def journalFullUptoCard : Claim7 := { stood := { row := journalFullUptoRow, standIns := [], harness := (true, "ae8090c7dc77da958685f5d29da60590ff4b2ea3688660439c83851eee4e48ba"), looks := true }, kinds := [], alts := [], laidByText := true, laidKinds := [.data, .pinned], laidTests := true, laidLooks := .later }
def JournalFullUptoCardSaid : Prop := Claim7.holds Tryd.pinned (.plain (OpenSpec.upto journalFullSpec)) journalFullUptoCard

/-- THE SECOND FORM's CARD OF 'cooperagelaw6.DiskErrors'. -/
def diskErrorsUptoCard : Claim7 := { stood := { row := diskErrorsUptoRow, standIns := [], harness := (true, "ae8090c7dc77da958685f5d29da60590ff4b2ea3688660439c83851eee4e48ba"), looks := true }, kinds := [], alts := [], laidByText := true, laidKinds := [.data, .pinned], laidTests := true, laidLooks := .later }
def DiskErrorsUptoCardSaid : Prop := Claim7.holds Tryd.pinned (.plain (OpenSpec.upto diskErrorsSpec)) diskErrorsUptoCard

/-- THE SECOND FORM's CARD OF 'cooperagelaw6.DiskPlays'. -/
def diskPlaysUptoCard : Claim7 := { stood := { row := diskPlaysUptoRow, standIns := [], harness := (true, "ae8090c7dc77da958685f5d29da60590ff4b2ea3688660439c83851eee4e48ba"), looks := true }, kinds := [], alts := [], laidByText := true, laidKinds := [.data, .pinned], laidTests := true, laidLooks := .later }
def DiskPlaysUptoCardSaid : Prop := Claim7.holds Tryd.pinned (.plain (OpenSpec.upto diskPlaysSpec)) diskPlaysUptoCard

/-- THE SECOND FORM's CARD OF 'cooperagelaw22.TierBack'. -/
def tierBackUptoCard : Claim7 := { stood := { row := tierBackUptoRow, standIns := [], harness := (true, "ae8090c7dc77da958685f5d29da60590ff4b2ea3688660439c83851eee4e48ba"), looks := true }, kinds := [], alts := [], laidByText := true, laidKinds := [.data, .data, .data, .data, .pinned], laidTests := true, laidLooks := .later }
def TierBackUptoCardSaid : Prop := Claim7.holds Tryd.pinned (.plain (OpenSpec.upto tierBackSpec)) tierBackUptoCard

/-- THE SECOND FORM's CARD OF 'cooperagelaw22.TierNames'. -/
def tierNamesUptoCard : Claim7 := { stood := { row := tierNamesUptoRow, standIns := [], harness := (true, "ae8090c7dc77da958685f5d29da60590ff4b2ea3688660439c83851eee4e48ba"), looks := true }, kinds := [], alts := [], laidByText := true, laidKinds := [.data, .data, .data, .data, .pinned], laidTests := true, laidLooks := .later }
def TierNamesUptoCardSaid : Prop := Claim7.holds Tryd.pinned (.plain (OpenSpec.upto tierNamesSpec)) tierNamesUptoCard
end Rows
end Go.Proofs.YtfjndjbpgcggkaaDoor
