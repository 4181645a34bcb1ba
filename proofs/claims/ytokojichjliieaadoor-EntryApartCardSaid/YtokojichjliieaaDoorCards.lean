/-
  DERIVED. GIVEN WITH THE SEED: THE CARDS: each row of YtokojichjliieaaDoorRows.lean that lists a variable, with what it lists TIED to the program's text (the seventh form; the later family's looks); each row that meets fmt, with fmt's text TOLD by the authors' own Lean function (tested against real Go, not proved from fmt's source: count such statements apart). THE CARD IS WHAT COUNTS. Prove the row's statement (the work); the ties are given (YtokojichjliieaaDoorTie.lean); close each card by the builder's one call (the guide's Derived/Test/ToyasCard.lean, 'card_holds'). Laid BY PROGRAM, IN A SANDBOX (cutbox-door.mjs). By AI agents, Wed Nov 11 2026. No macro, syntax, notation, axiom, sorry.
-/
import Derived.Test.YtokojichjliieaaDoorRows
import GoSem.ClaimSeven
namespace Go.Proofs.YtokojichjliieaaDoor
namespace Rows

/-- THE TIED CARD OF 'samovarlaw09.ArchiveReads'. -/
def archiveReadsCard : Claim7 := { stood := { row := archiveReadsRow, standIns := [], harness := (true, "0740ae366016843651ce25e8bb12b1b462162052ea9e401e13c265c0c48c53f4"), looks := false }, kinds := [], alts := [], laidByText := true, laidKinds := [.data, .pinned], laidTests := true, laidLooks := .later }
def ArchiveReadsCardSaid : Prop := Claim7.holds Tryd.pinned (.plain (OpenSpec.ofChange archiveReadsSpec)) archiveReadsCard

/-- THE TIED CARD OF 'samovarlaw09.ArchiveNames'. -/
def archiveNamesCard : Claim7 := { stood := { row := archiveNamesRow, standIns := [], harness := (true, "0740ae366016843651ce25e8bb12b1b462162052ea9e401e13c265c0c48c53f4"), looks := false }, kinds := [], alts := [], laidByText := true, laidKinds := [.data, .pinned], laidTests := true, laidLooks := .later }
def ArchiveNamesCardSaid : Prop := Claim7.holds Tryd.pinned (.plain (OpenSpec.ofChange archiveNamesSpec)) archiveNamesCard

/-- THE TIED CARD OF 'samovarlaw09.ArchiveApart'. -/
def archiveApartCard : Claim7 := { stood := { row := archiveApartRow, standIns := [], harness := (true, "0740ae366016843651ce25e8bb12b1b462162052ea9e401e13c265c0c48c53f4"), looks := false }, kinds := [], alts := [], laidByText := true, laidKinds := [.data, .pinned], laidTests := true, laidLooks := .later }
def ArchiveApartCardSaid : Prop := Claim7.holds Tryd.pinned (.plain (OpenSpec.ofChange archiveApartSpec)) archiveApartCard

/-- THE TIED CARD OF 'samovarlaw09.ArchiveTurned'. -/
def archiveTurnedCard : Claim7 := { stood := { row := archiveTurnedRow, standIns := [], harness := (true, "0740ae366016843651ce25e8bb12b1b462162052ea9e401e13c265c0c48c53f4"), looks := false }, kinds := [], alts := [], laidByText := true, laidKinds := [.data, .pinned], laidTests := true, laidLooks := .later }
def ArchiveTurnedCardSaid : Prop := Claim7.holds Tryd.pinned (.plain (OpenSpec.ofChange archiveTurnedSpec)) archiveTurnedCard

/-- THE TIED CARD OF 'samovarlaw10.EntryUnpacks'. -/
def entryUnpacksCard : Claim7 := { stood := { row := entryUnpacksRow, standIns := [], harness := (true, "0740ae366016843651ce25e8bb12b1b462162052ea9e401e13c265c0c48c53f4"), looks := false }, kinds := [], alts := [], laidByText := true, laidKinds := [.data, .pinned], laidTests := true, laidLooks := .later }
def EntryUnpacksCardSaid : Prop := Claim7.holds Tryd.pinned (.plain (OpenSpec.ofChange entryUnpacksSpec)) entryUnpacksCard

/-- THE TIED CARD OF 'samovarlaw10.EntryFinds'. -/
def entryFindsCard : Claim7 := { stood := { row := entryFindsRow, standIns := [], harness := (true, "0740ae366016843651ce25e8bb12b1b462162052ea9e401e13c265c0c48c53f4"), looks := false }, kinds := [], alts := [], laidByText := true, laidKinds := [.data, .pinned], laidTests := true, laidLooks := .later }
def EntryFindsCardSaid : Prop := Claim7.holds Tryd.pinned (.plain (OpenSpec.ofChange entryFindsSpec)) entryFindsCard

/-- THE TIED CARD OF 'samovarlaw10.EntryHolds'. -/
def entryHoldsCard : Claim7 := { stood := { row := entryHoldsRow, standIns := [], harness := (true, "0740ae366016843651ce25e8bb12b1b462162052ea9e401e13c265c0c48c53f4"), looks := false }, kinds := [], alts := [], laidByText := true, laidKinds := [.data, .pinned], laidTests := true, laidLooks := .later }
def EntryHoldsCardSaid : Prop := Claim7.holds Tryd.pinned (.plain (OpenSpec.ofChange entryHoldsSpec)) entryHoldsCard

/-- THE TIED CARD OF 'samovarlaw10.EntryStored'. -/
def entryStoredCard : Claim7 := { stood := { row := entryStoredRow, standIns := [], harness := (true, "0740ae366016843651ce25e8bb12b1b462162052ea9e401e13c265c0c48c53f4"), looks := false }, kinds := [], alts := [], laidByText := true, laidKinds := [.data, .pinned], laidTests := true, laidLooks := .later }
def EntryStoredCardSaid : Prop := Claim7.holds Tryd.pinned (.plain (OpenSpec.ofChange entryStoredSpec)) entryStoredCard

/-- THE TIED CARD OF 'samovarlaw10.EntryApart'. -/
def entryApartCard : Claim7 := { stood := { row := entryApartRow, standIns := [], harness := (true, "0740ae366016843651ce25e8bb12b1b462162052ea9e401e13c265c0c48c53f4"), looks := false }, kinds := [], alts := [], laidByText := true, laidKinds := [.data, .pinned], laidTests := true, laidLooks := .later }
def EntryApartCardSaid : Prop := Claim7.holds Tryd.pinned (.plain (OpenSpec.ofChange entryApartSpec)) entryApartCard

/-- THE SECOND FORM's CARD OF 'samovarlaw09.ArchiveReads'. -/
def archiveReadsUptoCard : Claim7 := { stood := { row := archiveReadsUptoRow, standIns := [], harness := (true, "0740ae366016843651ce25e8bb12b1b462162052ea9e401e13c265c0c48c53f4"), looks := false }, kinds := [], alts := [], laidByText := true, laidKinds := [.data, .pinned], laidTests := true, laidLooks := .later }
def ArchiveReadsUptoCardSaid : Prop := Claim7.holds Tryd.pinned (.plain (OpenSpec.upto archiveReadsSpec)) archiveReadsUptoCard

/-- THE SECOND FORM's CARD OF 'samovarlaw09.ArchiveNames'. -/
def archiveNamesUptoCard : Claim7 := { stood := { row := archiveNamesUptoRow, standIns := [], harness := (true, "0740ae366016843651ce25e8bb12b1b462162052ea9e401e13c265c0c48c53f4"), looks := false }, kinds := [], alts := [], laidByText := true, laidKinds := [.data, .pinned], laidTests := true, laidLooks := .later }
def ArchiveNamesUptoCardSaid : Prop := Claim7.holds Tryd.pinned (.plain (OpenSpec.upto archiveNamesSpec)) archiveNamesUptoCard

/-- THE SECOND FORM's CARD OF 'samovarlaw09.ArchiveApart'. -/
def archiveApartUptoCard : Claim7 := { stood := { row := archiveApartUptoRow, standIns := [], harness := (true, "0740ae366016843651ce25e8bb12b1b462162052ea9e401e13c265c0c48c53f4"), looks := false }, kinds := [], alts := [], laidByText := true, laidKinds := [.data, .pinned], laidTests := true, laidLooks := .later }
def ArchiveApartUptoCardSaid : Prop := Claim7.holds Tryd.pinned (.plain (OpenSpec.upto archiveApartSpec)) archiveApartUptoCard

/-- THE SECOND FORM's CARD OF 'samovarlaw09.ArchiveTurned'. -/
def archiveTurnedUptoCard : Claim7 := { stood := { row := archiveTurnedUptoRow, standIns := [], harness := (true, "0740ae366016843651ce25e8bb12b1b462162052ea9e401e13c265c0c48c53f4"), looks := false }, kinds := [], alts := [], laidByText := true, laidKinds := [.data, .pinned], laidTests := true, laidLooks := .later }
def ArchiveTurnedUptoCardSaid : Prop := Claim7.holds Tryd.pinned (.plain (OpenSpec.upto archiveTurnedSpec)) archiveTurnedUptoCard

/-- THE SECOND FORM's CARD OF 'samovarlaw10.EntryUnpacks'. -/
def entryUnpacksUptoCard : Claim7 := { stood := { row := entryUnpacksUptoRow, standIns := [], harness := (true, "0740ae366016843651ce25e8bb12b1b462162052ea9e401e13c265c0c48c53f4"), looks := false }, kinds := [], alts := [], laidByText := true, laidKinds := [.data, .pinned], laidTests := true, laidLooks := .later }
def EntryUnpacksUptoCardSaid : Prop := Claim7.holds Tryd.pinned (.plain (OpenSpec.upto entryUnpacksSpec)) entryUnpacksUptoCard

/-- THE SECOND FORM's CARD OF 'samovarlaw10.EntryFinds'. -/
def entryFindsUptoCard : Claim7 := { stood := { row := entryFindsUptoRow, standIns := [], harness := (true, "0740ae366016843651ce25e8bb12b1b462162052ea9e401e13c265c0c48c53f4"), looks := false }, kinds := [], alts := [], laidByText := true, laidKinds := [.data, .pinned], laidTests := true, laidLooks := .later }
def EntryFindsUptoCardSaid : Prop := Claim7.holds Tryd.pinned (.plain (OpenSpec.upto entryFindsSpec)) entryFindsUptoCard

/-- THE SECOND FORM's CARD OF 'samovarlaw10.EntryHolds'. -/
def entryHoldsUptoCard : Claim7 := { stood := { row := entryHoldsUptoRow, standIns := [], harness := (true, "0740ae366016843651ce25e8bb12b1b462162052ea9e401e13c265c0c48c53f4"), looks := false }, kinds := [], alts := [], laidByText := true, laidKinds := [.data, .pinned], laidTests := true, laidLooks := .later }
def EntryHoldsUptoCardSaid : Prop := Claim7.holds Tryd.pinned (.plain (OpenSpec.upto entryHoldsSpec)) entryHoldsUptoCard

/-- THE SECOND FORM's CARD OF 'samovarlaw10.EntryStored'. -/
def entryStoredUptoCard : Claim7 := { stood := { row := entryStoredUptoRow, standIns := [], harness := (true, "0740ae366016843651ce25e8bb12b1b462162052ea9e401e13c265c0c48c53f4"), looks := false }, kinds := [], alts := [], laidByText := true, laidKinds := [.data, .pinned], laidTests := true, laidLooks := .later }
def EntryStoredUptoCardSaid : Prop := Claim7.holds Tryd.pinned (.plain (OpenSpec.upto entryStoredSpec)) entryStoredUptoCard

/-- THE SECOND FORM's CARD OF 'samovarlaw10.EntryApart'. -/
def entryApartUptoCard : Claim7 := { stood := { row := entryApartUptoRow, standIns := [], harness := (true, "0740ae366016843651ce25e8bb12b1b462162052ea9e401e13c265c0c48c53f4"), looks := false }, kinds := [], alts := [], laidByText := true, laidKinds := [.data, .pinned], laidTests := true, laidLooks := .later }
def EntryApartUptoCardSaid : Prop := Claim7.holds Tryd.pinned (.plain (OpenSpec.upto entryApartSpec)) entryApartUptoCard
end Rows
end Go.Proofs.YtokojichjliieaaDoor
