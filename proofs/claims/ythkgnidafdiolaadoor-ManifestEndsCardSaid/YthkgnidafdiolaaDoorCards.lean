/-
  DERIVED. GIVEN WITH THE SEED: THE CARDS: each row of YthkgnidafdiolaaDoorRows.lean that lists a variable, with what it lists TIED to the program's text (the seventh form; the later family's looks); each row that meets fmt, with fmt's text TOLD by the authors' own Lean function (tested against real Go, not proved from fmt's source: count such statements apart). THE CARD IS WHAT COUNTS. Prove the row's statement (the work); the ties are given (YthkgnidafdiolaaDoorTie.lean); close each card by the builder's one call (the guide's Derived/Test/ToyasCard.lean, 'card_holds'). Laid BY PROGRAM, IN A SANDBOX (cutbox-door.mjs). By AI agents, Wed Nov 11 2026. No macro, syntax, notation, axiom, sorry.
-/
import Derived.Test.YthkgnidafdiolaaDoorRows
import GoSem.ClaimSeven
namespace Go.Proofs.YthkgnidafdiolaaDoor
namespace Rows

/-- THE TIED CARD OF 'samovarlaw12.ManifestReads'. -/
def manifestReadsCard : Claim7 := { stood := { row := manifestReadsRow, standIns := [], harness := (true, "34ea1beb0de8890d5e07cb437651627e8a41a617aa132a2eb9049339a46f59eb"), looks := false }, kinds := [], alts := [], laidByText := true, laidKinds := [.data, .pinned], laidTests := true, laidLooks := .later }
def ManifestReadsCardSaid : Prop := Claim7.holds Tryd.pinned (.plain (OpenSpec.ofChange manifestReadsSpec)) manifestReadsCard

/-- THE TIED CARD OF 'samovarlaw12.ManifestWrites'. -/
def manifestWritesCard : Claim7 := { stood := { row := manifestWritesRow, standIns := [], harness := (true, "34ea1beb0de8890d5e07cb437651627e8a41a617aa132a2eb9049339a46f59eb"), looks := false }, kinds := [], alts := [], laidByText := true, laidKinds := [.data, .pinned], laidTests := true, laidLooks := .later }
def ManifestWritesCardSaid : Prop := Claim7.holds Tryd.pinned (.plain (OpenSpec.ofChange manifestWritesSpec)) manifestWritesCard

/-- THE TIED CARD OF 'samovarlaw12.ManifestBack'. -/
def manifestBackCard : Claim7 := { stood := { row := manifestBackRow, standIns := [], harness := (true, "34ea1beb0de8890d5e07cb437651627e8a41a617aa132a2eb9049339a46f59eb"), looks := false }, kinds := [], alts := [], laidByText := true, laidKinds := [.data, .pinned], laidTests := true, laidLooks := .later }
def ManifestBackCardSaid : Prop := Claim7.holds Tryd.pinned (.plain (OpenSpec.ofChange manifestBackSpec)) manifestBackCard

/-- THE TIED CARD OF 'samovarlaw12.ManifestEnds'. -/
def manifestEndsCard : Claim7 := { stood := { row := manifestEndsRow, standIns := [], harness := (true, "34ea1beb0de8890d5e07cb437651627e8a41a617aa132a2eb9049339a46f59eb"), looks := false }, kinds := [], alts := [], laidByText := true, laidKinds := [.data, .pinned], laidTests := true, laidLooks := .later }
def ManifestEndsCardSaid : Prop := Claim7.holds Tryd.pinned (.plain (OpenSpec.ofChange manifestEndsSpec)) manifestEndsCard

/-- THE SECOND FORM's CARD OF 'samovarlaw12.ManifestReads'. -/
def manifestReadsUptoCard : Claim7 := { stood := { row := manifestReadsUptoRow, standIns := [], harness := (true, "34ea1beb0de8890d5e07cb437651627e8a41a617aa132a2eb9049339a46f59eb"), looks := false }, kinds := [], alts := [], laidByText := true, laidKinds := [.data, .pinned], laidTests := true, laidLooks := .later }
def ManifestReadsUptoCardSaid : Prop := Claim7.holds Tryd.pinned (.plain (OpenSpec.upto manifestReadsSpec)) manifestReadsUptoCard

/-- THE SECOND FORM's CARD OF 'samovarlaw12.ManifestWrites'. -/
def manifestWritesUptoCard : Claim7 := { stood := { row := manifestWritesUptoRow, standIns := [], harness := (true, "34ea1beb0de8890d5e07cb437651627e8a41a617aa132a2eb9049339a46f59eb"), looks := false }, kinds := [], alts := [], laidByText := true, laidKinds := [.data, .pinned], laidTests := true, laidLooks := .later }
def ManifestWritesUptoCardSaid : Prop := Claim7.holds Tryd.pinned (.plain (OpenSpec.upto manifestWritesSpec)) manifestWritesUptoCard

/-- THE SECOND FORM's CARD OF 'samovarlaw12.ManifestBack'. -/
def manifestBackUptoCard : Claim7 := { stood := { row := manifestBackUptoRow, standIns := [], harness := (true, "34ea1beb0de8890d5e07cb437651627e8a41a617aa132a2eb9049339a46f59eb"), looks := false }, kinds := [], alts := [], laidByText := true, laidKinds := [.data, .pinned], laidTests := true, laidLooks := .later }
def ManifestBackUptoCardSaid : Prop := Claim7.holds Tryd.pinned (.plain (OpenSpec.upto manifestBackSpec)) manifestBackUptoCard

/-- THE SECOND FORM's CARD OF 'samovarlaw12.ManifestEnds'. -/
def manifestEndsUptoCard : Claim7 := { stood := { row := manifestEndsUptoRow, standIns := [], harness := (true, "34ea1beb0de8890d5e07cb437651627e8a41a617aa132a2eb9049339a46f59eb"), looks := false }, kinds := [], alts := [], laidByText := true, laidKinds := [.data, .pinned], laidTests := true, laidLooks := .later }
def ManifestEndsUptoCardSaid : Prop := Claim7.holds Tryd.pinned (.plain (OpenSpec.upto manifestEndsSpec)) manifestEndsUptoCard
end Rows
end Go.Proofs.YthkgnidafdiolaaDoor
