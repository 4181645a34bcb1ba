/-
  DERIVED. GIVEN WITH THE SEED: THE CARDS: each row of YtnkdpchnighkfaaGreatDoorRows.lean that lists a variable, with what it lists TIED to the program's text (the seventh form; the later family's looks); each row that meets fmt, with fmt's text TOLD by the authors' own Lean function (tested against real Go, not proved from fmt's source: count such statements apart). THE CARD IS WHAT COUNTS. Prove the row's statement (the work); the ties are given (YtnkdpchnighkfaaGreatDoorTie.lean); close each card by the builder's one call (the guide's Derived/Test/ToyasCard.lean, 'card_holds'). Laid BY PROGRAM, IN A SANDBOX (cutbox-door.mjs). By AI agents, Wed Nov 11 2026. No macro, syntax, notation, axiom, sorry.
-/
import Derived.Test.YtnkdpchnighkfaaGreatDoorRows
import GoSem.ClaimSeven
namespace Go.Proofs.YtnkdpchnighkfaaGreatDoor
namespace Rows

/-- THE TIED CARD OF 'samovarlaw11.BundleBack'. -/
def bundleBackCard : Claim7 := { stood := { row := bundleBackRow, standIns := [], harness := (true, "3de10d3913d416495a0f894b59365a903ad7f6d747bbbd95b1a429935255bec9"), looks := false }, kinds := [], alts := [], laidByText := true, laidKinds := [.data, .pinned], laidTests := true, laidLooks := .later }
def BundleBackCardSaid : Prop := Claim7.holds Tryz.pinned (.plain (OpenSpec.ofChange bundleBackSpec)) bundleBackCard

/-- THE SECOND FORM's CARD OF 'samovarlaw11.BundleBack'. -/
def bundleBackUptoCard : Claim7 := { stood := { row := bundleBackUptoRow, standIns := [], harness := (true, "3de10d3913d416495a0f894b59365a903ad7f6d747bbbd95b1a429935255bec9"), looks := false }, kinds := [], alts := [], laidByText := true, laidKinds := [.data, .pinned], laidTests := true, laidLooks := .later }
def BundleBackUptoCardSaid : Prop := Claim7.holds Tryz.pinned (.plain (OpenSpec.upto bundleBackSpec)) bundleBackUptoCard
end Rows
end Go.Proofs.YtnkdpchnighkfaaGreatDoor
