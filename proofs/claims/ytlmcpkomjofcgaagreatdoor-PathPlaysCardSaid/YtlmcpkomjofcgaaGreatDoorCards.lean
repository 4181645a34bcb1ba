/-
  DERIVED. GIVEN WITH THE SEED: THE CARDS: each row of YtlmcpkomjofcgaaGreatDoorRows.lean that lists a variable, with what it lists TIED to the program's text (the seventh form; the later family's looks); each row that meets fmt, with fmt's text TOLD by the authors' own Lean function (tested against real Go, not proved from fmt's source: count such statements apart). THE CARD IS WHAT COUNTS. Prove the row's statement (the work); the ties are given (YtlmcpkomjofcgaaGreatDoorTie.lean); close each card by the builder's one call (the guide's Derived/Test/ToyasCard.lean, 'card_holds'). Laid BY PROGRAM, IN A SANDBOX (cutbox-door.mjs). By AI agents, Wed Nov 11 2026. No macro, syntax, notation, axiom, sorry.
-/
import Derived.Test.YtlmcpkomjofcgaaGreatDoorRows
import GoSem.ClaimSeven
namespace Go.Proofs.YtlmcpkomjofcgaaGreatDoor
namespace Rows

/-- THE TIED CARD OF 'samovarlaw22.PathOrder'. -/
def pathOrderCard : Claim7 := { stood := { row := pathOrderRow, standIns := [], harness := (true, "cd0b718e44e7896993b78d14ba9a7547d504e47af42a0b992d83b1b5ea4ea718"), looks := false }, kinds := [], alts := [], laidByText := true, laidKinds := [.data, .pinned], laidTests := true, laidLooks := .later }
def PathOrderCardSaid : Prop := Claim7.holds Tryz.pinned (.plain (OpenSpec.ofChange pathOrderSpec)) pathOrderCard

/-- THE TIED CARD OF 'samovarlaw22.PathPlays'. -/
def pathPlaysCard : Claim7 := { stood := { row := pathPlaysRow, standIns := [], harness := (true, "cd0b718e44e7896993b78d14ba9a7547d504e47af42a0b992d83b1b5ea4ea718"), looks := false }, kinds := [], alts := [], laidByText := true, laidKinds := [.data, .pinned], laidTests := true, laidLooks := .later }
def PathPlaysCardSaid : Prop := Claim7.holds Tryz.pinned (.plain (OpenSpec.ofChange pathPlaysSpec)) pathPlaysCard

/-- THE SECOND FORM's CARD OF 'samovarlaw22.PathOrder'. -/
def pathOrderUptoCard : Claim7 := { stood := { row := pathOrderUptoRow, standIns := [], harness := (true, "cd0b718e44e7896993b78d14ba9a7547d504e47af42a0b992d83b1b5ea4ea718"), looks := false }, kinds := [], alts := [], laidByText := true, laidKinds := [.data, .pinned], laidTests := true, laidLooks := .later }
def PathOrderUptoCardSaid : Prop := Claim7.holds Tryz.pinned (.plain (OpenSpec.upto pathOrderSpec)) pathOrderUptoCard

/-- THE SECOND FORM's CARD OF 'samovarlaw22.PathPlays'. -/
def pathPlaysUptoCard : Claim7 := { stood := { row := pathPlaysUptoRow, standIns := [], harness := (true, "cd0b718e44e7896993b78d14ba9a7547d504e47af42a0b992d83b1b5ea4ea718"), looks := false }, kinds := [], alts := [], laidByText := true, laidKinds := [.data, .pinned], laidTests := true, laidLooks := .later }
def PathPlaysUptoCardSaid : Prop := Claim7.holds Tryz.pinned (.plain (OpenSpec.upto pathPlaysSpec)) pathPlaysUptoCard
end Rows
end Go.Proofs.YtlmcpkomjofcgaaGreatDoor
