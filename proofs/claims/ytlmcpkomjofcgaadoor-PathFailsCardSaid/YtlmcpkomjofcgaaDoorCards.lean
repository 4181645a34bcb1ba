/-
  DERIVED. GIVEN WITH THE SEED: THE CARDS: each row of YtlmcpkomjofcgaaDoorRows.lean that lists a variable, with what it lists TIED to the program's text (the seventh form; the later family's looks); each row that meets fmt, with fmt's text TOLD by the authors' own Lean function (tested against real Go, not proved from fmt's source: count such statements apart). THE CARD IS WHAT COUNTS. Prove the row's statement (the work); the ties are given (YtlmcpkomjofcgaaDoorTie.lean); close each card by the builder's one call (the guide's Derived/Test/ToyasCard.lean, 'card_holds'). Laid BY PROGRAM, IN A SANDBOX (cutbox-door.mjs). By AI agents, Wed Nov 11 2026. No macro, syntax, notation, axiom, sorry.
-/
import Derived.Test.YtlmcpkomjofcgaaDoorRows
import GoSem.ClaimSeven
namespace Go.Proofs.YtlmcpkomjofcgaaDoor
namespace Rows

/-- THE TIED CARD OF 'samovarlaw22.PathFails'. -/
def pathFailsCard : Claim7 := { stood := { row := pathFailsRow, standIns := [], harness := (true, "ca5413d4d61268b2634cfa7b07787e8606c5a20fab0f80c41899a724ade6a92c"), looks := false }, kinds := [], alts := [], laidByText := true, laidKinds := [.data, .pinned], laidTests := true, laidLooks := .later }
def PathFailsCardSaid : Prop := Claim7.holds Tryd.pinned (.plain (OpenSpec.ofChange pathFailsSpec)) pathFailsCard

/-- THE TIED CARD OF 'samovarlaw22.PathNil'. -/
def pathNilCard : Claim7 := { stood := { row := pathNilRow, standIns := [], harness := (true, "ca5413d4d61268b2634cfa7b07787e8606c5a20fab0f80c41899a724ade6a92c"), looks := false }, kinds := [], alts := [], laidByText := true, laidKinds := [.data, .pinned], laidTests := true, laidLooks := .later }
def PathNilCardSaid : Prop := Claim7.holds Tryd.pinned (.plain (OpenSpec.ofChange pathNilSpec)) pathNilCard

/-- THE SECOND FORM's CARD OF 'samovarlaw22.PathFails'. -/
def pathFailsUptoCard : Claim7 := { stood := { row := pathFailsUptoRow, standIns := [], harness := (true, "ca5413d4d61268b2634cfa7b07787e8606c5a20fab0f80c41899a724ade6a92c"), looks := false }, kinds := [], alts := [], laidByText := true, laidKinds := [.data, .pinned], laidTests := true, laidLooks := .later }
def PathFailsUptoCardSaid : Prop := Claim7.holds Tryd.pinned (.plain (OpenSpec.upto pathFailsSpec)) pathFailsUptoCard

/-- THE SECOND FORM's CARD OF 'samovarlaw22.PathNil'. -/
def pathNilUptoCard : Claim7 := { stood := { row := pathNilUptoRow, standIns := [], harness := (true, "ca5413d4d61268b2634cfa7b07787e8606c5a20fab0f80c41899a724ade6a92c"), looks := false }, kinds := [], alts := [], laidByText := true, laidKinds := [.data, .pinned], laidTests := true, laidLooks := .later }
def PathNilUptoCardSaid : Prop := Claim7.holds Tryd.pinned (.plain (OpenSpec.upto pathNilSpec)) pathNilUptoCard
end Rows
end Go.Proofs.YtlmcpkomjofcgaaDoor
