/-
  DERIVED. GIVEN WITH THE SEED: THE CARDS: each row of YtnkdpchnighkfaaDoorRows.lean that lists a variable, with what it lists TIED to the program's text (the seventh form; the later family's looks); each row that meets fmt, with fmt's text TOLD by the authors' own Lean function (tested against real Go, not proved from fmt's source: count such statements apart). THE CARD IS WHAT COUNTS. Prove the row's statement (the work); the ties are given (YtnkdpchnighkfaaDoorTie.lean); close each card by the builder's one call (the guide's Derived/Test/ToyasCard.lean, 'card_holds'). Laid BY PROGRAM, IN A SANDBOX (cutbox-door.mjs). By AI agents, Wed Nov 11 2026. No macro, syntax, notation, axiom, sorry.
-/
import Derived.Test.YtnkdpchnighkfaaDoorRows
import GoSem.ClaimSeven
namespace Go.Proofs.YtnkdpchnighkfaaDoor
namespace Rows

/-- THE TIED CARD OF 'samovartop.TopPacked'. -/
def topPackedCard : Claim7 := { stood := { row := topPackedRow, standIns := [], harness := (true, "cbe6af18179aa9fa535ae4260eeb9a00650a5c3b5486d11ee047b6361188150b"), looks := false }, kinds := [], alts := [], laidByText := true, laidKinds := [.data, .pinned], laidTests := true, laidLooks := .later }
def TopPackedCardSaid : Prop := Claim7.holds Tryd.pinned (.plain (OpenSpec.ofChange topPackedSpec)) topPackedCard

/-- THE TIED CARD OF 'samovartop.TopBombs'. -/
def topBombsCard : Claim7 := { stood := { row := topBombsRow, standIns := [], harness := (true, "cbe6af18179aa9fa535ae4260eeb9a00650a5c3b5486d11ee047b6361188150b"), looks := false }, kinds := [], alts := [], laidByText := true, laidKinds := [.data, .pinned], laidTests := true, laidLooks := .later }
def TopBombsCardSaid : Prop := Claim7.holds Tryd.pinned (.plain (OpenSpec.ofChange topBombsSpec)) topBombsCard

/-- THE TIED CARD OF 'samovarlaw11.BundleMakes'. -/
def bundleMakesCard : Claim7 := { stood := { row := bundleMakesRow, standIns := [], harness := (true, "cbe6af18179aa9fa535ae4260eeb9a00650a5c3b5486d11ee047b6361188150b"), looks := false }, kinds := [], alts := [], laidByText := true, laidKinds := [.data, .pinned], laidTests := true, laidLooks := .later }
def BundleMakesCardSaid : Prop := Claim7.holds Tryd.pinned (.plain (OpenSpec.ofChange bundleMakesSpec)) bundleMakesCard

/-- THE TIED CARD OF 'samovarlaw11.BundleSqueezes'. -/
def bundleSqueezesCard : Claim7 := { stood := { row := bundleSqueezesRow, standIns := [], harness := (true, "cbe6af18179aa9fa535ae4260eeb9a00650a5c3b5486d11ee047b6361188150b"), looks := false }, kinds := [], alts := [], laidByText := true, laidKinds := [.data, .pinned], laidTests := true, laidLooks := .later }
def BundleSqueezesCardSaid : Prop := Claim7.holds Tryd.pinned (.plain (OpenSpec.ofChange bundleSqueezesSpec)) bundleSqueezesCard

/-- THE SECOND FORM's CARD OF 'samovartop.TopPacked'. -/
def topPackedUptoCard : Claim7 := { stood := { row := topPackedUptoRow, standIns := [], harness := (true, "cbe6af18179aa9fa535ae4260eeb9a00650a5c3b5486d11ee047b6361188150b"), looks := false }, kinds := [], alts := [], laidByText := true, laidKinds := [.data, .pinned], laidTests := true, laidLooks := .later }
def TopPackedUptoCardSaid : Prop := Claim7.holds Tryd.pinned (.plain (OpenSpec.upto topPackedSpec)) topPackedUptoCard

/-- THE SECOND FORM's CARD OF 'samovartop.TopBombs'. -/
def topBombsUptoCard : Claim7 := { stood := { row := topBombsUptoRow, standIns := [], harness := (true, "cbe6af18179aa9fa535ae4260eeb9a00650a5c3b5486d11ee047b6361188150b"), looks := false }, kinds := [], alts := [], laidByText := true, laidKinds := [.data, .pinned], laidTests := true, laidLooks := .later }
def TopBombsUptoCardSaid : Prop := Claim7.holds Tryd.pinned (.plain (OpenSpec.upto topBombsSpec)) topBombsUptoCard

/-- THE SECOND FORM's CARD OF 'samovarlaw11.BundleMakes'. -/
def bundleMakesUptoCard : Claim7 := { stood := { row := bundleMakesUptoRow, standIns := [], harness := (true, "cbe6af18179aa9fa535ae4260eeb9a00650a5c3b5486d11ee047b6361188150b"), looks := false }, kinds := [], alts := [], laidByText := true, laidKinds := [.data, .pinned], laidTests := true, laidLooks := .later }
def BundleMakesUptoCardSaid : Prop := Claim7.holds Tryd.pinned (.plain (OpenSpec.upto bundleMakesSpec)) bundleMakesUptoCard

/-- THE SECOND FORM's CARD OF 'samovarlaw11.BundleSqueezes'. -/
def bundleSqueezesUptoCard : Claim7 := { stood := { row := bundleSqueezesUptoRow, standIns := [], harness := (true, "cbe6af18179aa9fa535ae4260eeb9a00650a5c3b5486d11ee047b6361188150b"), looks := false }, kinds := [], alts := [], laidByText := true, laidKinds := [.data, .pinned], laidTests := true, laidLooks := .later }
def BundleSqueezesUptoCardSaid : Prop := Claim7.holds Tryd.pinned (.plain (OpenSpec.upto bundleSqueezesSpec)) bundleSqueezesUptoCard
end Rows
end Go.Proofs.YtnkdpchnighkfaaDoor
