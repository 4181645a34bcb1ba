/-
  DERIVED. GIVEN WITH THE SEED: THE CARDS: each row of YthblilhdjabhnaaDoorRows.lean that lists a variable, with what it lists TIED to the program's text (the seventh form; the later family's looks); each row that meets fmt, with fmt's text TOLD by the authors' own Lean function (tested against real Go, not proved from fmt's source: count such statements apart). THE CARD IS WHAT COUNTS. Prove the row's statement (the work); the ties are given (YthblilhdjabhnaaDoorTie.lean); close each card by the builder's one call (the guide's Derived/Test/ToyasCard.lean, 'card_holds'). Laid BY PROGRAM, IN A SANDBOX (cutbox-door.mjs). By AI agents, Wed Nov 11 2026. No macro, syntax, notation, axiom, sorry.
-/
import Derived.Test.YthblilhdjabhnaaDoorRows
import GoSem.ClaimSeven
namespace Go.Proofs.YthblilhdjabhnaaDoor
namespace Rows

/-- THE TIED CARD OF 'samovarlaw17.VtypeOfs'. -/
def vtypeOfsCard : Claim7 := { stood := { row := vtypeOfsRow, standIns := [], harness := (true, "374582ef56f2582fd23f53b287b3329544b71f67cde34568fe2f6a7102efdfdf"), looks := false }, kinds := [], alts := [], laidByText := true, laidKinds := [.data, .pinned], laidTests := true, laidLooks := .later }
def VtypeOfsCardSaid : Prop := Claim7.holds Tryd.pinned (.plain (OpenSpec.ofChange vtypeOfsSpec)) vtypeOfsCard

/-- THE TIED CARD OF 'samovarlaw17.VtypeUnders'. -/
def vtypeUndersCard : Claim7 := { stood := { row := vtypeUndersRow, standIns := [], harness := (true, "374582ef56f2582fd23f53b287b3329544b71f67cde34568fe2f6a7102efdfdf"), looks := false }, kinds := [], alts := [], laidByText := true, laidKinds := [.data, .pinned], laidTests := true, laidLooks := .later }
def VtypeUndersCardSaid : Prop := Claim7.holds Tryd.pinned (.plain (OpenSpec.ofChange vtypeUndersSpec)) vtypeUndersCard

/-- THE TIED CARD OF 'samovarlaw17.VtypeMore'. -/
def vtypeMoreCard : Claim7 := { stood := { row := vtypeMoreRow, standIns := [], harness := (true, "374582ef56f2582fd23f53b287b3329544b71f67cde34568fe2f6a7102efdfdf"), looks := false }, kinds := [], alts := [], laidByText := true, laidKinds := [.data, .pinned], laidTests := true, laidLooks := .later }
def VtypeMoreCardSaid : Prop := Claim7.holds Tryd.pinned (.plain (OpenSpec.ofChange vtypeMoreSpec)) vtypeMoreCard

/-- THE TIED CARD OF 'samovarlaw17.VtypeArrays'. -/
def vtypeArraysCard : Claim7 := { stood := { row := vtypeArraysRow, standIns := [], harness := (true, "374582ef56f2582fd23f53b287b3329544b71f67cde34568fe2f6a7102efdfdf"), looks := false }, kinds := [], alts := [], laidByText := true, laidKinds := [.data, .pinned], laidTests := true, laidLooks := .later }
def VtypeArraysCardSaid : Prop := Claim7.holds Tryd.pinned (.plain (OpenSpec.ofChange vtypeArraysSpec)) vtypeArraysCard

/-- THE TIED CARD OF 'samovarlaw17.VtypeFits'. -/
def vtypeFitsCard : Claim7 := { stood := { row := vtypeFitsRow, standIns := [], harness := (true, "374582ef56f2582fd23f53b287b3329544b71f67cde34568fe2f6a7102efdfdf"), looks := false }, kinds := [], alts := [], laidByText := true, laidKinds := [.data, .pinned], laidTests := true, laidLooks := .later }
def VtypeFitsCardSaid : Prop := Claim7.holds Tryd.pinned (.plain (OpenSpec.ofChange vtypeFitsSpec)) vtypeFitsCard

/-- THE SECOND FORM's CARD OF 'samovarlaw17.VtypeOfs'. -/
def vtypeOfsUptoCard : Claim7 := { stood := { row := vtypeOfsUptoRow, standIns := [], harness := (true, "374582ef56f2582fd23f53b287b3329544b71f67cde34568fe2f6a7102efdfdf"), looks := false }, kinds := [], alts := [], laidByText := true, laidKinds := [.data, .pinned], laidTests := true, laidLooks := .later }
def VtypeOfsUptoCardSaid : Prop := Claim7.holds Tryd.pinned (.plain (OpenSpec.upto vtypeOfsSpec)) vtypeOfsUptoCard

/-- THE SECOND FORM's CARD OF 'samovarlaw17.VtypeUnders'. -/
def vtypeUndersUptoCard : Claim7 := { stood := { row := vtypeUndersUptoRow, standIns := [], harness := (true, "374582ef56f2582fd23f53b287b3329544b71f67cde34568fe2f6a7102efdfdf"), looks := false }, kinds := [], alts := [], laidByText := true, laidKinds := [.data, .pinned], laidTests := true, laidLooks := .later }
def VtypeUndersUptoCardSaid : Prop := Claim7.holds Tryd.pinned (.plain (OpenSpec.upto vtypeUndersSpec)) vtypeUndersUptoCard

/-- THE SECOND FORM's CARD OF 'samovarlaw17.VtypeMore'. -/
def vtypeMoreUptoCard : Claim7 := { stood := { row := vtypeMoreUptoRow, standIns := [], harness := (true, "374582ef56f2582fd23f53b287b3329544b71f67cde34568fe2f6a7102efdfdf"), looks := false }, kinds := [], alts := [], laidByText := true, laidKinds := [.data, .pinned], laidTests := true, laidLooks := .later }
def VtypeMoreUptoCardSaid : Prop := Claim7.holds Tryd.pinned (.plain (OpenSpec.upto vtypeMoreSpec)) vtypeMoreUptoCard

/-- THE SECOND FORM's CARD OF 'samovarlaw17.VtypeArrays'. -/
def vtypeArraysUptoCard : Claim7 := { stood := { row := vtypeArraysUptoRow, standIns := [], harness := (true, "374582ef56f2582fd23f53b287b3329544b71f67cde34568fe2f6a7102efdfdf"), looks := false }, kinds := [], alts := [], laidByText := true, laidKinds := [.data, .pinned], laidTests := true, laidLooks := .later }
def VtypeArraysUptoCardSaid : Prop := Claim7.holds Tryd.pinned (.plain (OpenSpec.upto vtypeArraysSpec)) vtypeArraysUptoCard

/-- THE SECOND FORM's CARD OF 'samovarlaw17.VtypeFits'. -/
def vtypeFitsUptoCard : Claim7 := { stood := { row := vtypeFitsUptoRow, standIns := [], harness := (true, "374582ef56f2582fd23f53b287b3329544b71f67cde34568fe2f6a7102efdfdf"), looks := false }, kinds := [], alts := [], laidByText := true, laidKinds := [.data, .pinned], laidTests := true, laidLooks := .later }
def VtypeFitsUptoCardSaid : Prop := Claim7.holds Tryd.pinned (.plain (OpenSpec.upto vtypeFitsSpec)) vtypeFitsUptoCard
end Rows
end Go.Proofs.YthblilhdjabhnaaDoor
