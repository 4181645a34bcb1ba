/-
  DERIVED. GIVEN WITH THE SEED: THE CARDS: each row of YthlplphpikboiaaDoorRows.lean that lists a variable, with what it lists TIED to the program's text (the seventh form; the later family's looks); each row that meets fmt, with fmt's text TOLD by the authors' own Lean function (tested against real Go, not proved from fmt's source: count such statements apart). THE CARD IS WHAT COUNTS. Prove the row's statement (the work); the ties are given (YthlplphpikboiaaDoorTie.lean); close each card by the builder's one call (the guide's Derived/Test/ToyasCard.lean, 'card_holds'). Laid BY PROGRAM, IN A SANDBOX (cutbox-door.mjs). By AI agents, Wed Nov 11 2026. No macro, syntax, notation, axiom, sorry.
-/
import Derived.Test.YthlplphpikboiaaDoorRows
import GoSem.ClaimSeven
namespace Go.Proofs.YthlplphpikboiaaDoor
namespace Rows

/-- THE TIED CARD OF 'samovarlaw13.NameTells'. -/
def nameTellsCard : Claim7 := { stood := { row := nameTellsRow, standIns := [], harness := (true, "aa6ce0acfc496ba2db281cf667084820285a9b04ca80c4a8a5fad65bb94cb67d"), looks := false }, kinds := [], alts := [], laidByText := true, laidKinds := [.data, .pinned], laidTests := true, laidLooks := .later }
def NameTellsCardSaid : Prop := Claim7.holds Tryd.pinned (.plain (OpenSpec.ofChange nameTellsSpec)) nameTellsCard

/-- THE TIED CARD OF 'samovarlaw13.NameMethods'. -/
def nameMethodsCard : Claim7 := { stood := { row := nameMethodsRow, standIns := [], harness := (true, "aa6ce0acfc496ba2db281cf667084820285a9b04ca80c4a8a5fad65bb94cb67d"), looks := false }, kinds := [], alts := [], laidByText := true, laidKinds := [.data, .pinned], laidTests := true, laidLooks := .later }
def NameMethodsCardSaid : Prop := Claim7.holds Tryd.pinned (.plain (OpenSpec.ofChange nameMethodsSpec)) nameMethodsCard

/-- THE TIED CARD OF 'samovarlaw13.NameParts'. -/
def namePartsCard : Claim7 := { stood := { row := namePartsRow, standIns := [], harness := (true, "aa6ce0acfc496ba2db281cf667084820285a9b04ca80c4a8a5fad65bb94cb67d"), looks := false }, kinds := [], alts := [], laidByText := true, laidKinds := [.data, .pinned], laidTests := true, laidLooks := .later }
def NamePartsCardSaid : Prop := Claim7.holds Tryd.pinned (.plain (OpenSpec.ofChange namePartsSpec)) namePartsCard

/-- THE TIED CARD OF 'samovarlaw13.NameUnits'. -/
def nameUnitsCard : Claim7 := { stood := { row := nameUnitsRow, standIns := [], harness := (true, "aa6ce0acfc496ba2db281cf667084820285a9b04ca80c4a8a5fad65bb94cb67d"), looks := false }, kinds := [], alts := [], laidByText := true, laidKinds := [.data, .pinned], laidTests := true, laidLooks := .later }
def NameUnitsCardSaid : Prop := Claim7.holds Tryd.pinned (.plain (OpenSpec.ofChange nameUnitsSpec)) nameUnitsCard

/-- THE TIED CARD OF 'samovarlaw13.NameBack'. -/
def nameBackCard : Claim7 := { stood := { row := nameBackRow, standIns := [], harness := (true, "aa6ce0acfc496ba2db281cf667084820285a9b04ca80c4a8a5fad65bb94cb67d"), looks := false }, kinds := [], alts := [], laidByText := true, laidKinds := [.data, .pinned], laidTests := true, laidLooks := .later }
def NameBackCardSaid : Prop := Claim7.holds Tryd.pinned (.plain (OpenSpec.ofChange nameBackSpec)) nameBackCard

/-- THE SECOND FORM's CARD OF 'samovarlaw13.NameTells'. -/
def nameTellsUptoCard : Claim7 := { stood := { row := nameTellsUptoRow, standIns := [], harness := (true, "aa6ce0acfc496ba2db281cf667084820285a9b04ca80c4a8a5fad65bb94cb67d"), looks := false }, kinds := [], alts := [], laidByText := true, laidKinds := [.data, .pinned], laidTests := true, laidLooks := .later }
def NameTellsUptoCardSaid : Prop := Claim7.holds Tryd.pinned (.plain (OpenSpec.upto nameTellsSpec)) nameTellsUptoCard

/-- THE SECOND FORM's CARD OF 'samovarlaw13.NameMethods'. -/
def nameMethodsUptoCard : Claim7 := { stood := { row := nameMethodsUptoRow, standIns := [], harness := (true, "aa6ce0acfc496ba2db281cf667084820285a9b04ca80c4a8a5fad65bb94cb67d"), looks := false }, kinds := [], alts := [], laidByText := true, laidKinds := [.data, .pinned], laidTests := true, laidLooks := .later }
def NameMethodsUptoCardSaid : Prop := Claim7.holds Tryd.pinned (.plain (OpenSpec.upto nameMethodsSpec)) nameMethodsUptoCard

/-- THE SECOND FORM's CARD OF 'samovarlaw13.NameParts'. -/
def namePartsUptoCard : Claim7 := { stood := { row := namePartsUptoRow, standIns := [], harness := (true, "aa6ce0acfc496ba2db281cf667084820285a9b04ca80c4a8a5fad65bb94cb67d"), looks := false }, kinds := [], alts := [], laidByText := true, laidKinds := [.data, .pinned], laidTests := true, laidLooks := .later }
def NamePartsUptoCardSaid : Prop := Claim7.holds Tryd.pinned (.plain (OpenSpec.upto namePartsSpec)) namePartsUptoCard

/-- THE SECOND FORM's CARD OF 'samovarlaw13.NameUnits'. -/
def nameUnitsUptoCard : Claim7 := { stood := { row := nameUnitsUptoRow, standIns := [], harness := (true, "aa6ce0acfc496ba2db281cf667084820285a9b04ca80c4a8a5fad65bb94cb67d"), looks := false }, kinds := [], alts := [], laidByText := true, laidKinds := [.data, .pinned], laidTests := true, laidLooks := .later }
def NameUnitsUptoCardSaid : Prop := Claim7.holds Tryd.pinned (.plain (OpenSpec.upto nameUnitsSpec)) nameUnitsUptoCard

/-- THE SECOND FORM's CARD OF 'samovarlaw13.NameBack'. -/
def nameBackUptoCard : Claim7 := { stood := { row := nameBackUptoRow, standIns := [], harness := (true, "aa6ce0acfc496ba2db281cf667084820285a9b04ca80c4a8a5fad65bb94cb67d"), looks := false }, kinds := [], alts := [], laidByText := true, laidKinds := [.data, .pinned], laidTests := true, laidLooks := .later }
def NameBackUptoCardSaid : Prop := Claim7.holds Tryd.pinned (.plain (OpenSpec.upto nameBackSpec)) nameBackUptoCard
end Rows
end Go.Proofs.YthlplphpikboiaaDoor
