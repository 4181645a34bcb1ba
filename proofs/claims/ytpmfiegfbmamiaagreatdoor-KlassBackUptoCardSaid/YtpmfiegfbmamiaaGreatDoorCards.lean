/-
  DERIVED. GIVEN WITH THE SEED: THE CARDS: each row of YtpmfiegfbmamiaaGreatDoorRows.lean that lists a variable, with what it lists TIED to the program's text (the seventh form; the later family's looks); each row that meets fmt, with fmt's text TOLD by the authors' own Lean function (tested against real Go, not proved from fmt's source: count such statements apart). THE CARD IS WHAT COUNTS. Prove the row's statement (the work); the ties are given (YtpmfiegfbmamiaaGreatDoorTie.lean); close each card by the builder's one call (the guide's Derived/Test/ToyasCard.lean, 'card_holds'). Laid BY PROGRAM, IN A SANDBOX (cutbox-door.mjs). By AI agents, Wed Nov 11 2026. No macro, syntax, notation, axiom, sorry.
-/
import Derived.Test.YtpmfiegfbmamiaaGreatDoorRows
import GoSem.ClaimSeven
namespace Go.Proofs.YtpmfiegfbmamiaaGreatDoor
namespace Rows

/-- THE TIED CARD OF 'samovarlaw15.KlassBack'. -/
def klassBackCard : Claim7 := { stood := { row := klassBackRow, standIns := [], harness := (true, "c53181e58e7632c45e281931d6a91b5512158f44be7371bc9cc3c7467bb36793"), looks := true }, kinds := [], alts := [], laidByText := true, laidKinds := [.data, .pinned], laidTests := true, laidLooks := .later }
def KlassBackCardSaid : Prop := Claim7.holds Tryz.pinned (.plain (OpenSpec.ofChange klassBackSpec)) klassBackCard

/-- THE TIED CARD OF 'samovarlaw18.CheckMore'. -/
def checkMoreCard : Claim7 := { stood := { row := checkMoreRow, standIns := [], harness := (true, "c53181e58e7632c45e281931d6a91b5512158f44be7371bc9cc3c7467bb36793"), looks := true }, kinds := [], alts := [], laidByText := true, laidKinds := [.data, .data, .data, .data, .data, .pinned], laidTests := true, laidLooks := .later }
def CheckMoreCardSaid : Prop := Claim7.holds Tryz.pinned (.plain (OpenSpec.ofChange checkMoreSpec)) checkMoreCard

/-- THE TIED CARD OF 'samovarlaw18.CheckTops'. -/
def checkTopsCard : Claim7 := { stood := { row := checkTopsRow, standIns := [], harness := (true, "c53181e58e7632c45e281931d6a91b5512158f44be7371bc9cc3c7467bb36793"), looks := true }, kinds := [], alts := [], laidByText := true, laidKinds := [.data, .data, .data, .data, .data, .pinned], laidTests := true, laidLooks := .later }
def CheckTopsCardSaid : Prop := Claim7.holds Tryz.pinned (.plain (OpenSpec.ofChange checkTopsSpec)) checkTopsCard

/-- THE TIED CARD OF 'samovarlaw18.CheckBare'. -/
def checkBareCard : Claim7 := { stood := { row := checkBareRow, standIns := [], harness := (true, "c53181e58e7632c45e281931d6a91b5512158f44be7371bc9cc3c7467bb36793"), looks := true }, kinds := [], alts := [], laidByText := true, laidKinds := [.data, .data, .data, .data, .data, .pinned], laidTests := true, laidLooks := .later }
def CheckBareCardSaid : Prop := Claim7.holds Tryz.pinned (.plain (OpenSpec.ofChange checkBareSpec)) checkBareCard

/-- THE SECOND FORM's CARD OF 'samovarlaw15.KlassBack'. -/
def klassBackUptoCard : Claim7 := { stood := { row := klassBackUptoRow, standIns := [], harness := (true, "c53181e58e7632c45e281931d6a91b5512158f44be7371bc9cc3c7467bb36793"), looks := true }, kinds := [], alts := [], laidByText := true, laidKinds := [.data, .pinned], laidTests := true, laidLooks := .later }
def KlassBackUptoCardSaid : Prop := Claim7.holds Tryz.pinned (.plain (OpenSpec.upto klassBackSpec)) klassBackUptoCard

/-- THE SECOND FORM's CARD OF 'samovarlaw18.CheckMore'. -/
def checkMoreUptoCard : Claim7 := { stood := { row := checkMoreUptoRow, standIns := [], harness := (true, "c53181e58e7632c45e281931d6a91b5512158f44be7371bc9cc3c7467bb36793"), looks := true }, kinds := [], alts := [], laidByText := true, laidKinds := [.data, .data, .data, .data, .data, .pinned], laidTests := true, laidLooks := .later }
def CheckMoreUptoCardSaid : Prop := Claim7.holds Tryz.pinned (.plain (OpenSpec.upto checkMoreSpec)) checkMoreUptoCard

/-- THE SECOND FORM's CARD OF 'samovarlaw18.CheckTops'. -/
def checkTopsUptoCard : Claim7 := { stood := { row := checkTopsUptoRow, standIns := [], harness := (true, "c53181e58e7632c45e281931d6a91b5512158f44be7371bc9cc3c7467bb36793"), looks := true }, kinds := [], alts := [], laidByText := true, laidKinds := [.data, .data, .data, .data, .data, .pinned], laidTests := true, laidLooks := .later }
def CheckTopsUptoCardSaid : Prop := Claim7.holds Tryz.pinned (.plain (OpenSpec.upto checkTopsSpec)) checkTopsUptoCard

/-- THE SECOND FORM's CARD OF 'samovarlaw18.CheckBare'. -/
def checkBareUptoCard : Claim7 := { stood := { row := checkBareUptoRow, standIns := [], harness := (true, "c53181e58e7632c45e281931d6a91b5512158f44be7371bc9cc3c7467bb36793"), looks := true }, kinds := [], alts := [], laidByText := true, laidKinds := [.data, .data, .data, .data, .data, .pinned], laidTests := true, laidLooks := .later }
def CheckBareUptoCardSaid : Prop := Claim7.holds Tryz.pinned (.plain (OpenSpec.upto checkBareSpec)) checkBareUptoCard
end Rows
end Go.Proofs.YtpmfiegfbmamiaaGreatDoor
