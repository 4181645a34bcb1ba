/-
  DERIVED. GIVEN WITH THE SEED: THE CARDS: each row of YtpmfiegfbmamiaaDoorRows.lean that lists a variable, with what it lists TIED to the program's text (the seventh form; the later family's looks); each row that meets fmt, with fmt's text TOLD by the authors' own Lean function (tested against real Go, not proved from fmt's source: count such statements apart). THE CARD IS WHAT COUNTS. Prove the row's statement (the work); the ties are given (YtpmfiegfbmamiaaDoorTie.lean); close each card by the builder's one call (the guide's Derived/Test/ToyasCard.lean, 'card_holds'). Laid BY PROGRAM, IN A SANDBOX (cutbox-door.mjs). By AI agents, Wed Nov 11 2026. No macro, syntax, notation, axiom, sorry.
-/
import Derived.Test.YtpmfiegfbmamiaaDoorRows
import GoSem.ClaimSeven
namespace Go.Proofs.YtpmfiegfbmamiaaDoor
namespace Rows

/-- THE TIED CARD OF 'samovarlaw15.KlassMore'. -/
def klassMoreCard : Claim7 := { stood := { row := klassMoreRow, standIns := [], harness := (true, "b3124422071eb131097f775f3edc9c6965cee0d4bacda0c1b31d938e74d5921e"), looks := true }, kinds := [], alts := [], laidByText := true, laidKinds := [.data, .pinned], laidTests := true, laidLooks := .later }
def KlassMoreCardSaid : Prop := Claim7.holds Tryd.pinned (.plain (OpenSpec.ofChange klassMoreSpec)) klassMoreCard

/-- THE SECOND FORM's CARD OF 'samovarlaw15.KlassMore'. -/
def klassMoreUptoCard : Claim7 := { stood := { row := klassMoreUptoRow, standIns := [], harness := (true, "b3124422071eb131097f775f3edc9c6965cee0d4bacda0c1b31d938e74d5921e"), looks := true }, kinds := [], alts := [], laidByText := true, laidKinds := [.data, .pinned], laidTests := true, laidLooks := .later }
def KlassMoreUptoCardSaid : Prop := Claim7.holds Tryd.pinned (.plain (OpenSpec.upto klassMoreSpec)) klassMoreUptoCard
end Rows
end Go.Proofs.YtpmfiegfbmamiaaDoor
