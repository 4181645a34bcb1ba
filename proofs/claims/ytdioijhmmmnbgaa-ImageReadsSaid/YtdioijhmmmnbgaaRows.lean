/-
  No cell of these rows narrows 'for every input' (looked for: loops, veiled, ifaces, maps, wideKeys, modest, calm, conditions, laid).
  DERIVED. THE GIVEN ROWS OF THIS SEAT. 6 by the template 'for every input the law returns true; each argument reads behind the call as it read before'; 0 by the template 'total and deterministic' (their statements: YtdioijhmmmnbgaaTotals.lean).
  GIVEN WITH THE SEED: the statements are not yours to turn. If you find one false, say at which input.
  Laid BY PROGRAM, IN A SANDBOX (cutbox-rows.mjs): the forced cells as the released guide's own fill.sh prints them over the translation 5cd64f273a84ed82… (all of the seat's roots in one cut). By AI agents, Wed Nov 11 2026. No macro, syntax, notation, axiom, sorry.
-/
import Derived.Test.YtdioijhmmmnbgaaChecked
import GoSem.Claim
import GoSem.ClaimJoined
import GoSem.ClaimMapViews
import Derived.JoinedTies
import Derived.KernelRfl
namespace Go.Proofs.Ytdioijhmmmnbgaa
/- THE CELL 'sum', in the pinned program and in every row, IS THE sha256 OF THE DUMP (.gsa) THAT YtdioijhmmmnbgaaProg.lean LOADS. Nothing in Lean hashes anything: it is a label: what it is worth is what the hold of that sum in a sandbox is worth. -/
noncomputable def Try.pinned : Pinned := { name := "ytdioijhmmmnbgaa", sum := "5cd64f273a84ed82514e411fcc6dfd6e6be8fbd36668d000c60cb34eb3be5b00", checked := Try.checked }
namespace Rows
def none {H : Type} : Left H := { results := [], args := [] }

/-- 'samovarlaw14.ImageReads': WHATEVER THE INPUT: true; the input reads as it did. -/
def imageReadsSpec : ChangeSpec := { name := "imageReads", fn := fun _ => fun
  | [d] => { results := [.lit (.bool true)], args := [d] }
  | _ => none }
def imageReadsRow : OpenClaim := { program := "ytdioijhmmmnbgaa", sum := "5cd64f273a84ed82514e411fcc6dfd6e6be8fbd36668d000c60cb34eb3be5b00", func := "samovar/samovarlaw14.ImageReads", spec := "imageReads", apart := false }
def ImageReadsSaid : Prop := imageReadsRow.holds Try.pinned (OpenSpec.ofChange imageReadsSpec)

/-- ITS FALSE NEIGHBOUR: 'it returns false'. Refute it at one input. -/
def imageReadsWrong : ChangeSpec := { name := "imageReads", fn := fun _ => fun
  | [d] => { results := [.lit (.bool false)], args := [d] }
  | _ => none }
def ImageReadsWrongFalsely : Prop := imageReadsRow.holds Try.pinned (OpenSpec.ofChange imageReadsWrong)

/-- 'samovarlaw14.ImageWrites': WHATEVER THE INPUT: true; the input reads as it did. -/
def imageWritesSpec : ChangeSpec := { name := "imageWrites", fn := fun _ => fun
  | [d] => { results := [.lit (.bool true)], args := [d] }
  | _ => none }
def imageWritesRow : OpenClaim := { program := "ytdioijhmmmnbgaa", sum := "5cd64f273a84ed82514e411fcc6dfd6e6be8fbd36668d000c60cb34eb3be5b00", func := "samovar/samovarlaw14.ImageWrites", spec := "imageWrites", apart := false }
def ImageWritesSaid : Prop := imageWritesRow.holds Try.pinned (OpenSpec.ofChange imageWritesSpec)

/-- ITS FALSE NEIGHBOUR: 'it returns false'. Refute it at one input. -/
def imageWritesWrong : ChangeSpec := { name := "imageWrites", fn := fun _ => fun
  | [d] => { results := [.lit (.bool false)], args := [d] }
  | _ => none }
def ImageWritesWrongFalsely : Prop := imageWritesRow.holds Try.pinned (OpenSpec.ofChange imageWritesWrong)

/-- 'samovarlaw14.ImageBack': WHATEVER THE INPUT: true; the input reads as it did. -/
def imageBackSpec : ChangeSpec := { name := "imageBack", fn := fun _ => fun
  | [d] => { results := [.lit (.bool true)], args := [d] }
  | _ => none }
def imageBackRow : OpenClaim := { program := "ytdioijhmmmnbgaa", sum := "5cd64f273a84ed82514e411fcc6dfd6e6be8fbd36668d000c60cb34eb3be5b00", func := "samovar/samovarlaw14.ImageBack", spec := "imageBack", apart := false }
def ImageBackSaid : Prop := imageBackRow.holds Try.pinned (OpenSpec.ofChange imageBackSpec)

/-- ITS FALSE NEIGHBOUR: 'it returns false'. Refute it at one input. -/
def imageBackWrong : ChangeSpec := { name := "imageBack", fn := fun _ => fun
  | [d] => { results := [.lit (.bool false)], args := [d] }
  | _ => none }
def ImageBackWrongFalsely : Prop := imageBackRow.holds Try.pinned (OpenSpec.ofChange imageBackWrong)

/-- 'samovarlaw14.ImageOnly': WHATEVER THE INPUT: true; the input reads as it did. -/
def imageOnlySpec : ChangeSpec := { name := "imageOnly", fn := fun _ => fun
  | [d] => { results := [.lit (.bool true)], args := [d] }
  | _ => none }
def imageOnlyRow : OpenClaim := { program := "ytdioijhmmmnbgaa", sum := "5cd64f273a84ed82514e411fcc6dfd6e6be8fbd36668d000c60cb34eb3be5b00", func := "samovar/samovarlaw14.ImageOnly", spec := "imageOnly", apart := false }
def ImageOnlySaid : Prop := imageOnlyRow.holds Try.pinned (OpenSpec.ofChange imageOnlySpec)

/-- ITS FALSE NEIGHBOUR: 'it returns false'. Refute it at one input. -/
def imageOnlyWrong : ChangeSpec := { name := "imageOnly", fn := fun _ => fun
  | [d] => { results := [.lit (.bool false)], args := [d] }
  | _ => none }
def ImageOnlyWrongFalsely : Prop := imageOnlyRow.holds Try.pinned (OpenSpec.ofChange imageOnlyWrong)

/-- 'samovarlaw14.ImageCuts': WHATEVER THE INPUT: true; the input reads as it did. -/
def imageCutsSpec : ChangeSpec := { name := "imageCuts", fn := fun _ => fun
  | [d1, d2, d3] => { results := [.lit (.bool true)], args := [d1, d2, d3] }
  | _ => none }
def imageCutsRow : OpenClaim := { program := "ytdioijhmmmnbgaa", sum := "5cd64f273a84ed82514e411fcc6dfd6e6be8fbd36668d000c60cb34eb3be5b00", func := "samovar/samovarlaw14.ImageCuts", spec := "imageCuts", apart := false }
def ImageCutsSaid : Prop := imageCutsRow.holds Try.pinned (OpenSpec.ofChange imageCutsSpec)

/-- ITS FALSE NEIGHBOUR: 'it returns false'. Refute it at one input. -/
def imageCutsWrong : ChangeSpec := { name := "imageCuts", fn := fun _ => fun
  | [d1, d2, d3] => { results := [.lit (.bool false)], args := [d1, d2, d3] }
  | _ => none }
def ImageCutsWrongFalsely : Prop := imageCutsRow.holds Try.pinned (OpenSpec.ofChange imageCutsWrong)

/-- 'samovarlaw14.ImageTexts': WHATEVER THE INPUT: true; the input reads as it did. -/
def imageTextsSpec : ChangeSpec := { name := "imageTexts", fn := fun _ => fun
  | [d1, d2] => { results := [.lit (.bool true)], args := [d1, d2] }
  | _ => none }
def imageTextsRow : OpenClaim := { program := "ytdioijhmmmnbgaa", sum := "5cd64f273a84ed82514e411fcc6dfd6e6be8fbd36668d000c60cb34eb3be5b00", func := "samovar/samovarlaw14.ImageTexts", spec := "imageTexts", apart := false }
def ImageTextsSaid : Prop := imageTextsRow.holds Try.pinned (OpenSpec.ofChange imageTextsSpec)

/-- ITS FALSE NEIGHBOUR: 'it returns false'. Refute it at one input. -/
def imageTextsWrong : ChangeSpec := { name := "imageTexts", fn := fun _ => fun
  | [d1, d2] => { results := [.lit (.bool false)], args := [d1, d2] }
  | _ => none }
def ImageTextsWrongFalsely : Prop := imageTextsRow.holds Try.pinned (OpenSpec.ofChange imageTextsWrong)

/- THE SECOND FORM. 'bulk': how many values and letters a reading holds, each counted each time it is reached (what is shared counts as often as it is met; a slice's spare places count too). A statement '..UptoSaid' is the law's where the arguments, and the package variables that the reading takes, are together of bulk at most 1048576: NARROWER than '..Said'. Prove '..Said' where nothing that the law and all that it calls make is longer than what came in: it says more and counts as full. Else prove '..UptoSaid'. A law counts once. -/
mutual
def uptoBulk {H : Type} : DataW H → Nat
  | .lit (.string bytes) => bytes.length + 1
  | .lit _ => 1
  | .nil => 1
  | .ptr d => uptoBulk d + 1
  | .slice elems spare => uptoBulkAll elems + uptoBulkAll spare + 1
  | .agg parts => uptoBulkAll parts + 1
  | .iface _ d => uptoBulk d + 1
  | .map entries => uptoBulkEntries entries + 1
  | .held _ => 1
def uptoBulkAll {H : Type} : List (DataW H) → Nat
  | [] => 0
  | d :: r => uptoBulk d + uptoBulkAll r
def uptoBulkEntries {H : Type} : List (Lit × DataW H) → Nat
  | [] => 0
  | x :: r => uptoBulkEntry x + uptoBulkEntries r
def uptoBulkEntry {H : Type} : Lit × DataW H → Nat
  | (.string bytes, d) => bytes.length + uptoBulk d + 1
  | (_, d) => uptoBulk d + 1
 end
def uptoSmall : (H : Type) → List (DataW H) → Bool := fun _ ds => decide (uptoBulkAll ds ≤ 1048576)
def OpenSpec.upto (s : _root_.Go.ChangeSpec) : _root_.Go.OpenSpec := { _root_.Go.OpenSpec.ofChange s with cond := some uptoSmall }

/-- 'samovarlaw14.ImageReads', WHERE WHAT IT READS IS OF BULK AT MOST 1048576: true; the input reads as it did. -/
def imageReadsUptoRow : OpenClaim := { program := "ytdioijhmmmnbgaa", sum := "5cd64f273a84ed82514e411fcc6dfd6e6be8fbd36668d000c60cb34eb3be5b00", func := "samovar/samovarlaw14.ImageReads", spec := "imageReads", apart := false, narrowed := true }
def ImageReadsUptoSaid : Prop := imageReadsUptoRow.holds Try.pinned (OpenSpec.upto imageReadsSpec)

/-- 'samovarlaw14.ImageWrites', WHERE WHAT IT READS IS OF BULK AT MOST 1048576: true; the input reads as it did. -/
def imageWritesUptoRow : OpenClaim := { program := "ytdioijhmmmnbgaa", sum := "5cd64f273a84ed82514e411fcc6dfd6e6be8fbd36668d000c60cb34eb3be5b00", func := "samovar/samovarlaw14.ImageWrites", spec := "imageWrites", apart := false, narrowed := true }
def ImageWritesUptoSaid : Prop := imageWritesUptoRow.holds Try.pinned (OpenSpec.upto imageWritesSpec)

/-- 'samovarlaw14.ImageBack', WHERE WHAT IT READS IS OF BULK AT MOST 1048576: true; the input reads as it did. -/
def imageBackUptoRow : OpenClaim := { program := "ytdioijhmmmnbgaa", sum := "5cd64f273a84ed82514e411fcc6dfd6e6be8fbd36668d000c60cb34eb3be5b00", func := "samovar/samovarlaw14.ImageBack", spec := "imageBack", apart := false, narrowed := true }
def ImageBackUptoSaid : Prop := imageBackUptoRow.holds Try.pinned (OpenSpec.upto imageBackSpec)

/-- 'samovarlaw14.ImageOnly', WHERE WHAT IT READS IS OF BULK AT MOST 1048576: true; the input reads as it did. -/
def imageOnlyUptoRow : OpenClaim := { program := "ytdioijhmmmnbgaa", sum := "5cd64f273a84ed82514e411fcc6dfd6e6be8fbd36668d000c60cb34eb3be5b00", func := "samovar/samovarlaw14.ImageOnly", spec := "imageOnly", apart := false, narrowed := true }
def ImageOnlyUptoSaid : Prop := imageOnlyUptoRow.holds Try.pinned (OpenSpec.upto imageOnlySpec)

/-- 'samovarlaw14.ImageCuts', WHERE WHAT IT READS IS OF BULK AT MOST 1048576: true; the input reads as it did. -/
def imageCutsUptoRow : OpenClaim := { program := "ytdioijhmmmnbgaa", sum := "5cd64f273a84ed82514e411fcc6dfd6e6be8fbd36668d000c60cb34eb3be5b00", func := "samovar/samovarlaw14.ImageCuts", spec := "imageCuts", apart := false, narrowed := true }
def ImageCutsUptoSaid : Prop := imageCutsUptoRow.holds Try.pinned (OpenSpec.upto imageCutsSpec)

/-- 'samovarlaw14.ImageTexts', WHERE WHAT IT READS IS OF BULK AT MOST 1048576: true; the input reads as it did. -/
def imageTextsUptoRow : OpenClaim := { program := "ytdioijhmmmnbgaa", sum := "5cd64f273a84ed82514e411fcc6dfd6e6be8fbd36668d000c60cb34eb3be5b00", func := "samovar/samovarlaw14.ImageTexts", spec := "imageTexts", apart := false, narrowed := true }
def ImageTextsUptoSaid : Prop := imageTextsUptoRow.holds Try.pinned (OpenSpec.upto imageTextsSpec)

end Rows
end Go.Proofs.Ytdioijhmmmnbgaa
