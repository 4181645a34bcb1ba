/-
  NARROWER THAN 'FOR EVERY INPUT', by the rows' own cells (each row's printed sentence says how): TopPacked: laid · TopBombs: laid · BundleMakes: laid · BundleSqueezes: laid.
  DERIVED. THE GIVEN ROWS OF THIS SEAT. 4 by the template 'for every input the law returns true; each argument reads behind the call as it read before'; 0 by the template 'total and deterministic' (their statements: YtnkdpchnighkfaaDoorTotals.lean).
  GIVEN WITH THE SEED: the statements are not yours to turn. If you find one false, say at which input.
  Laid BY PROGRAM, IN A SANDBOX (cutbox-rows.mjs): the forced cells as the released guide's own fill.sh prints them over the translation 795e9866d931322d… (all of the seat's roots in one cut). By AI agents, Wed Nov 11 2026. No macro, syntax, notation, axiom, sorry.
-/
import Derived.Test.YtnkdpchnighkfaaDoorChecked
import GoSem.PinnedTables
import GoSem.Claim
import GoSem.ClaimJoined
import GoSem.ClaimMapViews
import Derived.JoinedTies
import Derived.KernelRfl
namespace Go.Proofs.YtnkdpchnighkfaaDoor
/- THE CELL 'sum', in the pinned program and in every row, IS THE sha256 OF THE DUMP (.gsa) THAT YtnkdpchnighkfaaDoorProg.lean LOADS. Nothing in Lean hashes anything: it is a label: what it is worth is what the hold of that sum in a sandbox is worth. -/
noncomputable def Tryd.pinned : Pinned := { name := "ytnkdpchnighkfaadoor", sum := "795e9866d931322d4d5c82cf5e5adbceb8aeb530d1e36d750c992605798f8834", checked := Tryd.checked }
namespace Rows
def none {H : Type} : Left H := { results := [], args := [] }

/- WHAT THE LISTED PACKAGE-LEVEL VARIABLES READ AS WHEN THE CALL BEGINS. Each datum BY PROGRAM (the guide's laid-datum.mjs) off the statement by which the dump's own 'gosem.cut.vars' lays the variable. In a bare row this is a premise. The card (YtnkdpchnighkfaaDoorCards.lean) ties it to the program's text. -/
def laid_unicode_utf8_acceptRanges {H : Type} : DataW H := .agg [.agg [.lit (.int .u8 128), .lit (.int .u8 191)], .agg [.lit (.int .u8 160), .lit (.int .u8 191)], .agg [.lit (.int .u8 128), .lit (.int .u8 159)], .agg [.lit (.int .u8 144), .lit (.int .u8 191)], .agg [.lit (.int .u8 128), .lit (.int .u8 143)], .agg [.lit (.int .u8 0), .lit (.int .u8 0)], .agg [.lit (.int .u8 0), .lit (.int .u8 0)], .agg [.lit (.int .u8 0), .lit (.int .u8 0)], .agg [.lit (.int .u8 0), .lit (.int .u8 0)], .agg [.lit (.int .u8 0), .lit (.int .u8 0)], .agg [.lit (.int .u8 0), .lit (.int .u8 0)], .agg [.lit (.int .u8 0), .lit (.int .u8 0)], .agg [.lit (.int .u8 0), .lit (.int .u8 0)], .agg [.lit (.int .u8 0), .lit (.int .u8 0)], .agg [.lit (.int .u8 0), .lit (.int .u8 0)], .agg [.lit (.int .u8 0), .lit (.int .u8 0)]]
/-- One of Go's own tables, pinned by name: the form's constant. -/
def laid_unicode_utf8_first : DataW Unit := Go.Pinned.utf8First

/-- 'samovartop.TopPacked': WHATEVER THE INPUT: true; the input reads as it did. -/
def topPackedSpec : ChangeSpec := { name := "topPacked", fn := fun _ => fun
  | [d1, d2, d3] => { results := [.lit (.bool true)], args := [d1, d2, d3] }
  | _ => none }
def topPackedRow : OpenClaim := { program := "ytnkdpchnighkfaadoor", sum := "795e9866d931322d4d5c82cf5e5adbceb8aeb530d1e36d750c992605798f8834", func := "samovar/samovartop.TopPacked", spec := "topPacked", inPlace := ["internal/bytealg.IndexByteString", "internal/bytealg.CountString", "internal/bytealg.IndexString"], unfollowed := true, recurses := true, named := ["unicode/utf8.first", "unicode/utf8.acceptRanges", "internal/bytealg.MaxLen"], plainKeys := false, apart := false, laid := [("unicode/utf8.acceptRanges", laid_unicode_utf8_acceptRanges), ("unicode/utf8.first", laid_unicode_utf8_first)] }
def TopPackedSaid : Prop := topPackedRow.holds Tryd.pinned (OpenSpec.ofChange topPackedSpec)

/-- ITS FALSE NEIGHBOUR: 'it returns false'. Refute it at one input. -/
def topPackedWrong : ChangeSpec := { name := "topPacked", fn := fun _ => fun
  | [d1, d2, d3] => { results := [.lit (.bool false)], args := [d1, d2, d3] }
  | _ => none }
def TopPackedWrongFalsely : Prop := topPackedRow.holds Tryd.pinned (OpenSpec.ofChange topPackedWrong)

/-- 'samovartop.TopBombs': WHATEVER THE INPUT: true; the input reads as it did. -/
def topBombsSpec : ChangeSpec := { name := "topBombs", fn := fun _ => fun
  | [d1, d2, d3] => { results := [.lit (.bool true)], args := [d1, d2, d3] }
  | _ => none }
def topBombsRow : OpenClaim := { program := "ytnkdpchnighkfaadoor", sum := "795e9866d931322d4d5c82cf5e5adbceb8aeb530d1e36d750c992605798f8834", func := "samovar/samovartop.TopBombs", spec := "topBombs", inPlace := ["internal/bytealg.IndexByteString", "internal/bytealg.CountString", "internal/bytealg.IndexString"], unfollowed := true, recurses := true, named := ["unicode/utf8.first", "unicode/utf8.acceptRanges", "internal/bytealg.MaxLen"], plainKeys := false, apart := false, laid := [("unicode/utf8.acceptRanges", laid_unicode_utf8_acceptRanges), ("unicode/utf8.first", laid_unicode_utf8_first)] }
def TopBombsSaid : Prop := topBombsRow.holds Tryd.pinned (OpenSpec.ofChange topBombsSpec)

/-- ITS FALSE NEIGHBOUR: 'it returns false'. Refute it at one input. -/
def topBombsWrong : ChangeSpec := { name := "topBombs", fn := fun _ => fun
  | [d1, d2, d3] => { results := [.lit (.bool false)], args := [d1, d2, d3] }
  | _ => none }
def TopBombsWrongFalsely : Prop := topBombsRow.holds Tryd.pinned (OpenSpec.ofChange topBombsWrong)

/-- 'samovarlaw11.BundleMakes': WHATEVER THE INPUT: true; the input reads as it did. -/
def bundleMakesSpec : ChangeSpec := { name := "bundleMakes", fn := fun _ => fun
  | [d] => { results := [.lit (.bool true)], args := [d] }
  | _ => none }
def bundleMakesRow : OpenClaim := { program := "ytnkdpchnighkfaadoor", sum := "795e9866d931322d4d5c82cf5e5adbceb8aeb530d1e36d750c992605798f8834", func := "samovar/samovarlaw11.BundleMakes", spec := "bundleMakes", inPlace := ["internal/bytealg.IndexByteString", "internal/bytealg.CountString", "internal/bytealg.IndexString"], unfollowed := true, recurses := true, named := ["unicode/utf8.first", "unicode/utf8.acceptRanges", "internal/bytealg.MaxLen"], plainKeys := false, apart := false, laid := [("unicode/utf8.acceptRanges", laid_unicode_utf8_acceptRanges), ("unicode/utf8.first", laid_unicode_utf8_first)] }
def BundleMakesSaid : Prop := bundleMakesRow.holds Tryd.pinned (OpenSpec.ofChange bundleMakesSpec)

/-- ITS FALSE NEIGHBOUR: 'it returns false'. Refute it at one input. -/
def bundleMakesWrong : ChangeSpec := { name := "bundleMakes", fn := fun _ => fun
  | [d] => { results := [.lit (.bool false)], args := [d] }
  | _ => none }
def BundleMakesWrongFalsely : Prop := bundleMakesRow.holds Tryd.pinned (OpenSpec.ofChange bundleMakesWrong)

/-- 'samovarlaw11.BundleSqueezes': WHATEVER THE INPUT: true; the input reads as it did. -/
def bundleSqueezesSpec : ChangeSpec := { name := "bundleSqueezes", fn := fun _ => fun
  | [d] => { results := [.lit (.bool true)], args := [d] }
  | _ => none }
def bundleSqueezesRow : OpenClaim := { program := "ytnkdpchnighkfaadoor", sum := "795e9866d931322d4d5c82cf5e5adbceb8aeb530d1e36d750c992605798f8834", func := "samovar/samovarlaw11.BundleSqueezes", spec := "bundleSqueezes", inPlace := ["internal/bytealg.IndexByteString", "internal/bytealg.CountString", "internal/bytealg.IndexString"], unfollowed := true, recurses := true, named := ["unicode/utf8.first", "unicode/utf8.acceptRanges", "internal/bytealg.MaxLen"], plainKeys := false, apart := false, laid := [("unicode/utf8.acceptRanges", laid_unicode_utf8_acceptRanges), ("unicode/utf8.first", laid_unicode_utf8_first)] }
def BundleSqueezesSaid : Prop := bundleSqueezesRow.holds Tryd.pinned (OpenSpec.ofChange bundleSqueezesSpec)

/-- ITS FALSE NEIGHBOUR: 'it returns false'. Refute it at one input. -/
def bundleSqueezesWrong : ChangeSpec := { name := "bundleSqueezes", fn := fun _ => fun
  | [d] => { results := [.lit (.bool false)], args := [d] }
  | _ => none }
def BundleSqueezesWrongFalsely : Prop := bundleSqueezesRow.holds Tryd.pinned (OpenSpec.ofChange bundleSqueezesWrong)

/- THE SECOND FORM. 'bulk': how many values and letters a reading holds, each counted each time it is reached (what is shared counts as often as it is met; a slice's spare places count too). A statement '..UptoSaid' is the law's where the arguments, and the package variables that the reading takes, are together of bulk at most 1048576: NARROWER than '..Said'. Prove '..Said' where nothing that the law and all that it calls make is longer than what came in: it says more and counts as full. Else prove '..UptoSaid'. A law counts once. -/
mutual
def uptoBulk {H : Type} : DataW H → Nat
  | .lit (.string bytes) => bytes.length + 1
  | .lit _ => 1
  | .nil => 1
  | .ptr d => uptoBulk d + 1
  | .slice elems spare => uptoBulkAll elems + uptoBulkAll spare + 1
  | .agg parts => uptoBulkAll parts + 1
  | .iface _ d => uptoBulk d + 1
  | .map entries => uptoBulkEntries entries + 1
  | .held _ => 1
def uptoBulkAll {H : Type} : List (DataW H) → Nat
  | [] => 0
  | d :: r => uptoBulk d + uptoBulkAll r
def uptoBulkEntries {H : Type} : List (Lit × DataW H) → Nat
  | [] => 0
  | x :: r => uptoBulkEntry x + uptoBulkEntries r
def uptoBulkEntry {H : Type} : Lit × DataW H → Nat
  | (.string bytes, d) => bytes.length + uptoBulk d + 1
  | (_, d) => uptoBulk d + 1
 end
def uptoSmall : (H : Type) → List (DataW H) → Bool := fun _ ds => decide (uptoBulkAll ds ≤ 1048576)
def OpenSpec.upto (s : _root_.Go.ChangeSpec) : _root_.Go.OpenSpec := { _root_.Go.OpenSpec.ofChange s with cond := some uptoSmall }

/-- 'samovartop.TopPacked', WHERE WHAT IT READS IS OF BULK AT MOST 1048576: true; the input reads as it did. -/
def topPackedUptoRow : OpenClaim := { program := "ytnkdpchnighkfaadoor", sum := "795e9866d931322d4d5c82cf5e5adbceb8aeb530d1e36d750c992605798f8834", func := "samovar/samovartop.TopPacked", spec := "topPacked", inPlace := ["internal/bytealg.IndexByteString", "internal/bytealg.CountString", "internal/bytealg.IndexString"], unfollowed := true, recurses := true, named := ["unicode/utf8.first", "unicode/utf8.acceptRanges", "internal/bytealg.MaxLen"], plainKeys := false, apart := false, laid := [("unicode/utf8.acceptRanges", laid_unicode_utf8_acceptRanges), ("unicode/utf8.first", laid_unicode_utf8_first)], narrowed := true }
def TopPackedUptoSaid : Prop := topPackedUptoRow.holds Tryd.pinned (OpenSpec.upto topPackedSpec)

/-- 'samovartop.TopBombs', WHERE WHAT IT READS IS OF BULK AT MOST 1048576: true; the input reads as it did. -/
def topBombsUptoRow : OpenClaim := { program := "ytnkdpchnighkfaadoor", sum := "795e9866d931322d4d5c82cf5e5adbceb8aeb530d1e36d750c992605798f8834", func := "samovar/samovartop.TopBombs", spec := "topBombs", inPlace := ["internal/bytealg.IndexByteString", "internal/bytealg.CountString", "internal/bytealg.IndexString"], unfollowed := true, recurses := true, named := ["unicode/utf8.first", "unicode/utf8.acceptRanges", "internal/bytealg.MaxLen"], plainKeys := false, apart := false, laid := [("unicode/utf8.acceptRanges", laid_unicode_utf8_acceptRanges), ("unicode/utf8.first", laid_unicode_utf8_first)], narrowed := true }
def TopBombsUptoSaid : Prop := topBombsUptoRow.holds Tryd.pinned (OpenSpec.upto topBombsSpec)

/-- 'samovarlaw11.BundleMakes', WHERE WHAT IT READS IS OF BULK AT MOST 1048576: true; the input reads as it did. -/
def bundleMakesUptoRow : OpenClaim := { program := "ytnkdpchnighkfaadoor", sum := "795e9866d931322d4d5c82cf5e5adbceb8aeb530d1e36d750c992605798f8834", func := "samovar/samovarlaw11.BundleMakes", spec := "bundleMakes", inPlace := ["internal/bytealg.IndexByteString", "internal/bytealg.CountString", "internal/bytealg.IndexString"], unfollowed := true, recurses := true, named := ["unicode/utf8.first", "unicode/utf8.acceptRanges", "internal/bytealg.MaxLen"], plainKeys := false, apart := false, laid := [("unicode/utf8.acceptRanges", laid_unicode_utf8_acceptRanges), ("unicode/utf8.first", laid_unicode_utf8_first)], narrowed := true }
def BundleMakesUptoSaid : Prop := bundleMakesUptoRow.holds Tryd.pinned (OpenSpec.upto bundleMakesSpec)

/-- 'samovarlaw11.BundleSqueezes', WHERE WHAT IT READS IS OF BULK AT MOST 1048576: true; the input reads as it did. -/
def bundleSqueezesUptoRow : OpenClaim := { program := "ytnkdpchnighkfaadoor", sum := "795e9866d931322d4d5c82cf5e5adbceb8aeb530d1e36d750c992605798f8834", func := "samovar/samovarlaw11.BundleSqueezes", spec := "bundleSqueezes", inPlace := ["internal/bytealg.IndexByteString", "internal/bytealg.CountString", "internal/bytealg.IndexString"], unfollowed := true, recurses := true, named := ["unicode/utf8.first", "unicode/utf8.acceptRanges", "internal/bytealg.MaxLen"], plainKeys := false, apart := false, laid := [("unicode/utf8.acceptRanges", laid_unicode_utf8_acceptRanges), ("unicode/utf8.first", laid_unicode_utf8_first)], narrowed := true }
def BundleSqueezesUptoSaid : Prop := bundleSqueezesUptoRow.holds Tryd.pinned (OpenSpec.upto bundleSqueezesSpec)

end Rows
end Go.Proofs.YtnkdpchnighkfaaDoor
