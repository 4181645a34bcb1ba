/-
  NARROWER THAN 'FOR EVERY INPUT', by the rows' own cells (each row's printed sentence says how): VtypeOfs: laid · VtypeUnders: laid · VtypeMore: laid · VtypeArrays: laid · VtypeFits: laid.
  DERIVED. THE GIVEN ROWS OF THIS SEAT. 5 by the template 'for every input the law returns true; each argument reads behind the call as it read before'; 0 by the template 'total and deterministic' (their statements: YthblilhdjabhnaaDoorTotals.lean).
  GIVEN WITH THE SEED: the statements are not yours to turn. If you find one false, say at which input.
  Laid BY PROGRAM, IN A SANDBOX (cutbox-rows.mjs): the forced cells as the released guide's own fill.sh prints them over the translation d0c0f9f5f609aea2… (all of the seat's roots in one cut). By AI agents, Wed Nov 11 2026. No macro, syntax, notation, axiom, sorry.
-/
import Derived.Test.YthblilhdjabhnaaDoorChecked
import GoSem.PinnedTables
import GoSem.Claim
import GoSem.ClaimJoined
import GoSem.ClaimMapViews
import Derived.JoinedTies
import Derived.KernelRfl
namespace Go.Proofs.YthblilhdjabhnaaDoor
/- THE CELL 'sum', in the pinned program and in every row, IS THE sha256 OF THE DUMP (.gsa) THAT YthblilhdjabhnaaDoorProg.lean LOADS. Nothing in Lean hashes anything: it is a label: what it is worth is what the hold of that sum in a sandbox is worth. -/
noncomputable def Tryd.pinned : Pinned := { name := "ythblilhdjabhnaadoor", sum := "d0c0f9f5f609aea2a9bb27bedf5a91657b1e344366bc27fc154961d027d1029e", checked := Tryd.checked }
namespace Rows
def none {H : Type} : Left H := { results := [], args := [] }

/- WHAT THE LISTED PACKAGE-LEVEL VARIABLES READ AS WHEN THE CALL BEGINS. Each datum BY PROGRAM (the guide's laid-datum.mjs) off the statement by which the dump's own 'gosem.cut.vars' lays the variable. In a bare row this is a premise. The card (YthblilhdjabhnaaDoorCards.lean) ties it to the program's text. -/
def laid_unicode_utf8_acceptRanges {H : Type} : DataW H := .agg [.agg [.lit (.int .u8 128), .lit (.int .u8 191)], .agg [.lit (.int .u8 160), .lit (.int .u8 191)], .agg [.lit (.int .u8 128), .lit (.int .u8 159)], .agg [.lit (.int .u8 144), .lit (.int .u8 191)], .agg [.lit (.int .u8 128), .lit (.int .u8 143)], .agg [.lit (.int .u8 0), .lit (.int .u8 0)], .agg [.lit (.int .u8 0), .lit (.int .u8 0)], .agg [.lit (.int .u8 0), .lit (.int .u8 0)], .agg [.lit (.int .u8 0), .lit (.int .u8 0)], .agg [.lit (.int .u8 0), .lit (.int .u8 0)], .agg [.lit (.int .u8 0), .lit (.int .u8 0)], .agg [.lit (.int .u8 0), .lit (.int .u8 0)], .agg [.lit (.int .u8 0), .lit (.int .u8 0)], .agg [.lit (.int .u8 0), .lit (.int .u8 0)], .agg [.lit (.int .u8 0), .lit (.int .u8 0)], .agg [.lit (.int .u8 0), .lit (.int .u8 0)]]
/-- One of Go's own tables, pinned by name: the form's constant. -/
def laid_unicode_utf8_first : DataW Unit := Go.Pinned.utf8First

/-- 'samovarlaw17.VtypeOfs': WHATEVER THE INPUT: true; the input reads as it did. -/
def vtypeOfsSpec : ChangeSpec := { name := "vtypeOfs", fn := fun _ => fun
  | [d1, d2] => { results := [.lit (.bool true)], args := [d1, d2] }
  | _ => none }
def vtypeOfsRow : OpenClaim := { program := "ythblilhdjabhnaadoor", sum := "d0c0f9f5f609aea2a9bb27bedf5a91657b1e344366bc27fc154961d027d1029e", func := "samovar/samovarlaw17.VtypeOfs", spec := "vtypeOfs", inPlace := ["internal/bytealg.IndexByteString", "internal/bytealg.CountString", "internal/bytealg.IndexString"], recurses := true, named := ["unicode/utf8.first", "unicode/utf8.acceptRanges", "internal/bytealg.MaxLen"], apart := false, laid := [("unicode/utf8.acceptRanges", laid_unicode_utf8_acceptRanges), ("unicode/utf8.first", laid_unicode_utf8_first)] }
def VtypeOfsSaid : Prop := vtypeOfsRow.holds Tryd.pinned (OpenSpec.ofChange vtypeOfsSpec)

/-- ITS FALSE NEIGHBOUR: 'it returns false'. Refute it at one input. -/
def vtypeOfsWrong : ChangeSpec := { name := "vtypeOfs", fn := fun _ => fun
  | [d1, d2] => { results := [.lit (.bool false)], args := [d1, d2] }
  | _ => none }
def VtypeOfsWrongFalsely : Prop := vtypeOfsRow.holds Tryd.pinned (OpenSpec.ofChange vtypeOfsWrong)

/-- 'samovarlaw17.VtypeUnders': WHATEVER THE INPUT: true; the input reads as it did. -/
def vtypeUndersSpec : ChangeSpec := { name := "vtypeUnders", fn := fun _ => fun
  | [d1, d2, d3] => { results := [.lit (.bool true)], args := [d1, d2, d3] }
  | _ => none }
def vtypeUndersRow : OpenClaim := { program := "ythblilhdjabhnaadoor", sum := "d0c0f9f5f609aea2a9bb27bedf5a91657b1e344366bc27fc154961d027d1029e", func := "samovar/samovarlaw17.VtypeUnders", spec := "vtypeUnders", inPlace := ["internal/bytealg.IndexByteString", "internal/bytealg.CountString", "internal/bytealg.IndexString"], recurses := true, named := ["unicode/utf8.first", "unicode/utf8.acceptRanges", "internal/bytealg.MaxLen"], apart := false, laid := [("unicode/utf8.acceptRanges", laid_unicode_utf8_acceptRanges), ("unicode/utf8.first", laid_unicode_utf8_first)] }
def VtypeUndersSaid : Prop := vtypeUndersRow.holds Tryd.pinned (OpenSpec.ofChange vtypeUndersSpec)

/-- ITS FALSE NEIGHBOUR: 'it returns false'. Refute it at one input. -/
def vtypeUndersWrong : ChangeSpec := { name := "vtypeUnders", fn := fun _ => fun
  | [d1, d2, d3] => { results := [.lit (.bool false)], args := [d1, d2, d3] }
  | _ => none }
def VtypeUndersWrongFalsely : Prop := vtypeUndersRow.holds Tryd.pinned (OpenSpec.ofChange vtypeUndersWrong)

/-- 'samovarlaw17.VtypeMore': WHATEVER THE INPUT: true; the input reads as it did. -/
def vtypeMoreSpec : ChangeSpec := { name := "vtypeMore", fn := fun _ => fun
  | [d1, d2, d3, d4] => { results := [.lit (.bool true)], args := [d1, d2, d3, d4] }
  | _ => none }
def vtypeMoreRow : OpenClaim := { program := "ythblilhdjabhnaadoor", sum := "d0c0f9f5f609aea2a9bb27bedf5a91657b1e344366bc27fc154961d027d1029e", func := "samovar/samovarlaw17.VtypeMore", spec := "vtypeMore", inPlace := ["internal/bytealg.IndexByteString", "internal/bytealg.CountString", "internal/bytealg.IndexString"], recurses := true, named := ["unicode/utf8.first", "unicode/utf8.acceptRanges", "internal/bytealg.MaxLen"], apart := false, laid := [("unicode/utf8.acceptRanges", laid_unicode_utf8_acceptRanges), ("unicode/utf8.first", laid_unicode_utf8_first)] }
def VtypeMoreSaid : Prop := vtypeMoreRow.holds Tryd.pinned (OpenSpec.ofChange vtypeMoreSpec)

/-- ITS FALSE NEIGHBOUR: 'it returns false'. Refute it at one input. -/
def vtypeMoreWrong : ChangeSpec := { name := "vtypeMore", fn := fun _ => fun
  | [d1, d2, d3, d4] => { results := [.lit (.bool false)], args := [d1, d2, d3, d4] }
  | _ => none }
def VtypeMoreWrongFalsely : Prop := vtypeMoreRow.holds Tryd.pinned (OpenSpec.ofChange vtypeMoreWrong)

/-- 'samovarlaw17.VtypeArrays': WHATEVER THE INPUT: true; the input reads as it did. -/
def vtypeArraysSpec : ChangeSpec := { name := "vtypeArrays", fn := fun _ => fun
  | [d1, d2, d3, d4] => { results := [.lit (.bool true)], args := [d1, d2, d3, d4] }
  | _ => none }
def vtypeArraysRow : OpenClaim := { program := "ythblilhdjabhnaadoor", sum := "d0c0f9f5f609aea2a9bb27bedf5a91657b1e344366bc27fc154961d027d1029e", func := "samovar/samovarlaw17.VtypeArrays", spec := "vtypeArrays", inPlace := ["internal/bytealg.IndexByteString", "internal/bytealg.CountString", "internal/bytealg.IndexString"], recurses := true, named := ["unicode/utf8.first", "unicode/utf8.acceptRanges", "internal/bytealg.MaxLen"], apart := false, laid := [("unicode/utf8.acceptRanges", laid_unicode_utf8_acceptRanges), ("unicode/utf8.first", laid_unicode_utf8_first)] }
def VtypeArraysSaid : Prop := vtypeArraysRow.holds Tryd.pinned (OpenSpec.ofChange vtypeArraysSpec)

/-- ITS FALSE NEIGHBOUR: 'it returns false'. Refute it at one input. -/
def vtypeArraysWrong : ChangeSpec := { name := "vtypeArrays", fn := fun _ => fun
  | [d1, d2, d3, d4] => { results := [.lit (.bool false)], args := [d1, d2, d3, d4] }
  | _ => none }
def VtypeArraysWrongFalsely : Prop := vtypeArraysRow.holds Tryd.pinned (OpenSpec.ofChange vtypeArraysWrong)

/-- 'samovarlaw17.VtypeFits': WHATEVER THE INPUT: true; the input reads as it did. -/
def vtypeFitsSpec : ChangeSpec := { name := "vtypeFits", fn := fun _ => fun
  | [d1, d2, d3] => { results := [.lit (.bool true)], args := [d1, d2, d3] }
  | _ => none }
def vtypeFitsRow : OpenClaim := { program := "ythblilhdjabhnaadoor", sum := "d0c0f9f5f609aea2a9bb27bedf5a91657b1e344366bc27fc154961d027d1029e", func := "samovar/samovarlaw17.VtypeFits", spec := "vtypeFits", inPlace := ["internal/bytealg.IndexByteString", "internal/bytealg.CountString", "internal/bytealg.IndexString"], recurses := true, named := ["unicode/utf8.first", "unicode/utf8.acceptRanges", "internal/bytealg.MaxLen"], apart := false, laid := [("unicode/utf8.acceptRanges", laid_unicode_utf8_acceptRanges), ("unicode/utf8.first", laid_unicode_utf8_first)] }
def VtypeFitsSaid : Prop := vtypeFitsRow.holds Tryd.pinned (OpenSpec.ofChange vtypeFitsSpec)

/-- ITS FALSE NEIGHBOUR: 'it returns false'. Refute it at one input. -/
def vtypeFitsWrong : ChangeSpec := { name := "vtypeFits", fn := fun _ => fun
  | [d1, d2, d3] => { results := [.lit (.bool false)], args := [d1, d2, d3] }
  | _ => none }
def VtypeFitsWrongFalsely : Prop := vtypeFitsRow.holds Tryd.pinned (OpenSpec.ofChange vtypeFitsWrong)

/- THE SECOND FORM. 'bulk': how many values and letters a reading holds, each counted each time it is reached (what is shared counts as often as it is met; a slice's spare places count too). A statement '..UptoSaid' is the law's where the arguments, and the package variables that the reading takes, are together of bulk at most 1048576: NARROWER than '..Said'. Prove '..Said' where nothing that the law and all that it calls make is longer than what came in: it says more and counts as full. Else prove '..UptoSaid'. A law counts once. -/
mutual
def uptoBulk {H : Type} : DataW H → Nat
  | .lit (.string bytes) => bytes.length + 1
  | .lit _ => 1
  | .nil => 1
  | .ptr d => uptoBulk d + 1
  | .slice elems spare => uptoBulkAll elems + uptoBulkAll spare + 1
  | .agg parts => uptoBulkAll parts + 1
  | .iface _ d => uptoBulk d + 1
  | .map entries => uptoBulkEntries entries + 1
  | .held _ => 1
def uptoBulkAll {H : Type} : List (DataW H) → Nat
  | [] => 0
  | d :: r => uptoBulk d + uptoBulkAll r
def uptoBulkEntries {H : Type} : List (Lit × DataW H) → Nat
  | [] => 0
  | x :: r => uptoBulkEntry x + uptoBulkEntries r
def uptoBulkEntry {H : Type} : Lit × DataW H → Nat
  | (.string bytes, d) => bytes.length + uptoBulk d + 1
  | (_, d) => uptoBulk d + 1
 end
def uptoSmall : (H : Type) → List (DataW H) → Bool := fun _ ds => decide (uptoBulkAll ds ≤ 1048576)
def OpenSpec.upto (s : _root_.Go.ChangeSpec) : _root_.Go.OpenSpec := { _root_.Go.OpenSpec.ofChange s with cond := some uptoSmall }

/-- 'samovarlaw17.VtypeOfs', WHERE WHAT IT READS IS OF BULK AT MOST 1048576: true; the input reads as it did. -/
def vtypeOfsUptoRow : OpenClaim := { program := "ythblilhdjabhnaadoor", sum := "d0c0f9f5f609aea2a9bb27bedf5a91657b1e344366bc27fc154961d027d1029e", func := "samovar/samovarlaw17.VtypeOfs", spec := "vtypeOfs", inPlace := ["internal/bytealg.IndexByteString", "internal/bytealg.CountString", "internal/bytealg.IndexString"], recurses := true, named := ["unicode/utf8.first", "unicode/utf8.acceptRanges", "internal/bytealg.MaxLen"], apart := false, laid := [("unicode/utf8.acceptRanges", laid_unicode_utf8_acceptRanges), ("unicode/utf8.first", laid_unicode_utf8_first)], narrowed := true }
def VtypeOfsUptoSaid : Prop := vtypeOfsUptoRow.holds Tryd.pinned (OpenSpec.upto vtypeOfsSpec)

/-- 'samovarlaw17.VtypeUnders', WHERE WHAT IT READS IS OF BULK AT MOST 1048576: true; the input reads as it did. -/
def vtypeUndersUptoRow : OpenClaim := { program := "ythblilhdjabhnaadoor", sum := "d0c0f9f5f609aea2a9bb27bedf5a91657b1e344366bc27fc154961d027d1029e", func := "samovar/samovarlaw17.VtypeUnders", spec := "vtypeUnders", inPlace := ["internal/bytealg.IndexByteString", "internal/bytealg.CountString", "internal/bytealg.IndexString"], recurses := true, named := ["unicode/utf8.first", "unicode/utf8.acceptRanges", "internal/bytealg.MaxLen"], apart := false, laid := [("unicode/utf8.acceptRanges", laid_unicode_utf8_acceptRanges), ("unicode/utf8.first", laid_unicode_utf8_first)], narrowed := true }
def VtypeUndersUptoSaid : Prop := vtypeUndersUptoRow.holds Tryd.pinned (OpenSpec.upto vtypeUndersSpec)

/-- 'samovarlaw17.VtypeMore', WHERE WHAT IT READS IS OF BULK AT MOST 1048576: true; the input reads as it did. -/
def vtypeMoreUptoRow : OpenClaim := { program := "ythblilhdjabhnaadoor", sum := "d0c0f9f5f609aea2a9bb27bedf5a91657b1e344366bc27fc154961d027d1029e", func := "samovar/samovarlaw17.VtypeMore", spec := "vtypeMore", inPlace := ["internal/bytealg.IndexByteString", "internal/bytealg.CountString", "internal/bytealg.IndexString"], recurses := true, named := ["unicode/utf8.first", "unicode/utf8.acceptRanges", "internal/bytealg.MaxLen"], apart := false, laid := [("unicode/utf8.acceptRanges", laid_unicode_utf8_acceptRanges), ("unicode/utf8.first", laid_unicode_utf8_first)], narrowed := true }
def VtypeMoreUptoSaid : Prop := vtypeMoreUptoRow.holds Tryd.pinned (OpenSpec.upto vtypeMoreSpec)

/-- 'samovarlaw17.VtypeArrays', WHERE WHAT IT READS IS OF BULK AT MOST 1048576: true; the input reads as it did. -/
def vtypeArraysUptoRow : OpenClaim := { program := "ythblilhdjabhnaadoor", sum := "d0c0f9f5f609aea2a9bb27bedf5a91657b1e344366bc27fc154961d027d1029e", func := "samovar/samovarlaw17.VtypeArrays", spec := "vtypeArrays", inPlace := ["internal/bytealg.IndexByteString", "internal/bytealg.CountString", "internal/bytealg.IndexString"], recurses := true, named := ["unicode/utf8.first", "unicode/utf8.acceptRanges", "internal/bytealg.MaxLen"], apart := false, laid := [("unicode/utf8.acceptRanges", laid_unicode_utf8_acceptRanges), ("unicode/utf8.first", laid_unicode_utf8_first)], narrowed := true }
def VtypeArraysUptoSaid : Prop := vtypeArraysUptoRow.holds Tryd.pinned (OpenSpec.upto vtypeArraysSpec)

/-- 'samovarlaw17.VtypeFits', WHERE WHAT IT READS IS OF BULK AT MOST 1048576: true; the input reads as it did. -/
def vtypeFitsUptoRow : OpenClaim := { program := "ythblilhdjabhnaadoor", sum := "d0c0f9f5f609aea2a9bb27bedf5a91657b1e344366bc27fc154961d027d1029e", func := "samovar/samovarlaw17.VtypeFits", spec := "vtypeFits", inPlace := ["internal/bytealg.IndexByteString", "internal/bytealg.CountString", "internal/bytealg.IndexString"], recurses := true, named := ["unicode/utf8.first", "unicode/utf8.acceptRanges", "internal/bytealg.MaxLen"], apart := false, laid := [("unicode/utf8.acceptRanges", laid_unicode_utf8_acceptRanges), ("unicode/utf8.first", laid_unicode_utf8_first)], narrowed := true }
def VtypeFitsUptoSaid : Prop := vtypeFitsUptoRow.holds Tryd.pinned (OpenSpec.upto vtypeFitsSpec)

end Rows
end Go.Proofs.YthblilhdjabhnaaDoor
