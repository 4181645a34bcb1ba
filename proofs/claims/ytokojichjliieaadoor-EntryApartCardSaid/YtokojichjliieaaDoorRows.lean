/-
  NARROWER THAN 'FOR EVERY INPUT', by the rows' own cells (each row's printed sentence says how): ArchiveReads: laid · ArchiveNames: laid · ArchiveApart: laid · ArchiveTurned: laid · EntryUnpacks: laid · EntryFinds: laid · EntryHolds: laid · EntryStored: laid · EntryApart: laid.
  DERIVED. THE GIVEN ROWS OF THIS SEAT. 9 by the template 'for every input the law returns true; each argument reads behind the call as it read before'; 0 by the template 'total and deterministic' (their statements: YtokojichjliieaaDoorTotals.lean).
  GIVEN WITH THE SEED: the statements are not yours to turn. If you find one false, say at which input.
  Laid BY PROGRAM, IN A SANDBOX (cutbox-rows.mjs): the forced cells as the released guide's own fill.sh prints them over the translation 7c4e13f3063688c9… (all of the seat's roots in one cut). By AI agents, Wed Nov 11 2026. No macro, syntax, notation, axiom, sorry.
-/
import Derived.Test.YtokojichjliieaaDoorChecked
import GoSem.PinnedTables
import GoSem.Claim
import GoSem.ClaimJoined
import GoSem.ClaimMapViews
import Derived.JoinedTies
import Derived.KernelRfl
namespace Go.Proofs.YtokojichjliieaaDoor
/- THE CELL 'sum', in the pinned program and in every row, IS THE sha256 OF THE DUMP (.gsa) THAT YtokojichjliieaaDoorProg.lean LOADS. Nothing in Lean hashes anything: it is a label: what it is worth is what the hold of that sum in a sandbox is worth. -/
noncomputable def Tryd.pinned : Pinned := { name := "ytokojichjliieaadoor", sum := "7c4e13f3063688c974e576d8f441dbb37368b1c37994893850a707e16485227a", checked := Tryd.checked }
namespace Rows
def none {H : Type} : Left H := { results := [], args := [] }

/- WHAT THE LISTED PACKAGE-LEVEL VARIABLES READ AS WHEN THE CALL BEGINS. Each datum BY PROGRAM (the guide's laid-datum.mjs) off the statement by which the dump's own 'gosem.cut.vars' lays the variable. In a bare row this is a premise. The card (YtokojichjliieaaDoorCards.lean) ties it to the program's text. -/
def laid_unicode_utf8_acceptRanges {H : Type} : DataW H := .agg [.agg [.lit (.int .u8 128), .lit (.int .u8 191)], .agg [.lit (.int .u8 160), .lit (.int .u8 191)], .agg [.lit (.int .u8 128), .lit (.int .u8 159)], .agg [.lit (.int .u8 144), .lit (.int .u8 191)], .agg [.lit (.int .u8 128), .lit (.int .u8 143)], .agg [.lit (.int .u8 0), .lit (.int .u8 0)], .agg [.lit (.int .u8 0), .lit (.int .u8 0)], .agg [.lit (.int .u8 0), .lit (.int .u8 0)], .agg [.lit (.int .u8 0), .lit (.int .u8 0)], .agg [.lit (.int .u8 0), .lit (.int .u8 0)], .agg [.lit (.int .u8 0), .lit (.int .u8 0)], .agg [.lit (.int .u8 0), .lit (.int .u8 0)], .agg [.lit (.int .u8 0), .lit (.int .u8 0)], .agg [.lit (.int .u8 0), .lit (.int .u8 0)], .agg [.lit (.int .u8 0), .lit (.int .u8 0)], .agg [.lit (.int .u8 0), .lit (.int .u8 0)]]
/-- One of Go's own tables, pinned by name: the form's constant. -/
def laid_unicode_utf8_first : DataW Unit := Go.Pinned.utf8First

/-- 'samovarlaw09.ArchiveReads': WHATEVER THE INPUT: true; the input reads as it did. -/
def archiveReadsSpec : ChangeSpec := { name := "archiveReads", fn := fun _ => fun
  | [d] => { results := [.lit (.bool true)], args := [d] }
  | _ => none }
def archiveReadsRow : OpenClaim := { program := "ytokojichjliieaadoor", sum := "7c4e13f3063688c974e576d8f441dbb37368b1c37994893850a707e16485227a", func := "samovar/samovarlaw09.ArchiveReads", spec := "archiveReads", inPlace := ["internal/bytealg.IndexByteString", "internal/bytealg.CountString", "internal/bytealg.IndexString"], unfollowed := true, recurses := true, named := ["unicode/utf8.first", "unicode/utf8.acceptRanges", "internal/bytealg.MaxLen"], plainKeys := false, apart := false, laid := [("unicode/utf8.acceptRanges", laid_unicode_utf8_acceptRanges), ("unicode/utf8.first", laid_unicode_utf8_first)] }
def ArchiveReadsSaid : Prop := archiveReadsRow.holds Tryd.pinned (OpenSpec.ofChange archiveReadsSpec)

/-- ITS FALSE NEIGHBOUR: 'it returns false'. Refute it at one input. -/
def archiveReadsWrong : ChangeSpec := { name := "archiveReads", fn := fun _ => fun
  | [d] => { results := [.lit (.bool false)], args := [d] }
  | _ => none }
def ArchiveReadsWrongFalsely : Prop := archiveReadsRow.holds Tryd.pinned (OpenSpec.ofChange archiveReadsWrong)

/-- 'samovarlaw09.ArchiveNames': WHATEVER THE INPUT: true; the input reads as it did. -/
def archiveNamesSpec : ChangeSpec := { name := "archiveNames", fn := fun _ => fun
  | [d] => { results := [.lit (.bool true)], args := [d] }
  | _ => none }
def archiveNamesRow : OpenClaim := { program := "ytokojichjliieaadoor", sum := "7c4e13f3063688c974e576d8f441dbb37368b1c37994893850a707e16485227a", func := "samovar/samovarlaw09.ArchiveNames", spec := "archiveNames", inPlace := ["internal/bytealg.IndexByteString", "internal/bytealg.CountString", "internal/bytealg.IndexString"], unfollowed := true, recurses := true, named := ["unicode/utf8.first", "unicode/utf8.acceptRanges", "internal/bytealg.MaxLen"], plainKeys := false, apart := false, laid := [("unicode/utf8.acceptRanges", laid_unicode_utf8_acceptRanges), ("unicode/utf8.first", laid_unicode_utf8_first)] }
def ArchiveNamesSaid : Prop := archiveNamesRow.holds Tryd.pinned (OpenSpec.ofChange archiveNamesSpec)

/-- ITS FALSE NEIGHBOUR: 'it returns false'. Refute it at one input. -/
def archiveNamesWrong : ChangeSpec := { name := "archiveNames", fn := fun _ => fun
  | [d] => { results := [.lit (.bool false)], args := [d] }
  | _ => none }
def ArchiveNamesWrongFalsely : Prop := archiveNamesRow.holds Tryd.pinned (OpenSpec.ofChange archiveNamesWrong)

/-- 'samovarlaw09.ArchiveApart': WHATEVER THE INPUT: true; the input reads as it did. -/
def archiveApartSpec : ChangeSpec := { name := "archiveApart", fn := fun _ => fun
  | [d] => { results := [.lit (.bool true)], args := [d] }
  | _ => none }
def archiveApartRow : OpenClaim := { program := "ytokojichjliieaadoor", sum := "7c4e13f3063688c974e576d8f441dbb37368b1c37994893850a707e16485227a", func := "samovar/samovarlaw09.ArchiveApart", spec := "archiveApart", inPlace := ["internal/bytealg.IndexByteString", "internal/bytealg.CountString", "internal/bytealg.IndexString"], unfollowed := true, recurses := true, named := ["unicode/utf8.first", "unicode/utf8.acceptRanges", "internal/bytealg.MaxLen"], plainKeys := false, apart := false, laid := [("unicode/utf8.acceptRanges", laid_unicode_utf8_acceptRanges), ("unicode/utf8.first", laid_unicode_utf8_first)] }
def ArchiveApartSaid : Prop := archiveApartRow.holds Tryd.pinned (OpenSpec.ofChange archiveApartSpec)

/-- ITS FALSE NEIGHBOUR: 'it returns false'. Refute it at one input. -/
def archiveApartWrong : ChangeSpec := { name := "archiveApart", fn := fun _ => fun
  | [d] => { results := [.lit (.bool false)], args := [d] }
  | _ => none }
def ArchiveApartWrongFalsely : Prop := archiveApartRow.holds Tryd.pinned (OpenSpec.ofChange archiveApartWrong)

/-- 'samovarlaw09.ArchiveTurned': WHATEVER THE INPUT: true; the input reads as it did. -/
def archiveTurnedSpec : ChangeSpec := { name := "archiveTurned", fn := fun _ => fun
  | [d1, d2, d3] => { results := [.lit (.bool true)], args := [d1, d2, d3] }
  | _ => none }
def archiveTurnedRow : OpenClaim := { program := "ytokojichjliieaadoor", sum := "7c4e13f3063688c974e576d8f441dbb37368b1c37994893850a707e16485227a", func := "samovar/samovarlaw09.ArchiveTurned", spec := "archiveTurned", inPlace := ["internal/bytealg.IndexByteString", "internal/bytealg.CountString", "internal/bytealg.IndexString"], unfollowed := true, recurses := true, named := ["unicode/utf8.first", "unicode/utf8.acceptRanges", "internal/bytealg.MaxLen"], plainKeys := false, apart := false, laid := [("unicode/utf8.acceptRanges", laid_unicode_utf8_acceptRanges), ("unicode/utf8.first", laid_unicode_utf8_first)] }
def ArchiveTurnedSaid : Prop := archiveTurnedRow.holds Tryd.pinned (OpenSpec.ofChange archiveTurnedSpec)

/-- ITS FALSE NEIGHBOUR: 'it returns false'. Refute it at one input. -/
def archiveTurnedWrong : ChangeSpec := { name := "archiveTurned", fn := fun _ => fun
  | [d1, d2, d3] => { results := [.lit (.bool false)], args := [d1, d2, d3] }
  | _ => none }
def ArchiveTurnedWrongFalsely : Prop := archiveTurnedRow.holds Tryd.pinned (OpenSpec.ofChange archiveTurnedWrong)

/-- 'samovarlaw10.EntryUnpacks': WHATEVER THE INPUT: true; the input reads as it did. -/
def entryUnpacksSpec : ChangeSpec := { name := "entryUnpacks", fn := fun _ => fun
  | [d1, d2] => { results := [.lit (.bool true)], args := [d1, d2] }
  | _ => none }
def entryUnpacksRow : OpenClaim := { program := "ytokojichjliieaadoor", sum := "7c4e13f3063688c974e576d8f441dbb37368b1c37994893850a707e16485227a", func := "samovar/samovarlaw10.EntryUnpacks", spec := "entryUnpacks", inPlace := ["internal/bytealg.IndexByteString", "internal/bytealg.CountString", "internal/bytealg.IndexString"], unfollowed := true, recurses := true, named := ["unicode/utf8.first", "unicode/utf8.acceptRanges", "internal/bytealg.MaxLen"], plainKeys := false, apart := false, laid := [("unicode/utf8.acceptRanges", laid_unicode_utf8_acceptRanges), ("unicode/utf8.first", laid_unicode_utf8_first)] }
def EntryUnpacksSaid : Prop := entryUnpacksRow.holds Tryd.pinned (OpenSpec.ofChange entryUnpacksSpec)

/-- ITS FALSE NEIGHBOUR: 'it returns false'. Refute it at one input. -/
def entryUnpacksWrong : ChangeSpec := { name := "entryUnpacks", fn := fun _ => fun
  | [d1, d2] => { results := [.lit (.bool false)], args := [d1, d2] }
  | _ => none }
def EntryUnpacksWrongFalsely : Prop := entryUnpacksRow.holds Tryd.pinned (OpenSpec.ofChange entryUnpacksWrong)

/-- 'samovarlaw10.EntryFinds': WHATEVER THE INPUT: true; the input reads as it did. -/
def entryFindsSpec : ChangeSpec := { name := "entryFinds", fn := fun _ => fun
  | [d1, d2] => { results := [.lit (.bool true)], args := [d1, d2] }
  | _ => none }
def entryFindsRow : OpenClaim := { program := "ytokojichjliieaadoor", sum := "7c4e13f3063688c974e576d8f441dbb37368b1c37994893850a707e16485227a", func := "samovar/samovarlaw10.EntryFinds", spec := "entryFinds", inPlace := ["internal/bytealg.IndexByteString", "internal/bytealg.CountString", "internal/bytealg.IndexString"], unfollowed := true, recurses := true, named := ["unicode/utf8.first", "unicode/utf8.acceptRanges", "internal/bytealg.MaxLen"], plainKeys := false, apart := false, laid := [("unicode/utf8.acceptRanges", laid_unicode_utf8_acceptRanges), ("unicode/utf8.first", laid_unicode_utf8_first)] }
def EntryFindsSaid : Prop := entryFindsRow.holds Tryd.pinned (OpenSpec.ofChange entryFindsSpec)

/-- ITS FALSE NEIGHBOUR: 'it returns false'. Refute it at one input. -/
def entryFindsWrong : ChangeSpec := { name := "entryFinds", fn := fun _ => fun
  | [d1, d2] => { results := [.lit (.bool false)], args := [d1, d2] }
  | _ => none }
def EntryFindsWrongFalsely : Prop := entryFindsRow.holds Tryd.pinned (OpenSpec.ofChange entryFindsWrong)

/-- 'samovarlaw10.EntryHolds': WHATEVER THE INPUT: true; the input reads as it did. -/
def entryHoldsSpec : ChangeSpec := { name := "entryHolds", fn := fun _ => fun
  | [d1, d2] => { results := [.lit (.bool true)], args := [d1, d2] }
  | _ => none }
def entryHoldsRow : OpenClaim := { program := "ytokojichjliieaadoor", sum := "7c4e13f3063688c974e576d8f441dbb37368b1c37994893850a707e16485227a", func := "samovar/samovarlaw10.EntryHolds", spec := "entryHolds", inPlace := ["internal/bytealg.IndexByteString", "internal/bytealg.CountString", "internal/bytealg.IndexString"], unfollowed := true, recurses := true, named := ["unicode/utf8.first", "unicode/utf8.acceptRanges", "internal/bytealg.MaxLen"], plainKeys := false, apart := false, laid := [("unicode/utf8.acceptRanges", laid_unicode_utf8_acceptRanges), ("unicode/utf8.first", laid_unicode_utf8_first)] }
def EntryHoldsSaid : Prop := entryHoldsRow.holds Tryd.pinned (OpenSpec.ofChange entryHoldsSpec)

/-- ITS FALSE NEIGHBOUR: 'it returns false'. Refute it at one input. -/
def entryHoldsWrong : ChangeSpec := { name := "entryHolds", fn := fun _ => fun
  | [d1, d2] => { results := [.lit (.bool false)], args := [d1, d2] }
  | _ => none }
def EntryHoldsWrongFalsely : Prop := entryHoldsRow.holds Tryd.pinned (OpenSpec.ofChange entryHoldsWrong)

/-- 'samovarlaw10.EntryStored': WHATEVER THE INPUT: true; the input reads as it did. -/
def entryStoredSpec : ChangeSpec := { name := "entryStored", fn := fun _ => fun
  | [d1, d2, d3] => { results := [.lit (.bool true)], args := [d1, d2, d3] }
  | _ => none }
def entryStoredRow : OpenClaim := { program := "ytokojichjliieaadoor", sum := "7c4e13f3063688c974e576d8f441dbb37368b1c37994893850a707e16485227a", func := "samovar/samovarlaw10.EntryStored", spec := "entryStored", inPlace := ["internal/bytealg.IndexByteString", "internal/bytealg.CountString", "internal/bytealg.IndexString"], unfollowed := true, recurses := true, named := ["unicode/utf8.first", "unicode/utf8.acceptRanges", "internal/bytealg.MaxLen"], plainKeys := false, apart := false, laid := [("unicode/utf8.acceptRanges", laid_unicode_utf8_acceptRanges), ("unicode/utf8.first", laid_unicode_utf8_first)] }
def EntryStoredSaid : Prop := entryStoredRow.holds Tryd.pinned (OpenSpec.ofChange entryStoredSpec)

/-- ITS FALSE NEIGHBOUR: 'it returns false'. Refute it at one input. -/
def entryStoredWrong : ChangeSpec := { name := "entryStored", fn := fun _ => fun
  | [d1, d2, d3] => { results := [.lit (.bool false)], args := [d1, d2, d3] }
  | _ => none }
def EntryStoredWrongFalsely : Prop := entryStoredRow.holds Tryd.pinned (OpenSpec.ofChange entryStoredWrong)

/-- 'samovarlaw10.EntryApart': WHATEVER THE INPUT: true; the input reads as it did. -/
def entryApartSpec : ChangeSpec := { name := "entryApart", fn := fun _ => fun
  | [d1, d2, d3, d4] => { results := [.lit (.bool true)], args := [d1, d2, d3, d4] }
  | _ => none }
def entryApartRow : OpenClaim := { program := "ytokojichjliieaadoor", sum := "7c4e13f3063688c974e576d8f441dbb37368b1c37994893850a707e16485227a", func := "samovar/samovarlaw10.EntryApart", spec := "entryApart", inPlace := ["internal/bytealg.IndexByteString", "internal/bytealg.CountString", "internal/bytealg.IndexString"], unfollowed := true, recurses := true, named := ["unicode/utf8.first", "unicode/utf8.acceptRanges", "internal/bytealg.MaxLen"], plainKeys := false, apart := false, laid := [("unicode/utf8.acceptRanges", laid_unicode_utf8_acceptRanges), ("unicode/utf8.first", laid_unicode_utf8_first)] }
def EntryApartSaid : Prop := entryApartRow.holds Tryd.pinned (OpenSpec.ofChange entryApartSpec)

/-- ITS FALSE NEIGHBOUR: 'it returns false'. Refute it at one input. -/
def entryApartWrong : ChangeSpec := { name := "entryApart", fn := fun _ => fun
  | [d1, d2, d3, d4] => { results := [.lit (.bool false)], args := [d1, d2, d3, d4] }
  | _ => none }
def EntryApartWrongFalsely : Prop := entryApartRow.holds Tryd.pinned (OpenSpec.ofChange entryApartWrong)

/- THE SECOND FORM. 'bulk': how many values and letters a reading holds, each counted each time it is reached (what is shared counts as often as it is met; a slice's spare places count too). A statement '..UptoSaid' is the law's where the arguments, and the package variables that the reading takes, are together of bulk at most 1048576: NARROWER than '..Said'. Prove '..Said' where nothing that the law and all that it calls make is longer than what came in: it says more and counts as full. Else prove '..UptoSaid'. A law counts once. -/
mutual
def uptoBulk {H : Type} : DataW H → Nat
  | .lit (.string bytes) => bytes.length + 1
  | .lit _ => 1
  | .nil => 1
  | .ptr d => uptoBulk d + 1
  | .slice elems spare => uptoBulkAll elems + uptoBulkAll spare + 1
  | .agg parts => uptoBulkAll parts + 1
  | .iface _ d => uptoBulk d + 1
  | .map entries => uptoBulkEntries entries + 1
  | .held _ => 1
def uptoBulkAll {H : Type} : List (DataW H) → Nat
  | [] => 0
  | d :: r => uptoBulk d + uptoBulkAll r
def uptoBulkEntries {H : Type} : List (Lit × DataW H) → Nat
  | [] => 0
  | x :: r => uptoBulkEntry x + uptoBulkEntries r
def uptoBulkEntry {H : Type} : Lit × DataW H → Nat
  | (.string bytes, d) => bytes.length + uptoBulk d + 1
  | (_, d) => uptoBulk d + 1
 end
def uptoSmall : (H : Type) → List (DataW H) → Bool := fun _ ds => decide (uptoBulkAll ds ≤ 1048576)
def OpenSpec.upto (s : _root_.Go.ChangeSpec) : _root_.Go.OpenSpec := { _root_.Go.OpenSpec.ofChange s with cond := some uptoSmall }

/-- 'samovarlaw09.ArchiveReads', WHERE WHAT IT READS IS OF BULK AT MOST 1048576: true; the input reads as it did. -/
def archiveReadsUptoRow : OpenClaim := { program := "ytokojichjliieaadoor", sum := "7c4e13f3063688c974e576d8f441dbb37368b1c37994893850a707e16485227a", func := "samovar/samovarlaw09.ArchiveReads", spec := "archiveReads", inPlace := ["internal/bytealg.IndexByteString", "internal/bytealg.CountString", "internal/bytealg.IndexString"], unfollowed := true, recurses := true, named := ["unicode/utf8.first", "unicode/utf8.acceptRanges", "internal/bytealg.MaxLen"], plainKeys := false, apart := false, laid := [("unicode/utf8.acceptRanges", laid_unicode_utf8_acceptRanges), ("unicode/utf8.first", laid_unicode_utf8_first)], narrowed := true }
def ArchiveReadsUptoSaid : Prop := archiveReadsUptoRow.holds Tryd.pinned (OpenSpec.upto archiveReadsSpec)

/-- 'samovarlaw09.ArchiveNames', WHERE WHAT IT READS IS OF BULK AT MOST 1048576: true; the input reads as it did. -/
def archiveNamesUptoRow : OpenClaim := { program := "ytokojichjliieaadoor", sum := "7c4e13f3063688c974e576d8f441dbb37368b1c37994893850a707e16485227a", func := "samovar/samovarlaw09.ArchiveNames", spec := "archiveNames", inPlace := ["internal/bytealg.IndexByteString", "internal/bytealg.CountString", "internal/bytealg.IndexString"], unfollowed := true, recurses := true, named := ["unicode/utf8.first", "unicode/utf8.acceptRanges", "internal/bytealg.MaxLen"], plainKeys := false, apart := false, laid := [("unicode/utf8.acceptRanges", laid_unicode_utf8_acceptRanges), ("unicode/utf8.first", laid_unicode_utf8_first)], narrowed := true }
def ArchiveNamesUptoSaid : Prop := archiveNamesUptoRow.holds Tryd.pinned (OpenSpec.upto archiveNamesSpec)

/-- 'samovarlaw09.ArchiveApart', WHERE WHAT IT READS IS OF BULK AT MOST 1048576: true; the input reads as it did. -/
def archiveApartUptoRow : OpenClaim := { program := "ytokojichjliieaadoor", sum := "7c4e13f3063688c974e576d8f441dbb37368b1c37994893850a707e16485227a", func := "samovar/samovarlaw09.ArchiveApart", spec := "archiveApart", inPlace := ["internal/bytealg.IndexByteString", "internal/bytealg.CountString", "internal/bytealg.IndexString"], unfollowed := true, recurses := true, named := ["unicode/utf8.first", "unicode/utf8.acceptRanges", "internal/bytealg.MaxLen"], plainKeys := false, apart := false, laid := [("unicode/utf8.acceptRanges", laid_unicode_utf8_acceptRanges), ("unicode/utf8.first", laid_unicode_utf8_first)], narrowed := true }
def ArchiveApartUptoSaid : Prop := archiveApartUptoRow.holds Tryd.pinned (OpenSpec.upto archiveApartSpec)

/-- 'samovarlaw09.ArchiveTurned', WHERE WHAT IT READS IS OF BULK AT MOST 1048576: true; the input reads as it did. -/
def archiveTurnedUptoRow : OpenClaim := { program := "ytokojichjliieaadoor", sum := "7c4e13f3063688c974e576d8f441dbb37368b1c37994893850a707e16485227a", func := "samovar/samovarlaw09.ArchiveTurned", spec := "archiveTurned", inPlace := ["internal/bytealg.IndexByteString", "internal/bytealg.CountString", "internal/bytealg.IndexString"], unfollowed := true, recurses := true, named := ["unicode/utf8.first", "unicode/utf8.acceptRanges", "internal/bytealg.MaxLen"], plainKeys := false, apart := false, laid := [("unicode/utf8.acceptRanges", laid_unicode_utf8_acceptRanges), ("unicode/utf8.first", laid_unicode_utf8_first)], narrowed := true }
def ArchiveTurnedUptoSaid : Prop := archiveTurnedUptoRow.holds Tryd.pinned (OpenSpec.upto archiveTurnedSpec)

/-- 'samovarlaw10.EntryUnpacks', WHERE WHAT IT READS IS OF BULK AT MOST 1048576: true; the input reads as it did. -/
def entryUnpacksUptoRow : OpenClaim := { program := "ytokojichjliieaadoor", sum := "7c4e13f3063688c974e576d8f441dbb37368b1c37994893850a707e16485227a", func := "samovar/samovarlaw10.EntryUnpacks", spec := "entryUnpacks", inPlace := ["internal/bytealg.IndexByteString", "internal/bytealg.CountString", "internal/bytealg.IndexString"], unfollowed := true, recurses := true, named := ["unicode/utf8.first", "unicode/utf8.acceptRanges", "internal/bytealg.MaxLen"], plainKeys := false, apart := false, laid := [("unicode/utf8.acceptRanges", laid_unicode_utf8_acceptRanges), ("unicode/utf8.first", laid_unicode_utf8_first)], narrowed := true }
def EntryUnpacksUptoSaid : Prop := entryUnpacksUptoRow.holds Tryd.pinned (OpenSpec.upto entryUnpacksSpec)

/-- 'samovarlaw10.EntryFinds', WHERE WHAT IT READS IS OF BULK AT MOST 1048576: true; the input reads as it did. -/
def entryFindsUptoRow : OpenClaim := { program := "ytokojichjliieaadoor", sum := "7c4e13f3063688c974e576d8f441dbb37368b1c37994893850a707e16485227a", func := "samovar/samovarlaw10.EntryFinds", spec := "entryFinds", inPlace := ["internal/bytealg.IndexByteString", "internal/bytealg.CountString", "internal/bytealg.IndexString"], unfollowed := true, recurses := true, named := ["unicode/utf8.first", "unicode/utf8.acceptRanges", "internal/bytealg.MaxLen"], plainKeys := false, apart := false, laid := [("unicode/utf8.acceptRanges", laid_unicode_utf8_acceptRanges), ("unicode/utf8.first", laid_unicode_utf8_first)], narrowed := true }
def EntryFindsUptoSaid : Prop := entryFindsUptoRow.holds Tryd.pinned (OpenSpec.upto entryFindsSpec)

/-- 'samovarlaw10.EntryHolds', WHERE WHAT IT READS IS OF BULK AT MOST 1048576: true; the input reads as it did. -/
def entryHoldsUptoRow : OpenClaim := { program := "ytokojichjliieaadoor", sum := "7c4e13f3063688c974e576d8f441dbb37368b1c37994893850a707e16485227a", func := "samovar/samovarlaw10.EntryHolds", spec := "entryHolds", inPlace := ["internal/bytealg.IndexByteString", "internal/bytealg.CountString", "internal/bytealg.IndexString"], unfollowed := true, recurses := true, named := ["unicode/utf8.first", "unicode/utf8.acceptRanges", "internal/bytealg.MaxLen"], plainKeys := false, apart := false, laid := [("unicode/utf8.acceptRanges", laid_unicode_utf8_acceptRanges), ("unicode/utf8.first", laid_unicode_utf8_first)], narrowed := true }
def EntryHoldsUptoSaid : Prop := entryHoldsUptoRow.holds Tryd.pinned (OpenSpec.upto entryHoldsSpec)

/-- 'samovarlaw10.EntryStored', WHERE WHAT IT READS IS OF BULK AT MOST 1048576: true; the input reads as it did. -/
def entryStoredUptoRow : OpenClaim := { program := "ytokojichjliieaadoor", sum := "7c4e13f3063688c974e576d8f441dbb37368b1c37994893850a707e16485227a", func := "samovar/samovarlaw10.EntryStored", spec := "entryStored", inPlace := ["internal/bytealg.IndexByteString", "internal/bytealg.CountString", "internal/bytealg.IndexString"], unfollowed := true, recurses := true, named := ["unicode/utf8.first", "unicode/utf8.acceptRanges", "internal/bytealg.MaxLen"], plainKeys := false, apart := false, laid := [("unicode/utf8.acceptRanges", laid_unicode_utf8_acceptRanges), ("unicode/utf8.first", laid_unicode_utf8_first)], narrowed := true }
def EntryStoredUptoSaid : Prop := entryStoredUptoRow.holds Tryd.pinned (OpenSpec.upto entryStoredSpec)

/-- 'samovarlaw10.EntryApart', WHERE WHAT IT READS IS OF BULK AT MOST 1048576: true; the input reads as it did. -/
def entryApartUptoRow : OpenClaim := { program := "ytokojichjliieaadoor", sum := "7c4e13f3063688c974e576d8f441dbb37368b1c37994893850a707e16485227a", func := "samovar/samovarlaw10.EntryApart", spec := "entryApart", inPlace := ["internal/bytealg.IndexByteString", "internal/bytealg.CountString", "internal/bytealg.IndexString"], unfollowed := true, recurses := true, named := ["unicode/utf8.first", "unicode/utf8.acceptRanges", "internal/bytealg.MaxLen"], plainKeys := false, apart := false, laid := [("unicode/utf8.acceptRanges", laid_unicode_utf8_acceptRanges), ("unicode/utf8.first", laid_unicode_utf8_first)], narrowed := true }
def EntryApartUptoSaid : Prop := entryApartUptoRow.holds Tryd.pinned (OpenSpec.upto entryApartSpec)

end Rows
end Go.Proofs.YtokojichjliieaaDoor
