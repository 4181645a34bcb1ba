/-
  NARROWER THAN 'FOR EVERY INPUT', by the rows' own cells (each row's printed sentence says how): KlassBack: laid · CheckMore: laid · CheckTops: laid · CheckBare: laid.
  DERIVED. THE GIVEN ROWS OF THIS SEAT. 4 by the template 'for every input the law returns true; each argument reads behind the call as it read before'; 0 by the template 'total and deterministic' (their statements: YtpmfiegfbmamiaaGreatDoorTotals.lean).
  GIVEN WITH THE SEED: the statements are not yours to turn. If you find one false, say at which input.
  Laid BY PROGRAM, IN A SANDBOX (cutbox-rows.mjs): the forced cells as the released guide's own fill.sh prints them over the translation 3e53127f686f7c5d… (all of the seat's roots in one cut). By AI agents, Wed Nov 11 2026. No macro, syntax, notation, axiom, sorry.
-/
import Derived.Test.YtpmfiegfbmamiaaGreatDoorChecked
import GoSem.PinnedTables
import GoSem.Claim
import GoSem.ClaimJoined
import GoSem.ClaimMapViews
import Derived.JoinedTies
import Derived.KernelRfl
namespace Go.Proofs.YtpmfiegfbmamiaaGreatDoor
/- THE CELL 'sum', in the pinned program and in every row, IS THE sha256 OF THE DUMP (.gsa) THAT YtpmfiegfbmamiaaGreatDoorProg.lean LOADS. Nothing in Lean hashes anything: it is a label: what it is worth is what the hold of that sum in a sandbox is worth. -/
noncomputable def Tryz.pinned : Pinned := { name := "ytpmfiegfbmamiaagreatdoor", sum := "3e53127f686f7c5db3284a50b6cfea4bb5359741813de804628efa9fef8b66f8", checked := Tryz.checked }
namespace Rows
def none {H : Type} : Left H := { results := [], args := [] }

/- WHAT THE LISTED PACKAGE-LEVEL VARIABLES READ AS WHEN THE CALL BEGINS. Each datum BY PROGRAM (the guide's laid-datum.mjs) off the statement by which the dump's own 'gosem.cut.vars' lays the variable. In a bare row this is a premise. The card (YtpmfiegfbmamiaaGreatDoorCards.lean) ties it to the program's text. -/
def laid_unicode_utf8_acceptRanges {H : Type} : DataW H := .agg [.agg [.lit (.int .u8 128), .lit (.int .u8 191)], .agg [.lit (.int .u8 160), .lit (.int .u8 191)], .agg [.lit (.int .u8 128), .lit (.int .u8 159)], .agg [.lit (.int .u8 144), .lit (.int .u8 191)], .agg [.lit (.int .u8 128), .lit (.int .u8 143)], .agg [.lit (.int .u8 0), .lit (.int .u8 0)], .agg [.lit (.int .u8 0), .lit (.int .u8 0)], .agg [.lit (.int .u8 0), .lit (.int .u8 0)], .agg [.lit (.int .u8 0), .lit (.int .u8 0)], .agg [.lit (.int .u8 0), .lit (.int .u8 0)], .agg [.lit (.int .u8 0), .lit (.int .u8 0)], .agg [.lit (.int .u8 0), .lit (.int .u8 0)], .agg [.lit (.int .u8 0), .lit (.int .u8 0)], .agg [.lit (.int .u8 0), .lit (.int .u8 0)], .agg [.lit (.int .u8 0), .lit (.int .u8 0)], .agg [.lit (.int .u8 0), .lit (.int .u8 0)]]
/-- One of Go's own tables, pinned by name: the form's constant. -/
def laid_unicode_utf8_first : DataW Unit := Go.Pinned.utf8First
def laid_samovar_check_intType {H : Type} : DataW H := .agg [.lit (.int .i64 1), .lit (.string []), .lit (.int .i64 0)]
def laid_samovar_check_longType {H : Type} : DataW H := .agg [.lit (.int .i64 4), .lit (.string []), .lit (.int .i64 0)]
def laid_samovar_check_nullType {H : Type} : DataW H := .agg [.lit (.int .i64 5), .lit (.string []), .lit (.int .i64 0)]
def laid_samovar_check_nothing {H : Type} : DataW H := .agg [.lit (.int .i64 0), .lit (.string []), .lit (.int .i64 0)]

/-- 'samovarlaw15.KlassBack': WHATEVER THE INPUT: true; the input reads as it did. -/
def klassBackSpec : ChangeSpec := { name := "klassBack", fn := fun _ => fun
  | [d] => { results := [.lit (.bool true)], args := [d] }
  | _ => none }
def klassBackRow : OpenClaim := { program := "ytpmfiegfbmamiaagreatdoor", sum := "3e53127f686f7c5db3284a50b6cfea4bb5359741813de804628efa9fef8b66f8", func := "samovar/samovarlaw15.KlassBack", spec := "klassBack", inPlace := ["internal/bytealg.CountString", "internal/bytealg.IndexByteString", "internal/bytealg.IndexString"], unfollowed := true, recurses := true, named := ["unicode/utf8.first", "unicode/utf8.acceptRanges", "internal/bytealg.MaxLen"], plainKeys := false, apart := false, laid := [("unicode/utf8.acceptRanges", laid_unicode_utf8_acceptRanges), ("unicode/utf8.first", laid_unicode_utf8_first)] }
def KlassBackSaid : Prop := klassBackRow.holds Tryz.pinned (OpenSpec.ofChange klassBackSpec)

/-- ITS FALSE NEIGHBOUR: 'it returns false'. Refute it at one input. -/
def klassBackWrong : ChangeSpec := { name := "klassBack", fn := fun _ => fun
  | [d] => { results := [.lit (.bool false)], args := [d] }
  | _ => none }
def KlassBackWrongFalsely : Prop := klassBackRow.holds Tryz.pinned (OpenSpec.ofChange klassBackWrong)

/-- 'samovarlaw18.CheckMore': WHATEVER THE INPUT: true; the input reads as it did. -/
def checkMoreSpec : ChangeSpec := { name := "checkMore", fn := fun _ => fun
  | [d1, d2, d3] => { results := [.lit (.bool true)], args := [d1, d2, d3] }
  | _ => none }
def checkMoreRow : OpenClaim := { program := "ytpmfiegfbmamiaagreatdoor", sum := "3e53127f686f7c5db3284a50b6cfea4bb5359741813de804628efa9fef8b66f8", func := "samovar/samovarlaw18.CheckMore", spec := "checkMore", inPlace := ["internal/bytealg.CountString", "internal/bytealg.IndexByteString", "internal/bytealg.IndexString"], unfollowed := true, recurses := true, named := ["unicode/utf8.first", "unicode/utf8.acceptRanges", "internal/bytealg.MaxLen", "samovar/check.nothing", "samovar/check.intType", "samovar/check.longType", "samovar/check.nullType"], plainKeys := false, apart := false, laid := [("unicode/utf8.acceptRanges", laid_unicode_utf8_acceptRanges), ("samovar/check.intType", laid_samovar_check_intType), ("samovar/check.longType", laid_samovar_check_longType), ("samovar/check.nullType", laid_samovar_check_nullType), ("samovar/check.nothing", laid_samovar_check_nothing), ("unicode/utf8.first", laid_unicode_utf8_first)] }
def CheckMoreSaid : Prop := checkMoreRow.holds Tryz.pinned (OpenSpec.ofChange checkMoreSpec)

/-- ITS FALSE NEIGHBOUR: 'it returns false'. Refute it at one input. -/
def checkMoreWrong : ChangeSpec := { name := "checkMore", fn := fun _ => fun
  | [d1, d2, d3] => { results := [.lit (.bool false)], args := [d1, d2, d3] }
  | _ => none }
def CheckMoreWrongFalsely : Prop := checkMoreRow.holds Tryz.pinned (OpenSpec.ofChange checkMoreWrong)

/-- 'samovarlaw18.CheckTops': WHATEVER THE INPUT: true; the input reads as it did. -/
def checkTopsSpec : ChangeSpec := { name := "checkTops", fn := fun _ => fun
  | [d1, d2, d3, d4, d5] => { results := [.lit (.bool true)], args := [d1, d2, d3, d4, d5] }
  | _ => none }
def checkTopsRow : OpenClaim := { program := "ytpmfiegfbmamiaagreatdoor", sum := "3e53127f686f7c5db3284a50b6cfea4bb5359741813de804628efa9fef8b66f8", func := "samovar/samovarlaw18.CheckTops", spec := "checkTops", inPlace := ["internal/bytealg.CountString", "internal/bytealg.IndexByteString", "internal/bytealg.IndexString"], unfollowed := true, recurses := true, named := ["unicode/utf8.first", "unicode/utf8.acceptRanges", "internal/bytealg.MaxLen", "samovar/check.nothing", "samovar/check.intType", "samovar/check.longType", "samovar/check.nullType"], plainKeys := false, apart := false, laid := [("unicode/utf8.acceptRanges", laid_unicode_utf8_acceptRanges), ("samovar/check.intType", laid_samovar_check_intType), ("samovar/check.longType", laid_samovar_check_longType), ("samovar/check.nullType", laid_samovar_check_nullType), ("samovar/check.nothing", laid_samovar_check_nothing), ("unicode/utf8.first", laid_unicode_utf8_first)] }
def CheckTopsSaid : Prop := checkTopsRow.holds Tryz.pinned (OpenSpec.ofChange checkTopsSpec)

/-- ITS FALSE NEIGHBOUR: 'it returns false'. Refute it at one input. -/
def checkTopsWrong : ChangeSpec := { name := "checkTops", fn := fun _ => fun
  | [d1, d2, d3, d4, d5] => { results := [.lit (.bool false)], args := [d1, d2, d3, d4, d5] }
  | _ => none }
def CheckTopsWrongFalsely : Prop := checkTopsRow.holds Tryz.pinned (OpenSpec.ofChange checkTopsWrong)

/-- 'samovarlaw18.CheckBare': WHATEVER THE INPUT: true; the input reads as it did. -/
def checkBareSpec : ChangeSpec := { name := "checkBare", fn := fun _ => fun
  | [d1, d2] => { results := [.lit (.bool true)], args := [d1, d2] }
  | _ => none }
def checkBareRow : OpenClaim := { program := "ytpmfiegfbmamiaagreatdoor", sum := "3e53127f686f7c5db3284a50b6cfea4bb5359741813de804628efa9fef8b66f8", func := "samovar/samovarlaw18.CheckBare", spec := "checkBare", inPlace := ["internal/bytealg.CountString", "internal/bytealg.IndexByteString", "internal/bytealg.IndexString"], unfollowed := true, recurses := true, named := ["unicode/utf8.first", "unicode/utf8.acceptRanges", "internal/bytealg.MaxLen", "samovar/check.nothing", "samovar/check.intType", "samovar/check.longType", "samovar/check.nullType"], plainKeys := false, apart := false, laid := [("unicode/utf8.acceptRanges", laid_unicode_utf8_acceptRanges), ("samovar/check.intType", laid_samovar_check_intType), ("samovar/check.longType", laid_samovar_check_longType), ("samovar/check.nullType", laid_samovar_check_nullType), ("samovar/check.nothing", laid_samovar_check_nothing), ("unicode/utf8.first", laid_unicode_utf8_first)] }
def CheckBareSaid : Prop := checkBareRow.holds Tryz.pinned (OpenSpec.ofChange checkBareSpec)

/-- ITS FALSE NEIGHBOUR: 'it returns false'. Refute it at one input. -/
def checkBareWrong : ChangeSpec := { name := "checkBare", fn := fun _ => fun
  | [d1, d2] => { results := [.lit (.bool false)], args := [d1, d2] }
  | _ => none }
def CheckBareWrongFalsely : Prop := checkBareRow.holds Tryz.pinned (OpenSpec.ofChange checkBareWrong)

/- THE SECOND FORM. 'bulk': how many values and letters a reading holds, each counted each time it is reached (what is shared counts as often as it is met; a slice's spare places count too). A statement '..UptoSaid' is the law's where the arguments, and the package variables that the reading takes, are together of bulk at most 1048576: NARROWER than '..Said'. Prove '..Said' where nothing that the law and all that it calls make is longer than what came in: it says more and counts as full. Else prove '..UptoSaid'. A law counts once. -/
mutual
def uptoBulk {H : Type} : DataW H → Nat
  | .lit (.string bytes) => bytes.length + 1
  | .lit _ => 1
  | .nil => 1
  | .ptr d => uptoBulk d + 1
  | .slice elems spare => uptoBulkAll elems + uptoBulkAll spare + 1
  | .agg parts => uptoBulkAll parts + 1
  | .iface _ d => uptoBulk d + 1
  | .map entries => uptoBulkEntries entries + 1
  | .held _ => 1
def uptoBulkAll {H : Type} : List (DataW H) → Nat
  | [] => 0
  | d :: r => uptoBulk d + uptoBulkAll r
def uptoBulkEntries {H : Type} : List (Lit × DataW H) → Nat
  | [] => 0
  | x :: r => uptoBulkEntry x + uptoBulkEntries r
def uptoBulkEntry {H : Type} : Lit × DataW H → Nat
  | (.string bytes, d) => bytes.length + uptoBulk d + 1
  | (_, d) => uptoBulk d + 1
 end
def uptoSmall : (H : Type) → List (DataW H) → Bool := fun _ ds => decide (uptoBulkAll ds ≤ 1048576)
def OpenSpec.upto (s : _root_.Go.ChangeSpec) : _root_.Go.OpenSpec := { _root_.Go.OpenSpec.ofChange s with cond := some uptoSmall }

/-- 'samovarlaw15.KlassBack', WHERE WHAT IT READS IS OF BULK AT MOST 1048576: true; the input reads as it did. -/
def klassBackUptoRow : OpenClaim := { program := "ytpmfiegfbmamiaagreatdoor", sum := "3e53127f686f7c5db3284a50b6cfea4bb5359741813de804628efa9fef8b66f8", func := "samovar/samovarlaw15.KlassBack", spec := "klassBack", inPlace := ["internal/bytealg.CountString", "internal/bytealg.IndexByteString", "internal/bytealg.IndexString"], unfollowed := true, recurses := true, named := ["unicode/utf8.first", "unicode/utf8.acceptRanges", "internal/bytealg.MaxLen"], plainKeys := false, apart := false, laid := [("unicode/utf8.acceptRanges", laid_unicode_utf8_acceptRanges), ("unicode/utf8.first", laid_unicode_utf8_first)], narrowed := true }
def KlassBackUptoSaid : Prop := klassBackUptoRow.holds Tryz.pinned (OpenSpec.upto klassBackSpec)

/-- 'samovarlaw18.CheckMore', WHERE WHAT IT READS IS OF BULK AT MOST 1048576: true; the input reads as it did. -/
def checkMoreUptoRow : OpenClaim := { program := "ytpmfiegfbmamiaagreatdoor", sum := "3e53127f686f7c5db3284a50b6cfea4bb5359741813de804628efa9fef8b66f8", func := "samovar/samovarlaw18.CheckMore", spec := "checkMore", inPlace := ["internal/bytealg.CountString", "internal/bytealg.IndexByteString", "internal/bytealg.IndexString"], unfollowed := true, recurses := true, named := ["unicode/utf8.first", "unicode/utf8.acceptRanges", "internal/bytealg.MaxLen", "samovar/check.nothing", "samovar/check.intType", "samovar/check.longType", "samovar/check.nullType"], plainKeys := false, apart := false, laid := [("unicode/utf8.acceptRanges", laid_unicode_utf8_acceptRanges), ("samovar/check.intType", laid_samovar_check_intType), ("samovar/check.longType", laid_samovar_check_longType), ("samovar/check.nullType", laid_samovar_check_nullType), ("samovar/check.nothing", laid_samovar_check_nothing), ("unicode/utf8.first", laid_unicode_utf8_first)], narrowed := true }
def CheckMoreUptoSaid : Prop := checkMoreUptoRow.holds Tryz.pinned (OpenSpec.upto checkMoreSpec)

/-- 'samovarlaw18.CheckTops', WHERE WHAT IT READS IS OF BULK AT MOST 1048576: true; the input reads as it did. -/
def checkTopsUptoRow : OpenClaim := { program := "ytpmfiegfbmamiaagreatdoor", sum := "3e53127f686f7c5db3284a50b6cfea4bb5359741813de804628efa9fef8b66f8", func := "samovar/samovarlaw18.CheckTops", spec := "checkTops", inPlace := ["internal/bytealg.CountString", "internal/bytealg.IndexByteString", "internal/bytealg.IndexString"], unfollowed := true, recurses := true, named := ["unicode/utf8.first", "unicode/utf8.acceptRanges", "internal/bytealg.MaxLen", "samovar/check.nothing", "samovar/check.intType", "samovar/check.longType", "samovar/check.nullType"], plainKeys := false, apart := false, laid := [("unicode/utf8.acceptRanges", laid_unicode_utf8_acceptRanges), ("samovar/check.intType", laid_samovar_check_intType), ("samovar/check.longType", laid_samovar_check_longType), ("samovar/check.nullType", laid_samovar_check_nullType), ("samovar/check.nothing", laid_samovar_check_nothing), ("unicode/utf8.first", laid_unicode_utf8_first)], narrowed := true }
def CheckTopsUptoSaid : Prop := checkTopsUptoRow.holds Tryz.pinned (OpenSpec.upto checkTopsSpec)

/-- 'samovarlaw18.CheckBare', WHERE WHAT IT READS IS OF BULK AT MOST 1048576: true; the input reads as it did. -/
def checkBareUptoRow : OpenClaim := { program := "ytpmfiegfbmamiaagreatdoor", sum := "3e53127f686f7c5db3284a50b6cfea4bb5359741813de804628efa9fef8b66f8", func := "samovar/samovarlaw18.CheckBare", spec := "checkBare", inPlace := ["internal/bytealg.CountString", "internal/bytealg.IndexByteString", "internal/bytealg.IndexString"], unfollowed := true, recurses := true, named := ["unicode/utf8.first", "unicode/utf8.acceptRanges", "internal/bytealg.MaxLen", "samovar/check.nothing", "samovar/check.intType", "samovar/check.longType", "samovar/check.nullType"], plainKeys := false, apart := false, laid := [("unicode/utf8.acceptRanges", laid_unicode_utf8_acceptRanges), ("samovar/check.intType", laid_samovar_check_intType), ("samovar/check.longType", laid_samovar_check_longType), ("samovar/check.nullType", laid_samovar_check_nullType), ("samovar/check.nothing", laid_samovar_check_nothing), ("unicode/utf8.first", laid_unicode_utf8_first)], narrowed := true }
def CheckBareUptoSaid : Prop := checkBareUptoRow.holds Tryz.pinned (OpenSpec.upto checkBareSpec)

end Rows
end Go.Proofs.YtpmfiegfbmamiaaGreatDoor
