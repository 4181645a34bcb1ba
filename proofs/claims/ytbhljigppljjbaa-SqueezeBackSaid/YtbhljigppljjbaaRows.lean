/-
  No cell of these rows narrows 'for every input' (looked for: loops, veiled, ifaces, maps, wideKeys, modest, calm, conditions, laid).
  DERIVED. THE GIVEN ROWS OF THIS SEAT. 8 by the template 'for every input the law returns true; each argument reads behind the call as it read before'; 0 by the template 'total and deterministic' (their statements: YtbhljigppljjbaaTotals.lean).
  GIVEN WITH THE SEED: the statements are not yours to turn. If you find one false, say at which input.
  Laid BY PROGRAM, IN A SANDBOX (cutbox-rows.mjs): the forced cells as the released guide's own fill.sh prints them over the translation a6e4ec4efa939cc9… (all of the seat's roots in one cut). By AI agents, Wed Nov 11 2026. No macro, syntax, notation, axiom, sorry.
-/
import Derived.Test.YtbhljigppljjbaaChecked
import GoSem.Claim
import GoSem.ClaimJoined
import GoSem.ClaimMapViews
import Derived.JoinedTies
import Derived.KernelRfl
namespace Go.Proofs.Ytbhljigppljjbaa
/- THE CELL 'sum', in the pinned program and in every row, IS THE sha256 OF THE DUMP (.gsa) THAT YtbhljigppljjbaaProg.lean LOADS. Nothing in Lean hashes anything: it is a label: what it is worth is what the hold of that sum in a sandbox is worth. -/
noncomputable def Try.pinned : Pinned := { name := "ytbhljigppljjbaa", sum := "a6e4ec4efa939cc92cc6ee898cefd744be4e06c567600074d3ad3ff4881d4598", checked := Try.checked }
namespace Rows
def none {H : Type} : Left H := { results := [], args := [] }

/-- 'samovarlaw06.InflateReads': WHATEVER THE INPUT: true; the input reads as it did. -/
def inflateReadsSpec : ChangeSpec := { name := "inflateReads", fn := fun _ => fun
  | [d1, d2] => { results := [.lit (.bool true)], args := [d1, d2] }
  | _ => none }
def inflateReadsRow : OpenClaim := { program := "ytbhljigppljjbaa", sum := "a6e4ec4efa939cc92cc6ee898cefd744be4e06c567600074d3ad3ff4881d4598", func := "samovar/samovarlaw06.InflateReads", spec := "inflateReads", plainKeys := false, apart := false }
def InflateReadsSaid : Prop := inflateReadsRow.holds Try.pinned (OpenSpec.ofChange inflateReadsSpec)

/-- ITS FALSE NEIGHBOUR: 'it returns false'. Refute it at one input. -/
def inflateReadsWrong : ChangeSpec := { name := "inflateReads", fn := fun _ => fun
  | [d1, d2] => { results := [.lit (.bool false)], args := [d1, d2] }
  | _ => none }
def InflateReadsWrongFalsely : Prop := inflateReadsRow.holds Try.pinned (OpenSpec.ofChange inflateReadsWrong)

/-- 'samovarlaw06.InflateBehind': WHATEVER THE INPUT: true; the input reads as it did. -/
def inflateBehindSpec : ChangeSpec := { name := "inflateBehind", fn := fun _ => fun
  | [d1, d2, d3] => { results := [.lit (.bool true)], args := [d1, d2, d3] }
  | _ => none }
def inflateBehindRow : OpenClaim := { program := "ytbhljigppljjbaa", sum := "a6e4ec4efa939cc92cc6ee898cefd744be4e06c567600074d3ad3ff4881d4598", func := "samovar/samovarlaw06.InflateBehind", spec := "inflateBehind", plainKeys := false, apart := false }
def InflateBehindSaid : Prop := inflateBehindRow.holds Try.pinned (OpenSpec.ofChange inflateBehindSpec)

/-- ITS FALSE NEIGHBOUR: 'it returns false'. Refute it at one input. -/
def inflateBehindWrong : ChangeSpec := { name := "inflateBehind", fn := fun _ => fun
  | [d1, d2, d3] => { results := [.lit (.bool false)], args := [d1, d2, d3] }
  | _ => none }
def InflateBehindWrongFalsely : Prop := inflateBehindRow.holds Try.pinned (OpenSpec.ofChange inflateBehindWrong)

/-- 'samovarlaw06.InflateLimits': WHATEVER THE INPUT: true; the input reads as it did. -/
def inflateLimitsSpec : ChangeSpec := { name := "inflateLimits", fn := fun _ => fun
  | [d1, d2, d3] => { results := [.lit (.bool true)], args := [d1, d2, d3] }
  | _ => none }
def inflateLimitsRow : OpenClaim := { program := "ytbhljigppljjbaa", sum := "a6e4ec4efa939cc92cc6ee898cefd744be4e06c567600074d3ad3ff4881d4598", func := "samovar/samovarlaw06.InflateLimits", spec := "inflateLimits", plainKeys := false, apart := false }
def InflateLimitsSaid : Prop := inflateLimitsRow.holds Try.pinned (OpenSpec.ofChange inflateLimitsSpec)

/-- ITS FALSE NEIGHBOUR: 'it returns false'. Refute it at one input. -/
def inflateLimitsWrong : ChangeSpec := { name := "inflateLimits", fn := fun _ => fun
  | [d1, d2, d3] => { results := [.lit (.bool false)], args := [d1, d2, d3] }
  | _ => none }
def InflateLimitsWrongFalsely : Prop := inflateLimitsRow.holds Try.pinned (OpenSpec.ofChange inflateLimitsWrong)

/-- 'samovarlaw06.InflateStored': WHATEVER THE INPUT: true; the input reads as it did. -/
def inflateStoredSpec : ChangeSpec := { name := "inflateStored", fn := fun _ => fun
  | [d] => { results := [.lit (.bool true)], args := [d] }
  | _ => none }
def inflateStoredRow : OpenClaim := { program := "ytbhljigppljjbaa", sum := "a6e4ec4efa939cc92cc6ee898cefd744be4e06c567600074d3ad3ff4881d4598", func := "samovar/samovarlaw06.InflateStored", spec := "inflateStored", plainKeys := false, apart := false }
def InflateStoredSaid : Prop := inflateStoredRow.holds Try.pinned (OpenSpec.ofChange inflateStoredSpec)

/-- ITS FALSE NEIGHBOUR: 'it returns false'. Refute it at one input. -/
def inflateStoredWrong : ChangeSpec := { name := "inflateStored", fn := fun _ => fun
  | [d] => { results := [.lit (.bool false)], args := [d] }
  | _ => none }
def InflateStoredWrongFalsely : Prop := inflateStoredRow.holds Try.pinned (OpenSpec.ofChange inflateStoredWrong)

/-- 'samovarlaw07.SqueezeBack': WHATEVER THE INPUT: true; the input reads as it did. -/
def squeezeBackSpec : ChangeSpec := { name := "squeezeBack", fn := fun _ => fun
  | [d] => { results := [.lit (.bool true)], args := [d] }
  | _ => none }
def squeezeBackRow : OpenClaim := { program := "ytbhljigppljjbaa", sum := "a6e4ec4efa939cc92cc6ee898cefd744be4e06c567600074d3ad3ff4881d4598", func := "samovar/samovarlaw07.SqueezeBack", spec := "squeezeBack", plainKeys := false, apart := false }
def SqueezeBackSaid : Prop := squeezeBackRow.holds Try.pinned (OpenSpec.ofChange squeezeBackSpec)

/-- ITS FALSE NEIGHBOUR: 'it returns false'. Refute it at one input. -/
def squeezeBackWrong : ChangeSpec := { name := "squeezeBack", fn := fun _ => fun
  | [d] => { results := [.lit (.bool false)], args := [d] }
  | _ => none }
def SqueezeBackWrongFalsely : Prop := squeezeBackRow.holds Try.pinned (OpenSpec.ofChange squeezeBackWrong)

/-- 'samovarlaw07.SqueezeMost': WHATEVER THE INPUT: true; the input reads as it did. -/
def squeezeMostSpec : ChangeSpec := { name := "squeezeMost", fn := fun _ => fun
  | [d] => { results := [.lit (.bool true)], args := [d] }
  | _ => none }
def squeezeMostRow : OpenClaim := { program := "ytbhljigppljjbaa", sum := "a6e4ec4efa939cc92cc6ee898cefd744be4e06c567600074d3ad3ff4881d4598", func := "samovar/samovarlaw07.SqueezeMost", spec := "squeezeMost", plainKeys := false, apart := false }
def SqueezeMostSaid : Prop := squeezeMostRow.holds Try.pinned (OpenSpec.ofChange squeezeMostSpec)

/-- ITS FALSE NEIGHBOUR: 'it returns false'. Refute it at one input. -/
def squeezeMostWrong : ChangeSpec := { name := "squeezeMost", fn := fun _ => fun
  | [d] => { results := [.lit (.bool false)], args := [d] }
  | _ => none }
def SqueezeMostWrongFalsely : Prop := squeezeMostRow.holds Try.pinned (OpenSpec.ofChange squeezeMostWrong)

/-- 'samovarlaw07.SqueezeRows': WHATEVER THE INPUT: true; the input reads as it did. -/
def squeezeRowsSpec : ChangeSpec := { name := "squeezeRows", fn := fun _ => fun
  | [d1, d2] => { results := [.lit (.bool true)], args := [d1, d2] }
  | _ => none }
def squeezeRowsRow : OpenClaim := { program := "ytbhljigppljjbaa", sum := "a6e4ec4efa939cc92cc6ee898cefd744be4e06c567600074d3ad3ff4881d4598", func := "samovar/samovarlaw07.SqueezeRows", spec := "squeezeRows", plainKeys := false, apart := false }
def SqueezeRowsSaid : Prop := squeezeRowsRow.holds Try.pinned (OpenSpec.ofChange squeezeRowsSpec)

/-- ITS FALSE NEIGHBOUR: 'it returns false'. Refute it at one input. -/
def squeezeRowsWrong : ChangeSpec := { name := "squeezeRows", fn := fun _ => fun
  | [d1, d2] => { results := [.lit (.bool false)], args := [d1, d2] }
  | _ => none }
def SqueezeRowsWrongFalsely : Prop := squeezeRowsRow.holds Try.pinned (OpenSpec.ofChange squeezeRowsWrong)

/-- 'samovarlaw07.SqueezeApart': WHATEVER THE INPUT: true; the input reads as it did. -/
def squeezeApartSpec : ChangeSpec := { name := "squeezeApart", fn := fun _ => fun
  | [d1, d2] => { results := [.lit (.bool true)], args := [d1, d2] }
  | _ => none }
def squeezeApartRow : OpenClaim := { program := "ytbhljigppljjbaa", sum := "a6e4ec4efa939cc92cc6ee898cefd744be4e06c567600074d3ad3ff4881d4598", func := "samovar/samovarlaw07.SqueezeApart", spec := "squeezeApart", plainKeys := false, apart := false }
def SqueezeApartSaid : Prop := squeezeApartRow.holds Try.pinned (OpenSpec.ofChange squeezeApartSpec)

/-- ITS FALSE NEIGHBOUR: 'it returns false'. Refute it at one input. -/
def squeezeApartWrong : ChangeSpec := { name := "squeezeApart", fn := fun _ => fun
  | [d1, d2] => { results := [.lit (.bool false)], args := [d1, d2] }
  | _ => none }
def SqueezeApartWrongFalsely : Prop := squeezeApartRow.holds Try.pinned (OpenSpec.ofChange squeezeApartWrong)

/- THE SECOND FORM. 'bulk': how many values and letters a reading holds, each counted each time it is reached (what is shared counts as often as it is met; a slice's spare places count too). A statement '..UptoSaid' is the law's where the arguments, and the package variables that the reading takes, are together of bulk at most 1048576: NARROWER than '..Said'. Prove '..Said' where nothing that the law and all that it calls make is longer than what came in: it says more and counts as full. Else prove '..UptoSaid'. A law counts once. -/
mutual
def uptoBulk {H : Type} : DataW H → Nat
  | .lit (.string bytes) => bytes.length + 1
  | .lit _ => 1
  | .nil => 1
  | .ptr d => uptoBulk d + 1
  | .slice elems spare => uptoBulkAll elems + uptoBulkAll spare + 1
  | .agg parts => uptoBulkAll parts + 1
  | .iface _ d => uptoBulk d + 1
  | .map entries => uptoBulkEntries entries + 1
  | .held _ => 1
def uptoBulkAll {H : Type} : List (DataW H) → Nat
  | [] => 0
  | d :: r => uptoBulk d + uptoBulkAll r
def uptoBulkEntries {H : Type} : List (Lit × DataW H) → Nat
  | [] => 0
  | x :: r => uptoBulkEntry x + uptoBulkEntries r
def uptoBulkEntry {H : Type} : Lit × DataW H → Nat
  | (.string bytes, d) => bytes.length + uptoBulk d + 1
  | (_, d) => uptoBulk d + 1
 end
def uptoSmall : (H : Type) → List (DataW H) → Bool := fun _ ds => decide (uptoBulkAll ds ≤ 1048576)
def OpenSpec.upto (s : _root_.Go.ChangeSpec) : _root_.Go.OpenSpec := { _root_.Go.OpenSpec.ofChange s with cond := some uptoSmall }

/-- 'samovarlaw06.InflateReads', WHERE WHAT IT READS IS OF BULK AT MOST 1048576: true; the input reads as it did. -/
def inflateReadsUptoRow : OpenClaim := { program := "ytbhljigppljjbaa", sum := "a6e4ec4efa939cc92cc6ee898cefd744be4e06c567600074d3ad3ff4881d4598", func := "samovar/samovarlaw06.InflateReads", spec := "inflateReads", plainKeys := false, apart := false, narrowed := true }
def InflateReadsUptoSaid : Prop := inflateReadsUptoRow.holds Try.pinned (OpenSpec.upto inflateReadsSpec)

/-- 'samovarlaw06.InflateBehind', WHERE WHAT IT READS IS OF BULK AT MOST 1048576: true; the input reads as it did. -/
def inflateBehindUptoRow : OpenClaim := { program := "ytbhljigppljjbaa", sum := "a6e4ec4efa939cc92cc6ee898cefd744be4e06c567600074d3ad3ff4881d4598", func := "samovar/samovarlaw06.InflateBehind", spec := "inflateBehind", plainKeys := false, apart := false, narrowed := true }
def InflateBehindUptoSaid : Prop := inflateBehindUptoRow.holds Try.pinned (OpenSpec.upto inflateBehindSpec)

/-- 'samovarlaw06.InflateLimits', WHERE WHAT IT READS IS OF BULK AT MOST 1048576: true; the input reads as it did. -/
def inflateLimitsUptoRow : OpenClaim := { program := "ytbhljigppljjbaa", sum := "a6e4ec4efa939cc92cc6ee898cefd744be4e06c567600074d3ad3ff4881d4598", func := "samovar/samovarlaw06.InflateLimits", spec := "inflateLimits", plainKeys := false, apart := false, narrowed := true }
def InflateLimitsUptoSaid : Prop := inflateLimitsUptoRow.holds Try.pinned (OpenSpec.upto inflateLimitsSpec)

/-- 'samovarlaw06.InflateStored', WHERE WHAT IT READS IS OF BULK AT MOST 1048576: true; the input reads as it did. -/
def inflateStoredUptoRow : OpenClaim := { program := "ytbhljigppljjbaa", sum := "a6e4ec4efa939cc92cc6ee898cefd744be4e06c567600074d3ad3ff4881d4598", func := "samovar/samovarlaw06.InflateStored", spec := "inflateStored", plainKeys := false, apart := false, narrowed := true }
def InflateStoredUptoSaid : Prop := inflateStoredUptoRow.holds Try.pinned (OpenSpec.upto inflateStoredSpec)

/-- 'samovarlaw07.SqueezeBack', WHERE WHAT IT READS IS OF BULK AT MOST 1048576: true; the input reads as it did. -/
def squeezeBackUptoRow : OpenClaim := { program := "ytbhljigppljjbaa", sum := "a6e4ec4efa939cc92cc6ee898cefd744be4e06c567600074d3ad3ff4881d4598", func := "samovar/samovarlaw07.SqueezeBack", spec := "squeezeBack", plainKeys := false, apart := false, narrowed := true }
def SqueezeBackUptoSaid : Prop := squeezeBackUptoRow.holds Try.pinned (OpenSpec.upto squeezeBackSpec)

/-- 'samovarlaw07.SqueezeMost', WHERE WHAT IT READS IS OF BULK AT MOST 1048576: true; the input reads as it did. -/
def squeezeMostUptoRow : OpenClaim := { program := "ytbhljigppljjbaa", sum := "a6e4ec4efa939cc92cc6ee898cefd744be4e06c567600074d3ad3ff4881d4598", func := "samovar/samovarlaw07.SqueezeMost", spec := "squeezeMost", plainKeys := false, apart := false, narrowed := true }
def SqueezeMostUptoSaid : Prop := squeezeMostUptoRow.holds Try.pinned (OpenSpec.upto squeezeMostSpec)

/-- 'samovarlaw07.SqueezeRows', WHERE WHAT IT READS IS OF BULK AT MOST 1048576: true; the input reads as it did. -/
def squeezeRowsUptoRow : OpenClaim := { program := "ytbhljigppljjbaa", sum := "a6e4ec4efa939cc92cc6ee898cefd744be4e06c567600074d3ad3ff4881d4598", func := "samovar/samovarlaw07.SqueezeRows", spec := "squeezeRows", plainKeys := false, apart := false, narrowed := true }
def SqueezeRowsUptoSaid : Prop := squeezeRowsUptoRow.holds Try.pinned (OpenSpec.upto squeezeRowsSpec)

/-- 'samovarlaw07.SqueezeApart', WHERE WHAT IT READS IS OF BULK AT MOST 1048576: true; the input reads as it did. -/
def squeezeApartUptoRow : OpenClaim := { program := "ytbhljigppljjbaa", sum := "a6e4ec4efa939cc92cc6ee898cefd744be4e06c567600074d3ad3ff4881d4598", func := "samovar/samovarlaw07.SqueezeApart", spec := "squeezeApart", plainKeys := false, apart := false, narrowed := true }
def SqueezeApartUptoSaid : Prop := squeezeApartUptoRow.holds Try.pinned (OpenSpec.upto squeezeApartSpec)

end Rows
end Go.Proofs.Ytbhljigppljjbaa
