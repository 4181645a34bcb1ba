/-
  DERIVED: THE SHELF's CONTRACTS AT THIS DUMP, IN PLAIN WORDS (tools/lay-plain.mjs out of 'TrydSrtShelf.lean', which tools/lay-shelf.mjs wrote): THE SAME DECLARATIONS UNDER THE SAME NAMES: 'import', 'namespace', 'open', 'def', 'theorem' AND NOTHING ELSE: no command of the shelf's: FOR A HAND-IN. Each laying: the table of numbers ('.._ren') and one theorem, a field a fact of the dump's own or the kernel's comparison; each contract: ONE APPLICATION.
-/
import Derived.Shelf.SlGeneric
import Derived.Shelf.SlSortCmp.WholeK
import Derived.Ground.SlsfProg
import Derived.Test.YtlmcpkomjofcgaaDoorProg
namespace Go.Proofs
open Go.Shelf
def Tryd.sortFound_ren : Go.Shelf.Ren := ⟨fun | 6 => 41 | 15 => 53 | 14 => 52 | 28 => 71 | 29 => 72 | 20 => 63 | 21 => 64 | 22 => 65 | 23 => 66 | 24 => 67 | 25 => 68 | 26 => 69 | 27 => 70 | 46 => 78 | 47 => 79 | 48 => 80 | 49 => 81 | 50 => 82 | 57 => 86 | n => n, fun | 22 => 88 | 24 => 91 | 25 => 97 | 3 => 3 | 39 => 105 | 0 => 0 | 53 => 108 | 55 => 109 | 4 => 4 | 46 => 138 | 45 => 137 | 50 => 142 | 5 => 5 | 9 => 9 | 66 => 162 | 70 => 166 | 76 => 170 | 77 => 159 | n => n, fun | n => n⟩
theorem Tryd.sortFound : Go.Proofs.SlLaysF0.n6 Tryd.prog Tryd.sortFound_ren := {
  mixed := by kernel_rfl
  f6 := ⟨Tryd.f41.name, by decide, Tryd.func41.trans (congrArg some (by kernel_rfl))⟩
  f14 := ⟨Tryd.f52.name, by decide, Tryd.func52.trans (congrArg some (by kernel_rfl))⟩
  f15 := Tryd.func53.trans (congrArg some (by kernel_rfl))
  f20 := ⟨Tryd.f63.name, by decide, Tryd.func63.trans (congrArg some (by kernel_rfl))⟩
  f21 := ⟨Tryd.f64.name, by decide, Tryd.func64.trans (congrArg some (by kernel_rfl))⟩
  f22 := ⟨Tryd.f65.name, by decide, Tryd.func65.trans (congrArg some (by kernel_rfl))⟩
  f23 := ⟨Tryd.f66.name, by decide, Tryd.func66.trans (congrArg some (by kernel_rfl))⟩
  f24 := ⟨Tryd.f67.name, by decide, Tryd.func67.trans (congrArg some (by kernel_rfl))⟩
  f25 := ⟨Tryd.f68.name, by decide, Tryd.func68.trans (congrArg some (by kernel_rfl))⟩
  f26 := ⟨Tryd.f69.name, by decide, Tryd.func69.trans (congrArg some (by kernel_rfl))⟩
  f27 := ⟨Tryd.f70.name, by decide, Tryd.func70.trans (congrArg some (by kernel_rfl))⟩
  f28 := Tryd.func71.trans (congrArg some (by kernel_rfl))
  f29 := Tryd.func72.trans (congrArg some (by kernel_rfl))
  f46 := ⟨Tryd.f78.name, by decide, Tryd.func78.trans (congrArg some (by kernel_rfl))⟩
  f47 := Tryd.func79.trans (congrArg some (by kernel_rfl))
  f48 := Tryd.func80.trans (congrArg some (by kernel_rfl))
  f49 := ⟨Tryd.f81.name, by decide, Tryd.func81.trans (congrArg some (by kernel_rfl))⟩
  f50 := ⟨Tryd.f82.name, by decide, Tryd.func82.trans (congrArg some (by kernel_rfl))⟩
  f57 := ⟨Tryd.f86.name, by decide, Tryd.func86.trans (congrArg some (by kernel_rfl))⟩
  t0 := Tryd.underlying0
  a0 := Tryd.isAgg0
  z0 := Tryd.sizeOf0
  v0 := Tryd.zeroValue0
  t3 := Tryd.underlying3
  a3 := Tryd.isAgg3
  z3 := Tryd.sizeOf3
  v3 := Tryd.zeroValue3
  t4 := Tryd.underlying4
  a4 := Tryd.isAgg4
  z4 := Tryd.sizeOf4
  v4 := Tryd.zeroValue4
  t5 := Tryd.underlying5
  a5 := Tryd.isAgg5
  z5 := Tryd.sizeOf5
  v5 := Tryd.zeroValue5
  t9 := Tryd.underlying9
  a9 := Tryd.isAgg9
  z9 := Tryd.sizeOf9
  v9 := Tryd.zeroValue9
  t22 := Tryd.underlying88
  a22 := Tryd.isAgg88
  z22 := Tryd.sizeOf88
  v22 := Tryd.zeroValue88
  t25 := Tryd.underlying97
  a25 := Tryd.isAgg97
  z25 := Tryd.sizeOf97
  v25 := Tryd.zeroValue97
  t39 := Tryd.underlying105
  a39 := Tryd.isAgg105
  z39 := Tryd.sizeOf105
  v39 := Tryd.zeroValue105
  t45 := Tryd.underlying137
  a45 := Tryd.isAgg137
  z45 := Tryd.sizeOf137
  v45 := Tryd.zeroValue137
  t46 := Tryd.underlying138
  a46 := Tryd.isAgg138
  z46 := Tryd.sizeOf138
  v46 := Tryd.zeroValue138
  t50 := Tryd.underlying142
  a50 := Tryd.isAgg142
  z50 := Tryd.sizeOf142
  v50 := Tryd.zeroValue142
  t53 := Tryd.underlying108
  a53 := Tryd.isAgg108
  z53 := Tryd.sizeOf108
  v53 := Tryd.zeroValue108
  t55 := Tryd.underlying109
  a55 := Tryd.isAgg109
  z55 := Tryd.sizeOf109
  v55 := Tryd.zeroValue109
  t66 := Tryd.underlying162
  a66 := Tryd.isAgg162
  z66 := Tryd.sizeOf162
  v66 := Tryd.zeroValue162
  t70 := Tryd.underlying166
  a70 := Tryd.isAgg166
  z70 := Tryd.sizeOf166
  v70 := Tryd.zeroValue166
  t76 := Tryd.underlying170
  a76 := Tryd.isAgg170
  z76 := Tryd.sizeOf170
  v76 := Tryd.zeroValue170
  t77 := Tryd.underlying159
  a77 := Tryd.isAgg159
  z77 := Tryd.sizeOf159
  v77 := Tryd.zeroValue159 }
end Go.Proofs
