/-
  DERIVED: THE SHELF's CONTRACTS AT THIS DUMP, IN PLAIN WORDS (tools/lay-plain.mjs out of 'TryzSrtShelf.lean', which tools/lay-shelf.mjs wrote): THE SAME DECLARATIONS UNDER THE SAME NAMES: 'import', 'namespace', 'open', 'def', 'theorem' AND NOTHING ELSE: no command of the shelf's: FOR A HAND-IN. Each laying: the table of numbers ('.._ren') and one theorem, a field a fact of the dump's own or the kernel's comparison; each contract: ONE APPLICATION.
-/
import Derived.Shelf.SlGeneric
import Derived.Shelf.SlSortCmp.WholeK
import Derived.Ground.SlsfProg
import Derived.Test.YtnkdpchnighkfaaGreatDoorProg
namespace Go.Proofs
open Go.Shelf
def Tryz.sortFound_ren : Go.Shelf.Ren := ⟨fun | 6 => 25 | 15 => 46 | 14 => 45 | 28 => 66 | 29 => 67 | 20 => 58 | 21 => 59 | 22 => 60 | 23 => 61 | 24 => 62 | 25 => 63 | 26 => 64 | 27 => 65 | 46 => 84 | 47 => 85 | 48 => 86 | 49 => 87 | 50 => 88 | 57 => 103 | n => n, fun | 22 => 56 | 24 => 58 | 25 => 64 | 3 => 3 | 39 => 101 | 0 => 0 | 53 => 107 | 55 => 122 | 4 => 4 | 46 => 129 | 45 => 128 | 50 => 86 | 5 => 5 | 9 => 9 | 66 => 165 | 70 => 169 | 76 => 183 | 77 => 118 | n => n, fun | n => n⟩
theorem Tryz.sortFound : Go.Proofs.SlLaysF0.n6 Tryz.prog Tryz.sortFound_ren := {
  mixed := by kernel_rfl
  f6 := ⟨Tryz.f25.name, by decide, Tryz.func25.trans (congrArg some (by kernel_rfl))⟩
  f14 := ⟨Tryz.f45.name, by decide, Tryz.func45.trans (congrArg some (by kernel_rfl))⟩
  f15 := Tryz.func46.trans (congrArg some (by kernel_rfl))
  f20 := ⟨Tryz.f58.name, by decide, Tryz.func58.trans (congrArg some (by kernel_rfl))⟩
  f21 := ⟨Tryz.f59.name, by decide, Tryz.func59.trans (congrArg some (by kernel_rfl))⟩
  f22 := ⟨Tryz.f60.name, by decide, Tryz.func60.trans (congrArg some (by kernel_rfl))⟩
  f23 := ⟨Tryz.f61.name, by decide, Tryz.func61.trans (congrArg some (by kernel_rfl))⟩
  f24 := ⟨Tryz.f62.name, by decide, Tryz.func62.trans (congrArg some (by kernel_rfl))⟩
  f25 := ⟨Tryz.f63.name, by decide, Tryz.func63.trans (congrArg some (by kernel_rfl))⟩
  f26 := ⟨Tryz.f64.name, by decide, Tryz.func64.trans (congrArg some (by kernel_rfl))⟩
  f27 := ⟨Tryz.f65.name, by decide, Tryz.func65.trans (congrArg some (by kernel_rfl))⟩
  f28 := Tryz.func66.trans (congrArg some (by kernel_rfl))
  f29 := Tryz.func67.trans (congrArg some (by kernel_rfl))
  f46 := ⟨Tryz.f84.name, by decide, Tryz.func84.trans (congrArg some (by kernel_rfl))⟩
  f47 := Tryz.func85.trans (congrArg some (by kernel_rfl))
  f48 := Tryz.func86.trans (congrArg some (by kernel_rfl))
  f49 := ⟨Tryz.f87.name, by decide, Tryz.func87.trans (congrArg some (by kernel_rfl))⟩
  f50 := ⟨Tryz.f88.name, by decide, Tryz.func88.trans (congrArg some (by kernel_rfl))⟩
  f57 := ⟨Tryz.f103.name, by decide, Tryz.func103.trans (congrArg some (by kernel_rfl))⟩
  t0 := Tryz.underlying0
  a0 := Tryz.isAgg0
  z0 := Tryz.sizeOf0
  v0 := Tryz.zeroValue0
  t3 := Tryz.underlying3
  a3 := Tryz.isAgg3
  z3 := Tryz.sizeOf3
  v3 := Tryz.zeroValue3
  t4 := Tryz.underlying4
  a4 := Tryz.isAgg4
  z4 := Tryz.sizeOf4
  v4 := Tryz.zeroValue4
  t5 := Tryz.underlying5
  a5 := Tryz.isAgg5
  z5 := Tryz.sizeOf5
  v5 := Tryz.zeroValue5
  t9 := Tryz.underlying9
  a9 := Tryz.isAgg9
  z9 := Tryz.sizeOf9
  v9 := Tryz.zeroValue9
  t22 := Tryz.underlying56
  a22 := Tryz.isAgg56
  z22 := Tryz.sizeOf56
  v22 := Tryz.zeroValue56
  t25 := Tryz.underlying64
  a25 := Tryz.isAgg64
  z25 := Tryz.sizeOf64
  v25 := Tryz.zeroValue64
  t39 := Tryz.underlying101
  a39 := Tryz.isAgg101
  z39 := Tryz.sizeOf101
  v39 := Tryz.zeroValue101
  t45 := Tryz.underlying128
  a45 := Tryz.isAgg128
  z45 := Tryz.sizeOf128
  v45 := Tryz.zeroValue128
  t46 := Tryz.underlying129
  a46 := Tryz.isAgg129
  z46 := Tryz.sizeOf129
  v46 := Tryz.zeroValue129
  t50 := Tryz.underlying86
  a50 := Tryz.isAgg86
  z50 := Tryz.sizeOf86
  v50 := Tryz.zeroValue86
  t53 := Tryz.underlying107
  a53 := Tryz.isAgg107
  z53 := Tryz.sizeOf107
  v53 := Tryz.zeroValue107
  t55 := Tryz.underlying122
  a55 := Tryz.isAgg122
  z55 := Tryz.sizeOf122
  v55 := Tryz.zeroValue122
  t66 := Tryz.underlying165
  a66 := Tryz.isAgg165
  z66 := Tryz.sizeOf165
  v66 := Tryz.zeroValue165
  t70 := Tryz.underlying169
  a70 := Tryz.isAgg169
  z70 := Tryz.sizeOf169
  v70 := Tryz.zeroValue169
  t76 := Tryz.underlying183
  a76 := Tryz.isAgg183
  z76 := Tryz.sizeOf183
  v76 := Tryz.zeroValue183
  t77 := Tryz.underlying118
  a77 := Tryz.isAgg118
  z77 := Tryz.sizeOf118
  v77 := Tryz.zeroValue118 }
end Go.Proofs
