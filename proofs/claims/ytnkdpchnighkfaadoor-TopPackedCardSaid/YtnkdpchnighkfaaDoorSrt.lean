/-
  DERIVED: THE SHELF's CONTRACTS AT THIS DUMP, IN PLAIN WORDS (tools/lay-plain.mjs out of 'TrydSrtShelf.lean', which tools/lay-shelf.mjs wrote): THE SAME DECLARATIONS UNDER THE SAME NAMES: 'import', 'namespace', 'open', 'def', 'theorem' AND NOTHING ELSE: no command of the shelf's: FOR A HAND-IN. Each laying: the table of numbers ('.._ren') and one theorem, a field a fact of the dump's own or the kernel's comparison; each contract: ONE APPLICATION.
-/
import Derived.Shelf.SlGeneric
import Derived.Shelf.SlSortCmp.WholeK
import Derived.Ground.SlsfProg
import Derived.Test.YtnkdpchnighkfaaDoorProg
namespace Go.Proofs
open Go.Shelf
def Tryd.sortFound_ren : Go.Shelf.Ren := ⟨fun | 6 => 49 | 15 => 65 | 14 => 64 | 28 => 85 | 29 => 86 | 20 => 77 | 21 => 78 | 22 => 79 | 23 => 80 | 24 => 81 | 25 => 82 | 26 => 83 | 27 => 84 | 46 => 95 | 47 => 96 | 48 => 97 | 49 => 98 | 50 => 99 | 57 => 104 | n => n, fun | 22 => 95 | 24 => 97 | 25 => 103 | 3 => 3 | 39 => 31 | 0 => 0 | 53 => 104 | 55 => 126 | 4 => 4 | 46 => 154 | 45 => 153 | 50 => 71 | 5 => 5 | 9 => 9 | 66 => 170 | 70 => 174 | 76 => 177 | 77 => 114 | n => n, fun | n => n⟩
theorem Tryd.sortFound : Go.Proofs.SlLaysF0.n6 Tryd.prog Tryd.sortFound_ren := {
  mixed := by kernel_rfl
  f6 := ⟨Tryd.f49.name, by decide, Tryd.func49.trans (congrArg some (by kernel_rfl))⟩
  f14 := ⟨Tryd.f64.name, by decide, Tryd.func64.trans (congrArg some (by kernel_rfl))⟩
  f15 := Tryd.func65.trans (congrArg some (by kernel_rfl))
  f20 := ⟨Tryd.f77.name, by decide, Tryd.func77.trans (congrArg some (by kernel_rfl))⟩
  f21 := ⟨Tryd.f78.name, by decide, Tryd.func78.trans (congrArg some (by kernel_rfl))⟩
  f22 := ⟨Tryd.f79.name, by decide, Tryd.func79.trans (congrArg some (by kernel_rfl))⟩
  f23 := ⟨Tryd.f80.name, by decide, Tryd.func80.trans (congrArg some (by kernel_rfl))⟩
  f24 := ⟨Tryd.f81.name, by decide, Tryd.func81.trans (congrArg some (by kernel_rfl))⟩
  f25 := ⟨Tryd.f82.name, by decide, Tryd.func82.trans (congrArg some (by kernel_rfl))⟩
  f26 := ⟨Tryd.f83.name, by decide, Tryd.func83.trans (congrArg some (by kernel_rfl))⟩
  f27 := ⟨Tryd.f84.name, by decide, Tryd.func84.trans (congrArg some (by kernel_rfl))⟩
  f28 := Tryd.func85.trans (congrArg some (by kernel_rfl))
  f29 := Tryd.func86.trans (congrArg some (by kernel_rfl))
  f46 := ⟨Tryd.f95.name, by decide, Tryd.func95.trans (congrArg some (by kernel_rfl))⟩
  f47 := Tryd.func96.trans (congrArg some (by kernel_rfl))
  f48 := Tryd.func97.trans (congrArg some (by kernel_rfl))
  f49 := ⟨Tryd.f98.name, by decide, Tryd.func98.trans (congrArg some (by kernel_rfl))⟩
  f50 := ⟨Tryd.f99.name, by decide, Tryd.func99.trans (congrArg some (by kernel_rfl))⟩
  f57 := ⟨Tryd.f104.name, by decide, Tryd.func104.trans (congrArg some (by kernel_rfl))⟩
  t0 := Tryd.underlying0
  a0 := Tryd.isAgg0
  z0 := Tryd.sizeOf0
  v0 := Tryd.zeroValue0
  t3 := Tryd.underlying3
  a3 := Tryd.isAgg3
  z3 := Tryd.sizeOf3
  v3 := Tryd.zeroValue3
  t4 := Tryd.underlying4
  a4 := Tryd.isAgg4
  z4 := Tryd.sizeOf4
  v4 := Tryd.zeroValue4
  t5 := Tryd.underlying5
  a5 := Tryd.isAgg5
  z5 := Tryd.sizeOf5
  v5 := Tryd.zeroValue5
  t9 := Tryd.underlying9
  a9 := Tryd.isAgg9
  z9 := Tryd.sizeOf9
  v9 := Tryd.zeroValue9
  t22 := Tryd.underlying95
  a22 := Tryd.isAgg95
  z22 := Tryd.sizeOf95
  v22 := Tryd.zeroValue95
  t25 := Tryd.underlying103
  a25 := Tryd.isAgg103
  z25 := Tryd.sizeOf103
  v25 := Tryd.zeroValue103
  t39 := Tryd.underlying31
  a39 := Tryd.isAgg31
  z39 := Tryd.sizeOf31
  v39 := Tryd.zeroValue31
  t45 := Tryd.underlying153
  a45 := Tryd.isAgg153
  z45 := Tryd.sizeOf153
  v45 := Tryd.zeroValue153
  t46 := Tryd.underlying154
  a46 := Tryd.isAgg154
  z46 := Tryd.sizeOf154
  v46 := Tryd.zeroValue154
  t50 := Tryd.underlying71
  a50 := Tryd.isAgg71
  z50 := Tryd.sizeOf71
  v50 := Tryd.zeroValue71
  t53 := Tryd.underlying104
  a53 := Tryd.isAgg104
  z53 := Tryd.sizeOf104
  v53 := Tryd.zeroValue104
  t55 := Tryd.underlying126
  a55 := Tryd.isAgg126
  z55 := Tryd.sizeOf126
  v55 := Tryd.zeroValue126
  t66 := Tryd.underlying170
  a66 := Tryd.isAgg170
  z66 := Tryd.sizeOf170
  v66 := Tryd.zeroValue170
  t70 := Tryd.underlying174
  a70 := Tryd.isAgg174
  z70 := Tryd.sizeOf174
  v70 := Tryd.zeroValue174
  t76 := Tryd.underlying177
  a76 := Tryd.isAgg177
  z76 := Tryd.sizeOf177
  v76 := Tryd.zeroValue177
  t77 := Tryd.underlying114
  a77 := Tryd.isAgg114
  z77 := Tryd.sizeOf114
  v77 := Tryd.zeroValue114 }
end Go.Proofs
