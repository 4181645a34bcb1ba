/- Contracts of library functions at this seat, those that the proof uses. -/
import Derived.Shelf.Small.Strs
import Derived.Shelf.Small.Wraps
import Derived.Shelf.Utf8.RuneCount
import Derived.Shelf.Strings.Search1
import Derived.Shelf.Strings.Search2
import Derived.Shelf.Strings.Search3
import Derived.Shelf.Strings.Count
import Derived.Shelf.LaysM
import Derived.Shelf.Strings.Shaped
import Derived.Shelf.Strings.Prefix
import Derived.Shelf.Strings.Split
import Derived.Shelf.Strings.SplitShaped
import Derived.Shelf.Unicode.Decode
import Derived.Shelf.Strings.RuneCount
import Derived.Shelf.Strings.Explode
import Derived.Shelf.Unicode.DecodeSlow
import Derived.Shelf.Unicode.DecodeAny
import Derived.Shelf.Slices.Equal
import Derived.Shelf.Slices.Empties2
import Derived.Test.YtpmfiegfbmamiaaDoorProg
namespace Go.Proofs
open Go.Shelf
def Tryd.lays137_ren:Go.Shelf.Ren:=⟨fun | 137=>75 | 217=>84 | 266=>90 | n=>n,fun | 9=>9 | 5=>5 | 3=>3 | n=>n,fun | n=>n⟩
theorem Tryd.lays137:Go.Proofs.Lays.n137 Tryd.prog Tryd.lays137_ren:={
  mixed:=by kernel_rfl
  f137:=Tryd.func75.trans (congrArg some (by kernel_rfl))
  f217:=Tryd.func84.trans (congrArg some (by kernel_rfl))
  f266:=Tryd.func90.trans (congrArg some (by kernel_rfl))
  t3:=Tryd.underlying3
  a3:=Tryd.isAgg3
  z3:=Tryd.sizeOf3
  v3:=Tryd.zeroValue3
  t5:=Tryd.underlying5
  a5:=Tryd.isAgg5
  z5:=Tryd.sizeOf5
  v5:=Tryd.zeroValue5
  t9:=Tryd.underlying9
  a9:=Tryd.isAgg9
  z9:=Tryd.sizeOf9
  v9:=Tryd.zeroValue9 }
open Go.RowKit in
theorem Tryd.strings_IndexByte (s:ByteArray) (c:Int) (w:World) :
    Calls Tryd.prog 75 #[.string s,.int .u8 c] w fun e w'=>e = .returned (.int .i64 (Lib.indexByte s.data.toList c.toNat.toUInt8))∧w'=w:=Any.strings_IndexByte Tryd.lays137 s c w
def Tryd.lays103_ren:Go.Shelf.Ren:=⟨fun | 103=>76 | 210=>85 | 206=>91 | n=>n,fun | 9=>9 | 4=>4 | 24=>148 | 3=>3 | n=>n,fun | n=>n⟩
theorem Tryd.lays103:Go.Proofs.Lays.n103 Tryd.prog Tryd.lays103_ren:={
  mixed:=by kernel_rfl
  f103:=Tryd.func76.trans (congrArg some (by kernel_rfl))
  f206:=Tryd.func91.trans (congrArg some (by kernel_rfl))
  f210:=Tryd.func85.trans (congrArg some (by kernel_rfl))
  t3:=Tryd.underlying3
  a3:=Tryd.isAgg3
  z3:=Tryd.sizeOf3
  v3:=Tryd.zeroValue3
  t4:=Tryd.underlying4
  a4:=Tryd.isAgg4
  z4:=Tryd.sizeOf4
  v4:=Tryd.zeroValue4
  t9:=Tryd.underlying9
  a9:=Tryd.isAgg9
  z9:=Tryd.sizeOf9
  v9:=Tryd.zeroValue9
  t24:=Tryd.underlying148
  a24:=Tryd.isAgg148
  z24:=Tryd.sizeOf148
  v24:=Tryd.zeroValue148 }
open Go.RowKit in
theorem Tryd.strings_CutPrefix (s p:ByteArray) (w:World) :
    Calls Tryd.prog 76 #[.string s,.string p] w fun e w'=>e = .returned (.tuple #[.string ⟨(Lib.trimPrefix s.data.toList p.data.toList).toArray⟩,.bool (Lib.hasPrefix s.data.toList p.data.toList)])∧w'=w:=Any.strings_CutPrefix Tryd.lays103 s p w
def Tryd.laysM143_ren:Go.Shelf.Ren:=⟨fun | 143=>89 | 219=>95 | 217=>84 | 225=>97 | 224=>98 | 267=>99 | 266=>90 | 314=>100 | n=>n,fun | 9=>9 | 3=>3 | 4=>4 | 5=>5 | 46=>118 | 146=>171 | 51=>146 | n=>n,fun | 1=>0 | n=>n⟩
theorem Tryd.laysM143:Go.Proofs.LaysM.n143 Tryd.prog Tryd.laysM143_ren:={
  mixed:=by kernel_rfl
  f143:=Tryd.func89.trans (congrArg some (by kernel_rfl))
  f217:=Tryd.func84.trans (congrArg some (by kernel_rfl))
  f219:=Tryd.func95.trans (congrArg some (by kernel_rfl))
  f224:=Tryd.func98.trans (congrArg some (by kernel_rfl))
  f225:=Tryd.func97.trans (congrArg some (by kernel_rfl))
  f266:=Tryd.func90.trans (congrArg some (by kernel_rfl))
  f267:=Tryd.func99.trans (congrArg some (by kernel_rfl))
  f314:=Tryd.func100.trans (congrArg some (by kernel_rfl))
  t3:=Tryd.underlying3
  a3:=Tryd.isAgg3
  z3:=Tryd.sizeOf3
  v3:=Tryd.zeroValue3
  t4:=Tryd.underlying4
  a4:=Tryd.isAgg4
  z4:=Tryd.sizeOf4
  v4:=Tryd.zeroValue4
  t5:=Tryd.underlying5
  a5:=Tryd.isAgg5
  z5:=Tryd.sizeOf5
  v5:=Tryd.zeroValue5
  t9:=Tryd.underlying9
  a9:=Tryd.isAgg9
  z9:=Tryd.sizeOf9
  v9:=Tryd.zeroValue9
  t46:=Tryd.underlying118
  a46:=Tryd.isAgg118
  z46:=Tryd.sizeOf118
  v46:=Tryd.zeroValue118
  t51:=Tryd.underlying146
  a51:=Tryd.isAgg146
  z51:=Tryd.sizeOf146
  v51:=Tryd.zeroValue146
  t146:=Tryd.underlying171
  a146:=Tryd.isAgg171
  z146:=Tryd.sizeOf171
  v146:=Tryd.zeroValue171
  g1:=by kernel_rfl
  i3:=by kernel_rfl
  i4:=by kernel_rfl
  i5:=by kernel_rfl
  i9:=by kernel_rfl
  i46:=by kernel_rfl
  i51:=by kernel_rfl
  i146:=by kernel_rfl
  m1:=by kernel_rfl
  s1_3:=fun w h=>Go.Proofs.cell_of_shapedOpen_int (zero:=#[.int .i64 0]) (t:=3) h (of_decide_eq_true (by kernel_rfl)) (by kernel_rfl) rfl (by kernel_rfl) (by kernel_rfl) Tryd.underlying3 }
def Tryd.lays146_ren:Go.Shelf.Ren:=⟨fun | 146=>72 | 221=>83 | 268=>87 | 138=>88 | 143=>89 | 195=>92 | 197=>93 | 218=>94 | 219=>95 | 260=>96 | 217=>84 | 225=>97 | 224=>98 | 267=>99 | 266=>90 | 314=>100 | n=>n,fun | 9=>9 | 31=>22 | 3=>3 | 4=>4 | 0=>0 | 105=>165 | 21=>21 | 5=>5 | 46=>118 | 119=>167 | 139=>170 | 138=>169 | 146=>171 | 51=>146 | n=>n,fun | 1=>0 | 3=>1 | 4=>2 | n=>n⟩
theorem Tryd.lays146:Go.Proofs.Lays.n146 Tryd.prog Tryd.lays146_ren:={
  mixed:=by kernel_rfl
  f138:=Tryd.func88.trans (congrArg some (by kernel_rfl))
  f143:=Tryd.func89.trans (congrArg some (by kernel_rfl))
  f146:=Tryd.func72.trans (congrArg some (by kernel_rfl))
  f195:=Tryd.func92.trans (congrArg some (by kernel_rfl))
  f197:=Tryd.func93.trans (congrArg some (by kernel_rfl))
  f217:=Tryd.func84.trans (congrArg some (by kernel_rfl))
  f218:=Tryd.func94.trans (congrArg some (by kernel_rfl))
  f219:=Tryd.func95.trans (congrArg some (by kernel_rfl))
  f221:=Tryd.func83.trans (congrArg some (by kernel_rfl))
  f224:=Tryd.func98.trans (congrArg some (by kernel_rfl))
  f225:=Tryd.func97.trans (congrArg some (by kernel_rfl))
  f260:=Tryd.func96.trans (congrArg some (by kernel_rfl))
  f266:=Tryd.func90.trans (congrArg some (by kernel_rfl))
  f267:=Tryd.func99.trans (congrArg some (by kernel_rfl))
  f268:=Tryd.func87.trans (congrArg some (by kernel_rfl))
  f314:=Tryd.func100.trans (congrArg some (by kernel_rfl))
  t0:=Tryd.underlying0
  a0:=Tryd.isAgg0
  z0:=Tryd.sizeOf0
  v0:=Tryd.zeroValue0
  t3:=Tryd.underlying3
  a3:=Tryd.isAgg3
  z3:=Tryd.sizeOf3
  v3:=Tryd.zeroValue3
  t4:=Tryd.underlying4
  a4:=Tryd.isAgg4
  z4:=Tryd.sizeOf4
  v4:=Tryd.zeroValue4
  t5:=Tryd.underlying5
  a5:=Tryd.isAgg5
  z5:=Tryd.sizeOf5
  v5:=Tryd.zeroValue5
  t9:=Tryd.underlying9
  a9:=Tryd.isAgg9
  z9:=Tryd.sizeOf9
  v9:=Tryd.zeroValue9
  t21:=Tryd.underlying21
  a21:=Tryd.isAgg21
  z21:=Tryd.sizeOf21
  v21:=Tryd.zeroValue21
  t31:=Tryd.underlying22
  a31:=Tryd.isAgg22
  z31:=Tryd.sizeOf22
  v31:=Tryd.zeroValue22
  t46:=Tryd.underlying118
  a46:=Tryd.isAgg118
  z46:=Tryd.sizeOf118
  v46:=Tryd.zeroValue118
  t51:=Tryd.underlying146
  a51:=Tryd.isAgg146
  z51:=Tryd.sizeOf146
  v51:=Tryd.zeroValue146
  t105:=Tryd.underlying165
  a105:=Tryd.isAgg165
  z105:=Tryd.sizeOf165
  v105:=Tryd.zeroValue165
  t119:=Tryd.underlying167
  a119:=Tryd.isAgg167
  z119:=Tryd.sizeOf167
  t138:=Tryd.underlying169
  a138:=Tryd.isAgg169
  z138:=Tryd.sizeOf169
  v138:=Tryd.zeroValue169
  t139:=Tryd.underlying170
  a139:=Tryd.isAgg170
  z139:=Tryd.sizeOf170
  v139:=Tryd.zeroValue170
  t146:=Tryd.underlying171
  a146:=Tryd.isAgg171
  z146:=Tryd.sizeOf171
  v146:=Tryd.zeroValue171
  g1:=by kernel_rfl
  g3:=by kernel_rfl
  g4:=by kernel_rfl }
open Go.RowKit Go.Lib in
theorem Tryd.strings_Split (s sep:ByteArray) (m:Int) (w:World) (hs:s.size<4294967281) (hm:w.cell? ⟨0,0,none⟩=some (.int .i64 m)) (h1:1≤sep.size) :
    Calls Tryd.prog 72 #[.string s,.string sep] w fun e w'=>
      e = .returned (.slice (some ⟨w.heap.size,0,none⟩) (Lib.countB s sep+1) (Lib.countB s sep+1))∧w'=w.alloc (.cells ((Lib.splitB sep 0 (Lib.countB s sep) s).map Value.string).toArray 9):=Any.strings_Split Tryd.lays146 (by kernel_rfl) s sep m w hs hm h1
end Go.Proofs
