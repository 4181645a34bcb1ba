/- Contracts of library functions at this seat, those that the proof uses. -/
import Derived.Shelf.Small.Strs
import Derived.Shelf.Small.Wraps
import Derived.Shelf.Utf8.RuneCount
import Derived.Shelf.Strings.Search1
import Derived.Shelf.Strings.Search2
import Derived.Shelf.Strings.Search3
import Derived.Shelf.Strings.Count
import Derived.Shelf.LaysM
import Derived.Shelf.Strings.Shaped
import Derived.Shelf.Strings.Prefix
import Derived.Shelf.Strings.Split
import Derived.Shelf.Strings.SplitShaped
import Derived.Shelf.Unicode.Decode
import Derived.Shelf.Strings.RuneCount
import Derived.Shelf.Strings.Explode
import Derived.Shelf.Unicode.DecodeSlow
import Derived.Shelf.Unicode.DecodeAny
import Derived.Shelf.Slices.Equal
import Derived.Shelf.Slices.Empties2
import Derived.Test.YtpmfiegfbmamiaaGreatDoorProg
namespace Go.Proofs
open Go.Shelf
def Tryz.lays137_ren:Go.Shelf.Ren:=⟨fun | 137=>109 | 217=>138 | 266=>153 | n=>n,fun | 9=>9 | 5=>5 | 3=>3 | n=>n,fun | n=>n⟩
theorem Tryz.lays137:Go.Proofs.Lays.n137 Tryz.prog Tryz.lays137_ren:={
  mixed:=by kernel_rfl
  f137:=Tryz.func109.trans (congrArg some (by kernel_rfl))
  f217:=Tryz.func138.trans (congrArg some (by kernel_rfl))
  f266:=Tryz.func153.trans (congrArg some (by kernel_rfl))
  t3:=Tryz.underlying3
  a3:=Tryz.isAgg3
  z3:=Tryz.sizeOf3
  v3:=Tryz.zeroValue3
  t5:=Tryz.underlying5
  a5:=Tryz.isAgg5
  z5:=Tryz.sizeOf5
  v5:=Tryz.zeroValue5
  t9:=Tryz.underlying9
  a9:=Tryz.isAgg9
  z9:=Tryz.sizeOf9
  v9:=Tryz.zeroValue9 }
open Go.RowKit in
theorem Tryz.strings_IndexByte (s:ByteArray) (c:Int) (w:World) :
    Calls Tryz.prog 109 #[.string s,.int .u8 c] w fun e w'=>e = .returned (.int .i64 (Lib.indexByte s.data.toList c.toNat.toUInt8))∧w'=w:=Any.strings_IndexByte Tryz.lays137 s c w
def Tryz.lays103_ren:Go.Shelf.Ren:=⟨fun | 103=>94 | 210=>120 | 206=>141 | n=>n,fun | 9=>9 | 4=>4 | 24=>199 | 3=>3 | n=>n,fun | n=>n⟩
theorem Tryz.lays103:Go.Proofs.Lays.n103 Tryz.prog Tryz.lays103_ren:={
  mixed:=by kernel_rfl
  f103:=Tryz.func94.trans (congrArg some (by kernel_rfl))
  f206:=Tryz.func141.trans (congrArg some (by kernel_rfl))
  f210:=Tryz.func120.trans (congrArg some (by kernel_rfl))
  t3:=Tryz.underlying3
  a3:=Tryz.isAgg3
  z3:=Tryz.sizeOf3
  v3:=Tryz.zeroValue3
  t4:=Tryz.underlying4
  a4:=Tryz.isAgg4
  z4:=Tryz.sizeOf4
  v4:=Tryz.zeroValue4
  t9:=Tryz.underlying9
  a9:=Tryz.isAgg9
  z9:=Tryz.sizeOf9
  v9:=Tryz.zeroValue9
  t24:=Tryz.underlying199
  a24:=Tryz.isAgg199
  z24:=Tryz.sizeOf199
  v24:=Tryz.zeroValue199 }
open Go.RowKit in
theorem Tryz.strings_CutPrefix (s p:ByteArray) (w:World) :
    Calls Tryz.prog 94 #[.string s,.string p] w fun e w'=>e = .returned (.tuple #[.string ⟨(Lib.trimPrefix s.data.toList p.data.toList).toArray⟩,.bool (Lib.hasPrefix s.data.toList p.data.toList)])∧w'=w:=Any.strings_CutPrefix Tryz.lays103 s p w
def Tryz.laysM138_ren:Go.Shelf.Ren:=⟨fun | 138=>151 | 195=>157 | 218=>159 | 143=>152 | 219=>160 | 217=>138 | 225=>164 | 224=>165 | 267=>166 | 266=>153 | 314=>167 | n=>n,fun | 9=>9 | 3=>3 | 4=>4 | 5=>5 | 0=>0 | 46=>161 | 146=>269 | 51=>186 | n=>n,fun | 1=>4 | n=>n⟩
theorem Tryz.laysM138:Go.Proofs.LaysM.n138 Tryz.prog Tryz.laysM138_ren:={
  mixed:=by kernel_rfl
  f138:=Tryz.func151.trans (congrArg some (by kernel_rfl))
  f143:=Tryz.func152.trans (congrArg some (by kernel_rfl))
  f195:=Tryz.func157.trans (congrArg some (by kernel_rfl))
  f217:=Tryz.func138.trans (congrArg some (by kernel_rfl))
  f218:=Tryz.func159.trans (congrArg some (by kernel_rfl))
  f219:=Tryz.func160.trans (congrArg some (by kernel_rfl))
  f224:=Tryz.func165.trans (congrArg some (by kernel_rfl))
  f225:=Tryz.func164.trans (congrArg some (by kernel_rfl))
  f266:=Tryz.func153.trans (congrArg some (by kernel_rfl))
  f267:=Tryz.func166.trans (congrArg some (by kernel_rfl))
  f314:=Tryz.func167.trans (congrArg some (by kernel_rfl))
  t0:=Tryz.underlying0
  a0:=Tryz.isAgg0
  z0:=Tryz.sizeOf0
  v0:=Tryz.zeroValue0
  t3:=Tryz.underlying3
  a3:=Tryz.isAgg3
  z3:=Tryz.sizeOf3
  v3:=Tryz.zeroValue3
  t4:=Tryz.underlying4
  a4:=Tryz.isAgg4
  z4:=Tryz.sizeOf4
  v4:=Tryz.zeroValue4
  t5:=Tryz.underlying5
  a5:=Tryz.isAgg5
  z5:=Tryz.sizeOf5
  v5:=Tryz.zeroValue5
  t9:=Tryz.underlying9
  a9:=Tryz.isAgg9
  z9:=Tryz.sizeOf9
  v9:=Tryz.zeroValue9
  t46:=Tryz.underlying161
  a46:=Tryz.isAgg161
  z46:=Tryz.sizeOf161
  v46:=Tryz.zeroValue161
  t51:=Tryz.underlying186
  a51:=Tryz.isAgg186
  z51:=Tryz.sizeOf186
  v51:=Tryz.zeroValue186
  t146:=Tryz.underlying269
  a146:=Tryz.isAgg269
  z146:=Tryz.sizeOf269
  v146:=Tryz.zeroValue269
  g1:=by kernel_rfl
  i0:=by kernel_rfl
  i3:=by kernel_rfl
  i4:=by kernel_rfl
  i5:=by kernel_rfl
  i9:=by kernel_rfl
  i46:=by kernel_rfl
  i51:=by kernel_rfl
  i146:=by kernel_rfl
  m1:=by kernel_rfl
  s1_3:=fun w h=>Go.Proofs.cell_of_shapedOpen_int (zero:=#[.int .i64 0]) (t:=3) h (of_decide_eq_true (by kernel_rfl)) (by kernel_rfl) rfl (by kernel_rfl) (by kernel_rfl) Tryz.underlying3 }
def Tryz.lays146_ren:Go.Shelf.Ren:=⟨fun | 146=>107 | 221=>137 | 268=>150 | 138=>151 | 143=>152 | 195=>157 | 197=>158 | 218=>159 | 219=>160 | 260=>163 | 217=>138 | 225=>164 | 224=>165 | 267=>166 | 266=>153 | 314=>167 | n=>n,fun | 9=>9 | 31=>22 | 3=>3 | 4=>4 | 0=>0 | 105=>263 | 21=>21 | 5=>5 | 46=>161 | 119=>265 | 139=>268 | 138=>267 | 146=>269 | 51=>186 | n=>n,fun | 1=>4 | 3=>5 | 4=>6 | n=>n⟩
theorem Tryz.lays146:Go.Proofs.Lays.n146 Tryz.prog Tryz.lays146_ren:={
  mixed:=by kernel_rfl
  f138:=Tryz.func151.trans (congrArg some (by kernel_rfl))
  f143:=Tryz.func152.trans (congrArg some (by kernel_rfl))
  f146:=Tryz.func107.trans (congrArg some (by kernel_rfl))
  f195:=Tryz.func157.trans (congrArg some (by kernel_rfl))
  f197:=Tryz.func158.trans (congrArg some (by kernel_rfl))
  f217:=Tryz.func138.trans (congrArg some (by kernel_rfl))
  f218:=Tryz.func159.trans (congrArg some (by kernel_rfl))
  f219:=Tryz.func160.trans (congrArg some (by kernel_rfl))
  f221:=Tryz.func137.trans (congrArg some (by kernel_rfl))
  f224:=Tryz.func165.trans (congrArg some (by kernel_rfl))
  f225:=Tryz.func164.trans (congrArg some (by kernel_rfl))
  f260:=Tryz.func163.trans (congrArg some (by kernel_rfl))
  f266:=Tryz.func153.trans (congrArg some (by kernel_rfl))
  f267:=Tryz.func166.trans (congrArg some (by kernel_rfl))
  f268:=Tryz.func150.trans (congrArg some (by kernel_rfl))
  f314:=Tryz.func167.trans (congrArg some (by kernel_rfl))
  t0:=Tryz.underlying0
  a0:=Tryz.isAgg0
  z0:=Tryz.sizeOf0
  v0:=Tryz.zeroValue0
  t3:=Tryz.underlying3
  a3:=Tryz.isAgg3
  z3:=Tryz.sizeOf3
  v3:=Tryz.zeroValue3
  t4:=Tryz.underlying4
  a4:=Tryz.isAgg4
  z4:=Tryz.sizeOf4
  v4:=Tryz.zeroValue4
  t5:=Tryz.underlying5
  a5:=Tryz.isAgg5
  z5:=Tryz.sizeOf5
  v5:=Tryz.zeroValue5
  t9:=Tryz.underlying9
  a9:=Tryz.isAgg9
  z9:=Tryz.sizeOf9
  v9:=Tryz.zeroValue9
  t21:=Tryz.underlying21
  a21:=Tryz.isAgg21
  z21:=Tryz.sizeOf21
  v21:=Tryz.zeroValue21
  t31:=Tryz.underlying22
  a31:=Tryz.isAgg22
  z31:=Tryz.sizeOf22
  v31:=Tryz.zeroValue22
  t46:=Tryz.underlying161
  a46:=Tryz.isAgg161
  z46:=Tryz.sizeOf161
  v46:=Tryz.zeroValue161
  t51:=Tryz.underlying186
  a51:=Tryz.isAgg186
  z51:=Tryz.sizeOf186
  v51:=Tryz.zeroValue186
  t105:=Tryz.underlying263
  a105:=Tryz.isAgg263
  z105:=Tryz.sizeOf263
  v105:=Tryz.zeroValue263
  t119:=Tryz.underlying265
  a119:=Tryz.isAgg265
  z119:=Tryz.sizeOf265
  t138:=Tryz.underlying267
  a138:=Tryz.isAgg267
  z138:=Tryz.sizeOf267
  v138:=Tryz.zeroValue267
  t139:=Tryz.underlying268
  a139:=Tryz.isAgg268
  z139:=Tryz.sizeOf268
  v139:=Tryz.zeroValue268
  t146:=Tryz.underlying269
  a146:=Tryz.isAgg269
  z146:=Tryz.sizeOf269
  v146:=Tryz.zeroValue269
  g1:=by kernel_rfl
  g3:=by kernel_rfl
  g4:=by kernel_rfl }
open Go.RowKit Go.Lib in
theorem Tryz.strings_Split (s sep:ByteArray) (m:Int) (w:World) (hs:s.size<4294967281) (hm:w.cell? ⟨4,0,none⟩=some (.int .i64 m)) (h1:1≤sep.size) :
    Calls Tryz.prog 107 #[.string s,.string sep] w fun e w'=>
      e = .returned (.slice (some ⟨w.heap.size,0,none⟩) (Lib.countB s sep+1) (Lib.countB s sep+1))∧w'=w.alloc (.cells ((Lib.splitB sep 0 (Lib.countB s sep) s).map Value.string).toArray 9):=Any.strings_Split Tryz.lays146 (by kernel_rfl) s sep m w hs hm h1
end Go.Proofs
