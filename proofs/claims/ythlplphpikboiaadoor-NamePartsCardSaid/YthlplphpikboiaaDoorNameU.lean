/- Plain facts on the units of modified UTF-8. -/
import Derived.Laws.BitsLemmas
import Derived.Test.YthlplphpikboiaaDoorBase
namespace Go.Proofs.YthlplphpikboiaaDoor

/-- The bytes of a unit. -/
def unitB (x : UInt16) : List UInt8 :=
  if 0 < x.toNat ∧ x.toNat < 128 then [UInt8.ofNat x.toNat]
  else if x.toNat < 2048 then [UInt8.ofNat (192 + x.toNat / 64), UInt8.ofNat (128 + x.toNat % 64)]
  else [UInt8.ofNat (224 + x.toNat / 4096), UInt8.ofNat (128 + x.toNat / 64 % 64), UInt8.ofNat (128 + x.toNat % 64)]
def textB (l : List UInt16) : List UInt8 := l.flatMap unitB
theorem textB_snoc (l : List UInt16) (x : UInt16) : textB (l ++ [x]) = textB l ++ unitB x := by simp [textB]
theorem unitB_one {x : UInt16} {v : Int} (hv : (x.toNat : Int) = v) (h1 : 0 < v) (h2 : v < 128) : unitB x = [UInt8.ofNat v.toNat] := by
  subst hv; unfold unitB; rw [if_pos (by omega)]; rfl
theorem unitB_two {x : UInt16} {v : Int} (hv : (x.toNat : Int) = v) (h1 : v = 0 ∨ 128 ≤ v) (h2 : v < 2048) : unitB x = [UInt8.ofNat (192 + v / 64).toNat, UInt8.ofNat (128 + v % 64).toNat] := by
  subst hv; unfold unitB; rw [if_neg (by omega), if_pos (by omega)]
  congr 1
theorem unitB_three {x : UInt16} {v : Int} (hv : (x.toNat : Int) = v) (h1 : 2048 ≤ v) : unitB x = [UInt8.ofNat (224 + v / 4096).toNat, UInt8.ofNat (128 + v / 64 % 64).toNat, UInt8.ofNat (128 + v % 64).toNat] := by
  subst hv; unfold unitB; rw [if_neg (by omega), if_neg (by omega)]
  congr 1
theorem unitB_len (x : UInt16) : 1 ≤ (unitB x).length ∧ (unitB x).length ≤ 3 := by unfold unitB; split <;> (try split) <;> simp
theorem wraps_u16 (n : Int) (h0 : 0 ≤ n) (h1 : n < 2 ^ 16) : IntKind.u16.wrap n = n := by
  have : IntKind.u16.wrap n = n % 65536 := by simp [IntKind.wrap, IntKind.bits, IntKind.signed]
  rw [this]; omega
theorem u16_and63 {v : Int} (h0 : 0 ≤ v) (h1 : v < 65536) : bits .and .u16 v 63 = v % 64 := bits_mask .u16 16 (by decide) wraps_u16 6 (by decide) v h0 h1
theorem low_byte {v : Int} (h0 : 0 ≤ v) (h1 : v < 65536) : bits .or .u8 128 (bits .and .u16 v 63 % 256) = 128 + v % 64 := by
  rw [u16_and63 h0 h1, show v % 64 % 256 = v % 64 by omega]; exact u8_or128 _ (by omega) (by omega)
theorem bV_of {v : Int} (h0 : 0 ≤ v) (h1 : v < 256) : Value.int .u8 v = bV (UInt8.ofNat v.toNat) := by
  unfold bV; rw [UInt8.toNat_ofNat']; congr 1; omega
end Go.Proofs.YthlplphpikboiaaDoor
