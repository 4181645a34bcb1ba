/- Plain facts on bits of bytes, the lowest first. -/
import Derived.Laws.BitsLemmas
namespace Go.Proofs.YtokojichjliieaaDoor

/-- The bit i of bytes. -/
def bitAt (l : List UInt8) (i : Nat) : Nat := (l.getD (i / 8) 0).toNat / 2 ^ (i % 8) % 2
/-- The number of the n bits from a on. -/
def takeN (l : List UInt8) (a : Nat) : Nat → Nat
  | 0 => 0
  | n + 1 => takeN l a n + 2 ^ n * bitAt l (a + n)
theorem bitAt_lt (l : List UInt8) (i : Nat) : bitAt l i < 2 := Nat.mod_lt _ (by decide)
theorem takeN_lt (l : List UInt8) (a n : Nat) : takeN l a n < 2 ^ n := by
  induction n with
  | zero => simp [takeN]
  | succ n ih =>
    unfold takeN
    have h := bitAt_lt l (a + n)
    have h2 : 2 ^ n * bitAt l (a + n) ≤ 2 ^ n * 1 := Nat.mul_le_mul (Nat.le_refl _) (by omega)
    rw [Nat.pow_succ]; omega
/-- Three bytes as a number, the least first. -/
def acc3 (l : List UInt8) (k : Nat) : Nat := (l.getD k 0).toNat + 256 * (l.getD (k + 1) 0).toNat + 65536 * (l.getD (k + 2) 0).toNat
theorem acc3_lt (l : List UInt8) (k : Nat) : acc3 l k < 16777216 := by
  have h0 := (l.getD k 0).toNat_lt
  have h1 := (l.getD (k + 1) 0).toNat_lt
  have h2 := (l.getD (k + 2) 0).toNat_lt
  unfold acc3; omega
theorem acc3_bit (l : List UInt8) (k j : Nat) (hj : j < 24) : acc3 l k / 2 ^ j % 2 = bitAt l (8 * k + j) := by
  have h0 := (l.getD k 0).toNat_lt
  have h1 := (l.getD (k + 1) 0).toNat_lt
  have h2 := (l.getD (k + 2) 0).toNat_lt
  unfold bitAt acc3
  rw [show (8 * k + j) / 8 = k + j / 8 by omega, show (8 * k + j) % 8 = j % 8 by omega]
  generalize e0 : (l.getD k 0).toNat = b0 at *
  generalize e1 : (l.getD (k + 1) 0).toNat = b1 at *
  generalize e2 : (l.getD (k + 2) 0).toNat = b2 at *
  have hs : j = 0 ∨ j = 1 ∨ j = 2 ∨ j = 3 ∨ j = 4 ∨ j = 5 ∨ j = 6 ∨ j = 7 ∨ j = 8 ∨ j = 9 ∨ j = 10 ∨ j = 11 ∨ j = 12 ∨ j = 13 ∨ j = 14 ∨ j = 15 ∨ j = 16 ∨ j = 17 ∨ j = 18 ∨ j = 19 ∨ j = 20 ∨ j = 21 ∨ j = 22 ∨ j = 23 := by omega
  rcases hs with rfl | rfl | rfl | rfl | rfl | rfl | rfl | rfl | rfl | rfl | rfl | rfl | rfl | rfl | rfl | rfl | rfl | rfl | rfl | rfl | rfl | rfl | rfl | rfl
  all_goals
    simp only [Nat.reducePow, Nat.reduceDiv, Nat.reduceMod, Nat.add_zero]
    first
      | (rw [e0]; omega)
      | (rw [e1]; omega)
      | (rw [e2]; omega)
/-- The number of bits, out of three bytes. -/
theorem acc3_take (l : List UInt8) (a n : Nat) (hn : n ≤ 16) : acc3 l (a / 8) / 2 ^ (a % 8) % 2 ^ n = takeN l a n := by
  induction n with
  | zero => simp [takeN]; omega
  | succ n ih =>
    unfold takeN
    rw [← ih (by omega)]
    have hb := acc3_bit l (a / 8) (a % 8 + n) (by omega)
    rw [show 8 * (a / 8) + (a % 8 + n) = a + n by omega] at hb
    rw [← hb, Nat.pow_succ, Nat.mod_mul, Nat.div_div_eq_div_mul, ← Nat.pow_add]
/-- Bits of which none is read beyond an end hang on what stands before it alone. -/
theorem bitAt_app (l m : List UInt8) (i : Nat) (h : i < 8 * l.length) : bitAt (l ++ m) i = bitAt l i := by
  unfold bitAt
  rw [List.getD_eq_getElem?_getD, List.getD_eq_getElem?_getD, List.getElem?_append_left (by omega)]
theorem takeN_app (l m : List UInt8) (a n : Nat) (h : a + n ≤ 8 * l.length) : takeN (l ++ m) a n = takeN l a n := by
  induction n with
  | zero => rfl
  | succ n ih => unfold takeN; rw [ih (by omega), bitAt_app _ _ _ (by omega)]
end Go.Proofs.YtokojichjliieaaDoor
