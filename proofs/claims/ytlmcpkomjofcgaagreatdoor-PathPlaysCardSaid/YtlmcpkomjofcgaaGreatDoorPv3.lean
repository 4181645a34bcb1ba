/- The sum of bytes, in plain numbers; up to four neighbouring bytes that are others make another sum. The program's own numbers for the sum: xor, complement and mask of 32 bits, the table. Plain facts on bits of bytes, the lowest first. Plain facts on canonical prefix codes. Plain facts on unpacking: what squeezed bytes are unpacked to. What one entry's bytes unpack to, in plain words. Plain facts on texts: all instances replaced, cut at a sign; the lines of a text. The directory of an archive, in plain numbers. What a directory that is accepted is like; entries that lie on one another, by their order. Plain: looking a name up. Names, sign by sign. Plain facts on making a prefix code of lengths. Plain facts on unpacking: what is read hangs on the bits that are passed alone; what is cut off is missed. Plain facts on the bytes of a number. Plain: bytes that stand at a place. Plain: the archive that is made of items, and what its directory is. Plain facts on bits that are put behind one another: a number and how many bits it has. Plain facts on unpacking: what a greater limit turns; stored blocks. Plain facts on squeezing: what is put is unpacked again. Plain facts on squeezing: which steps are taken. Plain: what is found in an archive that is made. Plain: what is asked of items; the archive or the first error. Plain: the archive's bytes as they are put. -/
import Derived.Laws.BitsLemmas
import Derived.Lib.Replace
import Derived.Test.YtlmcpkomjofcgaaGreatDoorPv1
namespace Go.Proofs.YtlmcpkomjofcgaaGreatDoor

def crcP : Nat := 3988292384
def bitS (r : Nat) : Nat := if r % 2 = 1 then (r / 2) ^^^ crcP else r / 2
def bitsS : Nat → Nat → Nat
  | 0, r => r
  | n + 1, r => bitsS n (bitS r)
def byteS (r c : Nat) : Nat := bitsS 8 (r ^^^ c)
def crcF (r : Nat) (l : List UInt8) : Nat := l.foldl (fun r c => byteS r c.toNat) r
/-- The sum of l behind bytes that have the sum s. -/
def crcA (s : Nat) (l : List UInt8) : Nat := 4294967295 - crcF (4294967295 - s) l
theorem xor_half (a b : Nat) : (a ^^^ b) / 2 = (a / 2) ^^^ (b / 2) := by
  have := Nat.shiftRight_xor_distrib (a := a) (b := b) (i := 1)
  simpa [Nat.shiftRight_eq_div_pow] using this
theorem xor_low (a b : Nat) : (a ^^^ b) % 2 = (a % 2 + b % 2) % 2 := by
  have h := Nat.xor_mod_two_eq_one (a := a) (b := b)
  omega
theorem bitS_xor (a b : Nat) : bitS (a ^^^ b) = bitS a ^^^ bitS b := by
  unfold bitS
  rw [xor_low, xor_half]
  have ha : a % 2 = 0 ∨ a % 2 = 1 := by omega
  have hb : b % 2 = 0 ∨ b % 2 = 1 := by omega
  rcases ha with ha | ha <;> rcases hb with hb | hb <;> rw [ha, hb]
  · rfl
  · show ((a / 2) ^^^ (b / 2)) ^^^ crcP = (a / 2) ^^^ ((b / 2) ^^^ crcP)
    rw [Nat.xor_assoc]
  · show ((a / 2) ^^^ (b / 2)) ^^^ crcP = ((a / 2) ^^^ crcP) ^^^ (b / 2)
    rw [Nat.xor_assoc, Nat.xor_assoc, Nat.xor_comm (b / 2)]
  · show (a / 2) ^^^ (b / 2) = ((a / 2) ^^^ crcP) ^^^ ((b / 2) ^^^ crcP)
    rw [Nat.xor_assoc, ← Nat.xor_assoc crcP, Nat.xor_comm crcP, Nat.xor_assoc (b / 2), Nat.xor_self, Nat.xor_zero]
theorem bitsS_xor : ∀ n a b, bitsS n (a ^^^ b) = bitsS n a ^^^ bitsS n b := by
  intro n
  induction n with
  | zero => intro a b; rfl
  | succ n ih => intro a b; rw [bitsS, bitsS, bitsS, bitS_xor, ih]
theorem bitS_lt {r : Nat} (h : r < 4294967296) : bitS r < 4294967296 := by
  unfold bitS
  split
  · exact Nat.xor_lt_two_pow (n := 32) (by omega) (by decide)
  · omega
theorem bitsS_lt : ∀ n {r : Nat}, r < 4294967296 → bitsS n r < 4294967296 := by
  intro n
  induction n with
  | zero => intro r h; exact h
  | succ n ih => intro r h; exact ih (bitS_lt h)
theorem bitsS_shift : ∀ n x, bitsS n (x * 2 ^ n) = x := by
  intro n
  induction n with
  | zero => intro x; rw [Nat.pow_zero, Nat.mul_one]; rfl
  | succ n ih =>
    intro x
    have e : bitS (x * 2 ^ (n + 1)) = x * 2 ^ n := by
      unfold bitS
      rw [Nat.pow_succ, ← Nat.mul_assoc, if_neg (by omega)]; omega
    rw [bitsS, e, ih]
/-- What is known of a byte's step. -/
structure Lin (T : Nat → Nat) : Prop where
  zero : T 0 = 0
  lt : ∀ r, r < 4294967296 → T r < 4294967296
  inj : ∀ r, r < 4294967296 → T r = 0 → r = 0
  xor : ∀ a b, T (a ^^^ b) = T a ^^^ T b
  shift : ∀ x, T (x * 256) = x
/-- How two rows of as many bytes tell registers apart. -/
def difF (T : Nat → Nat) : Nat → List (UInt8 × UInt8) → Nat
  | D, [] => D
  | D, x :: r => difF T (T (D ^^^ (x.1.toNat ^^^ x.2.toNat))) r
theorem add_xor (a x : Nat) (h : a < 256) : a + 256 * x = a ^^^ (x * 256) := by
  rw [Nat.xor_comm, show x * 256 = 2 ^ 8 * x by omega, Nat.add_comm, show 256 * x = 2 ^ 8 * x by omega, Nat.two_pow_add_eq_or_of_lt (by omega) x]
  apply Nat.eq_of_testBit_eq
  intro i
  rw [Nat.testBit_or, Nat.testBit_xor]
  by_cases hi : i < 8
  · have e : (2 ^ 8 * x).testBit i = false := by
      rw [Nat.testBit_two_pow_mul]; simp; omega
    rw [e]; simp
  · have e : a.testBit i = false := Nat.testBit_lt_two_pow (Nat.lt_of_lt_of_le h (by
      have : (2 : Nat) ^ 8 ≤ 2 ^ i := Nat.pow_le_pow_right (by decide) (by omega)
      omega))
    rw [e]; simp
/-- Some bytes as one number, the least first. -/
def worthF : List (UInt8 × UInt8) → Nat
  | [] => 0
  | x :: r => (x.1.toNat ^^^ x.2.toNat) + 256 * worthF r
def iterT (T : Nat → Nat) : Nat → Nat → Nat
  | 0, r => r
  | n + 1, r => iterT T n (T r)
section
variable {T : Nat → Nat} (L : Lin T)
include L
end
theorem crcF_lt : ∀ (l : List UInt8) r, r < 4294967296 → crcF r l < 4294967296 := by
  intro l
  induction l with
  | nil => intro r h; exact h
  | cons c l ih =>
    intro r h
    have hc := c.toNat_lt
    exact ih _ (bitsS_lt 8 (Nat.xor_lt_two_pow (n := 32) h (by omega)))
end Go.Proofs.YtlmcpkomjofcgaaGreatDoor
namespace Go.Proofs.YtlmcpkomjofcgaaGreatDoor
theorem wraps_u32S (n : Int) (h₀ : 0 ≤ n) (h₁ : n < 2 ^ 32) : IntKind.u32.wrap n = n := by rw [IntKind.wrap_u32]; omega
theorem xor32 (a b : Nat) (ha : a < 4294967296) (hb : b < 4294967296) : bits .xor .u32 (a : Int) (b : Int) = ((a ^^^ b : Nat) : Int) := by
  have ha' : a % 2 ^ 32 = a := Nat.mod_eq_of_lt ha
  have hb' : b % 2 ^ 32 = b := Nat.mod_eq_of_lt hb
  have hx : a ^^^ b < 4294967296 := Nat.xor_lt_two_pow (n := 32) ha hb
  simp only [bits, BitVec.ofInt_natCast, BitVec.toNat_xor, BitVec.toNat_ofNat, show IntKind.u32.bits = 32 from rfl, ha', hb']
  exact wraps_u32S _ (Int.natCast_nonneg _) (by omega)
theorem and32 (a b : Nat) (ha : a < 4294967296) (hb : b < 4294967296) : bits .and .u32 (a : Int) (b : Int) = ((a &&& b : Nat) : Int) :=
  (bits_nat .u32 32 (by decide) wraps_u32S a b ha hb).1
theorem flip_nat (r : Nat) (h : r < 4294967296) : 4294967295 ^^^ r = 4294967295 - r := by
  apply Nat.eq_of_testBit_eq
  intro i
  have e : 4294967295 - r = 2 ^ 32 - (r + 1) := by omega
  rw [e, Nat.testBit_two_pow_sub_succ h, Nat.testBit_xor, show (4294967295 : Nat) = 2 ^ 32 - 1 from rfl, Nat.testBit_two_pow_sub_one]
  by_cases hi : i < 32
  · simp [hi]
  · have : r.testBit i = false := Nat.testBit_lt_two_pow (Nat.lt_of_lt_of_le h (by
      have : (2 : Nat) ^ 32 ≤ 2 ^ i := Nat.pow_le_pow_right (by decide) (by omega)
      omega))
    simp [hi, this]
theorem flip32 (r : Nat) (h : r < 4294967296) : bits .xor .u32 4294967295 (r : Int) = ((4294967295 - r : Nat) : Int) := by
  have := xor32 4294967295 r (by decide) h
  rw [flip_nat r h] at this
  exact this
theorem low32 (r : Nat) (h : r < 4294967296) : bits .and .u32 (r : Int) 1 = ((r % 2 : Nat) : Int) := by
  have := and32 r 1 h (by decide)
  rw [Nat.and_one_is_mod] at this
  exact this
/-- The program's branch-free step is the document's. -/
theorem maskStep (r : Nat) (h : r < 4294967296) : bits .xor .u32 ((r / 2 : Nat) : Int) (bits .and .u32 3988292384 (IntKind.u32.wrap (-((r % 2 : Nat) : Int)))) = (bitS r : Int) := by
  have hp : crcP = 3988292384 := rfl
  rcases (by omega : r % 2 = 0 ∨ r % 2 = 1) with e | e
  · rw [e, show IntKind.u32.wrap (-((0 : Nat) : Int)) = ((0 : Nat) : Int) from by decide, show (3988292384 : Int) = ((3988292384 : Nat) : Int) from rfl, and32 _ _ (by decide) (by decide), Nat.and_zero, xor32 _ _ (by omega) (by decide), Nat.xor_zero]
    rw [bitS, if_neg (by omega)]
  · rw [e, show IntKind.u32.wrap (-((1 : Nat) : Int)) = ((4294967295 : Nat) : Int) from by decide, show (3988292384 : Int) = ((3988292384 : Nat) : Int) from rfl, and32 _ _ (by decide) (by decide), show 3988292384 &&& 4294967295 = crcP from by decide, xor32 _ _ (by omega) (by decide)]
    rw [bitS, if_pos e]
/-- The table's entry, and a byte's step by it. -/
def tabS (k : Nat) : Nat := bitsS 8 k
theorem tabS_lt {k : Nat} (h : k < 256) : tabS k < 4294967296 := bitsS_lt 8 (by omega)
theorem split_xor (r : Nat) : r = (r % 256) ^^^ (r / 256 * 256) := by
  have := add_xor (r % 256) (r / 256) (Nat.mod_lt _ (by decide))
  omega
theorem byteS_tab (r c : Nat) : byteS r c = tabS ((r % 256) ^^^ c) ^^^ (r / 256) := by
  unfold byteS tabS
  rw [show bitsS 8 (r ^^^ c) = bitsS 8 (((r % 256) ^^^ c) ^^^ (r / 256 * 256)) by
    congr 1
    conv => lhs; rw [split_xor r]
    rw [Nat.xor_assoc, Nat.xor_comm (r / 256 * 256), ← Nat.xor_assoc], bitsS_xor]
  congr 1
  exact bitsS_shift 8 (r / 256)
theorem crcF_snoc (r : Nat) (l : List UInt8) (x : UInt8) : crcF r (l ++ [x]) = byteS (crcF r l) x.toNat := by
  unfold crcF; rw [List.foldl_append]; rfl
end Go.Proofs.YtlmcpkomjofcgaaGreatDoor
namespace Go.Proofs.YtlmcpkomjofcgaaGreatDoor

/-- The bit i of bytes. -/
def bitAt (l : List UInt8) (i : Nat) : Nat := (l.getD (i / 8) 0).toNat / 2 ^ (i % 8) % 2
/-- The number of the n bits from a on. -/
def takeN (l : List UInt8) (a : Nat) : Nat → Nat
  | 0 => 0
  | n + 1 => takeN l a n + 2 ^ n * bitAt l (a + n)
theorem bitAt_lt (l : List UInt8) (i : Nat) : bitAt l i < 2 := Nat.mod_lt _ (by decide)
theorem takeN_lt (l : List UInt8) (a n : Nat) : takeN l a n < 2 ^ n := by
  induction n with
  | zero => simp [takeN]
  | succ n ih =>
    unfold takeN
    have h := bitAt_lt l (a + n)
    have h2 : 2 ^ n * bitAt l (a + n) ≤ 2 ^ n * 1 := Nat.mul_le_mul (Nat.le_refl _) (by omega)
    rw [Nat.pow_succ]; omega
/-- Three bytes as a number, the least first. -/
def acc3 (l : List UInt8) (k : Nat) : Nat := (l.getD k 0).toNat + 256 * (l.getD (k + 1) 0).toNat + 65536 * (l.getD (k + 2) 0).toNat
theorem acc3_lt (l : List UInt8) (k : Nat) : acc3 l k < 16777216 := by
  have h0 := (l.getD k 0).toNat_lt
  have h1 := (l.getD (k + 1) 0).toNat_lt
  have h2 := (l.getD (k + 2) 0).toNat_lt
  unfold acc3; omega
theorem acc3_bit (l : List UInt8) (k j : Nat) (hj : j < 24) : acc3 l k / 2 ^ j % 2 = bitAt l (8 * k + j) := by
  have h0 := (l.getD k 0).toNat_lt
  have h1 := (l.getD (k + 1) 0).toNat_lt
  have h2 := (l.getD (k + 2) 0).toNat_lt
  unfold bitAt acc3
  rw [show (8 * k + j) / 8 = k + j / 8 by omega, show (8 * k + j) % 8 = j % 8 by omega]
  generalize e0 : (l.getD k 0).toNat = b0 at *
  generalize e1 : (l.getD (k + 1) 0).toNat = b1 at *
  generalize e2 : (l.getD (k + 2) 0).toNat = b2 at *
  have hs : j = 0 ∨ j = 1 ∨ j = 2 ∨ j = 3 ∨ j = 4 ∨ j = 5 ∨ j = 6 ∨ j = 7 ∨ j = 8 ∨ j = 9 ∨ j = 10 ∨ j = 11 ∨ j = 12 ∨ j = 13 ∨ j = 14 ∨ j = 15 ∨ j = 16 ∨ j = 17 ∨ j = 18 ∨ j = 19 ∨ j = 20 ∨ j = 21 ∨ j = 22 ∨ j = 23 := by omega
  rcases hs with rfl | rfl | rfl | rfl | rfl | rfl | rfl | rfl | rfl | rfl | rfl | rfl | rfl | rfl | rfl | rfl | rfl | rfl | rfl | rfl | rfl | rfl | rfl | rfl
  all_goals
    simp only [Nat.reducePow, Nat.reduceDiv, Nat.reduceMod, Nat.add_zero]
    first
      | (rw [e0]; omega)
      | (rw [e1]; omega)
      | (rw [e2]; omega)
/-- The number of bits, out of three bytes. -/
theorem acc3_take (l : List UInt8) (a n : Nat) (hn : n ≤ 16) : acc3 l (a / 8) / 2 ^ (a % 8) % 2 ^ n = takeN l a n := by
  induction n with
  | zero => simp [takeN]; omega
  | succ n ih =>
    unfold takeN
    rw [← ih (by omega)]
    have hb := acc3_bit l (a / 8) (a % 8 + n) (by omega)
    rw [show 8 * (a / 8) + (a % 8 + n) = a + n by omega] at hb
    rw [← hb, Nat.pow_succ, Nat.mod_mul, Nat.div_div_eq_div_mul, ← Nat.pow_add]
end Go.Proofs.YtlmcpkomjofcgaaGreatDoor
namespace Go.Proofs.YtlmcpkomjofcgaaGreatDoor

/-- How many symbols have words of n bits; the first word of n bits; the symbols that have n bits, rising. -/
def cntP (l : List Nat) (n : Nat) : Nat := if n = 0 then 0 else l.count n
def firstP (l : List Nat) : Nat → Nat
  | 0 => 0
  | n + 1 => 2 * (firstP l n + cntP l n)
def symsP (l : List Nat) (k n : Nat) : List Nat := (List.range k).filter fun s => l[s]? == some n
def kraftTo (l : List Nat) : Nat → Nat
  | 0 => 0
  | n + 1 => 2 * kraftTo l n + cntP l (n + 1)
def usedP (l : List Nat) : Nat := (l.filter fun n => n != 0).length
/-- Do lengths make a code? -/
def codeB (l : List Nat) (lone : Bool) : Bool := decide (kraftTo l 15 = 32768) || (lone && (decide (usedP l = 0) || (decide (usedP l = 1) && decide (l.count 1 = 1))))
theorem kraft_first (l : List Nat) (n : Nat) : firstP l n + cntP l n = kraftTo l n := by
  induction n with
  | zero => rfl
  | succ n ih => simp only [firstP, kraftTo, ih]
theorem kraft_mono (l : List Nat) (n d : Nat) : kraftTo l n * 2 ^ d ≤ kraftTo l (n + d) := by
  induction d with
  | zero => simp
  | succ d ih =>
    rw [← Nat.add_assoc]
    simp only [kraftTo]
    rw [Nat.pow_succ, ← Nat.mul_assoc]; omega
/-- A word of n bits has no more than n bits. -/
theorem first_bound {l : List Nat} (h : kraftTo l 15 ≤ 32768) {n : Nat} (hn : n ≤ 15) : firstP l n + cntP l n ≤ 2 ^ n := by
  rw [kraft_first]
  have h1 := kraft_mono l n (15 - n)
  rw [show n + (15 - n) = 15 by omega] at h1
  have h2 : (2 : Nat) ^ 15 = 2 ^ n * 2 ^ (15 - n) := by rw [← Nat.pow_add]; congr 1; omega
  have h3 : 0 < 2 ^ (15 - n) := Nat.two_pow_pos _
  have h4 : kraftTo l n * 2 ^ (15 - n) ≤ 2 ^ n * 2 ^ (15 - n) := by rw [← h2]; omega
  exact Nat.le_of_mul_le_mul_right h4 h3
theorem symsP_succ (l : List Nat) (k n : Nat) : symsP l (k + 1) n = symsP l k n ++ (if l[k]? = some n then [k] else []) := by
  unfold symsP
  rw [List.range_succ, List.filter_append]
  congr 1
  by_cases h : l[k]? = some n <;> simp [h]
theorem count_take (l : List Nat) (k n : Nat) (hk : k ≤ l.length) : (symsP l k n).length = (l.take k).count n := by
  induction k with
  | zero => simp [symsP]
  | succ k ih =>
    rw [symsP_succ, List.length_append, ih (by omega), List.take_add_one, List.getElem?_eq_getElem (show k < l.length by omega)]
    simp only [Option.toList_some, List.count_append, Option.some.injEq]
    by_cases h : l[k] = n <;> simp [h]
theorem symsP_len (l : List Nat) (n : Nat) : (symsP l l.length n).length = l.count n := by
  rw [count_take _ _ _ (Nat.le_refl _), List.take_length]
/-- The symbol of a word of n bits, among the first k symbols. -/
def symK (l : List Nat) (k : Nat) (n c : Nat) : Option Nat := if n = 0 then none else if firstP l n ≤ c then (symsP l k n)[c - firstP l n]? else none
def symAt (l : List Nat) (n c : Nat) : Option Nat := symK l l.length n c
theorem symK_zero (l : List Nat) (n c : Nat) : symK l 0 n c = none := by
  unfold symK symsP
  split
  · rfl
  · split <;> simp
theorem symK_same {l : List Nat} {k m : Nat} (hk : l[k]? = some m) (hm : m ≠ 0) : symK l (k + 1) m (firstP l m + (symsP l k m).length) = some k := by
  unfold symK
  rw [if_neg hm, if_pos (by omega), symsP_succ, if_pos hk]
  rw [show firstP l m + (symsP l k m).length - firstP l m = (symsP l k m).length by omega]
  simp
theorem symK_other {l : List Nat} {k m n c : Nat} (hk : l[k]? = some m) (h : ¬ (n = m ∧ c = firstP l m + (symsP l k m).length)) : symK l (k + 1) n c = symK l k n c := by
  unfold symK
  split
  · rfl
  · split
    · rename_i h1
      rw [symsP_succ]
      by_cases hn : n = m
      · subst hn
        rw [if_pos hk]
        rcases Nat.lt_or_ge (c - firstP l n) (symsP l k n).length with h2 | h2
        · rw [List.getElem?_append_left h2]
        · rw [List.getElem?_append_right h2, List.getElem?_eq_none h2]
          have h3 : c - firstP l n - (symsP l k n).length ≠ 0 := fun e => h ⟨rfl, by omega⟩
          obtain ⟨q, hq⟩ : ∃ q, c - firstP l n - (symsP l k n).length = q + 1 := ⟨c - firstP l n - (symsP l k n).length - 1, by omega⟩
          rw [hq]; simp
      · rw [if_neg (by rw [hk]; intro e; injection e with e; exact hn e.symm)]; simp
    · rfl
theorem symK_skip {l : List Nat} {k n c : Nat} (hk : l[k]? = some 0) : symK l (k + 1) n c = symK l k n c := by
  by_cases hn : n = 0
  · unfold symK; rw [if_pos hn, if_pos hn]
  · exact symK_other hk (fun e => hn e.1)
def mostP (l : List Nat) : Nat := l.foldl max 0
end Go.Proofs.YtlmcpkomjofcgaaGreatDoor
namespace Go.Proofs.YtlmcpkomjofcgaaGreatDoor

/-- An answer, or an error's number. -/
inductive Rz (α : Type) where
  | ok (a : α) : Rz α
  | err (e : Int) : Rz α
def Rz.bind {α β : Type} : Rz α → (α → Rz β) → Rz β
  | .ok a, f => f a
  | .err e, _ => .err e
/-- The next n bits at p. -/
def tk (b : List UInt8) (p n : Nat) : Rz (Nat × Nat) := if p + n ≤ 8 * b.length then .ok (takeN b p n, p + n) else .err 2
/-- The next symbol. -/
def nextF (l : List Nat) (b : List UInt8) : Nat → Nat → Nat → Nat → Rz (Nat × Nat)
  | 0, _, _, _ => .err 6
  | f + 1, n, c, p => if p + 1 ≤ 8 * b.length then (match symAt l (n + 1) (2 * c + bitAt b p) with
      | some s => .ok (s, p + 1)
      | none => nextF l b f (n + 1) (2 * c + bitAt b p) (p + 1)) else .err 2
def nextP (l : List Nat) (b : List UInt8) (p : Nat) : Rz (Nat × Nat) := nextF l b (mostP l) 0 0 p
/-- Lengths and distances. -/
def spreadP (c per : Nat) : Nat × Nat := if c < 2 * per then (c, 0) else ((per + c % per) * 2 ^ (c / per - 1), c / per - 1)
def lenP (s : Nat) : Nat × Nat := if s = 285 then (258, 0) else ((spreadP (s - 257) 4).1 + 3, (spreadP (s - 257) 4).2)
def dstP (t : Nat) : Nat × Nat := ((spreadP t 2).1 + 1, (spreadP t 2).2)
def copyN (far : Nat) : Nat → List UInt8 → List UInt8
  | 0, out => out
  | n + 1, out => copyN far n (out ++ [out.getD (out.length - far) 0])
/-- A block's symbols. -/
def symF (lit dist : List Nat) (b : List UInt8) (lim : Nat) : Nat → Nat → List UInt8 → Rz (List UInt8 × Nat)
  | 0, _, _ => .err 0
  | f + 1, p, out => (nextP lit b p).bind fun x =>
      if x.1 = 256 then .ok (out, x.2)
      else if x.1 < 256 then (if lim ≤ out.length then .err 8 else symF lit dist b lim f x.2 (out ++ [UInt8.ofNat x.1]))
      else if 285 < x.1 then .err 6
      else (tk b x.2 (lenP x.1).2).bind fun y => (nextP dist b y.2).bind fun z =>
        if 29 < z.1 then .err 6
        else (tk b z.2 (dstP z.1).2).bind fun u =>
          if out.length < (dstP z.1).1 + u.1 then .err 7
          else if lim < out.length + ((lenP x.1).1 + y.1) then .err 8
          else symF lit dist b lim f u.2 (copyN ((dstP z.1).1 + u.1) ((lenP x.1).1 + y.1) out)
/-- The lengths that a block tells. -/
def ordL : List Nat := [16, 17, 18, 0, 8, 7, 9, 6, 10, 5, 11, 4, 12, 3, 13, 2, 14, 1, 15]
def lensF (b : List UInt8) : List Nat → List Nat → Nat → Rz (List Nat × Nat)
  | [], l, p => .ok (l, p)
  | k :: r, l, p => (tk b p 3).bind fun x => lensF b r (l.set k x.1) x.2
def runP (s : Nat) (all : List Nat) : Nat × Nat × Nat :=
  if s = 16 then (all.getLastD 0, 3, 2) else if s = 17 then (0, 3, 3) else if s = 18 then (0, 11, 7) else (s, 1, 0)
def allF (lens : List Nat) (b : List UInt8) (total : Nat) : Nat → Nat → List Nat → Rz (List Nat × Nat)
  | 0, _, _ => .err 0
  | f + 1, p, all => if total ≤ all.length then .ok (all, p) else (nextP lens b p).bind fun x =>
      if x.1 = 16 ∧ all = [] then .err 6
      else (tk b x.2 (runP x.1 all).2.2).bind fun y =>
        if total < all.length + ((runP x.1 all).2.1 + y.1) then .err 6
        else allF lens b total f y.2 (all ++ List.replicate ((runP x.1 all).2.1 + y.1) (runP x.1 all).1)
def allP0 (lens : List Nat) (total : Nat) (b : List UInt8) (p : Nat) : Rz (List Nat × Nat) := allF lens b total (8 * b.length + 1) p []
def toldP (b : List UInt8) (p : Nat) : Rz ((List Nat × List Nat) × Nat) :=
  (tk b p 5).bind fun x => (tk b x.2 5).bind fun y => (tk b y.2 4).bind fun z =>
    if 286 < x.1 + 257 ∨ 30 < y.1 + 1 then .err 5
    else (lensF b (ordL.take (z.1 + 4)) (List.replicate 19 0) z.2).bind fun u =>
      if codeB u.1 false = false then .err 5
      else (allP0 u.1 (x.1 + 257 + (y.1 + 1)) b u.2).bind fun v =>
        if v.1.getD 256 0 = 0 then .err 5 else .ok ((v.1.take (x.1 + 257), v.1.drop (x.1 + 257)), v.2)
def fixLit : List Nat := List.replicate 144 8 ++ List.replicate 112 9 ++ List.replicate 24 7 ++ List.replicate 8 8
def fixDist : List Nat := List.replicate 32 5
/-- A stored block. -/
def byteN (b : List UInt8) (k : Nat) : Nat := (b.getD k 0).toNat
def storedP (b : List UInt8) (lim p : Nat) (out : List UInt8) : Rz (List UInt8 × Nat) :=
  if b.length < (p + 7) / 8 + 4 then .err 2
  else if byteN b ((p + 7) / 8) + 256 * byteN b ((p + 7) / 8 + 1) + (byteN b ((p + 7) / 8 + 2) + 256 * byteN b ((p + 7) / 8 + 3)) ≠ 65535 then .err 4
  else if lim < out.length + (byteN b ((p + 7) / 8) + 256 * byteN b ((p + 7) / 8 + 1)) then .err 8
  else if b.length < (p + 7) / 8 + 4 + (byteN b ((p + 7) / 8) + 256 * byteN b ((p + 7) / 8 + 1)) then .err 2
  else .ok (out ++ (b.drop ((p + 7) / 8 + 4)).take (byteN b ((p + 7) / 8) + 256 * byteN b ((p + 7) / 8 + 1)), 8 * ((p + 7) / 8 + 4 + (byteN b ((p + 7) / 8) + 256 * byteN b ((p + 7) / 8 + 1))))
def symP (lit dist : List Nat) (lim : Nat) (out : List UInt8) (b : List UInt8) (p : Nat) : Rz (List UInt8 × Nat) := symF lit dist b lim (8 * b.length + 1) p out
def codedP (lim : Nat) (out : List UInt8) (lit dist : List Nat) (b : List UInt8) (p : Nat) : Rz (List UInt8 × Nat) :=
  if codeB lit false = false then .err 5 else if codeB dist true = false then .err 5 else symP lit dist lim out b p
/-- What stands in one block, of the kind k. -/
def bodyP (lim : Nat) (out : List UInt8) (k : Nat) (b : List UInt8) (p : Nat) : Rz (List UInt8 × Nat) :=
  if k = 0 then storedP b lim p out else if k = 3 then .err 3
  else if k = 2 then (toldP b p).bind fun u => codedP lim out u.1.1 u.1.2 b u.2
  else codedP lim out fixLit fixDist b p
/-- One block: is it the last? -/
def blkP (lim : Nat) (out : List UInt8) (b : List UInt8) (p : Nat) : Rz ((Bool × List UInt8) × Nat) :=
  (tk b p 1).bind fun x => (tk b x.2 2).bind fun y => (bodyP lim out y.1 b y.2).bind fun z => .ok ((decide (x.1 = 1), z.1), z.2)
def allB (lim : Nat) (b : List UInt8) : Nat → Nat → List UInt8 → Rz (List UInt8 × Nat)
  | 0, _, _ => .err 0
  | f + 1, p, out => (blkP lim out b p).bind fun x => if x.1.1 = true then .ok (x.1.2, x.2) else allB lim b f x.2 x.1.2
/-- All blocks, and the bits that they take. -/
def allP (lim : Nat) (b : List UInt8) (p : Nat) : Rz (List UInt8 × Nat) := allB lim b (8 * b.length + 1) p []
/-- All that bytes begin with. -/
def inflP (b : List UInt8) (lim : Int) : Rz (List UInt8 × Nat) := if lim < 0 ∨ 32768 < lim then .err 1 else (allP lim.toNat b 0).bind fun x => .ok (x.1, (x.2 + 7) / 8)
end Go.Proofs.YtlmcpkomjofcgaaGreatDoor
namespace Go.Proofs.YtlmcpkomjofcgaaGreatDoor
def outA (me pk si : Int) (b : List UInt8) : Rz (List UInt8) :=
  if me = 8 then (inflP b si).bind fun x => if x.2 < b.length then .err 18 else .ok x.1
  else if pk ≠ si then .err 18 else .ok b
def endA' (si su : Int) (o : List UInt8) : Rz (List UInt8) := if (o.length : Int) ≠ si then .err 18 else if (crcA 0 o : Int) ≠ su then .err 19 else .ok o
/-- A record's method, packed length, size and sum, and the packed bytes. -/
def unpA (me pk si su : Int) (b : List UInt8) : Rz (List UInt8) :=
  if (b.length : Int) ≠ pk ∨ (me ≠ 0 ∧ me ≠ 8) ∨ si < 0 then .err 1
  else if 32768 < si then .err 17
  else (outA me pk si b).bind (endA' si su)
end Go.Proofs.YtlmcpkomjofcgaaGreatDoor
namespace Go.Proofs.YtlmcpkomjofcgaaGreatDoor
open Go.Lib

theorem pre_ne {a c : UInt8} {l r : List UInt8} (h : ¬ a = c) : (a :: l).isPrefixOf (c :: r) = false := by
  have : (a == c) = false := by simpa using h
  show (a == c && _) = false
  rw [this]; rfl
theorem idx_zero {s old : List UInt8} (h : old.isPrefixOf s = true) : index s old = 0 := by
  cases s with
  | nil => cases old with
    | nil => rfl
    | cons a t => simp at h
  | cons c r => unfold index; rw [if_pos h]
theorem idx_miss {c : UInt8} {r old : List UInt8} (h : old.isPrefixOf (c :: r) = false) : (index r old = -1 ∧ index (c :: r) old = -1) ∨ ∃ i : Nat, index r old = i ∧ index (c :: r) old = (i + 1 : Nat) := by
  have hge := index_ge r old
  have e : index (c :: r) old = if old.isPrefixOf (c :: r) then 0 else if index r old == -1 then -1 else index r old + 1 := rfl
  rw [e, if_neg (by rw [h]; decide)]
  by_cases h1 : index r old = -1
  · exact .inl ⟨h1, by rw [h1]; rfl⟩
  · refine .inr ⟨(index r old).toNat, by omega, ?_⟩
    rw [if_neg (by simpa using h1)]; omega
theorem cnt_zero {s old : List UInt8} (ho : old ≠ []) (h : old.isPrefixOf s = true) : count s old = 1 + count (s.drop old.length) old := by
  rw [count_hit (i := 0) ho (by rw [idx_zero h]; rfl), Nat.zero_add]
theorem cnt_miss {c : UInt8} {r old : List UInt8} (ho : old ≠ []) (h : old.isPrefixOf (c :: r) = false) : count (c :: r) old = count r old := by
  rcases idx_miss h with ⟨h1, h2⟩ | ⟨i, h1, h2⟩
  · rw [count_miss h1, count_miss h2]
  · rw [count_hit ho h1, count_hit ho h2]
    congr 2
    rw [show i + 1 + old.length = (i + old.length) + 1 by omega]; rfl
/-- The ends of lines made one: a line feed behind a carriage return is none of its own. -/
def normF : Bool → List UInt8 → List UInt8
  | _, [] => []
  | p, c :: r => if c = 10 ∧ p = true then normF false r else (if c = 13 then 10 else c) :: normF (c == 13) r
/-- Cut at a sign. -/
def cutL (a : UInt8) : List UInt8 → List (List UInt8)
  | [] => [[]]
  | c :: r => if c = a then [] :: cutL a r else match cutL a r with
    | [] => [[c]]
    | x :: xs => (c :: x) :: xs
theorem cutL_ne (a : UInt8) (s : List UInt8) : cutL a s ≠ [] := by
  cases s with
  | nil => simp [cutL]
  | cons c r =>
    unfold cutL
    split
    · simp
    · split <;> simp
theorem splitK_hit' (sep : List UInt8) (k : Nat) (s : List UInt8) (i : Nat) (h : index s sep = i) : splitK sep 0 (k + 1) s = s.take i :: splitK sep 0 k (s.drop (i + sep.length)) := by
  have hm : ¬ (index s sep == -1) = true := fun e => by have := beq_iff_eq.1 e; omega
  have e : (index s sep).toNat = i := by omega
  rw [splitK, if_neg hm, e, Nat.add_zero]
theorem splitK_miss {c : UInt8} {r sep : List UInt8} (h : sep.isPrefixOf (c :: r) = false) (k : Nat) : ∃ x xs, splitK sep 0 k r = x :: xs ∧ splitK sep 0 k (c :: r) = (c :: x) :: xs := by
  cases k with
  | zero => exact ⟨r, [], rfl, rfl⟩
  | succ k =>
    rcases idx_miss h with ⟨h1, h2⟩ | ⟨i, h1, h2⟩
    · refine ⟨r, [], ?_, ?_⟩
      · simp only [splitK, h1]; simp
      · simp only [splitK, h2]; simp
    · rw [splitK_hit' _ _ _ i h1, splitK_hit' _ _ _ (i + 1) h2]
      refine ⟨_, _, rfl, ?_⟩
      rw [show i + 1 + sep.length = (i + sep.length) + 1 by omega]
      simp
theorem split_cut (a : UInt8) (s : List UInt8) : split s [a] = cutL a s := by
  unfold split
  induction s with
  | nil => rfl
  | cons c r ih =>
    by_cases hc : c = a
    · subst hc
      rw [cnt_zero (by simp) (by simp), Nat.add_comm, splitK_hit' _ _ _ 0 (by rw [idx_zero (by simp)]; rfl)]
      simp only [List.take_zero, List.length_singleton, Nat.zero_add, List.drop_succ_cons, List.drop_zero]
      rw [ih]; simp [cutL]
    · have hp : ([a] : List UInt8).isPrefixOf (c :: r) = false := pre_ne fun e => hc e.symm
      rw [cnt_miss (by simp) hp]
      obtain ⟨x, xs, h1, h2⟩ := splitK_miss hp (count r [a])
      rw [ih] at h1
      rw [h2]
      unfold cutL
      rw [if_neg hc, h1]
/-- The lines ahead of the first empty one. -/
def linesOf (s : List UInt8) : List (List UInt8) := (cutL 10 s).takeWhile fun l => !l.isEmpty
def linesM (s : List UInt8) : List (List UInt8) := linesOf (normF false s)
section
variable {x : List UInt8} (h : ∀ c ∈ x, c ≠ 13 ∧ c ≠ 10)
include h
end
end Go.Proofs.YtlmcpkomjofcgaaGreatDoor
namespace Go.Proofs.YtlmcpkomjofcgaaGreatDoor

def numA (b : List UInt8) (p n : Nat) : Nat := leN ((b.drop p).take n)
def signA (b : List UInt8) (p : Nat) (x y : UInt8) : Bool := decide (b.getD p 0 = 80 ∧ b.getD (p + 1) 0 = 75 ∧ b.getD (p + 2) 0 = x ∧ b.getD (p + 3) 0 = y)
/-- Does the end record stand at p? -/
def endA (b : List UInt8) (p : Nat) : Bool := signA b p 5 6 && decide (numA b (p + 20) 2 = b.length - p - 22)
def endsA (b : List UInt8) : List Nat := (List.range (b.length - 21)).filter (endA b)
def endP (b : List UInt8) : Option Nat := match endsA b with
  | [p] => some p
  | _ => none
/-- Names: cut at the slashes. -/
def partOk (p : List UInt8) : Bool := !(p == [46]) && !(p == [46, 46])
def partsOk : List (List UInt8) → Bool
  | [] => true
  | [p] => partOk p
  | p :: r => partOk p && !p.isEmpty && partsOk r
def nameA (s : List UInt8) : Bool := !s.isEmpty && decide (s.length ≤ 64) && !s.contains 0 && !s.contains 92 && (match cutL 47 s with
  | [] => false
  | p :: r => !p.isEmpty && partsOk (p :: r))
structure Rec where
  name : List UInt8
  method : Nat
  packed : Nat
  size : Nat
  sum : Nat
  head : Nat
deriving DecidableEq
/-- What of the flags is not left aside. -/
def flagsA (v : Nat) : Nat := v - 2 * (v / 2 % 2) - 4 * (v / 4 % 2) - 2048 * (v / 2048 % 2)
/-- One central record, and the place behind it. -/
def recA (b : List UInt8) (p border : Nat) (seen : List (List UInt8)) : Rz (Rec × Nat) :=
  if border < p + 46 ∨ signA b p 1 2 = false then .err 11
  else if border < p + 46 + numA b (p + 28) 2 + numA b (p + 30) 2 + numA b (p + 32) 2 ∨ numA b (p + 34) 2 ≠ 0 then .err 11
  else if 20 < numA b (p + 6) 2 ∨ flagsA (numA b (p + 8) 2) ≠ 0 ∨ (numA b (p + 10) 2 ≠ 0 ∧ numA b (p + 10) 2 ≠ 8) then .err 12
  else if nameA ((b.drop (p + 46)).take (numA b (p + 28) 2)) = false then .err 13
  else if ((b.drop (p + 46)).take (numA b (p + 28) 2)) ∈ seen then .err 14
  else .ok (⟨(b.drop (p + 46)).take (numA b (p + 28) 2), numA b (p + 10) 2, numA b (p + 20) 4, numA b (p + 24) 4, numA b (p + 16) 4, numA b (p + 42) 4⟩, p + 46 + numA b (p + 28) 2 + numA b (p + 30) 2 + numA b (p + 32) 2)
/-- The records behind those that were read. -/
def centA (b : List UInt8) (border : Nat) : Nat → Nat → List (Rec × Nat) → Rz (List (Rec × Nat) × Nat)
  | 0, p, acc => .ok (acc, p)
  | n + 1, p, acc => (recA b p border (acc.map (·.1.name))).bind fun x => centA b border n x.2 (acc ++ [(x.1, p)])
/-- Where the packed bytes begin. -/
def localA (b : List UInt8) (dir : Nat) (x : Rec × Nat) : Option Nat :=
  if dir < x.1.head + 30 ∨ signA b x.1.head 3 4 = false ∨ (b.drop (x.1.head + 4)).take 24 ≠ (b.drop (x.2 + 6)).take 24 then none
  else if dir < x.1.head + 30 + x.1.name.length + numA b (x.1.head + 28) 2 ∨ dir < x.1.head + 30 + x.1.name.length + numA b (x.1.head + 28) 2 + x.1.packed ∨ (b.drop (x.1.head + 30)).take x.1.name.length ≠ x.1.name then none
  else some (x.1.head + 30 + x.1.name.length + numA b (x.1.head + 28) 2)
def localsA (b : List UInt8) (dir : Nat) : List (Rec × Nat) → Option (List (Rec × Nat))
  | [] => some []
  | x :: r => match localA b dir x, localsA b dir r with
    | some a, some l => some ((x.1, a) :: l)
    | _, _ => none
/-- Do two entries lie on one another? -/
def overA (x y : Rec × Nat) : Bool := decide (x.1.head < y.2 + y.1.packed ∧ y.1.head < x.2 + x.1.packed)
def anyOver : List (Rec × Nat) → Bool
  | [] => false
  | x :: r => r.any (overA x) || anyOver r
/-- All entries, each with the place of its bytes; n entries, the directory from dir to p. -/
def bookA (b : List UInt8) (dir p n : Nat) : Rz (List (Rec × Nat)) :=
  (centA b p n dir []).bind fun x => if x.2 ≠ p then .err 11 else match localsA b dir x.1 with
    | none => .err 15
    | some l => if anyOver l = true then .err 16 else .ok l
def dirA (b : List UInt8) : Rz (List (Rec × Nat)) :=
  if 65536 < b.length then .err 8
  else match endP b with
    | none => .err 9
    | some p => if numA b (p + 4) 4 ≠ 0 ∨ numA b (p + 10) 2 ≠ numA b (p + 8) 2 ∨ 64 < numA b (p + 8) 2 ∨ numA b (p + 16) 4 + numA b (p + 12) 4 ≠ p then .err 10
      else bookA b (numA b (p + 16) 4) p (numA b (p + 8) 2)
section
variable {b c : List UInt8} {k border : Nat}
end
end Go.Proofs.YtlmcpkomjofcgaaGreatDoor
namespace Go.Proofs.YtlmcpkomjofcgaaGreatDoor

theorem overA_comm (x y : Rec × Nat) : overA x y = overA y x := by unfold overA; exact decide_eq_decide.2 And.comm
theorem anyOver_iff (l : List (Rec × Nat)) : anyOver l = false ↔ l.Pairwise (fun x y => overA x y = false) := by
  induction l with
  | nil => simp [anyOver]
  | cons x r ih =>
    rw [anyOver, Bool.or_eq_false_iff, List.pairwise_cons, ih, List.any_eq_false]
    simp
/-- Do neighbours lie on one another? -/
def adjA : List (Rec × Nat) → Bool
  | x :: y :: r => decide (y.1.head < x.2 + x.1.packed) || adjA (y :: r)
  | _ => false
theorem adjA_pair {s : List (Rec × Nat)} (hs : s.Pairwise (fun x y => x.1.head ≤ y.1.head)) (hw : ∀ x ∈ s, x.1.head < x.2 + x.1.packed) : adjA s = false ↔ s.Pairwise (fun x y => overA x y = false) := by
  induction s with
  | nil => simp [adjA]
  | cons x r ih =>
    cases r with
    | nil => simp [adjA]
    | cons y r =>
      rw [List.pairwise_cons] at hs
      have ih := ih hs.2 (fun z hz => hw z (List.mem_cons_of_mem _ hz))
      rw [adjA, Bool.or_eq_false_iff, ih, List.pairwise_cons (a := x)]
      have hxy := hs.1 y List.mem_cons_self
      have hwy := hw y (List.mem_cons_of_mem _ List.mem_cons_self)
      constructor
      · rintro ⟨h1, h2⟩
        refine ⟨fun z hz => ?_, h2⟩
        have h1 := of_decide_eq_false h1
        unfold overA
        rw [decide_eq_false_iff_not]
        have hyz : y.1.head ≤ z.1.head := by
          rcases List.mem_cons.1 hz with e | e
          · rw [e]; exact Nat.le_refl _
          · exact (List.pairwise_cons.1 hs.2).1 z e
        omega
      · rintro ⟨h1, h2⟩
        refine ⟨?_, h2⟩
        have := h1 y List.mem_cons_self
        unfold overA at this
        rw [decide_eq_false_iff_not] at this ⊢
        omega
theorem over_sorted {l s : List (Rec × Nat)} (hp : s.Perm l) (hs : s.Pairwise (fun x y => x.1.head ≤ y.1.head)) (hw : ∀ x ∈ l, x.1.head < x.2 + x.1.packed) : adjA s = anyOver l := by
  have h1 := adjA_pair hs (fun x hx => hw x (hp.mem_iff.1 hx))
  have h2 := anyOver_iff l
  have h3 : s.Pairwise (fun x y => overA x y = false) ↔ l.Pairwise (fun x y => overA x y = false) := hp.pairwise_iff (fun {x y} h => by rw [overA_comm]; exact h)
  cases ha : adjA s with
  | false => rw [h2.2 (h3.1 (h1.1 ha))]
  | true =>
    cases hb : anyOver l with
    | true => rfl
    | false => rw [h1.2 (h3.2 (h2.1 hb))] at ha; cases ha
theorem recA_ok {b : List UInt8} {p border q : Nat} {seen : List (List UInt8)} {r : Rec} (h : recA b p border seen = .ok (r, q)) :
    p + 46 ≤ q ∧ q ≤ border ∧ nameA r.name = true ∧ r.name ∉ seen ∧ (r.method = 0 ∨ r.method = 8) := by
  unfold recA at h
  split at h
  · cases h
  · rename_i h1
    split at h
    · cases h
    · rename_i h2
      split at h
      · cases h
      · rename_i h3
        split at h
        · cases h
        · rename_i h4
          split at h
          · cases h
          · rename_i h5
            injection h with h
            injection h with h6 h7
            subst h6
            refine ⟨by omega, by omega, by simpa using h4, h5, ?_⟩
            show numA b (p + 10) 2 = 0 ∨ numA b (p + 10) 2 = 8
            omega
structure CenOk (border : Nat) (p : Nat) (l : List (Rec × Nat)) : Prop where
  names : (l.map (·.1.name)).Nodup
  good : ∀ x ∈ l, nameA x.1.name = true ∧ (x.1.method = 0 ∨ x.1.method = 8) ∧ p ≤ x.2 ∧ x.2 + 46 ≤ border
theorem centA_ok {b : List UInt8} {border p0 : Nat} : ∀ n p acc l q, p0 ≤ p → CenOk border p0 acc → centA b border n p acc = .ok (l, q) → CenOk border p0 l ∧ l.length = acc.length + n ∧ p ≤ q ∧ (∃ t, l = acc ++ t) := by
  intro n
  induction n with
  | zero =>
    intro p acc l q _ hacc h
    rw [centA] at h
    injection h with h
    injection h with h1 h2
    subst h1
    exact ⟨hacc, rfl, by omega, [], by simp⟩
  | succ n ih =>
    intro p acc l q hp hacc h
    rw [centA] at h
    cases hr : recA b p border (acc.map (·.1.name)) with
    | err e => rw [hr] at h; cases h
    | ok x =>
      rw [hr] at h
      obtain ⟨r, q1⟩ := x
      have h : centA b border n q1 (acc ++ [(r, p)]) = .ok (l, q) := h
      obtain ⟨a1, a2, a3, a4, a5⟩ := recA_ok hr
      obtain ⟨h1, h2, h3, t, h4⟩ := ih q1 (acc ++ [(r, p)]) l q (by omega) ⟨by
        rw [List.map_append, List.nodup_append]
        refine ⟨hacc.names, by simp, ?_⟩
        intro x hx y hy e
        simp at hy
        subst e
        subst hy
        exact a4 hx, fun x hx => by
          rcases List.mem_append.1 hx with h | h
          · exact hacc.good x h
          · simp at h; subst h; exact ⟨a3, a5, hp, by show p + 46 ≤ border; omega⟩⟩ h
      refine ⟨h1, by rw [h2, List.length_append]; simp; omega, by omega, (r, p) :: t, by rw [h4]; simp⟩
theorem localA_ok {b : List UInt8} {dir a : Nat} {x : Rec × Nat} (h : localA b dir x = some a) : x.1.head + 30 + x.1.name.length ≤ a ∧ a + x.1.packed ≤ dir ∧ (b.drop (x.1.head + 30)).take x.1.name.length = x.1.name := by
  unfold localA at h
  split at h
  · cases h
  · split at h
    · cases h
    · rename_i h2
      injection h with h
      refine ⟨by omega, by omega, ?_⟩
      exact Decidable.byContradiction fun hn => h2 (.inr (.inr hn))
theorem localsA_ok {b : List UInt8} {dir : Nat} : ∀ (l r : List (Rec × Nat)), localsA b dir l = some r → r.map (·.1) = l.map (·.1) ∧ ∀ x ∈ r, x.1.head + 30 + x.1.name.length ≤ x.2 ∧ x.2 + x.1.packed ≤ dir ∧ (b.drop (x.1.head + 30)).take x.1.name.length = x.1.name := by
  intro l
  induction l with
  | nil => intro r h; injection h with h; subst h; simp
  | cons y l ih =>
    intro r h
    rw [localsA] at h
    cases h1 : localA b dir y with
    | none => rw [h1] at h; cases h
    | some a =>
      cases h2 : localsA b dir l with
      | none => rw [h1, h2] at h; cases h
      | some t =>
        rw [h1, h2] at h
        injection h with h
        subst h
        obtain ⟨i1, i2⟩ := ih t h2
        refine ⟨by simp [i1], fun x hx => ?_⟩
        rcases List.mem_cons.1 hx with e | e
        · subst e; exact localA_ok (x := y) h1
        · exact i2 x e
theorem endP_some {b : List UInt8} {p : Nat} (h : endP b = some p) : p + 22 ≤ b.length ∧ endA b p = true ∧ ∀ q, q + 22 ≤ b.length → endA b q = true → q = p := by
  unfold endP at h
  cases he : endsA b with
  | nil => rw [he] at h; cases h
  | cons x r =>
    cases r with
    | cons y r => rw [he] at h; cases h
    | nil =>
      rw [he] at h
      injection h with h
      subst h
      have hm : ∀ q, q ∈ endsA b ↔ q + 22 ≤ b.length ∧ endA b q = true := fun q => by
        unfold endsA
        rw [List.mem_filter, List.mem_range]
        constructor
        · rintro ⟨h1, h2⟩; exact ⟨by omega, h2⟩
        · rintro ⟨h1, h2⟩; exact ⟨by omega, h2⟩
      have h0 := (hm x).1 (by rw [he]; simp)
      refine ⟨h0.1, h0.2, fun q h1 h2 => ?_⟩
      have := (hm q).2 ⟨h1, h2⟩
      rw [he] at this
      simpa using this
/-- What is known of a directory that is accepted. -/
structure DirOk (b : List UInt8) (p dir : Nat) (l : List (Rec × Nat)) : Prop where
  fin : endP b = some p
  len : l.length ≤ 64
  nums : numA b (p + 4) 4 = 0 ∧ numA b (p + 10) 2 = numA b (p + 8) 2 ∧ numA b (p + 8) 2 = l.length ∧ numA b (p + 16) 4 = dir ∧ dir + numA b (p + 12) 4 = p
  book : bookA b dir p l.length = .ok l
  names : (l.map (·.1.name)).Nodup
  good : ∀ x ∈ l, nameA x.1.name = true ∧ (x.1.method = 0 ∨ x.1.method = 8) ∧ x.1.head + 30 + x.1.name.length ≤ x.2 ∧ x.2 + x.1.packed ≤ dir ∧ (b.drop (x.1.head + 30)).take x.1.name.length = x.1.name
  apart : anyOver l = false
theorem bookA_ok {b : List UInt8} {dir p n : Nat} {l : List (Rec × Nat)} (h : bookA b dir p n = .ok l) : l.length = n ∧ (l.map (·.1.name)).Nodup ∧
    (∀ x ∈ l, nameA x.1.name = true ∧ (x.1.method = 0 ∨ x.1.method = 8) ∧ x.1.head + 30 + x.1.name.length ≤ x.2 ∧ x.2 + x.1.packed ≤ dir ∧ (b.drop (x.1.head + 30)).take x.1.name.length = x.1.name) ∧ anyOver l = false := by
  unfold bookA at h
  cases hc : centA b p n dir [] with
  | err e => rw [hc] at h; cases h
  | ok x =>
    rw [hc] at h
    obtain ⟨t, q⟩ := x
    have h : (if q ≠ p then Rz.err 11 else match localsA b dir t with
      | none => .err 15
      | some l => if anyOver l = true then .err 16 else .ok l) = .ok l := h
    obtain ⟨c1, c2, c3, _⟩ := centA_ok (p0 := dir) n dir [] t q (Nat.le_refl _) ⟨by simp, by simp⟩ hc
    split at h
    · cases h
    · cases hl : localsA b dir t with
      | none => rw [hl] at h; cases h
      | some r =>
        rw [hl] at h
        have h : (if anyOver r = true then Rz.err 16 else .ok r) = .ok l := h
        split at h
        · cases h
        · rename_i ho
          injection h with h
          subst h
          obtain ⟨l1, l2⟩ := localsA_ok t r hl
          have hlen : r.length = t.length := by have := congrArg List.length l1; simpa using this
          have hnm : r.map (·.1.name) = t.map (·.1.name) := by
            have := congrArg (List.map Rec.name) l1
            rw [List.map_map, List.map_map] at this
            exact this
          refine ⟨by rw [hlen, c2]; simp, by rw [hnm]; exact c1.names, fun x hx => ?_, by simpa using ho⟩
          have hx1 : x.1 ∈ t.map (·.1) := by rw [← l1]; exact List.mem_map_of_mem hx
          obtain ⟨y, hy, e⟩ := List.mem_map.1 hx1
          have hg := c1.good y hy
          rw [e] at hg
          exact ⟨hg.1, hg.2.1, l2 x hx⟩
theorem dirA_ok {b : List UInt8} {l : List (Rec × Nat)} (h : dirA b = .ok l) : b.length ≤ 65536 ∧ ∃ p dir, DirOk b p dir l := by
  unfold dirA at h
  split at h
  · cases h
  · rename_i h64
    cases he : endP b with
    | none => rw [he] at h; cases h
    | some p =>
      rw [he] at h
      have h : (if numA b (p + 4) 4 ≠ 0 ∨ numA b (p + 10) 2 ≠ numA b (p + 8) 2 ∨ 64 < numA b (p + 8) 2 ∨ numA b (p + 16) 4 + numA b (p + 12) 4 ≠ p then Rz.err 10
        else bookA b (numA b (p + 16) 4) p (numA b (p + 8) 2)) = .ok l := h
      split at h
      · cases h
      · rename_i hn
        obtain ⟨b1, b2, b3, b4⟩ := bookA_ok h
        exact ⟨by omega, p, numA b (p + 16) 4, ⟨he, by omega, ⟨by omega, by omega, b1.symm, rfl, by omega⟩, by rw [b1]; exact h, b2, b3, b4⟩⟩
end Go.Proofs.YtlmcpkomjofcgaaGreatDoor
namespace Go.Proofs.YtlmcpkomjofcgaaGreatDoor
/-- The first record of that name, unpacked. -/
def findL (b nm : List UInt8) : List (Rec × Nat) → Rz (List UInt8)
  | [] => .err 21
  | x :: r => if x.1.name = nm then unpA x.1.method x.1.packed x.1.size x.1.sum ((b.drop x.2).take x.1.packed) else findL b nm r
def findP (b nm : List UInt8) : Rz (List UInt8) := (dirA b).bind (findL b nm)
end Go.Proofs.YtlmcpkomjofcgaaGreatDoor
namespace Go.Proofs.YtlmcpkomjofcgaaGreatDoor

/-- The document's way through a name: the part that is being read, the rest. -/
def nmF : List UInt8 → List UInt8 → Bool
  | part, [] => partOk part
  | part, c :: r => if c = 47 then (partOk part && !part.isEmpty && nmF [] r) else if c = 0 ∨ c = 92 then false else nmF (part ++ [c]) r
theorem cutL_form (a : UInt8) (s : List UInt8) : ∃ x xs, cutL a s = x :: xs := by
  cases h : cutL a s with
  | nil => exact absurd h (cutL_ne a s)
  | cons x xs => exact ⟨x, xs, rfl⟩
theorem partsOk_cons {p : List UInt8} {q : List UInt8} {r : List (List UInt8)} : partsOk (p :: q :: r) = (partOk p && !p.isEmpty && partsOk (q :: r)) := rfl
theorem nmF_eq (s : List UInt8) : ∀ part x xs, cutL 47 s = x :: xs → nmF part s = (!s.contains 0 && !s.contains 92 && partsOk ((part ++ x) :: xs)) := by
  induction s with
  | nil =>
    intro part x xs h
    have h : [[]] = x :: xs := h
    injection h with h1 h2
    subst h1 h2
    simp [nmF, partsOk]
  | cons c r ih =>
    intro part x xs h
    obtain ⟨y, ys, hy⟩ := cutL_form 47 r
    rw [nmF]
    rw [cutL] at h
    by_cases hc : c = 47
    · rw [if_pos hc] at h ⊢
      injection h with h1 h2
      subst h1
      rw [hy] at h2
      subst h2
      rw [ih [] y ys hy, List.append_nil, partsOk_cons, List.nil_append]
      subst hc
      simp only [List.contains_cons]
      have e1 : ((0 : UInt8) == 47) = false := by decide
      have e2 : ((92 : UInt8) == 47) = false := by decide
      rw [e1, e2, Bool.false_or, Bool.false_or]
      cases partOk part <;> cases part.isEmpty <;> cases r.contains 0 <;> cases r.contains 92 <;> simp
    · rw [if_neg hc] at h ⊢
      rw [hy] at h
      injection h with h1 h2
      subst h1 h2
      by_cases hb : c = 0 ∨ c = 92
      · rw [if_pos hb]
        rcases hb with e | e <;> subst e <;> simp
      · rw [if_neg hb, ih (part ++ [c]) y ys hy, List.append_assoc, List.singleton_append]
        simp only [List.contains_cons]
        have e1 : ((0 : UInt8) == c) = false := by rw [beq_eq_false_iff_ne]; exact fun e => hb (.inl e.symm)
        have e2 : ((92 : UInt8) == c) = false := by rw [beq_eq_false_iff_ne]; exact fun e => hb (.inr e.symm)
        rw [e1, e2, Bool.false_or, Bool.false_or]
theorem nameA_nmF (s : List UInt8) : nameA s = (!s.isEmpty && decide (s.length ≤ 64) && nmF [] s) := by
  obtain ⟨x, xs, hx⟩ := cutL_form 47 s
  rw [nmF_eq s [] x xs hx, List.nil_append]
  unfold nameA
  rw [hx]
  cases s with
  | nil => rfl
  | cons c r =>
    show (true && decide _ && _ && _ && (!x.isEmpty && partsOk (x :: xs))) = (true && decide _ && (_ && _ && partsOk (x :: xs)))
    have hxe : x.isEmpty = true → partsOk (x :: xs) = false := by
      intro he
      have hx0 : x = [] := List.isEmpty_iff.1 he
      subst hx0
      rw [cutL] at hx
      by_cases hc : c = 47
      · rw [if_pos hc] at hx
        injection hx with _ h2
        obtain ⟨y, ys, hy⟩ := cutL_form 47 r
        rw [← h2, hy, partsOk_cons]; rfl
      · rw [if_neg hc] at hx
        obtain ⟨y, ys, hy⟩ := cutL_form 47 r
        rw [hy] at hx
        injection hx with h1 _
        cases h1
    cases hp : partsOk (x :: xs) with
    | false => simp
    | true =>
      cases he : x.isEmpty with
      | true => rw [hxe he] at hp; cases hp
      | false => simp [Bool.and_assoc]
/-- What a name begins with. -/
theorem nmF_first {c : UInt8} {r : List UInt8} (h : nmF [] (c :: r) = true) : c ≠ 47 := by
  intro e
  rw [nmF, if_pos e] at h
  simp at h
end Go.Proofs.YtlmcpkomjofcgaaGreatDoor
namespace Go.Proofs.YtlmcpkomjofcgaaGreatDoor

theorem cntP_take {l : List Nat} {k m : Nat} (hk : l[k]? = some m) (i : Nat) : cntP (l.take (k + 1)) i = if i = m ∧ m ≠ 0 then cntP (l.take k) i + 1 else cntP (l.take k) i := by
  have hkl : k < l.length := by
    rcases Nat.lt_or_ge k l.length with h | h
    · exact h
    · rw [List.getElem?_eq_none h] at hk; cases hk
  unfold cntP
  rw [List.take_add_one, hk]
  by_cases h0 : i = 0
  · subst h0
    by_cases hm : 0 = m
    · subst hm; simp
    · simp [hm]
  · rw [if_neg h0, if_neg h0, Option.toList_some, List.count_append, List.count_singleton]
    by_cases h : i = m
    · subst h; simp [h0]
    · have h' : ¬ m = i := fun e => h e.symm
      simp [h, h']
theorem cntP_le (l : List Nat) (i : Nat) : cntP l i ≤ l.length := by
  unfold cntP; split
  · omega
  · exact List.count_le_length
theorem usedP_take {l : List Nat} {k m : Nat} (hk : l[k]? = some m) : usedP (l.take (k + 1)) = if m ≠ 0 then usedP (l.take k) + 1 else usedP (l.take k) := by
  unfold usedP
  rw [List.take_add_one, hk, Option.toList_some, List.filter_append, List.length_append]
  by_cases h : m = 0 <;> simp [h]
theorem usedP_le (l : List Nat) : usedP l ≤ l.length := List.length_filter_le _ _
theorem kraft_le_over {l : List Nat} {n : Nat} (hn : n ≤ 15) (h : 32768 < kraftTo l n * 2 ^ (15 - n)) : 32768 < kraftTo l 15 := by
  have h1 := kraft_mono l n (15 - n)
  rw [show n + (15 - n) = 15 by omega] at h1
  omega
theorem count_pos_used {l : List Nat} {n : Nat} (hn : n ≠ 0) : l.count n ≤ usedP l := by
  unfold usedP
  induction l with
  | nil => simp
  | cons a l ih =>
    rw [List.count_cons, List.filter_cons]
    by_cases ha : a = 0
    · subst ha
      have : ¬ (0 : Nat) = n := fun e => hn e.symm
      simpa [this] using ih
    · simp only [bne_iff_ne, ne_eq, ha, not_false_eq_true, if_true, List.length_cons]
      split <;> omega
theorem used_sum {l : List Nat} {a b : Nat} (ha : a ≠ 0) (hb : b ≠ 0) (hab : a ≠ b) : l.count a + l.count b ≤ usedP l := by
  unfold usedP
  induction l with
  | nil => simp
  | cons c l ih =>
    rw [List.count_cons, List.count_cons, List.filter_cons]
    by_cases hc : c = 0
    · subst hc
      have h1 : ¬ (0 : Nat) = a := fun e => ha e.symm
      have h2 : ¬ (0 : Nat) = b := fun e => hb e.symm
      simpa [h1, h2] using ih
    · simp only [bne_iff_ne, ne_eq, hc, not_false_eq_true, if_true, List.length_cons, beq_iff_eq]
      split <;> split <;> omega
/-- Few symbols: the sum is small. -/
theorem kraft_lone {l : List Nat} (h : usedP l = 0 ∨ (usedP l = 1 ∧ l.count 1 = 1)) : kraftTo l 15 ≤ 32768 := by
  have hz : ∀ n, 2 ≤ n → l.count n = 0 := fun n hn => by
    rcases h with h | ⟨h, h1⟩
    · have := count_pos_used (l := l) (n := n) (by omega); omega
    · have := used_sum (l := l) (a := 1) (b := n) (by omega) (by omega) (by omega); omega
  have h1 : l.count 1 ≤ 1 := by
    rcases h with h | ⟨_, h1⟩
    · have := count_pos_used (l := l) (n := 1) (by omega); omega
    · omega
  simp only [kraftTo, cntP]
  simp only [hz 2 (by omega), hz 3 (by omega), hz 4 (by omega), hz 5 (by omega), hz 6 (by omega), hz 7 (by omega), hz 8 (by omega), hz 9 (by omega), hz 10 (by omega), hz 11 (by omega), hz 12 (by omega), hz 13 (by omega), hz 14 (by omega), hz 15 (by omega)]
  simp
  omega
theorem code_over {l : List Nat} {lone : Bool} (h : 32768 < kraftTo l 15) : codeB l lone = false := by
  unfold codeB
  have h1 : ¬ kraftTo l 15 = 32768 := by omega
  have h2 : ¬ usedP l = 0 := fun e => by have := kraft_lone (l := l) (.inl e); omega
  have h3 : ¬ (usedP l = 1 ∧ l.count 1 = 1) := fun e => by have := kraft_lone (l := l) (.inr e); omega
  have h4 : ¬ usedP l = 1 ∨ ¬ l.count 1 = 1 := by omega
  simp only [h1, h2, decide_false, Bool.false_or, Bool.and_eq_false_iff]
  right
  rcases h4 with h4 | h4 <;> simp [h4]
theorem code_kraft {l : List Nat} {lone : Bool} (h : codeB l lone = true) : kraftTo l 15 ≤ 32768 := by
  rcases Nat.lt_or_ge 32768 (kraftTo l 15) with h' | h'
  · rw [code_over h'] at h; cases h
  · exact h'
/-- What is left behind n lengths. -/
def leftP (l : List Nat) (n : Nat) : Nat := 32768 - kraftTo l n * 2 ^ (15 - n)
theorem left_succ {l : List Nat} {n : Nat} (hn : n < 15) (h : kraftTo l n * 2 ^ (15 - n) ≤ 32768) :
    leftP l n + kraftTo l n * 2 ^ (15 - n) = 32768 ∧ kraftTo l (n + 1) * 2 ^ (15 - (n + 1)) = kraftTo l n * 2 ^ (15 - n) + cntP l (n + 1) * 2 ^ (15 - (n + 1)) := by
  refine ⟨by unfold leftP; omega, ?_⟩
  have e : 15 - n = (15 - (n + 1)) + 1 := by omega
  rw [e, Nat.pow_succ, kraftTo, Nat.add_mul]
  congr 1
  rw [← Nat.mul_assoc]; rw [Nat.mul_comm 2, Nat.mul_assoc, Nat.mul_assoc, Nat.mul_comm 2]
theorem mostP_le {l : List Nat} (h : ∀ x ∈ l, x ≤ 15) : mostP l ≤ 15 := by
  unfold mostP
  suffices ∀ a, a ≤ 15 → List.foldl max a l ≤ 15 from this 0 (by omega)
  induction l with
  | nil => intro a ha; exact ha
  | cons b l ih =>
    intro a ha
    rw [List.foldl_cons]
    exact ih (fun x hx => h x (List.mem_cons_of_mem _ hx)) _ (by have := h b (List.mem_cons_self ..); omega)
theorem mostP_take {l : List Nat} {k m : Nat} (hk : l[k]? = some m) : mostP (l.take (k + 1)) = max (mostP (l.take k)) m := by
  unfold mostP
  rw [List.take_add_one, hk, Option.toList_some, List.foldl_append]
  rfl
theorem symsP_len_succ {l : List Nat} {k m : Nat} (hk : l[k]? = some m) (i : Nat) : (symsP l (k + 1) i).length = if i = m then (symsP l k i).length + 1 else (symsP l k i).length := by
  rw [symsP_succ, List.length_append, hk]
  by_cases h : i = m
  · subst h; simp
  · have h' : ¬ m = i := fun e => h e.symm
    simp [h, h']
/-- A word fits its bits. -/
theorem word_fits {l : List Nat} (h : kraftTo l 15 ≤ 32768) {k m : Nat} (hk : l[k]? = some m) (hm : m ≠ 0) (hm15 : m ≤ 15) : firstP l m + (symsP l k m).length < 2 ^ m := by
  have h1 := first_bound h hm15
  have hkl : k < l.length := by
    rcases Nat.lt_or_ge k l.length with h | h
    · exact h
    · rw [List.getElem?_eq_none h] at hk; cases hk
  have h2 := count_take l (k + 1) m (by omega)
  have h3 := symsP_len_succ hk m
  rw [if_pos rfl] at h3
  have h4 : (l.take (k + 1)).count m ≤ l.count m := (List.take_sublist _ _).count_le _
  unfold cntP at h1
  rw [if_neg hm] at h1
  omega
end Go.Proofs.YtlmcpkomjofcgaaGreatDoor
namespace Go.Proofs.YtlmcpkomjofcgaaGreatDoor

/-- A reader of bits: its answer, and where it stands behind it. -/
abbrev Ps (α : Type) := List UInt8 → Nat → Rz (α × Nat)
structure Good {α : Type} (P : Ps α) : Prop where
  mono : ∀ b p a p', p ≤ 8 * b.length → P b p = .ok (a, p') → p ≤ p' ∧ p' ≤ 8 * b.length
  agree : ∀ b c p a p', p ≤ 8 * b.length → P b p = .ok (a, p') → (∀ i, i < p' → bitAt b i = bitAt c i) → p' ≤ 8 * c.length → P c p = .ok (a, p')
  cut : ∀ b k p a p', k ≤ b.length → p ≤ 8 * k → P b p = .ok (a, p') → 8 * k < p' → P (b.take k) p = .err 2
theorem bitAt_take {b : List UInt8} {k i : Nat} (h : i < 8 * k) : bitAt (b.take k) i = bitAt b i := by
  unfold bitAt
  rw [List.getD_eq_getElem?_getD, List.getD_eq_getElem?_getD, List.getElem?_take, if_pos (by omega)]
theorem takeN_agree {b c : List UInt8} {p n : Nat} (h : ∀ i, i < p + n → bitAt b i = bitAt c i) : takeN b p n = takeN c p n := by
  induction n with
  | zero => rfl
  | succ n ih => unfold takeN; rw [ih (fun i hi => h i (by omega)), h (p + n) (by omega)]
theorem Good.ret {α : Type} (a : α) : Good (fun _ p => .ok (a, p)) :=
  ⟨fun b p a' p' hp h => by injection h with h; injection h with h1 h2; omega,
   fun b c p a' p' _ h _ _ => h,
   fun b k p a' p' _ hp h hk => by injection h with h; injection h with h1 h2; omega⟩
theorem Good.fail {α : Type} (e : Int) : Good (fun _ _ => (.err e : Rz (α × Nat))) :=
  ⟨fun _ _ _ _ _ h => (by cases h), fun _ _ _ _ _ _ h _ _ => (by cases h), fun _ _ _ _ _ _ _ h _ => (by cases h)⟩
theorem Good.bits (n : Nat) : Good (fun b p => tk b p n) := by
  refine ⟨fun b p a p' hp h => ?_, fun b c p a p' hp h ha hc => ?_, fun b k p a p' hk hp h hl => ?_⟩
  · unfold tk at h
    split at h
    · injection h with h; injection h with h1 h2; omega
    · cases h
  · unfold tk at h ⊢
    split at h
    · injection h with h; injection h with h1 h2
      subst h1; subst h2
      rw [if_pos (by omega), takeN_agree ha]
    · cases h
  · unfold tk at h ⊢
    split at h
    · injection h with h; injection h with h1 h2
      rw [if_neg (by rw [List.length_take]; omega)]
    · cases h
theorem bind_ok {α β : Type} {x : Rz α} {f : α → Rz β} {r : β} (h : x.bind f = .ok r) : ∃ a, x = .ok a ∧ f a = .ok r := by
  cases x with
  | ok a => exact ⟨a, rfl, h⟩
  | err e => cases h
theorem Good.bind {α β : Type} {A : Ps α} {F : α → Ps β} (hA : Good A) (hF : ∀ a, Good (F a)) : Good (fun b p => (A b p).bind fun x => F x.1 b x.2) := by
  refine ⟨fun b p a p' hp h => ?_, fun b c p a p' hp h ha hc => ?_, fun b k p a p' hk hp h hl => ?_⟩
  · obtain ⟨⟨x, p1⟩, h1, h2⟩ := bind_ok h
    have m1 := hA.mono b p x p1 hp h1
    have m2 := (hF x).mono b p1 a p' m1.2 h2
    omega
  · obtain ⟨⟨x, p1⟩, h1, h2⟩ := bind_ok h
    have m1 := hA.mono b p x p1 hp h1
    have m2 := (hF x).mono b p1 a p' m1.2 h2
    have e1 := hA.agree b c p x p1 hp h1 (fun i hi => ha i (by omega)) (by omega)
    have e2 := (hF x).agree b c p1 a p' m1.2 h2 ha hc
    show (A c p).bind _ = _
    rw [e1]; exact e2
  · obtain ⟨⟨x, p1⟩, h1, h2⟩ := bind_ok h
    have m1 := hA.mono b p x p1 (by omega) h1
    show (A (b.take k) p).bind _ = _
    by_cases hk1 : p1 ≤ 8 * k
    · have e1 := hA.agree b (b.take k) p x p1 (by omega) h1 (fun i hi => (bitAt_take (by omega)).symm) (by rw [List.length_take]; omega)
      rw [e1]
      exact (hF x).cut b k p1 a p' hk hk1 h2 hl
    · rw [hA.cut b k p x p1 hk hp h1 (by omega)]; rfl
theorem Good.ite {α : Type} {c : Prop} [Decidable c] {A B : Ps α} (hA : Good A) (hB : Good B) : Good (fun b p => if c then A b p else B b p) := by
  by_cases h : c
  · have e : (fun b p => if c then A b p else B b p) = A := by funext b p; rw [if_pos h]
    rw [e]; exact hA
  · have e : (fun b p => if c then A b p else B b p) = B := by funext b p; rw [if_neg h]
    rw [e]; exact hB
theorem good_nextF (l : List Nat) : ∀ f n c, Good (fun b p => nextF l b f n c p) := by
  intro f
  induction f with
  | zero => intro n c; exact Good.fail 6
  | succ f ih =>
    intro n c
    refine ⟨fun b p a p' hp h => ?_, fun b d p a p' hp h ha hc => ?_, fun b k p a p' hk hp h hl => ?_⟩
    · simp only [nextF] at h
      split at h
      · split at h
        · injection h with h; injection h with h1 h2; omega
        · have := (ih _ _).mono b (p + 1) a p' (by omega) h; omega
      · cases h
    · simp only [nextF] at h ⊢
      split at h
      · rename_i h1
        have hb : p + 1 ≤ p' := by
          split at h
          · injection h with h; injection h with h2 h3; omega
          · have := (ih _ _).mono b (p + 1) a p' (by omega) h; omega
        rw [if_pos (by omega), ← ha p (by omega)]
        split at h
        · exact h
        · exact (ih _ _).agree b d (p + 1) a p' (by omega) h ha hc
      · cases h
    · simp only [nextF] at h ⊢
      split at h
      · rename_i h1
        by_cases hk1 : p + 1 ≤ 8 * k
        · rw [if_pos (by rw [List.length_take]; omega), bitAt_take (by omega)]
          split at h
          · injection h with h; injection h with h2 h3; omega
          · exact (ih _ _).cut b k (p + 1) a p' hk hk1 h hl
        · rw [if_neg (by rw [List.length_take]; omega)]
      · cases h
theorem good_next (l : List Nat) : Good (fun b p => nextP l b p) := good_nextF l _ 0 0
theorem good_sym (lit dist : List Nat) (lim : Nat) : ∀ f out, Good (fun b p => symF lit dist b lim f p out) := by
  intro f
  induction f with
  | zero => intro out; exact Good.fail 0
  | succ f ih =>
    intro out
    have h4 : ∀ s k t u, Good (fun b p => if out.length < (dstP t).1 + u then (.err 7 : Rz (List UInt8 × Nat)) else if lim < out.length + ((lenP s).1 + k) then .err 8 else symF lit dist b lim f p (copyN ((dstP t).1 + u) ((lenP s).1 + k) out)) :=
      fun s k t u => Good.ite (Good.fail 7) (Good.ite (Good.fail 8) (ih _))
    have h3 : ∀ s k t, Good (fun b p => if 29 < t then (.err 6 : Rz (List UInt8 × Nat)) else (tk b p (dstP t).2).bind fun u => if out.length < (dstP t).1 + u.1 then (.err 7 : Rz (List UInt8 × Nat)) else if lim < out.length + ((lenP s).1 + k) then .err 8 else symF lit dist b lim f u.2 (copyN ((dstP t).1 + u.1) ((lenP s).1 + k) out)) :=
      fun s k t => Good.ite (Good.fail 6) (Good.bind (F := fun u b p => if out.length < (dstP t).1 + u then (.err 7 : Rz (List UInt8 × Nat)) else if lim < out.length + ((lenP s).1 + k) then .err 8 else symF lit dist b lim f p (copyN ((dstP t).1 + u) ((lenP s).1 + k) out)) (Good.bits _) (h4 s k t))
    have h2 : ∀ s k, Good (fun b p => (nextP dist b p).bind fun z => if 29 < z.1 then (.err 6 : Rz (List UInt8 × Nat)) else (tk b z.2 (dstP z.1).2).bind fun u => if out.length < (dstP z.1).1 + u.1 then (.err 7 : Rz (List UInt8 × Nat)) else if lim < out.length + ((lenP s).1 + k) then .err 8 else symF lit dist b lim f u.2 (copyN ((dstP z.1).1 + u.1) ((lenP s).1 + k) out)) :=
      fun s k => Good.bind (F := fun t b p => if 29 < t then (.err 6 : Rz (List UInt8 × Nat)) else (tk b p (dstP t).2).bind fun u => if out.length < (dstP t).1 + u.1 then (.err 7 : Rz (List UInt8 × Nat)) else if lim < out.length + ((lenP s).1 + k) then .err 8 else symF lit dist b lim f u.2 (copyN ((dstP t).1 + u.1) ((lenP s).1 + k) out)) (good_next dist) (h3 s k)
    have h1 : ∀ s, Good (fun b p => (tk b p (lenP s).2).bind fun y => (nextP dist b y.2).bind fun z => if 29 < z.1 then (.err 6 : Rz (List UInt8 × Nat)) else (tk b z.2 (dstP z.1).2).bind fun u => if out.length < (dstP z.1).1 + u.1 then (.err 7 : Rz (List UInt8 × Nat)) else if lim < out.length + ((lenP s).1 + y.1) then .err 8 else symF lit dist b lim f u.2 (copyN ((dstP z.1).1 + u.1) ((lenP s).1 + y.1) out)) :=
      fun s => Good.bind (F := fun k b p => (nextP dist b p).bind fun z => if 29 < z.1 then (.err 6 : Rz (List UInt8 × Nat)) else (tk b z.2 (dstP z.1).2).bind fun u => if out.length < (dstP z.1).1 + u.1 then (.err 7 : Rz (List UInt8 × Nat)) else if lim < out.length + ((lenP s).1 + k) then .err 8 else symF lit dist b lim f u.2 (copyN ((dstP z.1).1 + u.1) ((lenP s).1 + k) out)) (Good.bits _) (h2 s)
    exact Good.bind (F := fun s b p => if s = 256 then .ok (out, p)
      else if s < 256 then (if lim ≤ out.length then .err 8 else symF lit dist b lim f p (out ++ [UInt8.ofNat s]))
      else if 285 < s then .err 6
      else (tk b p (lenP s).2).bind fun y => (nextP dist b y.2).bind fun z => if 29 < z.1 then (.err 6 : Rz (List UInt8 × Nat)) else (tk b z.2 (dstP z.1).2).bind fun u => if out.length < (dstP z.1).1 + u.1 then (.err 7 : Rz (List UInt8 × Nat)) else if lim < out.length + ((lenP s).1 + y.1) then .err 8 else symF lit dist b lim f u.2 (copyN ((dstP z.1).1 + u.1) ((lenP s).1 + y.1) out))
      (good_next lit) fun s => Good.ite (Good.ret _) (Good.ite (Good.ite (Good.fail 8) (ih _)) (Good.ite (Good.fail 6) (h1 s)))
theorem good_lens : ∀ ks l, Good (fun b p => lensF b ks l p) := by
  intro ks
  induction ks with
  | nil => intro l; exact Good.ret l
  | cons k r ih => intro l; exact Good.bind (F := fun x b p => lensF b r (l.set k x) p) (Good.bits 3) fun x => ih _
theorem good_allF (lens : List Nat) (total : Nat) : ∀ f all, Good (fun b p => allF lens b total f p all) := by
  intro f
  induction f with
  | zero => intro all; exact Good.fail 0
  | succ f ih =>
    intro all
    have h1 : ∀ s, Good (fun b p => (tk b p (runP s all).2.2).bind fun y => if total < all.length + ((runP s all).2.1 + y.1) then (.err 6 : Rz (List Nat × Nat)) else allF lens b total f y.2 (all ++ List.replicate ((runP s all).2.1 + y.1) (runP s all).1)) :=
      fun s => Good.bind (F := fun y b p => if total < all.length + ((runP s all).2.1 + y) then (.err 6 : Rz (List Nat × Nat)) else allF lens b total f p (all ++ List.replicate ((runP s all).2.1 + y) (runP s all).1)) (Good.bits _) fun y => Good.ite (Good.fail 6) (ih _)
    exact Good.ite (Good.ret _) (Good.bind (F := fun s b p => if s = 16 ∧ all = [] then (.err 6 : Rz (List Nat × Nat)) else (tk b p (runP s all).2.2).bind fun y => if total < all.length + ((runP s all).2.1 + y.1) then (.err 6 : Rz (List Nat × Nat)) else allF lens b total f y.2 (all ++ List.replicate ((runP s all).2.1 + y.1) (runP s all).1)) (good_next lens) fun s => Good.ite (Good.fail 6) (h1 s))
/-- A symbol takes a bit. -/
theorem nextF_more {l : List Nat} {b : List UInt8} : ∀ {f n c p s p'}, nextF l b f n c p = .ok (s, p') → p < p' ∧ p' ≤ 8 * b.length := by
  intro f
  induction f with
  | zero => intro n c p s p' h; cases h
  | succ f ih =>
    intro n c p s p' h
    simp only [nextF] at h
    split at h
    · split at h
      · injection h with h; injection h with h1 h2; omega
      · have := ih h; omega
    · cases h
theorem nextP_more {l : List Nat} {b : List UInt8} {p s p' : Nat} (h : nextP l b p = .ok (s, p')) : p < p' ∧ p' ≤ 8 * b.length := nextF_more h
theorem tk_more {b : List UInt8} {p n v p' : Nat} (h : tk b p n = .ok (v, p')) : p' = p + n ∧ p' ≤ 8 * b.length ∧ v = takeN b p n := by
  unfold tk at h
  split at h
  · injection h with h; injection h with h1 h2; exact ⟨by omega, by omega, h1.symm⟩
  · cases h
theorem bind_congr {α β : Type} {x : Rz α} {f g : α → Rz β} (h : ∀ a, x = .ok a → f a = g a) : x.bind f = x.bind g := by
  cases x with
  | ok a => exact h a rfl
  | err e => rfl
/-- More rounds than bits make no difference. -/
theorem sym_fuel (lit dist : List Nat) (b : List UInt8) (lim : Nat) : ∀ f g p out, p ≤ 8 * b.length → 8 * b.length - p < f → 8 * b.length - p < g → symF lit dist b lim f p out = symF lit dist b lim g p out := by
  intro f
  induction f with
  | zero => intro g p out _ h; omega
  | succ f ih =>
    intro g p out hp hf hg
    obtain ⟨g, rfl⟩ : ∃ k, g = k + 1 := ⟨g - 1, by omega⟩
    simp only [symF]
    refine bind_congr fun x hx => ?_
    have m1 := nextP_more (s := x.1) (p' := x.2) hx
    split
    · rfl
    · split
      · split
        · rfl
        · exact ih g x.2 _ (by omega) (by omega) (by omega)
      · split
        · rfl
        · refine bind_congr fun y hy => bind_congr fun z hz => ?_
          have m2 := tk_more (v := y.1) (p' := y.2) hy
          have m3 := nextP_more (s := z.1) (p' := z.2) hz
          split
          · rfl
          · refine bind_congr fun u hu => ?_
            have m4 := tk_more (v := u.1) (p' := u.2) hu
            split
            · rfl
            · split
              · rfl
              · exact ih g u.2 _ (by omega) (by omega) (by omega)
theorem allF_fuel (lens : List Nat) (b : List UInt8) (total : Nat) : ∀ f g p all, p ≤ 8 * b.length → 8 * b.length - p < f → 8 * b.length - p < g → allF lens b total f p all = allF lens b total g p all := by
  intro f
  induction f with
  | zero => intro g p all _ h; omega
  | succ f ih =>
    intro g p all hp hf hg
    obtain ⟨g, rfl⟩ : ∃ k, g = k + 1 := ⟨g - 1, by omega⟩
    simp only [allF]
    split
    · rfl
    · refine bind_congr fun x hx => ?_
      have m1 := nextP_more (s := x.1) (p' := x.2) hx
      split
      · rfl
      · refine bind_congr fun y hy => ?_
        have m2 := tk_more (v := y.1) (p' := y.2) hy
        split
        · rfl
        · exact ih g y.2 _ (by omega) (by omega) (by omega)
/-- A reader whose number of rounds is of the bytes' length. -/
theorem Good.fuel {α : Type} {P : Nat → Ps α} (h : ∀ f, Good (P f)) (hf : ∀ b f g p, p ≤ 8 * b.length → 8 * b.length - p < f → 8 * b.length - p < g → P f b p = P g b p) : Good (fun b p => P (8 * b.length + 1) b p) := by
  refine ⟨fun b p a p' hp he => (h _).mono b p a p' hp he, fun b c p a p' hp he ha hc => ?_, fun b k p a p' hk hp he hl => ?_⟩
  · have m := (h _).mono b p a p' hp he
    have e1 := hf b (8 * b.length + 1) (8 * b.length + 8 * c.length + 1) p hp (by omega) (by omega)
    have e2 := hf c (8 * c.length + 1) (8 * b.length + 8 * c.length + 1) p (by omega) (by omega) (by omega)
    have he' : P (8 * b.length + 1) b p = .ok (a, p') := he
    show P (8 * c.length + 1) c p = _
    rw [e2]
    exact (h _).agree b c p a p' hp (by rw [← e1]; exact he') ha hc
  · have hl2 : (b.take k).length = k := by rw [List.length_take]; omega
    have e1 := hf b (8 * b.length + 1) (8 * b.length + 8 * k + 1) p (by omega) (by omega) (by omega)
    have e2 := hf (b.take k) (8 * (b.take k).length + 1) (8 * b.length + 8 * k + 1) p (by omega) (by omega) (by omega)
    have he' : P (8 * b.length + 1) b p = .ok (a, p') := he
    show P (8 * (b.take k).length + 1) (b.take k) p = _
    rw [e2]
    exact (h _).cut b k p a p' hk hp (by rw [← e1]; exact he') hl
theorem good_allP0 (lens : List Nat) (total : Nat) : Good (fun b p => allP0 lens total b p) :=
  Good.fuel (P := fun f b p => allF lens b total f p []) (fun f => good_allF lens total f []) (fun b f g p hp hf hg => allF_fuel lens b total f g p [] hp hf hg)
theorem good_symP (lit dist : List Nat) (lim : Nat) (out : List UInt8) : Good (fun b p => symP lit dist lim out b p) :=
  Good.fuel (P := fun f b p => symF lit dist b lim f p out) (fun f => good_sym lit dist lim f out) (fun b f g p hp hf hg => sym_fuel lit dist b lim f g p out hp hf hg)
theorem good_coded (lim : Nat) (out : List UInt8) (lit dist : List Nat) : Good (fun b p => codedP lim out lit dist b p) :=
  Good.ite (Good.fail 5) (Good.ite (Good.fail 5) (good_symP lit dist lim out))
theorem good_told : Good (fun b p => toldP b p) := by
  have h1 : ∀ (x y : Nat) (u : List Nat), Good (fun b p => (allP0 u (x + 257 + (y + 1)) b p).bind fun v => if v.1.getD 256 0 = 0 then (.err 5 : Rz ((List Nat × List Nat) × Nat)) else .ok ((v.1.take (x + 257), v.1.drop (x + 257)), v.2)) :=
    fun x y u => Good.bind (F := fun v _ p => if v.getD 256 0 = 0 then (.err 5 : Rz ((List Nat × List Nat) × Nat)) else .ok ((v.take (x + 257), v.drop (x + 257)), p)) (good_allP0 _ _) fun v => Good.ite (Good.fail 5) (Good.ret _)
  have h2 : ∀ (x y z : Nat), Good (fun b p => if 286 < x + 257 ∨ 30 < y + 1 then (.err 5 : Rz ((List Nat × List Nat) × Nat)) else (lensF b (ordL.take (z + 4)) (List.replicate 19 0) p).bind fun u => if codeB u.1 false = false then (.err 5 : Rz ((List Nat × List Nat) × Nat)) else (allP0 u.1 (x + 257 + (y + 1)) b u.2).bind fun v => if v.1.getD 256 0 = 0 then (.err 5 : Rz ((List Nat × List Nat) × Nat)) else .ok ((v.1.take (x + 257), v.1.drop (x + 257)), v.2)) :=
    fun x y z => Good.ite (Good.fail 5) (Good.bind (F := fun u b p => if codeB u false = false then (.err 5 : Rz ((List Nat × List Nat) × Nat)) else (allP0 u (x + 257 + (y + 1)) b p).bind fun v => if v.1.getD 256 0 = 0 then (.err 5 : Rz ((List Nat × List Nat) × Nat)) else .ok ((v.1.take (x + 257), v.1.drop (x + 257)), v.2)) (good_lens _ _) fun u => Good.ite (Good.fail 5) (h1 x y u))
  exact Good.bind (F := fun x b p => (tk b p 5).bind fun y => (tk b y.2 4).bind fun z => if 286 < x + 257 ∨ 30 < y.1 + 1 then (.err 5 : Rz ((List Nat × List Nat) × Nat)) else (lensF b (ordL.take (z.1 + 4)) (List.replicate 19 0) z.2).bind fun u => if codeB u.1 false = false then (.err 5 : Rz ((List Nat × List Nat) × Nat)) else (allP0 u.1 (x + 257 + (y.1 + 1)) b u.2).bind fun v => if v.1.getD 256 0 = 0 then (.err 5 : Rz ((List Nat × List Nat) × Nat)) else .ok ((v.1.take (x + 257), v.1.drop (x + 257)), v.2)) (Good.bits 5) fun x =>
    Good.bind (F := fun y b p => (tk b p 4).bind fun z => if 286 < x + 257 ∨ 30 < y + 1 then (.err 5 : Rz ((List Nat × List Nat) × Nat)) else (lensF b (ordL.take (z.1 + 4)) (List.replicate 19 0) z.2).bind fun u => if codeB u.1 false = false then (.err 5 : Rz ((List Nat × List Nat) × Nat)) else (allP0 u.1 (x + 257 + (y + 1)) b u.2).bind fun v => if v.1.getD 256 0 = 0 then (.err 5 : Rz ((List Nat × List Nat) × Nat)) else .ok ((v.1.take (x + 257), v.1.drop (x + 257)), v.2)) (Good.bits 5) fun y =>
      Good.bind (F := fun z b p => if 286 < x + 257 ∨ 30 < y + 1 then (.err 5 : Rz ((List Nat × List Nat) × Nat)) else (lensF b (ordL.take (z + 4)) (List.replicate 19 0) p).bind fun u => if codeB u.1 false = false then (.err 5 : Rz ((List Nat × List Nat) × Nat)) else (allP0 u.1 (x + 257 + (y + 1)) b u.2).bind fun v => if v.1.getD 256 0 = 0 then (.err 5 : Rz ((List Nat × List Nat) × Nat)) else .ok ((v.1.take (x + 257), v.1.drop (x + 257)), v.2)) (Good.bits 4) (h2 x y)
/-- Bytes out of bits. -/
theorem byteN_bits (b : List UInt8) (k : Nat) : takeN b (8 * k) 8 = byteN b k := by
  have h : ∀ j, j < 8 → bitAt b (8 * k + j) = (b.getD k 0).toNat / 2 ^ j % 2 := fun j hj => by
    unfold bitAt; rw [show (8 * k + j) / 8 = k by omega, show (8 * k + j) % 8 = j by omega]
  have hb := (b.getD k 0).toNat_lt
  unfold byteN
  simp only [takeN, h 0 (by omega), h 1 (by omega), h 2 (by omega), h 3 (by omega), h 4 (by omega), h 5 (by omega), h 6 (by omega), h 7 (by omega), Nat.reducePow]
  omega
theorem byteN_agree {b c : List UInt8} {m k : Nat} (h : ∀ i, i < 8 * m → bitAt b i = bitAt c i) (hk : k < m) : byteN b k = byteN c k := by
  rw [← byteN_bits, ← byteN_bits]; exact takeN_agree fun i hi => h i (by omega)
theorem take_agree {b c : List UInt8} {m : Nat} (h : ∀ i, i < 8 * m → bitAt b i = bitAt c i) (hb : m ≤ b.length) (hc : m ≤ c.length) : b.take m = c.take m := by
  apply List.ext_getElem?
  intro i
  rw [List.getElem?_take, List.getElem?_take]
  split
  · rename_i hi
    have := byteN_agree h hi
    unfold byteN at this
    rw [List.getD_eq_getElem?_getD, List.getD_eq_getElem?_getD, List.getElem?_eq_getElem (by omega), List.getElem?_eq_getElem (by omega)] at this
    rw [List.getElem?_eq_getElem (by omega), List.getElem?_eq_getElem (by omega)]
    exact congrArg some (UInt8.toNat_inj.1 this)
  · rfl
theorem piece_agree {b c : List UInt8} {s n m : Nat} (h : b.take m = c.take m) (hs : s + n ≤ m) : (b.drop s).take n = (c.drop s).take n := by
  have e : ∀ (x : List UInt8), (x.drop s).take n = ((x.take m).drop s).take n := fun x => by
    apply List.ext_getElem?
    intro i
    rw [List.getElem?_take, List.getElem?_take]
    split
    · rw [List.getElem?_drop, List.getElem?_drop, List.getElem?_take, if_pos (by omega)]
    · rfl
  rw [e b, e c, h]
theorem good_stored (lim : Nat) (out : List UInt8) : Good (fun b p => storedP b lim p out) := by
  refine ⟨fun b p a p' hp h => ?_, fun b c p a p' hp h ha hc => ?_, fun b k p a p' hk hp h hl => ?_⟩
  · unfold storedP at h
    generalize byteN b ((p + 7) / 8) + 256 * byteN b ((p + 7) / 8 + 1) = n at h
    split at h
    · cases h
    · split at h
      · cases h
      · split at h
        · cases h
        · split at h
          · cases h
          · injection h with h; injection h with h1 h2; omega
  · unfold storedP at h
    split at h
    · cases h
    · split at h
      · cases h
      · split at h
        · cases h
        · split at h
          · cases h
          · rename_i g1 g2 g3 g4
            injection h with h; injection h with h1 h2
            have hA : ∀ i, i < 8 * ((p + 7) / 8 + 4) → bitAt b i = bitAt c i := fun i hi => ha i (by omega)
            have e0 := byteN_agree hA (k := (p + 7) / 8) (by omega)
            have e1 := byteN_agree hA (k := (p + 7) / 8 + 1) (by omega)
            have e2 := byteN_agree hA (k := (p + 7) / 8 + 2) (by omega)
            have e3 := byteN_agree hA (k := (p + 7) / 8 + 3) (by omega)
            rw [e0, e1] at g3 g4 h1 h2
            rw [e0, e1, e2, e3] at g2
            show storedP c lim p out = _
            unfold storedP
            rw [if_neg (by omega), if_neg g2, if_neg g3, if_neg (by omega), ← h1, ← h2]
            have ht := take_agree (m := (p + 7) / 8 + 4 + (byteN c ((p + 7) / 8) + 256 * byteN c ((p + 7) / 8 + 1))) (b := b) (c := c) (fun i hi => ha i (by omega)) (by omega) (by omega)
            rw [piece_agree ht (Nat.le_refl _)]
  · unfold storedP at h
    split at h
    · cases h
    · split at h
      · cases h
      · split at h
        · cases h
        · split at h
          · cases h
          · rename_i g1 g2 g3 g4
            injection h with h; injection h with h1 h2
            show storedP (b.take k) lim p out = _
            unfold storedP
            by_cases hk4 : k < (p + 7) / 8 + 4
            · rw [if_pos (by rw [List.length_take]; omega)]
            · have hA : ∀ i, i < 8 * k → bitAt b i = bitAt (b.take k) i := fun i hi => (bitAt_take hi).symm
              have e0 := byteN_agree hA (k := (p + 7) / 8) (by omega)
              have e1 := byteN_agree hA (k := (p + 7) / 8 + 1) (by omega)
              have e2 := byteN_agree hA (k := (p + 7) / 8 + 2) (by omega)
              have e3 := byteN_agree hA (k := (p + 7) / 8 + 3) (by omega)
              rw [← e0, ← e1, ← e2, ← e3, if_neg (by rw [List.length_take]; omega), if_neg g2, if_neg g3, if_pos (by rw [List.length_take]; omega)]
theorem good_body (lim : Nat) (out : List UInt8) (k : Nat) : Good (fun b p => bodyP lim out k b p) := by
  have h1 := good_stored lim out
  have h2 : Good (fun b p => (toldP b p).bind fun u => codedP lim out u.1.1 u.1.2 b u.2) := Good.bind (A := fun b p => toldP b p) (F := fun u b p => codedP lim out u.1 u.2 b p) good_told (fun u => good_coded lim out u.1 u.2)
  have h3 := good_coded lim out fixLit fixDist
  unfold bodyP
  generalize fixLit = A at h3 ⊢
  generalize fixDist = B at h3 ⊢
  exact Good.ite h1 (Good.ite (Good.fail 3) (Good.ite h2 h3))
theorem good_blk (lim : Nat) (out : List UInt8) : Good (fun b p => blkP lim out b p) :=
  Good.bind (F := fun x b p => (tk b p 2).bind fun y => (bodyP lim out y.1 b y.2).bind fun z => .ok ((decide (x = 1), z.1), z.2)) (Good.bits 1) fun x =>
    Good.bind (F := fun y b p => (bodyP lim out y b p).bind fun z => .ok ((decide (x = 1), z.1), z.2)) (Good.bits 2) fun y =>
      Good.bind (F := fun z _ p => .ok ((decide (x = 1), z), p)) (good_body lim out y) fun _ => Good.ret _
theorem blk_more {lim : Nat} {out : List UInt8} {b : List UInt8} {p : Nat} {a : Bool × List UInt8} {p' : Nat} (h : blkP lim out b p = .ok (a, p')) : p + 3 ≤ p' ∧ p' ≤ 8 * b.length := by
  unfold blkP at h
  obtain ⟨⟨x, p1⟩, h1, h⟩ := bind_ok h
  obtain ⟨⟨y, p2⟩, h2, h⟩ := bind_ok h
  obtain ⟨⟨z, p3⟩, h3, h⟩ := bind_ok h
  have m1 := tk_more h1
  have m2 := tk_more h2
  have m3 := (good_body lim out y).mono b p2 z p3 (by omega) h3
  injection h with h; injection h with h4 h5
  omega
theorem good_allB (lim : Nat) : ∀ f out, Good (fun b p => allB lim b f p out) := by
  intro f
  induction f with
  | zero => intro out; exact Good.fail 0
  | succ f ih => intro out; exact Good.bind (F := fun x b p => if x.1 = true then .ok (x.2, p) else allB lim b f p x.2) (good_blk lim out) fun x => Good.ite (Good.ret _) (ih _)
theorem allB_fuel (lim : Nat) (b : List UInt8) : ∀ f g p out, p ≤ 8 * b.length → 8 * b.length - p < f → 8 * b.length - p < g → allB lim b f p out = allB lim b g p out := by
  intro f
  induction f with
  | zero => intro g p out _ h; omega
  | succ f ih =>
    intro g p out hp hf hg
    obtain ⟨g, rfl⟩ : ∃ k, g = k + 1 := ⟨g - 1, by omega⟩
    simp only [allB]
    refine bind_congr fun x hx => ?_
    have m1 := blk_more (a := x.1) (p' := x.2) hx
    split
    · rfl
    · exact ih g x.2 _ (by omega) (by omega) (by omega)
theorem good_allP (lim : Nat) : Good (fun b p => allP lim b p) :=
  Good.fuel (P := fun f b p => allB lim b f p []) (fun f => good_allB lim f []) (fun b f g p hp hf hg => allB_fuel lim b f g p [] hp hf hg)
theorem allP_more {lim : Nat} {b : List UInt8} {out : List UInt8} {p' : Nat} (h : allP lim b 0 = .ok (out, p')) : 3 ≤ p' ∧ p' ≤ 8 * b.length := by
  have m := (good_allP lim).mono b 0 out p' (by omega) h
  unfold allP at h
  rw [allB] at h
  obtain ⟨⟨x, p1⟩, h1, h⟩ := bind_ok h
  have m1 := blk_more h1
  split at h
  · injection h with h; injection h with h2 h3; omega
  · have := (good_allB lim _ _).mono b p1 out p' (by omega) h; omega
/-- What stands behind changes nothing; what is cut off is missed. -/
theorem infl_ok {b : List UInt8} {lim : Int} {out : List UInt8} {n : Nat} (h : inflP b lim = .ok (out, n)) : ∃ p, allP lim.toNat b 0 = .ok (out, p) ∧ n = (p + 7) / 8 ∧ ¬ (lim < 0 ∨ 32768 < lim) ∧ 1 ≤ n ∧ n ≤ b.length := by
  unfold inflP at h
  split at h
  · cases h
  · rename_i hl
    obtain ⟨⟨x, p⟩, h1, h2⟩ := bind_ok h
    injection h2 with h2; injection h2 with h3 h4
    have m := allP_more h1
    simp only at h3 h4
    exact ⟨p, by rw [h1, h3], h4.symm, hl, by omega, by omega⟩
end Go.Proofs.YtlmcpkomjofcgaaGreatDoor
namespace Go.Proofs.YtlmcpkomjofcgaaGreatDoor
open Go.RowKit
/-- The lowest n bytes of v, the least one first. -/
def leB (n : Nat) (v : Int) : List UInt8 := (List.range n).map fun i => UInt8.ofNat ((v % 18446744073709551616).toNat / 256 ^ i)

theorem leB_len (n : Nat) (v : Int) : (leB n v).length = n := by simp [leB]
theorem leB_get {n k : Nat} (v : Int) (hk : k < n) : (leB n v)[k]? = some (UInt8.ofNat ((v % 18446744073709551616).toNat / 256 ^ k)) := by simp [leB, hk]
theorem low_facts (y : Int) (h1 : -9223372036854775808 ≤ y) : -255 ≤ y.tmod 256 ∧ y.tmod 256 ≤ 255 ∧ (y.tmod 256 + 256) % 256 = y % 256 ∧ -9223372036854775808 ≤ y - (y.tmod 256 + 256) % 256 ∧ (y - y.tmod 256 % 256).tdiv 256 = y / 256 := by
  have h := Int.tmod_def y 256
  have h3 : y.tmod 256 % 256 = y % 256 := by rw [h]; omega
  have h4 : -255 ≤ y.tmod 256 ∧ y.tmod 256 ≤ 255 := by
    have a := Int.tmod_lt_of_pos y (show (0 : Int) < 256 by omega)
    have b := Int.lt_tmod_of_pos y (show (0 : Int) < 256 by omega)
    omega
  have h5 : (y.tmod 256 + 256) % 256 = y % 256 := by omega
  refine ⟨h4.1, h4.2, h5, by omega, ?_⟩
  rw [h3]
  have h6 : y - y % 256 = 256 * (y / 256) := by omega
  rw [h6, Int.mul_tdiv_cancel_left _ (by omega)]

theorem pow256 (k : Nat) : ((256 ^ k : Nat) : Int) = (256 : Int) ^ k := Int.natCast_pow 256 k
theorem low_byteL (v : Int) (k : Nat) (hk : k < 8) : (v / 256 ^ k) % 256 = (((v % 18446744073709551616).toNat / 256 ^ k % 256 : Nat) : Int) := by
  rw [← pow256]
  have : 256 ^ k = 1 ∨ 256 ^ k = 256 ∨ 256 ^ k = 65536 ∨ 256 ^ k = 16777216 ∨ 256 ^ k = 4294967296 ∨ 256 ^ k = 1099511627776 ∨ 256 ^ k = 281474976710656 ∨ 256 ^ k = 72057594037927936 := by
    have h : k = 0 ∨ k = 1 ∨ k = 2 ∨ k = 3 ∨ k = 4 ∨ k = 5 ∨ k = 6 ∨ k = 7 := by omega
    rcases h with rfl | rfl | rfl | rfl | rfl | rfl | rfl | rfl <;> decide
  rcases this with h | h | h | h | h | h | h | h <;> rw [h] <;> omega
theorem low_cell (v y : Int) (k : Nat) (hk : k < 8) (hy : y = v / 256 ^ k) (h1 : -9223372036854775808 ≤ y) : Value.int .u8 (y.tmod 256 % 256) = bV (UInt8.ofNat ((v % 18446744073709551616).toNat / 256 ^ k)) := by
  have h := low_facts y h1
  have h2 : y.tmod 256 % 256 = y % 256 := by omega
  unfold bV
  rw [h2, UInt8.toNat_ofNat', hy, low_byteL v k hk]
theorem next_y (v : Int) (k : Nat) : v / 256 ^ k / 256 = v / 256 ^ (k + 1) := by
  rw [Int.pow_succ, Int.ediv_ediv_of_nonneg (Int.le_of_lt (Int.pow_pos (by omega)))]

end Go.Proofs.YtlmcpkomjofcgaaGreatDoor
namespace Go.Proofs.YtlmcpkomjofcgaaGreatDoor
/-- The bytes l stand at p. -/
def At (b : List UInt8) (p : Nat) (l : List UInt8) : Prop := (b.drop p).take l.length = l
end Go.Proofs.YtlmcpkomjofcgaaGreatDoor
namespace Go.Proofs.YtlmcpkomjofcgaaGreatDoor
structure Itm where
  name : List UInt8
  data : List UInt8
  sq : Bool
abbrev Pk := Itm × List UInt8
def headB (z : Pk) : List UInt8 := leB 2 ((20 : Nat) : Int) ++ (leB 2 ((0 : Nat) : Int) ++ (leB 2 (((if z.1.sq then 8 else 0 : Nat)) : Int) ++ (leB 2 ((0 : Nat) : Int) ++ (leB 2 ((33 : Nat) : Int) ++ (leB 4 ((crcA 0 z.1.data : Nat) : Int) ++ (leB 4 ((z.2.length : Nat) : Int) ++ (leB 4 ((z.1.data.length : Nat) : Int) ++ (leB 2 ((z.1.name.length : Nat) : Int) ++ leB 2 ((0 : Nat) : Int)))))))))
def locB (z : Pk) : List UInt8 := [80, 75, 3, 4] ++ (headB z ++ (z.1.name ++ z.2))
def dirB (at_ : Nat) (z : Pk) : List UInt8 := [80, 75, 1, 2] ++ ([20, 0] ++ (headB z ++ (leB 2 ((0 : Nat) : Int) ++ (leB 2 ((0 : Nat) : Int) ++ (leB 2 ((0 : Nat) : Int) ++ (leB 4 ((0 : Nat) : Int) ++ (leB 4 ((at_ : Nat) : Int) ++ z.1.name)))))))
def locsB : List Pk → List UInt8
  | [] => []
  | z :: r => locB z ++ locsB r
def dirsB : Nat → List Pk → List UInt8
  | _, [] => []
  | a, z :: r => dirB a z ++ dirsB (a + (locB z).length) r
def endB (n d f : Nat) : List UInt8 := [80, 75, 5, 6] ++ ([0, 0, 0, 0] ++ (leB 2 ((n : Nat) : Int) ++ (leB 2 ((n : Nat) : Int) ++ (leB 4 ((d : Nat) : Int) ++ (leB 4 ((f : Nat) : Int) ++ leB 2 ((0 : Nat) : Int))))))
/-- The archive. -/
def bookB (l : List Pk) : List UInt8 := locsB l ++ (dirsB 0 l ++ endB l.length (dirsB 0 l).length (locsB l).length)
theorem headB_len (z : Pk) : (headB z).length = 26 := by simp only [headB, List.length_append, leB_len]
theorem locB_len (z : Pk) : (locB z).length = 30 + z.1.name.length + z.2.length := by
  simp only [locB, List.length_append, headB_len, List.length_cons, List.length_nil]; omega
theorem dirB_len (a : Nat) (z : Pk) : (dirB a z).length = 46 + z.1.name.length := by
  simp only [dirB, List.length_append, headB_len, leB_len, List.length_cons, List.length_nil]; omega
/-- What is asked of items, with their packed bytes. -/
structure PkOk (z : Pk) : Prop where
  name : nameA z.1.name = true
  data : z.1.data.length ≤ 32768
  pk : z.2.length ≤ 65536
theorem nameA_len {s : List UInt8} (h : nameA s = true) : s.length ≤ 64 := by
  unfold nameA at h
  simp only [Bool.and_eq_true, decide_eq_true_eq] at h
  exact h.1.1.1.2
theorem crcA_lt (l : List UInt8) : crcA 0 l < 4294967296 := by unfold crcA; omega
def mth (z : Pk) : Nat := if z.1.sq then 8 else 0
def recB (a : Nat) (z : Pk) : Rec := ⟨z.1.name, mth z, z.2.length, z.1.data.length, crcA 0 z.1.data, a⟩
def cenB : Nat → Nat → List Pk → List (Rec × Nat)
  | _, _, [] => []
  | a, p, z :: r => (recB a z, p) :: cenB (a + (locB z).length) (p + (dirB a z).length) r
def recsB : Nat → List Pk → List (Rec × Nat)
  | _, [] => []
  | a, z :: r => (recB a z, a + 30 + z.1.name.length) :: recsB (a + (locB z).length) r
end Go.Proofs.YtlmcpkomjofcgaaGreatDoor
namespace Go.Proofs.YtlmcpkomjofcgaaGreatDoor

/-- A number's bytes, the least first. -/
def bytesV (V k : Nat) : List UInt8 := (List.range k).map fun i => UInt8.ofNat (V / 256 ^ i)
/-- What was put: a number, and how many bits. -/
abbrev Pt := Nat × Nat
def Pt.ok (S : Pt) : Prop := S.1 < 2 ^ S.2
def putN (S : Pt) (n v : Nat) : Pt := (S.1 + v % 2 ^ n * 2 ^ S.2, S.2 + n)
/-- T goes on where S stopped. -/
def Ext (S T : Pt) : Prop := S.2 ≤ T.2 ∧ T.1 % 2 ^ S.2 = S.1
/-- A word of n bits, its highest bit first. -/
def putW : Nat → Pt → Nat → Pt
  | 0, S, _ => S
  | k + 1, S, w => putW k (putN S 1 (w / 2 ^ k)) w
/-- A symbol's word in a code. -/
def wordP (l : List Nat) (s : Nat) : Nat := firstP l (l.getD s 0) + (symsP l s (l.getD s 0)).length
def putSym (l : List Nat) (S : Pt) (s : Nat) : Pt := putW (l.getD s 0) S (wordP l s)
end Go.Proofs.YtlmcpkomjofcgaaGreatDoor
namespace Go.Proofs.YtlmcpkomjofcgaaGreatDoor

/-- With a greater limit the answer is the same, unless the lesser one was passed. -/
def Lm (S : Nat → Rz (List UInt8 × Nat)) (n0 lim lim' : Nat) : Prop :=
  (S lim = .err 8 ∧ ∀ r p, S lim' = .ok (r, p) → lim < r.length) ∨ (S lim' = S lim ∧ ∀ r p, S lim = .ok (r, p) → n0 ≤ r.length ∧ r.length ≤ lim)
end Go.Proofs.YtlmcpkomjofcgaaGreatDoor
namespace Go.Proofs.YtlmcpkomjofcgaaGreatDoor

/-- One step of squeezing: a byte as it is, or so many from so far back. -/
inductive Tok where
  | lit (x : UInt8)
  | cpy (n far : Nat)
/-- The class of a value: which, its further bits, how many. -/
def wideF : Nat → Nat → Nat → Nat → Nat
  | 0, _, _, w => w
  | f + 1, v, per, w => if 2 * per ≤ v / 2 ^ w then wideF f v per (w + 1) else w
def wideP (v per : Nat) : Nat := wideF v v per 0
def classP (v per : Nat) : Nat × Nat × Nat := if v < 2 * per then (v, 0, 0) else (per * (wideP v per + 1) + v / 2 ^ wideP v per - per, v % 2 ^ wideP v per, wideP v per)
def fixD : List Nat := List.replicate 32 5
def putLen (S : Pt) (n : Nat) : Pt := if n = 258 then putSym fixLit S 285 else putN (putSym fixLit S (257 + (classP (n - 3) 4).1)) (classP (n - 3) 4).2.2 (classP (n - 3) 4).2.1
def putDst (S : Pt) (far : Nat) : Pt := putN (putSym fixDist S (classP (far - 1) 2).1) (classP (far - 1) 2).2.2 (classP (far - 1) 2).2.1
def putTok (S : Pt) : Tok → Pt
  | .lit x => putSym fixLit S x.toNat
  | .cpy n far => putDst (putLen S n) far
def putAll (S : Pt) (ts : List Tok) : Pt := ts.foldl putTok S
def step (o : List UInt8) : Tok → List UInt8
  | .lit x => o ++ [x]
  | .cpy n far => copyN far n o
def Tok.good (o : List UInt8) (lim : Nat) : Tok → Prop
  | .lit _ => o.length < lim
  | .cpy n far => 3 ≤ n ∧ n ≤ 258 ∧ 1 ≤ far ∧ far ≤ o.length ∧ far ≤ 32768 ∧ o.length + n ≤ lim
/-- Steps that may be taken, one behind the other; what they make. -/
def goodAll (lim : Nat) : List UInt8 → List Tok → Prop
  | _, [] => True
  | o, t :: r => t.good o lim ∧ goodAll lim (step o t) r
def endBits (S : Pt) : Pt := putSym fixLit S 256
/-- All that squeezing makes. -/
def startP : Pt := (3, 3)
def allBits (ts : List Tok) : Pt := endBits (putAll startP ts)
def packP (ts : List Tok) : List UInt8 := bytesV (allBits ts).1 (((allBits ts).2 + 7) / 8)
end Go.Proofs.YtlmcpkomjofcgaaGreatDoor
namespace Go.Proofs.YtlmcpkomjofcgaaGreatDoor

def keyB (b : List UInt8) (i : Nat) : List UInt8 := (b.drop i).take 3
/-- The last place ahead of i at which three bytes stand. -/
def lastK (b : List UInt8) : Nat → List UInt8 → Option Nat
  | 0, _ => none
  | i + 1, k => if i + 3 ≤ b.length ∧ keyB b i = k then some i else lastK b i k
/-- How many bytes are alike. -/
def matF (b : List UInt8) (i at_ : Nat) : Nat → Nat → Nat
  | 0, n => n
  | f + 1, n => if i + n < b.length ∧ b.getD (i + n) 0 = b.getD (at_ + n) 0 then matF b i at_ f (n + 1) else n
def matB (b : List UInt8) (i at_ : Nat) : Nat := matF b i at_ 258 0
def pick (b : List UInt8) (i n far : Nat) : Tok := if n < 3 ∨ (n = 3 ∧ 4096 < far) then .lit (b.getD i 0) else .cpy n far
def tokAt (b : List UInt8) (i : Nat) : Tok :=
  if i + 3 ≤ b.length then (match lastK b i (keyB b i) with
    | some at_ => pick b i (matB b i at_) (i - at_)
    | none => .lit (b.getD i 0))
  else .lit (b.getD i 0)
def Tok.wide : Tok → Nat
  | .lit _ => 1
  | .cpy n _ => n
def toksF (b : List UInt8) : Nat → Nat → List Tok
  | 0, _ => []
  | f + 1, i => if i < b.length then tokAt b i :: toksF b f (i + (tokAt b i).wide) else []
def toksB (b : List UInt8) : List Tok := toksF b b.length 0
/-- What squeezing makes of bytes. -/
def sqzP (b : List UInt8) : List UInt8 := packP (toksB b)
end Go.Proofs.YtlmcpkomjofcgaaGreatDoor
namespace Go.Proofs.YtlmcpkomjofcgaaGreatDoor
/-- The packed bytes are the item's own, or what squeezing makes of them. -/
def Packs (z : Pk) : Prop := z.2 = if z.1.sq then sqzP z.1.data else z.1.data
end Go.Proofs.YtlmcpkomjofcgaaGreatDoor
namespace Go.Proofs.YtlmcpkomjofcgaaGreatDoor
def chkF : List (List UInt8) → List Itm → Int
  | _, [] => 0
  | seen, x :: r => if nameA x.name = false then 13 else if x.name ∈ seen then 14 else if 32768 < x.data.length then 8 else chkF (seen ++ [x.name]) r
def chkP (l : List Itm) : Int := if 64 < l.length then 17 else chkF [] l
/-- The archive of items whose packed bytes are told. -/
def layP (l : List Pk) : Rz (List UInt8) := if chkP (l.map (·.1)) ≠ 0 then .err (chkP (l.map (·.1))) else if 65536 < (bookB l).length then .err 8 else .ok (bookB l)
theorem chkF_at {l : List Itm} {k : Nat} {x : Itm} (h : l[k]? = some x) : chkF ((l.take k).map (·.name)) (l.drop k) = if nameA x.name = false then 13 else if x.name ∈ (l.take k).map (·.name) then 14 else if 32768 < x.data.length then 8 else chkF ((l.take (k + 1)).map (·.name)) (l.drop (k + 1)) := by
  obtain ⟨h1, h2⟩ := List.getElem?_eq_some_iff.1 h
  rw [List.drop_eq_getElem_cons h1, h2, chkF, List.take_add_one, h, List.map_append]
  rfl
theorem chkF_ok : ∀ (l : List Itm) (seen : List (List UInt8)), seen.Nodup → chkF seen l = 0 → (seen ++ l.map (·.name)).Nodup ∧ ∀ x ∈ l, nameA x.name = true ∧ x.data.length ≤ 32768 := by
  intro l
  induction l with
  | nil => intro seen hs _; exact ⟨by simpa using hs, fun x hx => by cases hx⟩
  | cons y r ih =>
    intro seen hs h
    rw [chkF] at h
    split at h
    · cases h
    rename_i h1
    split at h
    · cases h
    rename_i h2
    split at h
    · cases h
    rename_i h3
    obtain ⟨i1, i2⟩ := ih (seen ++ [y.name]) (by
      rw [List.nodup_append]
      refine ⟨hs, by simp, fun a ha b hb e => ?_⟩
      simp at hb
      subst hb
      subst e
      exact h2 ha) h
    refine ⟨by simpa using i1, fun x hx => ?_⟩
    rcases List.mem_cons.1 hx with e | e
    · subst e; exact ⟨by simpa using h1, by omega⟩
    · exact i2 x e
theorem chkP_ok {l : List Itm} (h : chkP l = 0) : l.length ≤ 64 ∧ (l.map (·.name)).Nodup ∧ ∀ x ∈ l, nameA x.name = true ∧ x.data.length ≤ 32768 := by
  unfold chkP at h
  split at h
  · cases h
  rename_i h1
  obtain ⟨a, b⟩ := chkF_ok l [] (by simp) h
  exact ⟨by omega, by simpa using a, b⟩
end Go.Proofs.YtlmcpkomjofcgaaGreatDoor
namespace Go.Proofs.YtlmcpkomjofcgaaGreatDoor
theorem locs_snoc (l : List Pk) (z : Pk) : locsB (l ++ [z]) = locsB l ++ locB z := by
  induction l with
  | nil => simp [locsB]
  | cons y r ih => rw [List.cons_append, locsB, locsB, ih, List.append_assoc]
theorem dirs_snoc : ∀ (l : List Pk) (z : Pk) (a : Nat), dirsB a (l ++ [z]) = dirsB a l ++ dirB (a + (locsB l).length) z
  | [], z, a => by simp [dirsB, locsB]
  | y :: r, z, a => by
    rw [List.cons_append, dirsB, dirsB, dirs_snoc r z, locsB, List.length_append, List.append_assoc, Nat.add_assoc]
theorem pk_snoc {l : List Pk} {k : Nat} {z : Pk} (h : l[k]? = some z) : l.take (k + 1) = l.take k ++ [z] := by
  rw [List.take_add_one, h]; rfl
theorem locs_take {l : List Pk} {k : Nat} {z : Pk} (h : l[k]? = some z) : locsB (l.take (k + 1)) = locsB (l.take k) ++ locB z := by rw [pk_snoc h, locs_snoc]
theorem dirs_take {l : List Pk} {k : Nat} {z : Pk} (h : l[k]? = some z) : dirsB 0 (l.take (k + 1)) = dirsB 0 (l.take k) ++ dirB ((locsB (l.take k)).length) z := by rw [pk_snoc h, dirs_snoc, Nat.zero_add]
def mthI (z : Pk) : Int := if z.1.sq then 8 else 0
def n1H (z : Pk) : List Int := [20, 0, mthI z, 0, 33]
def n2H (z : Pk) : List Int := [(crcA 0 z.1.data : Nat), (z.2.length : Nat), (z.1.data.length : Nat)]
def n3H (z : Pk) : List Int := [(z.1.name.length : Nat), 0]
def num1H (z : Pk) : List UInt8 := (n1H z).flatMap (leB 2)
def num2H (z : Pk) : List UInt8 := (n2H z).flatMap (leB 4)
def num3H (z : Pk) : List UInt8 := (n3H z).flatMap (leB 2)
theorem headB_nums (z : Pk) : ([] ++ num1H z ++ num2H z) ++ num3H z = headB z := by
  unfold headB num1H num2H num3H n1H n2H n3H mthI
  cases z.1.sq <;> simp [List.append_assoc]
theorem locB_nums (o : List UInt8) (z : Pk) : ((((o ++ [80, 75, 3, 4]) ++ headB z) ++ z.1.name) ++ z.2) = o ++ locB z := by
  unfold locB; simp only [List.append_assoc]
def zer3 : List UInt8 := ([0, 0, 0] : List Int).flatMap (leB 2)
def atH (a : Nat) : List UInt8 := ([0, (a : Int)] : List Int).flatMap (leB 4)
theorem dirB_nums (d : List UInt8) (a : Nat) (z : Pk) : ((((d ++ [80, 75, 1, 2, 20, 0]) ++ headB z) ++ zer3) ++ atH a) ++ z.1.name = d ++ dirB a z := by
  unfold dirB zer3 atH
  simp [List.append_assoc]
def endN (n : Nat) : List UInt8 := ([(n : Int), (n : Int)] : List Int).flatMap (leB 2)
def endF (d f : Nat) : List UInt8 := ([(d : Int), (f : Int)] : List Int).flatMap (leB 4)
def endZ : List UInt8 := ([0] : List Int).flatMap (leB 2)
theorem book_nums (l : List Pk) : (((((locsB l ++ dirsB 0 l) ++ [80, 75, 5, 6, 0, 0, 0, 0]) ++ endN l.length) ++ endF (dirsB 0 l).length (locsB l).length) ++ endZ) = bookB l := by
  unfold bookB endB endN endF endZ
  simp [List.append_assoc]
theorem locs_le {l : List Pk} {M : Nat} (h : ∀ z ∈ l, 30 + z.1.name.length + z.2.length ≤ M) : (locsB l).length ≤ l.length * M := by
  induction l with
  | nil => simp [locsB]
  | cons y r ih =>
    have := ih fun z hz => h z (List.mem_cons_of_mem _ hz)
    have := h y (List.mem_cons_self ..)
    rw [locsB, List.length_append, locB_len, List.length_cons, Nat.succ_mul]
    omega
theorem dirs_le {M : Nat} : ∀ {l : List Pk} (a : Nat), (∀ z ∈ l, 46 + z.1.name.length ≤ M) → (dirsB a l).length ≤ l.length * M
  | [], a, _ => by simp [dirsB]
  | y :: r, a, h => by
    have := dirs_le (l := r) (a + (locB y).length) fun z hz => h z (List.mem_cons_of_mem _ hz)
    have := h y (List.mem_cons_self ..)
    rw [dirsB, List.length_append, dirB_len, List.length_cons, Nat.succ_mul]
    omega
theorem num1H_len (z : Pk) : (num1H z).length = 10 := by unfold num1H n1H; simp [leB_len]
theorem num2H_len (z : Pk) : (num2H z).length = 12 := by unfold num2H n2H; simp [leB_len]
/-- The sizes of the parts while it is made. -/
theorem part_len {l : List Pk} (hn : l.length ≤ 64) (hz : ∀ z ∈ l, z.1.name.length ≤ 64 ∧ z.2.length ≤ 50000) (k : Nat) : (locsB (l.take k)).length ≤ 3206016 ∧ (dirsB 0 (l.take k)).length ≤ 7040 := by
  have h1 := locs_le (l := l.take k) (M := 50094) fun z h => by have := hz z (List.mem_of_mem_take h); omega
  have h2 := dirs_le (l := l.take k) (M := 110) 0 fun z h => by have := hz z (List.mem_of_mem_take h); omega
  have h3 : (l.take k).length ≤ 64 := by rw [List.length_take]; omega
  have h4 := Nat.mul_le_mul_right 50094 h3
  have h5 := Nat.mul_le_mul_right 110 h3
  omega
theorem layP_err {l : List Pk} {k : Int} (h : chkP (l.map (·.1)) = k) (hk : k ≠ 0) : layP l = .err k := by unfold layP; rw [h, if_pos hk]
theorem layP_long {l : List Pk} (h : chkP (l.map (·.1)) = 0) (hl : 65536 < (bookB l).length) : layP l = .err 8 := by unfold layP; rw [h, if_neg (by simp), if_pos hl]
theorem layP_made {l : List Pk} (h : chkP (l.map (·.1)) = 0) (hl : ¬ 65536 < (bookB l).length) : layP l = .ok (bookB l) := by unfold layP; rw [h, if_neg (by simp), if_neg hl]
end Go.Proofs.YtlmcpkomjofcgaaGreatDoor
