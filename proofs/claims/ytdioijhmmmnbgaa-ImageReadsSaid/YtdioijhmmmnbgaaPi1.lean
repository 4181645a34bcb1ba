/- Plain facts on numbers as bytes: nothing of the program. Plain facts on the bytes of a number. Plain facts on bits of bytes, the lowest first. Plain facts on canonical prefix codes. Plain facts on unpacking: what squeezed bytes are unpacked to. Plain facts on the units of modified UTF-8. Plain facts: bytes as units. Plain: class files as they stand: what is read, what is written, and that each is the other's way back. Plain: bytes that stand at a place. Plain: a reader and a writer that are each other's way back; class files. Plain: class files: what is read and written, whole. Plain: class files: the laws of reading and writing. Plain: what holds of constants, in the program's order. Plain: a constant as the program asks of it, part by part. Plain: reading step by step: where a reader stands, what it answered. Plain: what a row of readings says of attributes, members, constants. Plain: what a row of readings says of constants, of the pool, of a class file. Plain: a class file as its parts were read one by one. Plain: one round of reading rows. -/
import Derived.Test.YtdioijhmmmnbgaaBase
import Derived.Laws.BitsAllLaws
import Derived.Laws.BitsLemmas
namespace Go.Proofs.Ytdioijhmmmnbgaa
open Go.RowKit

def leN : List UInt8 → Nat
  | [] => 0
  | x :: r => x.toNat + 256 * leN r
def beN (l : List UInt8) : Nat := l.foldl (fun v x => v * 256 + x.toNat) 0
def num64 (l : List UInt8) : Int := l.foldl (fun v x => wrap64 (wrap64 (v * 256) + (x.toNat : Int))) 0

theorem u8lt (x : UInt8) : x.toNat < 256 := x.toNat_lt
theorem leN_lt (l : List UInt8) : leN l < 256 ^ l.length := by
  induction l with
  | nil => simp [leN]
  | cons x r ih =>
    have := u8lt x
    simp only [leN, List.length_cons, Nat.pow_succ]
    omega
theorem leN_drop {l : List UInt8} {k : Nat} {x : UInt8} (h : l[k]? = some x) : leN (l.drop k) = x.toNat + 256 * leN (l.drop (k + 1)) := by
  obtain ⟨hk, rfl⟩ := List.getElem?_eq_some_iff.1 h
  rw [List.drop_eq_getElem_cons hk]; rfl
theorem pow_mono {a b : Nat} (h : a ≤ b) : 256 ^ a ≤ 256 ^ b := Nat.pow_le_pow_right (by omega) h
theorem leN_lt_of (l : List UInt8) {k : Nat} (h : l.length ≤ k) : leN l < 256 ^ k := Nat.lt_of_lt_of_le (leN_lt l) (pow_mono h)
theorem foldl_be (l : List UInt8) : ∀ v : Nat, l.foldl (fun v x => v * 256 + x.toNat) v = v * 256 ^ l.length + leN l.reverse ∧ True := by
  suffices h : ∀ (l : List UInt8) (v : Nat), l.foldl (fun v x => v * 256 + x.toNat) v = v * 256 ^ l.length + beN l by
    have hs : ∀ l : List UInt8, beN l = leN l.reverse := by
      intro l
      have key : ∀ r : List UInt8, beN r.reverse = leN r := by
        intro r
        induction r with
        | nil => rfl
        | cons x r ih => unfold beN at ih ⊢; simp only [List.reverse_cons, List.foldl_append, List.foldl_cons, List.foldl_nil, ih, leN]; omega
      have := key l.reverse
      rwa [List.reverse_reverse] at this
    intro v; exact ⟨by rw [h, hs], trivial⟩
  intro l
  induction l with
  | nil => intro v; simp [beN]
  | cons x r ih =>
    intro v
    unfold beN
    simp only [List.foldl_cons, List.length_cons, Nat.pow_succ]
    rw [ih, ih]
    simp only [Nat.zero_mul, Nat.zero_add, Nat.add_mul, Nat.mul_assoc]
    rw [Nat.mul_comm 256]
    omega
theorem beN_eq (l : List UInt8) : beN l = leN l.reverse := by
  have := (foldl_be l 0).1; simpa [beN] using this
theorem beN_lt (l : List UInt8) : beN l < 256 ^ l.length := by rw [beN_eq]; have := leN_lt l.reverse; simpa using this
theorem beN_lt_of (l : List UInt8) {k : Nat} (h : l.length ≤ k) : beN l < 256 ^ k := Nat.lt_of_lt_of_le (beN_lt l) (pow_mono h)
theorem take_snoc' {α : Type} {l : List α} {k : Nat} {x : α} (h : l[k]? = some x) : l.take (k + 1) = l.take k ++ [x] := by
  obtain ⟨hk, rfl⟩ := List.getElem?_eq_some_iff.1 h
  rw [List.take_succ_eq_append_getElem hk]
theorem beN_snoc (l : List UInt8) (x : UInt8) : beN (l ++ [x]) = beN l * 256 + x.toNat := by simp [beN]
theorem num64_snoc (l : List UInt8) (x : UInt8) : num64 (l ++ [x]) = wrap64 (wrap64 (num64 l * 256) + (x.toNat : Int)) := by simp [num64]
theorem num64_eq (l : List UInt8) : num64 l = wrap64 (beN l : Int) := by
  suffices h : ∀ r : List UInt8, num64 r.reverse = wrap64 (leN r : Int) by
    have := h l.reverse
    rwa [List.reverse_reverse, ← beN_eq] at this
  intro r
  induction r with
  | nil => simp [num64, leN, wrap64]
  | cons x r ih =>
    rw [List.reverse_cons, num64_snoc, ih]
    simp only [leN, wrap64]
    omega
theorem num64_bd (l : List UInt8) : -9223372036854775808 ≤ num64 l ∧ num64 l ≤ 9223372036854775807 := by
  rw [num64_eq]; unfold wrap64; omega
theorem or_byte (y x : Nat) (hx : x < 256) (hy : y < 72057594037927936) : bits .or .u64 ((y : Int) * 256) (x : Int) = ((y * 256 + x : Nat) : Int) := by
  have h := u64_or_nat (y * 256) x (by omega) (by omega)
  rw [nat_join 8 (y * 256) x (by omega) (by omega)] at h
  rw [← h]; simp
theorem pow8 : 256 ^ 8 = 18446744073709551616 := by decide
theorem pow7 : 256 ^ 7 = 72057594037927936 := by decide
end Go.Proofs.Ytdioijhmmmnbgaa
namespace Go.Proofs.Ytdioijhmmmnbgaa
open Go.RowKit
/-- The lowest n bytes of v, the least one first. -/
def leB (n : Nat) (v : Int) : List UInt8 := (List.range n).map fun i => UInt8.ofNat ((v % 18446744073709551616).toNat / 256 ^ i)

theorem leB_len (n : Nat) (v : Int) : (leB n v).length = n := by simp [leB]
theorem leB_get {n k : Nat} (v : Int) (hk : k < n) : (leB n v)[k]? = some (UInt8.ofNat ((v % 18446744073709551616).toNat / 256 ^ k)) := by simp [leB, hk]
theorem leB_cell (v : Int) (k : Nat) : Value.int .u8 (IntKind.u64.wrap v / 2 ^ (8 * k) % 256) = bV (UInt8.ofNat ((v % 18446744073709551616).toNat / 256 ^ k)) := by
  have h1 : IntKind.u64.wrap v = ((v % 18446744073709551616).toNat : Int) := by rw [IntKind.wrap_u64]; omega
  have h2 : (2 : Int) ^ (8 * k) = ((256 ^ k : Nat) : Int) := by
    rw [show 256 = 2 ^ 8 from rfl, ← Nat.pow_mul]; simp
  unfold bV
  rw [h1, h2, UInt8.toNat_ofNat']
  congr 1
/-- One store more of a row of bytes. -/
theorem fill_set {l : List UInt8} {n k : Nat} {x : UInt8} (hl : l.length = n) (hk : k < n) (hx : l[k]? = some x) :
    (l.take k ++ List.replicate (n - k) 0).set k x = l.take (k + 1) ++ List.replicate (n - (k + 1)) 0 := by
  rw [take_snoc' hx, List.set_append_right _ _ (by simp; omega), show n - k = (n - (k + 1)) + 1 by omega, List.replicate_succ]
  simp [show min k l.length = k by omega]
theorem fill_get {l : List UInt8} {n k : Nat} (hl : l.length = n) (hk : k < n) : (l.take k ++ List.replicate (n - k) 0)[k]? = some 0 := by
  rw [List.getElem?_append_right (by simp; omega), List.getElem?_replicate, if_pos (by simp; omega)]

/-- The row filled from its end. -/
theorem back_set {l : List UInt8} {n k : Nat} {x : UInt8} (hk : k < n) (hx : l[k]? = some x) :
    (List.replicate (n - k) 0 ++ (l.take k).reverse).set (n - 1 - k) x = List.replicate (n - (k + 1)) 0 ++ (l.take (k + 1)).reverse := by
  rw [take_snoc' hx, List.reverse_append, show n - k = (n - (k + 1)) + 1 by omega, List.replicate_succ', List.append_assoc,
    List.set_append_right _ _ (by simp; omega)]
  simp [show n - 1 - k - (n - (k + 1)) = 0 by omega]
theorem back_get {l : List UInt8} {n k : Nat} (hk : k < n) : (List.replicate (n - k) 0 ++ (l.take k).reverse)[n - 1 - k]? = some 0 := by
  rw [List.getElem?_append_left (by simp; omega), List.getElem?_replicate, if_pos (by omega)]

theorem low_facts (y : Int) (h1 : -9223372036854775808 ≤ y) : -255 ≤ y.tmod 256 ∧ y.tmod 256 ≤ 255 ∧ (y.tmod 256 + 256) % 256 = y % 256 ∧ -9223372036854775808 ≤ y - (y.tmod 256 + 256) % 256 ∧ (y - y.tmod 256 % 256).tdiv 256 = y / 256 := by
  have h := Int.tmod_def y 256
  have h3 : y.tmod 256 % 256 = y % 256 := by rw [h]; omega
  have h4 : -255 ≤ y.tmod 256 ∧ y.tmod 256 ≤ 255 := by
    have a := Int.tmod_lt_of_pos y (show (0 : Int) < 256 by omega)
    have b := Int.lt_tmod_of_pos y (show (0 : Int) < 256 by omega)
    omega
  have h5 : (y.tmod 256 + 256) % 256 = y % 256 := by omega
  refine ⟨h4.1, h4.2, h5, by omega, ?_⟩
  rw [h3]
  have h6 : y - y % 256 = 256 * (y / 256) := by omega
  rw [h6, Int.mul_tdiv_cancel_left _ (by omega)]

theorem pow256 (k : Nat) : ((256 ^ k : Nat) : Int) = (256 : Int) ^ k := Int.natCast_pow 256 k
theorem low_byteL (v : Int) (k : Nat) (hk : k < 8) : (v / 256 ^ k) % 256 = (((v % 18446744073709551616).toNat / 256 ^ k % 256 : Nat) : Int) := by
  rw [← pow256]
  have : 256 ^ k = 1 ∨ 256 ^ k = 256 ∨ 256 ^ k = 65536 ∨ 256 ^ k = 16777216 ∨ 256 ^ k = 4294967296 ∨ 256 ^ k = 1099511627776 ∨ 256 ^ k = 281474976710656 ∨ 256 ^ k = 72057594037927936 := by
    have h : k = 0 ∨ k = 1 ∨ k = 2 ∨ k = 3 ∨ k = 4 ∨ k = 5 ∨ k = 6 ∨ k = 7 := by omega
    rcases h with rfl | rfl | rfl | rfl | rfl | rfl | rfl | rfl <;> decide
  rcases this with h | h | h | h | h | h | h | h <;> rw [h] <;> omega
theorem low_cell (v y : Int) (k : Nat) (hk : k < 8) (hy : y = v / 256 ^ k) (h1 : -9223372036854775808 ≤ y) : Value.int .u8 (y.tmod 256 % 256) = bV (UInt8.ofNat ((v % 18446744073709551616).toNat / 256 ^ k)) := by
  have h := low_facts y h1
  have h2 : y.tmod 256 % 256 = y % 256 := by omega
  unfold bV
  rw [h2, UInt8.toNat_ofNat', hy, low_byteL v k hk]
theorem next_y (v : Int) (k : Nat) : v / 256 ^ k / 256 = v / 256 ^ (k + 1) := by
  rw [Int.pow_succ, Int.ediv_ediv_of_nonneg (Int.le_of_lt (Int.pow_pos (by omega)))]

theorem leN_range (n : Nat) : ∀ V : Nat, leN ((List.range n).map fun i => UInt8.ofNat (V / 256 ^ i)) = V % 256 ^ n := by
  induction n with
  | zero => intro V; simp [leN, Nat.mod_one]
  | succ n ih =>
    intro V
    rw [List.range_succ_eq_map, List.map_cons, List.map_map, leN]
    have h : ((fun i => UInt8.ofNat (V / 256 ^ i)) ∘ Nat.succ) = fun i => UInt8.ofNat (V / 256 / 256 ^ i) := by
      funext i
      show UInt8.ofNat (V / 256 ^ (i + 1)) = _
      rw [Nat.pow_succ, Nat.mul_comm, Nat.div_div_eq_div_mul]
    have h9 : 256 ^ (n + 1) = 256 * 256 ^ n := by rw [Nat.pow_succ, Nat.mul_comm]
    rw [h, ih, UInt8.toNat_ofNat', Nat.pow_zero, Nat.div_one, h9, Nat.mod_mul]
theorem leN_leB {n v : Nat} (hv : v < 256 ^ n) (h : v < 18446744073709551616) : leN (leB n (v : Int)) = v := by
  unfold leB
  rw [show ((v : Int) % 18446744073709551616).toNat = v by omega, leN_range, Nat.mod_eq_of_lt hv]
end Go.Proofs.Ytdioijhmmmnbgaa
namespace Go.Proofs.Ytdioijhmmmnbgaa

/-- The bit i of bytes. -/
def bitAt (l : List UInt8) (i : Nat) : Nat := (l.getD (i / 8) 0).toNat / 2 ^ (i % 8) % 2
/-- The number of the n bits from a on. -/
def takeN (l : List UInt8) (a : Nat) : Nat → Nat
  | 0 => 0
  | n + 1 => takeN l a n + 2 ^ n * bitAt l (a + n)
theorem bitAt_lt (l : List UInt8) (i : Nat) : bitAt l i < 2 := Nat.mod_lt _ (by decide)
theorem takeN_lt (l : List UInt8) (a n : Nat) : takeN l a n < 2 ^ n := by
  induction n with
  | zero => simp [takeN]
  | succ n ih =>
    unfold takeN
    have h := bitAt_lt l (a + n)
    have h2 : 2 ^ n * bitAt l (a + n) ≤ 2 ^ n * 1 := Nat.mul_le_mul (Nat.le_refl _) (by omega)
    rw [Nat.pow_succ]; omega
/-- Three bytes as a number, the least first. -/
def acc3 (l : List UInt8) (k : Nat) : Nat := (l.getD k 0).toNat + 256 * (l.getD (k + 1) 0).toNat + 65536 * (l.getD (k + 2) 0).toNat
theorem acc3_lt (l : List UInt8) (k : Nat) : acc3 l k < 16777216 := by
  have h0 := (l.getD k 0).toNat_lt
  have h1 := (l.getD (k + 1) 0).toNat_lt
  have h2 := (l.getD (k + 2) 0).toNat_lt
  unfold acc3; omega
theorem acc3_bit (l : List UInt8) (k j : Nat) (hj : j < 24) : acc3 l k / 2 ^ j % 2 = bitAt l (8 * k + j) := by
  have h0 := (l.getD k 0).toNat_lt
  have h1 := (l.getD (k + 1) 0).toNat_lt
  have h2 := (l.getD (k + 2) 0).toNat_lt
  unfold bitAt acc3
  rw [show (8 * k + j) / 8 = k + j / 8 by omega, show (8 * k + j) % 8 = j % 8 by omega]
  generalize e0 : (l.getD k 0).toNat = b0 at *
  generalize e1 : (l.getD (k + 1) 0).toNat = b1 at *
  generalize e2 : (l.getD (k + 2) 0).toNat = b2 at *
  have hs : j = 0 ∨ j = 1 ∨ j = 2 ∨ j = 3 ∨ j = 4 ∨ j = 5 ∨ j = 6 ∨ j = 7 ∨ j = 8 ∨ j = 9 ∨ j = 10 ∨ j = 11 ∨ j = 12 ∨ j = 13 ∨ j = 14 ∨ j = 15 ∨ j = 16 ∨ j = 17 ∨ j = 18 ∨ j = 19 ∨ j = 20 ∨ j = 21 ∨ j = 22 ∨ j = 23 := by omega
  rcases hs with rfl | rfl | rfl | rfl | rfl | rfl | rfl | rfl | rfl | rfl | rfl | rfl | rfl | rfl | rfl | rfl | rfl | rfl | rfl | rfl | rfl | rfl | rfl | rfl
  all_goals
    simp only [Nat.reducePow, Nat.reduceDiv, Nat.reduceMod, Nat.add_zero]
    first
      | (rw [e0]; omega)
      | (rw [e1]; omega)
      | (rw [e2]; omega)
/-- The number of bits, out of three bytes. -/
theorem acc3_take (l : List UInt8) (a n : Nat) (hn : n ≤ 16) : acc3 l (a / 8) / 2 ^ (a % 8) % 2 ^ n = takeN l a n := by
  induction n with
  | zero => simp [takeN]; omega
  | succ n ih =>
    unfold takeN
    rw [← ih (by omega)]
    have hb := acc3_bit l (a / 8) (a % 8 + n) (by omega)
    rw [show 8 * (a / 8) + (a % 8 + n) = a + n by omega] at hb
    rw [← hb, Nat.pow_succ, Nat.mod_mul, Nat.div_div_eq_div_mul, ← Nat.pow_add]
/-- Bits of which none is read beyond an end hang on what stands before it alone. -/
theorem bitAt_app (l m : List UInt8) (i : Nat) (h : i < 8 * l.length) : bitAt (l ++ m) i = bitAt l i := by
  unfold bitAt
  rw [List.getD_eq_getElem?_getD, List.getD_eq_getElem?_getD, List.getElem?_append_left (by omega)]
theorem takeN_app (l m : List UInt8) (a n : Nat) (h : a + n ≤ 8 * l.length) : takeN (l ++ m) a n = takeN l a n := by
  induction n with
  | zero => rfl
  | succ n ih => unfold takeN; rw [ih (by omega), bitAt_app _ _ _ (by omega)]
end Go.Proofs.Ytdioijhmmmnbgaa
namespace Go.Proofs.Ytdioijhmmmnbgaa

/-- How many symbols have words of n bits; the first word of n bits; the symbols that have n bits, rising. -/
def cntP (l : List Nat) (n : Nat) : Nat := if n = 0 then 0 else l.count n
def firstP (l : List Nat) : Nat → Nat
  | 0 => 0
  | n + 1 => 2 * (firstP l n + cntP l n)
def symsP (l : List Nat) (k n : Nat) : List Nat := (List.range k).filter fun s => l[s]? == some n
def kraftTo (l : List Nat) : Nat → Nat
  | 0 => 0
  | n + 1 => 2 * kraftTo l n + cntP l (n + 1)
def usedP (l : List Nat) : Nat := (l.filter fun n => n != 0).length
/-- Do lengths make a code? -/
def codeB (l : List Nat) (lone : Bool) : Bool := decide (kraftTo l 15 = 32768) || (lone && (decide (usedP l = 0) || (decide (usedP l = 1) && decide (l.count 1 = 1))))
theorem kraft_first (l : List Nat) (n : Nat) : firstP l n + cntP l n = kraftTo l n := by
  induction n with
  | zero => rfl
  | succ n ih => simp only [firstP, kraftTo, ih]
theorem kraft_mono (l : List Nat) (n d : Nat) : kraftTo l n * 2 ^ d ≤ kraftTo l (n + d) := by
  induction d with
  | zero => simp
  | succ d ih =>
    rw [← Nat.add_assoc]
    simp only [kraftTo]
    rw [Nat.pow_succ, ← Nat.mul_assoc]; omega
/-- A word of n bits has no more than n bits. -/
theorem first_bound {l : List Nat} (h : kraftTo l 15 ≤ 32768) {n : Nat} (hn : n ≤ 15) : firstP l n + cntP l n ≤ 2 ^ n := by
  rw [kraft_first]
  have h1 := kraft_mono l n (15 - n)
  rw [show n + (15 - n) = 15 by omega] at h1
  have h2 : (2 : Nat) ^ 15 = 2 ^ n * 2 ^ (15 - n) := by rw [← Nat.pow_add]; congr 1; omega
  have h3 : 0 < 2 ^ (15 - n) := Nat.two_pow_pos _
  have h4 : kraftTo l n * 2 ^ (15 - n) ≤ 2 ^ n * 2 ^ (15 - n) := by rw [← h2]; omega
  exact Nat.le_of_mul_le_mul_right h4 h3
theorem symsP_succ (l : List Nat) (k n : Nat) : symsP l (k + 1) n = symsP l k n ++ (if l[k]? = some n then [k] else []) := by
  unfold symsP
  rw [List.range_succ, List.filter_append]
  congr 1
  by_cases h : l[k]? = some n <;> simp [h]
theorem count_take (l : List Nat) (k n : Nat) (hk : k ≤ l.length) : (symsP l k n).length = (l.take k).count n := by
  induction k with
  | zero => simp [symsP]
  | succ k ih =>
    rw [symsP_succ, List.length_append, ih (by omega), List.take_add_one, List.getElem?_eq_getElem (show k < l.length by omega)]
    simp only [Option.toList_some, List.count_append, Option.some.injEq]
    by_cases h : l[k] = n <;> simp [h]
theorem symsP_len (l : List Nat) (n : Nat) : (symsP l l.length n).length = l.count n := by
  rw [count_take _ _ _ (Nat.le_refl _), List.take_length]
/-- The symbol of a word of n bits, among the first k symbols. -/
def symK (l : List Nat) (k : Nat) (n c : Nat) : Option Nat := if n = 0 then none else if firstP l n ≤ c then (symsP l k n)[c - firstP l n]? else none
def symAt (l : List Nat) (n c : Nat) : Option Nat := symK l l.length n c
theorem symK_zero (l : List Nat) (n c : Nat) : symK l 0 n c = none := by
  unfold symK symsP
  split
  · rfl
  · split <;> simp
theorem symK_same {l : List Nat} {k m : Nat} (hk : l[k]? = some m) (hm : m ≠ 0) : symK l (k + 1) m (firstP l m + (symsP l k m).length) = some k := by
  unfold symK
  rw [if_neg hm, if_pos (by omega), symsP_succ, if_pos hk]
  rw [show firstP l m + (symsP l k m).length - firstP l m = (symsP l k m).length by omega]
  simp
theorem symK_other {l : List Nat} {k m n c : Nat} (hk : l[k]? = some m) (h : ¬ (n = m ∧ c = firstP l m + (symsP l k m).length)) : symK l (k + 1) n c = symK l k n c := by
  unfold symK
  split
  · rfl
  · split
    · rename_i h1
      rw [symsP_succ]
      by_cases hn : n = m
      · subst hn
        rw [if_pos hk]
        rcases Nat.lt_or_ge (c - firstP l n) (symsP l k n).length with h2 | h2
        · rw [List.getElem?_append_left h2]
        · rw [List.getElem?_append_right h2, List.getElem?_eq_none h2]
          have h3 : c - firstP l n - (symsP l k n).length ≠ 0 := fun e => h ⟨rfl, by omega⟩
          obtain ⟨q, hq⟩ : ∃ q, c - firstP l n - (symsP l k n).length = q + 1 := ⟨c - firstP l n - (symsP l k n).length - 1, by omega⟩
          rw [hq]; simp
      · rw [if_neg (by rw [hk]; intro e; injection e with e; exact hn e.symm)]; simp
    · rfl
theorem symK_skip {l : List Nat} {k n c : Nat} (hk : l[k]? = some 0) : symK l (k + 1) n c = symK l k n c := by
  by_cases hn : n = 0
  · unfold symK; rw [if_pos hn, if_pos hn]
  · exact symK_other hk (fun e => hn e.1)
def mostP (l : List Nat) : Nat := l.foldl max 0
end Go.Proofs.Ytdioijhmmmnbgaa
namespace Go.Proofs.Ytdioijhmmmnbgaa

/-- An answer, or an error's number. -/
inductive Rz (α : Type) where
  | ok (a : α) : Rz α
  | err (e : Int) : Rz α
def Rz.bind {α β : Type} : Rz α → (α → Rz β) → Rz β
  | .ok a, f => f a
  | .err e, _ => .err e
/-- The next n bits at p. -/
def tk (b : List UInt8) (p n : Nat) : Rz (Nat × Nat) := if p + n ≤ 8 * b.length then .ok (takeN b p n, p + n) else .err 2
/-- The next symbol. -/
def nextF (l : List Nat) (b : List UInt8) : Nat → Nat → Nat → Nat → Rz (Nat × Nat)
  | 0, _, _, _ => .err 6
  | f + 1, n, c, p => if p + 1 ≤ 8 * b.length then (match symAt l (n + 1) (2 * c + bitAt b p) with
      | some s => .ok (s, p + 1)
      | none => nextF l b f (n + 1) (2 * c + bitAt b p) (p + 1)) else .err 2
def nextP (l : List Nat) (b : List UInt8) (p : Nat) : Rz (Nat × Nat) := nextF l b (mostP l) 0 0 p
/-- Lengths and distances. -/
def spreadP (c per : Nat) : Nat × Nat := if c < 2 * per then (c, 0) else ((per + c % per) * 2 ^ (c / per - 1), c / per - 1)
def lenP (s : Nat) : Nat × Nat := if s = 285 then (258, 0) else ((spreadP (s - 257) 4).1 + 3, (spreadP (s - 257) 4).2)
def dstP (t : Nat) : Nat × Nat := ((spreadP t 2).1 + 1, (spreadP t 2).2)
def copyN (far : Nat) : Nat → List UInt8 → List UInt8
  | 0, out => out
  | n + 1, out => copyN far n (out ++ [out.getD (out.length - far) 0])
/-- A block's symbols. -/
def symF (lit dist : List Nat) (b : List UInt8) (lim : Nat) : Nat → Nat → List UInt8 → Rz (List UInt8 × Nat)
  | 0, _, _ => .err 0
  | f + 1, p, out => (nextP lit b p).bind fun x =>
      if x.1 = 256 then .ok (out, x.2)
      else if x.1 < 256 then (if lim ≤ out.length then .err 8 else symF lit dist b lim f x.2 (out ++ [UInt8.ofNat x.1]))
      else if 285 < x.1 then .err 6
      else (tk b x.2 (lenP x.1).2).bind fun y => (nextP dist b y.2).bind fun z =>
        if 29 < z.1 then .err 6
        else (tk b z.2 (dstP z.1).2).bind fun u =>
          if out.length < (dstP z.1).1 + u.1 then .err 7
          else if lim < out.length + ((lenP x.1).1 + y.1) then .err 8
          else symF lit dist b lim f u.2 (copyN ((dstP z.1).1 + u.1) ((lenP x.1).1 + y.1) out)
/-- The lengths that a block tells. -/
def ordL : List Nat := [16, 17, 18, 0, 8, 7, 9, 6, 10, 5, 11, 4, 12, 3, 13, 2, 14, 1, 15]
def lensF (b : List UInt8) : List Nat → List Nat → Nat → Rz (List Nat × Nat)
  | [], l, p => .ok (l, p)
  | k :: r, l, p => (tk b p 3).bind fun x => lensF b r (l.set k x.1) x.2
def runP (s : Nat) (all : List Nat) : Nat × Nat × Nat :=
  if s = 16 then (all.getLastD 0, 3, 2) else if s = 17 then (0, 3, 3) else if s = 18 then (0, 11, 7) else (s, 1, 0)
def allF (lens : List Nat) (b : List UInt8) (total : Nat) : Nat → Nat → List Nat → Rz (List Nat × Nat)
  | 0, _, _ => .err 0
  | f + 1, p, all => if total ≤ all.length then .ok (all, p) else (nextP lens b p).bind fun x =>
      if x.1 = 16 ∧ all = [] then .err 6
      else (tk b x.2 (runP x.1 all).2.2).bind fun y =>
        if total < all.length + ((runP x.1 all).2.1 + y.1) then .err 6
        else allF lens b total f y.2 (all ++ List.replicate ((runP x.1 all).2.1 + y.1) (runP x.1 all).1)
def allP0 (lens : List Nat) (total : Nat) (b : List UInt8) (p : Nat) : Rz (List Nat × Nat) := allF lens b total (8 * b.length + 1) p []
def toldP (b : List UInt8) (p : Nat) : Rz ((List Nat × List Nat) × Nat) :=
  (tk b p 5).bind fun x => (tk b x.2 5).bind fun y => (tk b y.2 4).bind fun z =>
    if 286 < x.1 + 257 ∨ 30 < y.1 + 1 then .err 5
    else (lensF b (ordL.take (z.1 + 4)) (List.replicate 19 0) z.2).bind fun u =>
      if codeB u.1 false = false then .err 5
      else (allP0 u.1 (x.1 + 257 + (y.1 + 1)) b u.2).bind fun v =>
        if v.1.getD 256 0 = 0 then .err 5 else .ok ((v.1.take (x.1 + 257), v.1.drop (x.1 + 257)), v.2)
def fixLit : List Nat := List.replicate 144 8 ++ List.replicate 112 9 ++ List.replicate 24 7 ++ List.replicate 8 8
def fixDist : List Nat := List.replicate 32 5
/-- A stored block. -/
def byteN (b : List UInt8) (k : Nat) : Nat := (b.getD k 0).toNat
def storedP (b : List UInt8) (lim p : Nat) (out : List UInt8) : Rz (List UInt8 × Nat) :=
  if b.length < (p + 7) / 8 + 4 then .err 2
  else if byteN b ((p + 7) / 8) + 256 * byteN b ((p + 7) / 8 + 1) + (byteN b ((p + 7) / 8 + 2) + 256 * byteN b ((p + 7) / 8 + 3)) ≠ 65535 then .err 4
  else if lim < out.length + (byteN b ((p + 7) / 8) + 256 * byteN b ((p + 7) / 8 + 1)) then .err 8
  else if b.length < (p + 7) / 8 + 4 + (byteN b ((p + 7) / 8) + 256 * byteN b ((p + 7) / 8 + 1)) then .err 2
  else .ok (out ++ (b.drop ((p + 7) / 8 + 4)).take (byteN b ((p + 7) / 8) + 256 * byteN b ((p + 7) / 8 + 1)), 8 * ((p + 7) / 8 + 4 + (byteN b ((p + 7) / 8) + 256 * byteN b ((p + 7) / 8 + 1))))
def symP (lit dist : List Nat) (lim : Nat) (out : List UInt8) (b : List UInt8) (p : Nat) : Rz (List UInt8 × Nat) := symF lit dist b lim (8 * b.length + 1) p out
def codedP (lim : Nat) (out : List UInt8) (lit dist : List Nat) (b : List UInt8) (p : Nat) : Rz (List UInt8 × Nat) :=
  if codeB lit false = false then .err 5 else if codeB dist true = false then .err 5 else symP lit dist lim out b p
/-- What stands in one block, of the kind k. -/
def bodyP (lim : Nat) (out : List UInt8) (k : Nat) (b : List UInt8) (p : Nat) : Rz (List UInt8 × Nat) :=
  if k = 0 then storedP b lim p out else if k = 3 then .err 3
  else if k = 2 then (toldP b p).bind fun u => codedP lim out u.1.1 u.1.2 b u.2
  else codedP lim out fixLit fixDist b p
/-- One block: is it the last? -/
def blkP (lim : Nat) (out : List UInt8) (b : List UInt8) (p : Nat) : Rz ((Bool × List UInt8) × Nat) :=
  (tk b p 1).bind fun x => (tk b x.2 2).bind fun y => (bodyP lim out y.1 b y.2).bind fun z => .ok ((decide (x.1 = 1), z.1), z.2)
def allB (lim : Nat) (b : List UInt8) : Nat → Nat → List UInt8 → Rz (List UInt8 × Nat)
  | 0, _, _ => .err 0
  | f + 1, p, out => (blkP lim out b p).bind fun x => if x.1.1 = true then .ok (x.1.2, x.2) else allB lim b f x.2 x.1.2
/-- All blocks, and the bits that they take. -/
def allP (lim : Nat) (b : List UInt8) (p : Nat) : Rz (List UInt8 × Nat) := allB lim b (8 * b.length + 1) p []
/-- All that bytes begin with. -/
def inflP (b : List UInt8) (lim : Int) : Rz (List UInt8 × Nat) := if lim < 0 ∨ 32768 < lim then .err 1 else (allP lim.toNat b 0).bind fun x => .ok (x.1, (x.2 + 7) / 8)
end Go.Proofs.Ytdioijhmmmnbgaa
namespace Go.Proofs.Ytdioijhmmmnbgaa

/-- The bytes of a unit. -/
def unitB (x : UInt16) : List UInt8 :=
  if 0 < x.toNat ∧ x.toNat < 128 then [UInt8.ofNat x.toNat]
  else if x.toNat < 2048 then [UInt8.ofNat (192 + x.toNat / 64), UInt8.ofNat (128 + x.toNat % 64)]
  else [UInt8.ofNat (224 + x.toNat / 4096), UInt8.ofNat (128 + x.toNat / 64 % 64), UInt8.ofNat (128 + x.toNat % 64)]
def textB (l : List UInt16) : List UInt8 := l.flatMap unitB
theorem textB_snoc (l : List UInt16) (x : UInt16) : textB (l ++ [x]) = textB l ++ unitB x := by simp [textB]
theorem unitB_one {x : UInt16} {v : Int} (hv : (x.toNat : Int) = v) (h1 : 0 < v) (h2 : v < 128) : unitB x = [UInt8.ofNat v.toNat] := by
  subst hv; unfold unitB; rw [if_pos (by omega)]; rfl
theorem unitB_two {x : UInt16} {v : Int} (hv : (x.toNat : Int) = v) (h1 : v = 0 ∨ 128 ≤ v) (h2 : v < 2048) : unitB x = [UInt8.ofNat (192 + v / 64).toNat, UInt8.ofNat (128 + v % 64).toNat] := by
  subst hv; unfold unitB; rw [if_neg (by omega), if_pos (by omega)]
  congr 1
theorem unitB_three {x : UInt16} {v : Int} (hv : (x.toNat : Int) = v) (h1 : 2048 ≤ v) : unitB x = [UInt8.ofNat (224 + v / 4096).toNat, UInt8.ofNat (128 + v / 64 % 64).toNat, UInt8.ofNat (128 + v % 64).toNat] := by
  subst hv; unfold unitB; rw [if_neg (by omega), if_neg (by omega)]
  congr 1
theorem unitB_len (x : UInt16) : 1 ≤ (unitB x).length ∧ (unitB x).length ≤ 3 := by unfold unitB; split <;> (try split) <;> simp
theorem wraps_u16 (n : Int) (h0 : 0 ≤ n) (h1 : n < 2 ^ 16) : IntKind.u16.wrap n = n := by
  have : IntKind.u16.wrap n = n % 65536 := by simp [IntKind.wrap, IntKind.bits, IntKind.signed]
  rw [this]; omega
theorem u16_and63 {v : Int} (h0 : 0 ≤ v) (h1 : v < 65536) : bits .and .u16 v 63 = v % 64 := bits_mask .u16 16 (by decide) wraps_u16 6 (by decide) v h0 h1
theorem low_byte {v : Int} (h0 : 0 ≤ v) (h1 : v < 65536) : bits .or .u8 128 (bits .and .u16 v 63 % 256) = 128 + v % 64 := by
  rw [u16_and63 h0 h1, show v % 64 % 256 = v % 64 by omega]; exact u8_or128 _ (by omega) (by omega)
theorem bV_of {v : Int} (h0 : 0 ≤ v) (h1 : v < 256) : Value.int .u8 v = bV (UInt8.ofNat v.toNat) := by
  unfold bV; rw [UInt8.toNat_ofNat']; congr 1; omega
end Go.Proofs.Ytdioijhmmmnbgaa
namespace Go.Proofs.Ytdioijhmmmnbgaa

def two (a b : Nat) : Nat := a % 32 * 64 + b % 64
def three (a b c : Nat) : Nat := a % 16 * 4096 + b % 64 * 64 + c % 64
/-- The unit with which bytes begin, and how many bytes it takes: the first of them, the second and the third, if there are any. -/
def unit3 (a : Nat) (b c : Option UInt8) : Option (Nat × Nat) :=
  if 0 < a ∧ a < 128 then some (a, 1)
  else if a / 32 = 6 then match b with
    | some b => if b.toNat / 64 = 2 ∧ ¬ (0 < two a b.toNat ∧ two a b.toNat < 128) then some (two a b.toNat, 2) else none
    | none => none
  else if a / 16 = 14 then match b, c with
    | some b, some c => if b.toNat / 64 = 2 ∧ c.toNat / 64 = 2 ∧ 2048 ≤ three a b.toNat c.toNat then some (three a b.toNat c.toNat, 3) else none
    | _, _ => none
  else none
def unitsGo : Nat → List UInt16 → List UInt8 → Option (List UInt16)
  | _, us, [] => some us
  | 0, _, _ :: _ => none
  | f + 1, us, a :: r => match unit3 a.toNat r[0]? r[1]? with
    | none => none
    | some (v, n) => unitsGo f (us ++ [UInt16.ofNat v]) ((a :: r).drop n)
def unitsB (l : List UInt8) : Option (List UInt16) := unitsGo l.length [] l
def unitsV (l : List UInt8) : List UInt16 × Int := match unitsB l with
  | none => ([], 23)
  | some us => (us, 0)
theorem unitsV_no {l : List UInt8} (h : unitsB l = none) : unitsV l = ([], 23) := by unfold unitsV; rw [h]
theorem unitsV_yes {l : List UInt8} {us : List UInt16} (h : unitsB l = some us) : unitsV l = (us, 0) := by unfold unitsV; rw [h]
theorem unitsGo_nil (f : Nat) (us : List UInt16) : unitsGo f us [] = some us := by cases f <;> rfl
theorem unitsGo_drop {l : List UInt8} {i f : Nat} {us : List UInt16} {a : UInt8} (h : l[i]? = some a) :
    unitsGo (f + 1) us (l.drop i) = match unit3 a.toNat l[i + 1]? l[i + 2]? with
      | none => none
      | some (v, n) => unitsGo f (us ++ [UInt16.ofNat v]) (l.drop (i + n)) := by
  obtain ⟨hl, he⟩ := List.getElem?_eq_some_iff.1 h
  have hd : l.drop i = a :: l.drop (i + 1) := by rw [List.drop_eq_getElem_cons hl, he]
  have e1 : (l.drop (i + 1))[0]? = l[i + 1]? := by rw [List.getElem?_drop]
  have e2 : (l.drop (i + 1))[1]? = l[i + 2]? := by rw [List.getElem?_drop]
  rw [hd]
  show (match unit3 a.toNat (l.drop (i + 1))[0]? (l.drop (i + 1))[1]? with
      | none => none
      | some (v, n) => unitsGo f (us ++ [UInt16.ofNat v]) ((a :: l.drop (i + 1)).drop n)) = _
  rw [e1, e2, ← hd]
  simp only [List.drop_drop]
theorem unitsGo_no {l : List UInt8} {i f : Nat} {us : List UInt16} {a : UInt8} (h : l[i]? = some a) (h3 : unit3 a.toNat l[i + 1]? l[i + 2]? = none) : unitsGo f us (l.drop i) = none := by
  cases f with
  | zero =>
    obtain ⟨hl, he⟩ := List.getElem?_eq_some_iff.1 h
    rw [List.drop_eq_getElem_cons hl]; rfl
  | succ f => rw [unitsGo_drop h, h3]
theorem unitsGo_yes {l : List UInt8} {i f n : Nat} {v : Nat} {us : List UInt16} {a : UInt8} (h : l[i]? = some a) (hf : 0 < f) (h3 : unit3 a.toNat l[i + 1]? l[i + 2]? = some (v, n)) : unitsGo f us (l.drop i) = unitsGo (f - 1) (us ++ [UInt16.ofNat v]) (l.drop (i + n)) := by
  obtain ⟨g, rfl⟩ : ∃ g, f = g + 1 := ⟨f - 1, by omega⟩
  rw [unitsGo_drop h, h3]; rfl
theorem u16_and31 {v : Int} (h0 : 0 ≤ v) (h1 : v < 65536) : bits .and .u16 v 31 = v % 32 := bits_mask .u16 16 (by decide) wraps_u16 5 (by decide) v h0 h1
theorem u16_and15 {v : Int} (h0 : 0 ≤ v) (h1 : v < 65536) : bits .and .u16 v 15 = v % 16 := bits_mask .u16 16 (by decide) wraps_u16 4 (by decide) v h0 h1
theorem u16_or6 {x y : Int} (h0 : 0 ≤ x) (h1 : x < 65536) (hx : x % 64 = 0) (h2 : 0 ≤ y) (h3 : y < 64) : bits .or .u16 x y = x + y :=
  bits_join .u16 16 (by decide) wraps_u16 6 x y h0 hx h1 h2 h3 (by omega)
theorem u16_or12 {x y : Int} (h0 : 0 ≤ x) (h1 : x < 65536) (hx : x % 4096 = 0) (h2 : 0 ≤ y) (h3 : y < 4096) : bits .or .u16 x y = x + y :=
  bits_join .u16 16 (by decide) wraps_u16 12 x y h0 hx h1 h2 h3 (by omega)
theorem uVnat {v : Nat} (h : v < 65536) : (UInt16.ofNat v).toNat = v := by rw [UInt16.toNat_ofNat']; omega
theorem wrap_u16 (n : Int) : IntKind.u16.wrap n = n % 65536 := by simp [IntKind.wrap, IntKind.bits, IntKind.signed]
theorem two_bits {a b : Nat} (ha : a < 256) : bits .or .u16 (IntKind.u16.wrap (bits .and .u16 (a : Int) 31 * 64)) ((b : Int) % 64) = (two a b : Int) := by
  rw [u16_and31 (by omega) (by omega), wrap_u16, u16_or6 (by omega) (by omega) (by omega) (by omega) (by omega)]
  unfold two; omega
theorem three_bits {a b c : Nat} (ha : a < 256) : bits .or .u16 (bits .or .u16 (IntKind.u16.wrap (bits .and .u16 (a : Int) 15 * 4096)) ((b : Int) % 64 * 64)) ((c : Int) % 64) = (three a b c : Int) := by
  rw [u16_and15 (by omega) (by omega), wrap_u16, u16_or12 (x := (a : Int) % 16 * 4096 % 65536) (y := (b : Int) % 64 * 64) (by omega) (by omega) (by omega) (by omega) (by omega), u16_or6 (by omega) (by omega) (by omega) (by omega) (by omega)]
  unfold three; omega
theorem two_lt (a b : Nat) : two a b < 2048 := by unfold two; omega
theorem three_lt (a b c : Nat) : three a b c < 65536 := by unfold three; omega
section
variable {a : Nat} {b c : Option UInt8}
theorem unit3_one (h1 : 0 < a) (h2 : a < 128) : unit3 a b c = some (a, 1) := by unfold unit3; rw [if_pos ⟨h1, h2⟩]
theorem unit3_two {x : UInt8} (ha : a / 32 = 6) (hb : b = some x) (h : x.toNat / 64 = 2) (hv : ¬ (0 < two a x.toNat ∧ two a x.toNat < 128)) : unit3 a b c = some (two a x.toNat, 2) := by
  subst hb; unfold unit3; rw [if_neg (by omega), if_pos ha]; simp only; rw [if_pos ⟨h, hv⟩]
theorem unit3_two_no (ha : a / 32 = 6) (hb : ∀ x, b = some x → ¬ (x.toNat / 64 = 2 ∧ ¬ (0 < two a x.toNat ∧ two a x.toNat < 128))) : unit3 a b c = none := by
  unfold unit3; rw [if_neg (by omega), if_pos ha]
  cases b with
  | none => rfl
  | some x => simp only; rw [if_neg (hb x rfl)]
theorem unit3_three {x y : UInt8} (ha : a / 16 = 14) (hb : b = some x) (hc : c = some y) (h : x.toNat / 64 = 2) (h' : y.toNat / 64 = 2) (hv : 2048 ≤ three a x.toNat y.toNat) : unit3 a b c = some (three a x.toNat y.toNat, 3) := by
  subst hb; subst hc; unfold unit3; rw [if_neg (by omega), if_neg (by omega), if_pos ha]; simp only; rw [if_pos ⟨h, h', hv⟩]
theorem unit3_three_no (ha : a / 16 = 14) (hb : ∀ x y, b = some x → c = some y → ¬ (x.toNat / 64 = 2 ∧ y.toNat / 64 = 2 ∧ 2048 ≤ three a x.toNat y.toNat)) : unit3 a b c = none := by
  unfold unit3; rw [if_neg (by omega), if_neg (by omega), if_pos ha]
  cases b with
  | none => rfl
  | some x => cases c with
    | none => rfl
    | some y => simp only; rw [if_neg (hb x y rfl rfl)]
theorem unit3_other (h1 : ¬ (0 < a ∧ a < 128)) (h2 : ¬ a / 32 = 6) (h3 : ¬ a / 16 = 14) : unit3 a b c = none := by
  unfold unit3; rw [if_neg h1, if_neg h2, if_neg h3]
end
end Go.Proofs.Ytdioijhmmmnbgaa
namespace Go.Proofs.Ytdioijhmmmnbgaa
open Go.RowKit
structure Cst where
  tag : Int
  a : Int
  b : Int
  num : Int
  text : List UInt8
deriving DecidableEq
structure Att where
  name : Int
  data : List UInt8
deriving DecidableEq
structure Mem where
  access : Int
  name : Int
  desc : Int
  attrs : List Att
deriving DecidableEq
structure Img where
  minor : Int
  major : Int
  pool : List Cst
  access : Int
  this : Int
  super : Int
  ifaces : List Int
  fields : List Mem
  methods : List Mem
  attrs : List Att
deriving DecidableEq
def cst0 : Cst := ⟨0, 0, 0, 0, []⟩
def img0 : Img := ⟨0, 0, [], 0, 0, 0, [], [], [], []⟩
/-- A reader of bytes: its answer, and where it stands behind it. -/
abbrev Py (α : Type) := List UInt8 → Nat → Rz (α × Nat)
def retP {α : Type} (a : α) : Py α := fun _ p => .ok (a, p)
def failP {α : Type} (e : Int) : Py α := fun _ _ => .err e
def bindP {α β : Type} (A : Py α) (F : α → Py β) : Py β := fun b p => (A b p).bind fun x => F x.1 b x.2
def rdN (n : Nat) : Py Nat := fun b p => if p + n ≤ b.length then .ok (beN ((b.drop p).take n), p + n) else .err 2
def rdB (n : Nat) : Py (List UInt8) := fun b p => if p + n ≤ b.length then .ok ((b.drop p).take n, p + n) else .err 2
def sgn32 (v : Nat) : Int := if 2147483648 ≤ v then (v : Int) - 4294967296 else v
def uOk (s : List UInt8) : Bool := (unitsB s).isSome
def cstP : Py Cst := bindP (rdN 1) fun t =>
  if t = 1 then bindP (rdN 2) fun n => bindP (rdB n) fun s => if uOk s = true then retP ⟨1, 0, 0, 0, s⟩ else failP 23
  else if t = 3 then bindP (rdN 4) fun v => retP ⟨3, 0, 0, sgn32 v, []⟩
  else if t = 5 then bindP (rdN 8) fun v => retP ⟨5, 0, 0, wrap64 (v : Int), []⟩
  else if t = 7 ∨ t = 8 then bindP (rdN 2) fun a => retP ⟨t, a, 0, 0, []⟩
  else if t = 9 ∨ t = 10 ∨ t = 11 ∨ t = 12 then bindP (rdN 2) fun a => bindP (rdN 2) fun b => retP ⟨t, a, b, 0, []⟩
  else failP 24
def repP {α : Type} (A : Py α) : Nat → Py (List α)
  | 0 => retP []
  | n + 1 => bindP A fun x => bindP (repP A n) fun r => retP (x :: r)
def cntI : Py Nat := bindP (rdN 2) fun n => if 64 < n then failP 24 else retP n
def attP : Py Att := bindP (rdN 2) fun nm => bindP (rdN 4) fun sz => bindP (rdB sz) fun d => retP ⟨nm, d⟩
def attsP : Py (List Att) := bindP cntI fun n => repP attP n
def memP : Py Mem := bindP (rdN 2) fun ac => bindP (rdN 2) fun nm => bindP (rdN 2) fun ds => bindP attsP fun at_ => retP ⟨ac, nm, ds, at_⟩
def memsP : Py (List Mem) := bindP cntI fun n => repP memP n
/-- The constants behind the first place: so many places, so much fuel. -/
def poolP : Nat → Nat → Py (List Cst)
  | 0, _ => retP []
  | f + 1, k => if k = 0 then retP [] else bindP cstP fun c => if c.tag = 5 then (if k = 1 then failP 24 else bindP (poolP f (k - 2)) fun r => retP (c :: cst0 :: r)) else bindP (poolP f (k - 1)) fun r => retP (c :: r)
def ifP : Py (List Int) := bindP cntI fun k => bindP (repP (rdN 2) k) fun l => retP (l.map fun (x : Nat) => (x : Int))
def imgP : Py Img := bindP (rdN 4) fun g => if g ≠ 3405691582 then failP 24 else bindP (rdN 2) fun mi => bindP (rdN 2) fun ma => if ma < 45 ∨ 52 < ma then failP 24 else
  bindP (rdN 2) fun n => if n < 1 ∨ 1024 < n then failP 24 else bindP (poolP n (n - 1)) fun pl => bindP (rdN 2) fun ac => bindP (rdN 2) fun th => bindP (rdN 2) fun su => bindP ifP fun ifs =>
  bindP memsP fun fs => bindP memsP fun ms => bindP attsP fun at_ => retP ⟨mi, ma, cst0 :: pl, ac, th, su, ifs, fs, ms, at_⟩
/-- What holds. -/
def tagP (pool : List Cst) (i : Int) : Int := if i < 1 then 0 else match pool[i.toNat]? with
  | some c => c.tag
  | none => 0
def u2P (x : Int) : Bool := decide (0 ≤ x ∧ x ≤ 65535)
def rightP (pool : List Cst) (i : Nat) (c : Cst) : Bool :=
  if c.tag = 0 then decide ((i = 0 ∨ (pool[i - 1]?).map (·.tag) = some 5) ∧ c = cst0)
  else decide (i ≠ 0) && (if c.tag = 1 then uOk c.text && decide (c.text.length ≤ 65535 ∧ c = ⟨1, 0, 0, 0, c.text⟩)
    else if c.tag = 3 then decide (-2147483648 ≤ c.num ∧ c.num ≤ 2147483647 ∧ c = ⟨3, 0, 0, c.num, []⟩)
    else if c.tag = 5 then decide ((pool[i + 1]?).map (·.tag) = some 0 ∧ c = ⟨5, 0, 0, c.num, []⟩)
    else if c.tag = 7 ∨ c.tag = 8 then decide (tagP pool c.a = 1 ∧ c = ⟨c.tag, c.a, 0, 0, []⟩)
    else if c.tag = 9 ∨ c.tag = 10 ∨ c.tag = 11 then decide (tagP pool c.a = 7 ∧ tagP pool c.b = 12 ∧ c = ⟨c.tag, c.a, c.b, 0, []⟩)
    else if c.tag = 12 then decide (tagP pool c.a = 1 ∧ tagP pool c.b = 1 ∧ c = ⟨12, c.a, c.b, 0, []⟩)
    else false)
def rightsP (pool : List Cst) : Bool := (List.range pool.length).all fun i => match pool[i]? with
  | some c => rightP pool i c
  | none => true
def attOk (pool : List Cst) (x : Att) : Bool := decide (tagP pool x.name = 1) && decide (x.data.length ≤ 32768)
def attsOk (pool : List Cst) (l : List Att) : Bool := l.all (attOk pool) && decide (l.length ≤ 64)
def memOk (pool : List Cst) (x : Mem) : Bool := u2P x.access && decide (tagP pool x.name = 1) && decide (tagP pool x.desc = 1) && attsOk pool x.attrs
def memsOk (pool : List Cst) (l : List Mem) : Bool := l.all (memOk pool) && decide (l.length ≤ 64)
def headOk (m : Img) : Bool := u2P m.minor && decide (45 ≤ m.major ∧ m.major ≤ 52) && decide (1 ≤ m.pool.length ∧ m.pool.length ≤ 1024) && u2P m.access && decide (m.ifaces.length ≤ 64)
def holdsP (m : Img) : Bool := headOk m && rightsP m.pool && m.ifaces.all (fun i => decide (tagP m.pool i = 7)) && decide (tagP m.pool m.this = 7) && decide (m.super = 0 ∨ tagP m.pool m.super = 7) &&
  memsOk m.pool m.fields && memsOk m.pool m.methods && attsOk m.pool m.attrs
def parseP (b : List UInt8) : Rz Img := if 32768 < b.length then .err 8 else (imgP b 0).bind fun x => if x.2 ≠ b.length ∨ holdsP x.1 = false then .err 24 else .ok x.1
/-- What is written. -/
def beB (n : Nat) (v : Int) : List UInt8 := (leB n v).reverse
def cstB (c : Cst) : List UInt8 :=
  if c.tag = 0 then [] else beB 1 c.tag ++ (if c.tag = 1 then beB 2 c.text.length ++ c.text else if c.tag = 3 then beB 4 c.num else if c.tag = 5 then beB 8 c.num
    else if c.tag = 7 ∨ c.tag = 8 then beB 2 c.a else beB 2 c.a ++ beB 2 c.b)
def attB (x : Att) : List UInt8 := beB 2 x.name ++ (beB 4 x.data.length ++ x.data)
def attsB (l : List Att) : List UInt8 := beB 2 l.length ++ l.flatMap attB
def memB (x : Mem) : List UInt8 := beB 2 x.access ++ (beB 2 x.name ++ (beB 2 x.desc ++ attsB x.attrs))
def memsB (l : List Mem) : List UInt8 := beB 2 l.length ++ l.flatMap memB
def ifB (l : List Int) : List UInt8 := beB 2 l.length ++ l.flatMap (beB 2)
def imgB (m : Img) : List UInt8 := beB 4 3405691582 ++ (beB 2 m.minor ++ (beB 2 m.major ++ (beB 2 m.pool.length ++ (m.pool.flatMap cstB ++ (beB 2 m.access ++ (beB 2 m.this ++ (beB 2 m.super ++ (ifB m.ifaces ++ (memsB m.fields ++ (memsB m.methods ++ attsB m.attrs))))))))))
def writeP (m : Img) : Rz (List UInt8) := if holdsP m = false then .err 24 else if 32768 < (imgB m).length then .err 8 else .ok (imgB m)
theorem beB_len (n : Nat) (v : Int) : (beB n v).length = n := by unfold beB; rw [List.length_reverse, leB_len]
theorem beN_beB {n v : Nat} (hv : v < 256 ^ n) (h : v < 18446744073709551616) : beN (beB n (v : Int)) = v := by
  unfold beB
  rw [beN_eq, List.reverse_reverse, leN_leB hv h]
/-- Any bytes are those of their number. -/
theorem beB_beN (l : List UInt8) (h8 : l.length ≤ 8) : beB l.length (beN l : Int) = l := by
  have key : ∀ r : List UInt8, r.length ≤ 8 → leB r.length (leN r : Int) = r := by
    intro r hr
    have hlt : leN r < 18446744073709551616 := by
      have h1 := leN_lt r
      have h2 := Nat.pow_le_pow_right (n := 256) (by omega) hr
      have h3 := pow8
      omega
    unfold leB
    rw [show ((leN r : Int) % 18446744073709551616).toNat = leN r by omega]
    clear hr hlt
    induction r with
    | nil => rfl
    | cons x r ih =>
      rw [List.length_cons, List.range_succ_eq_map, List.map_cons, List.map_map]
      congr 1
      · simp only [Nat.pow_zero, Nat.div_one, leN]
        rw [← UInt8.toNat_inj, UInt8.toNat_ofNat']
        have := u8lt x
        omega
      · have e : ((fun i => UInt8.ofNat (leN (x :: r) / 256 ^ i)) ∘ Nat.succ) = fun i => UInt8.ofNat (leN r / 256 ^ i) := by
          funext i
          show UInt8.ofNat (leN (x :: r) / 256 ^ (i + 1)) = _
          rw [Nat.pow_succ, Nat.mul_comm, ← Nat.div_div_eq_div_mul]
          congr 2
          simp only [leN]
          have := u8lt x
          omega
        rw [e, ih]
  have h1 := key l.reverse (by simpa using h8)
  rw [List.length_reverse, ← beN_eq] at h1
  unfold beB
  rw [h1, List.reverse_reverse]
end Go.Proofs.Ytdioijhmmmnbgaa
namespace Go.Proofs.Ytdioijhmmmnbgaa
/-- The bytes l stand at p. -/
def At (b : List UInt8) (p : Nat) (l : List UInt8) : Prop := (b.drop p).take l.length = l
theorem At.app {b x y : List UInt8} {p : Nat} (h : At b p (x ++ y)) : At b p x ∧ At b (p + x.length) y := by
  unfold At at h ⊢
  rw [List.length_append, List.take_add] at h
  have h1 : ((b.drop p).take x.length).length ≤ x.length := by rw [List.length_take]; omega
  have hl := congrArg List.length h
  simp only [List.length_append, List.length_take, List.length_drop] at hl
  rw [List.drop_drop] at h
  exact List.append_inj h (by simp only [List.length_take, List.length_drop]; omega)
theorem At.of (x l y : List UInt8) : At (x ++ (l ++ y)) x.length l := by
  unfold At
  rw [List.drop_left, List.take_left]
theorem At.get {b l : List UInt8} {p i : Nat} {x : UInt8} (h : At b p l) (hx : l[i]? = some x) : b[p + i]? = some x := by
  unfold At at h
  rw [← h, List.getElem?_take] at hx
  split at hx
  · rwa [List.getElem?_drop] at hx
  · cases hx
theorem At.len {b l : List UInt8} {p : Nat} (h : At b p l) (hl : l ≠ []) : p + l.length ≤ b.length := by
  unfold At at h
  have h1 := congrArg List.length h
  rw [List.length_take, List.length_drop] at h1
  have : 0 < l.length := List.length_pos_iff.2 hl
  omega
theorem At.join {b x y : List UInt8} {p : Nat} (h : At b p x) (k : At b (p + x.length) y) : At b p (x ++ y) := by
  unfold At at *
  rw [List.length_append, List.take_add, h, List.drop_drop, k]
theorem At.nil (b : List UInt8) (p : Nat) : At b p [] := rfl
end Go.Proofs.Ytdioijhmmmnbgaa
namespace Go.Proofs.Ytdioijhmmmnbgaa
open Go.RowKit
structure LawP {α : Type} (P : Py α) (W : α → List UInt8) (V : α → Prop) : Prop where
  fwd : ∀ b p a, V a → At b p (W a) → p + (W a).length ≤ b.length → P b p = .ok (a, p + (W a).length)
  bwd : ∀ b p a p', p ≤ b.length → P b p = .ok (a, p') → V a ∧ At b p (W a) ∧ p' = p + (W a).length ∧ p' ≤ b.length
  cut : ∀ b k p a p', p ≤ k → k ≤ b.length → P b p = .ok (a, p') → k < p' → P (b.take k) p = .err 2
theorem bindR_ok {α β : Type} {x : Rz α} {f : α → Rz β} {r : β} (h : x.bind f = .ok r) : ∃ a, x = .ok a ∧ f a = .ok r := by
  cases x with
  | ok a => exact ⟨a, rfl, h⟩
  | err e => cases h
theorem at_take {b l : List UInt8} {p k : Nat} (h : At b p l) (hk : p + l.length ≤ k) : At (b.take k) p l := by
  unfold At at *
  rw [List.drop_take, List.take_take, show min l.length (k - p) = l.length by omega]
  exact h
section
variable {α β : Type} {A : Py α} {WA : α → List UInt8} {VA : α → Prop}
theorem LawP.ret (c : α) : LawP (retP c) (fun _ => []) (fun a => a = c) :=
  ⟨fun b p a h _ _ => by subst h; rfl, fun b p a p' hp h => by injection h with h; injection h with h1 h2; exact ⟨h1.symm, rfl, by simpa using h2.symm, by omega⟩,
   fun b k p a p' hp _ h hk => by injection h with h; injection h with h1 h2; omega⟩
theorem LawP.fail (e : Int) (W : α → List UInt8) : LawP (failP e) W (fun _ => False) :=
  ⟨fun _ _ _ h => h.elim, fun _ _ _ _ _ h => (by cases h), fun _ _ _ _ _ _ _ h => (by cases h)⟩
theorem LawP.num {n : Nat} (h8 : n ≤ 8) : LawP (rdN n) (fun v => beB n (v : Int)) (fun v => v < 256 ^ n) := by
  have h64 : 256 ^ n ≤ 18446744073709551616 := by
    have := Nat.pow_le_pow_right (n := 256) (by omega) h8
    have h3 := pow8
    omega
  refine ⟨fun b p a ha h hb => ?_, fun b p a p' hp h => ?_, fun b k p a p' hp hk h hl => ?_⟩
  · unfold At at h
    rw [beB_len] at h hb ⊢
    unfold rdN
    rw [if_pos hb, h, beN_beB ha (by omega)]
  · unfold rdN at h
    split at h
    · injection h with h; injection h with h1 h2
      subst h1; subst h2
      have hl : ((b.drop p).take n).length = n := by rw [List.length_take, List.length_drop]; omega
      have h9 := beB_beN ((b.drop p).take n) (by omega)
      rw [hl] at h9
      refine ⟨?_, ?_, by rw [beB_len], by omega⟩
      · have := beN_lt ((b.drop p).take n)
        rwa [hl] at this
      · unfold At
        rw [beB_len, h9]
    · cases h
  · unfold rdN at h ⊢
    split at h
    · injection h with h; injection h with h1 h2
      rw [if_neg (by rw [List.length_take]; omega)]
    · cases h
theorem LawP.bytes (n : Nat) : LawP (rdB n) (fun s => s) (fun s => s.length = n) := by
  refine ⟨fun b p a ha h hb => ?_, fun b p a p' hp h => ?_, fun b k p a p' hp hk h hl => ?_⟩
  · unfold At at h
    subst ha
    unfold rdB
    rw [if_pos hb, h]
  · unfold rdB at h
    split at h
    · injection h with h; injection h with h1 h2
      subst h1; subst h2
      have hl : ((b.drop p).take n).length = n := by rw [List.length_take, List.length_drop]; omega
      exact ⟨hl, by unfold At; rw [hl], by rw [hl], by omega⟩
    · cases h
  · unfold rdB at h ⊢
    split at h
    · injection h with h; injection h with h1 h2
      rw [if_neg (by rw [List.length_take]; omega)]
    · cases h
theorem LawP.bind' {F : α → Py β} {WF : α → β → List UInt8} {VF : α → β → Prop} (g : β → α) (hA : LawP A WA VA) (hF : ∀ a, LawP (F a) (WF a) (VF a)) (hg : ∀ a c, VA a → VF a c → g c = a) :
    LawP (bindP A F) (fun c => WA (g c) ++ WF (g c) c) (fun c => VA (g c) ∧ VF (g c) c) := by
  refine ⟨fun b p c hc h hb => ?_, fun b p c p' hp h => ?_, fun b k p c p' hp hk h hl => ?_⟩
  · obtain ⟨h1, h2⟩ := h.app
    rw [List.length_append] at hb ⊢
    have e1 := hA.fwd b p (g c) hc.1 h1 (by omega)
    have e2 := (hF (g c)).fwd b _ c hc.2 h2 (by omega)
    unfold bindP
    rw [e1]
    show F (g c) b (p + (WA (g c)).length) = _
    rw [e2, Nat.add_assoc]
  · obtain ⟨⟨a, p1⟩, h1, h2⟩ := bindR_ok h
    obtain ⟨v1, a1, q1, l1⟩ := hA.bwd b p a p1 hp h1
    obtain ⟨v2, a2, q2, l2⟩ := (hF a).bwd b p1 c p' l1 h2
    have e := hg a c v1 v2
    rw [e]
    exact ⟨⟨v1, v2⟩, a1.join (q1 ▸ a2), by rw [List.length_append]; omega, l2⟩
  · obtain ⟨⟨a, p1⟩, h1, h2⟩ := bindR_ok h
    obtain ⟨v1, a1, q1, l1⟩ := hA.bwd b p a p1 (by omega) h1
    unfold bindP
    by_cases hk1 : p1 ≤ k
    · have e1 := hA.fwd (b.take k) p a v1 (at_take a1 (by omega)) (by rw [List.length_take]; omega)
      rw [e1, ← q1]
      exact (hF a).cut b k p1 c p' hk1 hk h2 hl
    · rw [hA.cut b k p a p1 hp hk h1 (by omega)]; rfl
theorem LawP.bind {F : α → Py β} {WF : α → β → List UInt8} {VF : α → β → Prop} (g : β → α) (hA : LawP A WA VA) (hF : ∀ a, LawP (F a) (WF a) (VF a)) (hg : ∀ a c, VF a c → g c = a) :
    LawP (bindP A F) (fun c => WA (g c) ++ WF (g c) c) (fun c => VA (g c) ∧ VF (g c) c) := LawP.bind' g hA hF fun a c _ h => hg a c h
theorem LawP.ite {c : Prop} [Decidable c] {B : Py α} {WB : α → List UInt8} {VB : α → Prop} (hA : LawP A WA VA) (hB : LawP B WB VB) :
    LawP (if c then A else B) (fun x => if c then WA x else WB x) (fun x => if c then VA x else VB x) := by
  by_cases h : c
  · simp only [if_pos h]; exact hA
  · simp only [if_neg h]; exact hB
theorem LawP.to {W : α → List UInt8} {V : α → Prop} (hA : LawP A WA VA) (hV : ∀ a, V a ↔ VA a) (hW : ∀ a, V a → W a = WA a) : LawP A W V := by
  refine ⟨fun b p a ha h hb => ?_, fun b p a p' hp h => ?_, hA.cut⟩
  · rw [hW a ha] at h hb ⊢
    exact hA.fwd b p a ((hV a).1 ha) h hb
  · obtain ⟨v, a1, q, l⟩ := hA.bwd b p a p' hp h
    have ha := (hV a).2 v
    rw [hW a ha]
    exact ⟨ha, a1, q, l⟩
theorem LawP.rep [Inhabited α] (hA : LawP A WA VA) : ∀ n, LawP (repP A n) (fun l => l.flatMap WA) (fun l => l.length = n ∧ ∀ x ∈ l, VA x) := by
  intro n
  induction n with
  | zero =>
    refine (LawP.ret ([] : List α)).to (fun l => ⟨fun h => List.eq_nil_of_length_eq_zero h.1, fun h => by subst h; exact ⟨rfl, fun x hx => by cases hx⟩⟩) (fun l h => ?_)
    rw [List.eq_nil_of_length_eq_zero h.1]; rfl
  | succ n ih =>
    refine (LawP.bind (fun l : List α => l.headD default) hA (fun x => LawP.bind (fun l : List α => l.tail) ih (fun r => LawP.ret (x :: r)) (fun r c hc => by subst hc; rfl)) (fun x c hc => by rw [hc.2]; rfl)).to (fun l => ?_) (fun l h => ?_)
    · constructor
      · rintro ⟨h1, h2⟩
        match l, h1 with
        | x :: r, h1 => exact ⟨h2 x List.mem_cons_self, ⟨by simpa using h1, fun y hy => h2 y (List.mem_cons_of_mem _ hy)⟩, rfl⟩
      · rintro ⟨h1, ⟨h2, h3⟩, h4⟩
        rw [h4]
        refine ⟨by rw [List.length_cons, h2], fun x hx => ?_⟩
        rcases List.mem_cons.1 hx with e | e
        · subst e; exact h1
        · exact h3 x e
    · match l, h.1 with
      | x :: r, _ => show (x :: r).flatMap WA = WA x ++ (r.flatMap WA ++ []); rw [List.append_nil]; rfl
end
instance : Inhabited Att := ⟨⟨0, []⟩⟩
instance : Inhabited Mem := ⟨⟨0, 0, 0, []⟩⟩
instance : Inhabited Cst := ⟨cst0⟩
theorem cnt_law : LawP cntI (fun n => beB 2 (n : Int)) (fun n => n ≤ 64) := by
  refine (LawP.bind (fun n : Nat => n) (LawP.num (n := 2) (by omega)) (fun n => LawP.ite (c := 64 < n) (LawP.fail 24 (fun _ => [])) (LawP.ret n)) (fun a c h => by split at h; exact h.elim; exact h)).to (fun n => ?_) (fun n h => ?_)
  · constructor
    · intro h; exact ⟨by omega, by rw [if_neg (by omega)]⟩
    · rintro ⟨_, h⟩
      split at h
      · exact h.elim
      · omega
  · show _ = beB 2 (n : Int) ++ if 64 < n then [] else []
    rw [if_neg (by omega), List.append_nil]
def attV (x : Att) : Prop := 0 ≤ x.name ∧ x.name ≤ 65535 ∧ x.data.length < 4294967296
theorem att_law : LawP attP attB attV := by
  refine (LawP.bind (fun x : Att => x.name.toNat) (LawP.num (n := 2) (by omega)) (fun nm => LawP.bind (fun x : Att => x.data.length) (LawP.num (n := 4) (by omega)) (fun sz => LawP.bind (fun x : Att => x.data) (LawP.bytes sz) (fun d => LawP.ret (⟨nm, d⟩ : Att)) (fun d c h => by subst h; rfl)) (fun sz c h => h.2 ▸ h.1)) (fun nm c h => by rw [h.2.2]; simp)).to (fun x => ?_) (fun x h => ?_)
  · constructor
    · rintro ⟨h1, h2, h3⟩
      refine ⟨by omega, by omega, rfl, ?_⟩
      show x = ⟨((x.name.toNat : Nat) : Int), x.data⟩
      rw [Int.toNat_of_nonneg h1]
    · rintro ⟨h1, h2, _, h4⟩
      have h4 : x = ⟨((x.name.toNat : Nat) : Int), x.data⟩ := h4
      have h5 : x.name = ((x.name.toNat : Nat) : Int) := congrArg Att.name h4
      exact ⟨by omega, by omega, by omega⟩
  · show attB x = beB 2 ((x.name.toNat : Nat) : Int) ++ (beB 4 (x.data.length : Int) ++ (x.data ++ []))
    rw [Int.toNat_of_nonneg h.1, List.append_nil]; rfl
theorem atts_law : LawP attsP attsB (fun l => l.length ≤ 64 ∧ ∀ x ∈ l, attV x) := by
  refine (LawP.bind (fun l : List Att => l.length) cnt_law (fun n => LawP.rep att_law n) (fun n c h => h.1)).to (fun l => ?_) (fun l _ => rfl)
  exact ⟨fun h => ⟨h.1, rfl, h.2⟩, fun h => ⟨h.1, h.2.2⟩⟩
def memV (x : Mem) : Prop := (0 ≤ x.access ∧ x.access ≤ 65535) ∧ (0 ≤ x.name ∧ x.name ≤ 65535) ∧ (0 ≤ x.desc ∧ x.desc ≤ 65535) ∧ x.attrs.length ≤ 64 ∧ ∀ y ∈ x.attrs, attV y
theorem mem_law : LawP memP memB memV := by
  refine (LawP.bind (fun x : Mem => x.access.toNat) (LawP.num (n := 2) (by omega)) (fun ac => LawP.bind (fun x : Mem => x.name.toNat) (LawP.num (n := 2) (by omega)) (fun nm => LawP.bind (fun x : Mem => x.desc.toNat) (LawP.num (n := 2) (by omega)) (fun ds => LawP.bind (fun x : Mem => x.attrs) atts_law (fun l => LawP.ret (⟨ac, nm, ds, l⟩ : Mem)) (fun l c h => by subst h; rfl)) (fun ds c h => by rw [h.2]; simp)) (fun nm c h => by rw [h.2.2]; simp)) (fun ac c h => by rw [h.2.2.2]; simp)).to (fun x => ?_) (fun x h => ?_)
  · constructor
    · rintro ⟨h1, h2, h3, h4⟩
      refine ⟨by omega, by omega, by omega, h4, ?_⟩
      show x = ⟨((x.access.toNat : Nat) : Int), ((x.name.toNat : Nat) : Int), ((x.desc.toNat : Nat) : Int), x.attrs⟩
      rw [Int.toNat_of_nonneg h1.1, Int.toNat_of_nonneg h2.1, Int.toNat_of_nonneg h3.1]
    · rintro ⟨h1, h2, h3, h4, h5⟩
      have h5 : x = ⟨((x.access.toNat : Nat) : Int), ((x.name.toNat : Nat) : Int), ((x.desc.toNat : Nat) : Int), x.attrs⟩ := h5
      have e1 := congrArg Mem.access h5
      have e2 := congrArg Mem.name h5
      have e3 := congrArg Mem.desc h5
      simp only at e1 e2 e3
      exact ⟨by omega, by omega, by omega, h4⟩
  · show memB x = beB 2 ((x.access.toNat : Nat) : Int) ++ (beB 2 ((x.name.toNat : Nat) : Int) ++ (beB 2 ((x.desc.toNat : Nat) : Int) ++ (attsB x.attrs ++ [])))
    rw [Int.toNat_of_nonneg h.1.1, Int.toNat_of_nonneg h.2.1.1, Int.toNat_of_nonneg h.2.2.1.1, List.append_nil]; rfl
theorem mems_law : LawP memsP memsB (fun l => l.length ≤ 64 ∧ ∀ x ∈ l, memV x) := by
  refine (LawP.bind (fun l : List Mem => l.length) cnt_law (fun n => LawP.rep mem_law n) (fun n c h => h.1)).to (fun l => ?_) (fun l _ => rfl)
  exact ⟨fun h => ⟨h.1, rfl, h.2⟩, fun h => ⟨h.1, h.2.2⟩⟩
theorem if_law : LawP ifP ifB (fun l => l.length ≤ 64 ∧ ∀ x ∈ l, 0 ≤ x ∧ x ≤ 65535) := by
  refine (LawP.bind (fun l : List Int => l.length) cnt_law (fun k => LawP.bind (fun l : List Int => l.map Int.toNat) (LawP.rep (LawP.num (n := 2) (by omega)) k) (fun l => LawP.ret (l.map fun (x : Nat) => (x : Int))) (fun l c h => by rw [h, List.map_map]; exact (List.map_congr_left (g := id) fun x _ => Int.toNat_natCast x).trans (List.map_id l))) (fun k c h => by rw [h.2, List.length_map]; exact h.1.1)).to (fun l => ?_) (fun l h => ?_)
  · constructor
    · rintro ⟨h1, h2⟩
      refine ⟨h1, ⟨by simp, fun x hx => ?_⟩, ?_⟩
      · obtain ⟨y, hy, rfl⟩ := List.mem_map.1 hx
        have := h2 y hy
        omega
      · show l = (l.map Int.toNat).map fun (x : Nat) => (x : Int)
        rw [List.map_map]
        refine (List.map_id l).symm.trans (List.map_congr_left fun x hx => ?_)
        have := h2 x hx
        exact (Int.toNat_of_nonneg this.1).symm
    · rintro ⟨h1, ⟨h2, h3⟩, h4⟩
      refine ⟨h1, fun x hx => ?_⟩
      have h4 : l = (l.map Int.toNat).map fun (x : Nat) => (x : Int) := h4
      rw [h4] at hx
      obtain ⟨y, hy, rfl⟩ := List.mem_map.1 hx
      have := h3 y hy
      omega
  · show ifB l = beB 2 (l.length : Int) ++ ((l.map Int.toNat).flatMap (fun (v : Nat) => beB 2 (v : Int)) ++ [])
    rw [List.append_nil]
    unfold ifB
    congr 1
    rw [List.flatMap_map]
    have : ∀ l : List Int, (∀ x ∈ l, 0 ≤ x ∧ x ≤ 65535) → l.flatMap (beB 2) = l.flatMap fun x => beB 2 ((x.toNat : Nat) : Int) := by
      intro l
      induction l with
      | nil => intro _; rfl
      | cons x r ih =>
        intro h
        rw [List.flatMap_cons, List.flatMap_cons, ih (fun y hy => h y (List.mem_cons_of_mem _ hy)), Int.toNat_of_nonneg (h x List.mem_cons_self).1]
    exact this l h.2
end Go.Proofs.Ytdioijhmmmnbgaa
namespace Go.Proofs.Ytdioijhmmmnbgaa
open Go.RowKit
theorem leB_low4 (v : Int) : leB 4 v = leB 4 (((v % 4294967296).toNat : Nat) : Int) := by
  unfold leB
  refine List.map_congr_left fun i hi => ?_
  have hi := List.mem_range.1 hi
  rw [← UInt8.toNat_inj, UInt8.toNat_ofNat', UInt8.toNat_ofNat']
  match i, hi with
  | 0, _ => simp only [Nat.pow_zero, Nat.div_one]; omega
  | 1, _ => simp only [Nat.pow_one]; omega
  | 2, _ => rw [show (256 : Nat) ^ 2 = 65536 from rfl]; omega
  | 3, _ => rw [show (256 : Nat) ^ 3 = 16777216 from rfl]; omega
theorem leB_low8 (n : Nat) (v : Int) : leB n v = leB n (((v % 18446744073709551616).toNat : Nat) : Int) := by
  unfold leB
  refine List.map_congr_left fun i _ => ?_
  rw [show ((((v % 18446744073709551616).toNat : Nat) : Int) % 18446744073709551616).toNat = (v % 18446744073709551616).toNat by omega]
def cstV (c : Cst) : Prop :=
  if c.tag = 1 then uOk c.text = true ∧ c.text.length ≤ 65535 ∧ c = ⟨1, 0, 0, 0, c.text⟩
  else if c.tag = 3 then -2147483648 ≤ c.num ∧ c.num ≤ 2147483647 ∧ c = ⟨3, 0, 0, c.num, []⟩
  else if c.tag = 5 then -9223372036854775808 ≤ c.num ∧ c.num ≤ 9223372036854775807 ∧ c = ⟨5, 0, 0, c.num, []⟩
  else if c.tag = 7 ∨ c.tag = 8 then (0 ≤ c.a ∧ c.a ≤ 65535) ∧ c = ⟨c.tag, c.a, 0, 0, []⟩
  else (c.tag = 9 ∨ c.tag = 10 ∨ c.tag = 11 ∨ c.tag = 12) ∧ (0 ≤ c.a ∧ c.a ≤ 65535) ∧ (0 ≤ c.b ∧ c.b ≤ 65535) ∧ c = ⟨c.tag, c.a, c.b, 0, []⟩
theorem one_law : LawP (bindP (rdN 2) fun n => bindP (rdB n) fun s => if uOk s = true then retP (⟨1, 0, 0, 0, s⟩ : Cst) else failP 23) (fun c => beB 2 (c.text.length : Int) ++ c.text) (fun c => uOk c.text = true ∧ c.text.length ≤ 65535 ∧ c = ⟨1, 0, 0, 0, c.text⟩) := by
  refine (LawP.bind (fun c : Cst => c.text.length) (LawP.num (n := 2) (by omega)) (fun n => LawP.bind (fun c : Cst => c.text) (LawP.bytes n) (fun s => LawP.ite (c := uOk s = true) (LawP.ret (⟨1, 0, 0, 0, s⟩ : Cst)) (LawP.fail 23 (fun _ => []))) (fun s c h => by split at h; (subst h; rfl); exact h.elim)) (fun n c h => h.1)).to (fun c => ?_) (fun c h => ?_)
  · constructor
    · rintro ⟨h1, h2, h3⟩; exact ⟨by omega, rfl, by rw [if_pos h1]; exact h3⟩
    · rintro ⟨h1, _, h2⟩
      split at h2
      · rename_i h; exact ⟨h, by omega, h2⟩
      · exact h2.elim
  · show _ = beB 2 (c.text.length : Int) ++ (c.text ++ if uOk c.text = true then [] else [])
    rw [if_pos h.1, List.append_nil]
theorem int_law : LawP (bindP (rdN 4) fun v => retP (⟨3, 0, 0, sgn32 v, []⟩ : Cst)) (fun c => beB 4 c.num) (fun c => -2147483648 ≤ c.num ∧ c.num ≤ 2147483647 ∧ c = ⟨3, 0, 0, c.num, []⟩) := by
  refine (LawP.bind' (fun c : Cst => (c.num % 4294967296).toNat) (LawP.num (n := 4) (by omega)) (fun v => LawP.ret (⟨3, 0, 0, sgn32 v, []⟩ : Cst)) (fun v c hv h => by subst h; show (sgn32 v % 4294967296).toNat = v; unfold sgn32; split <;> omega)).to (fun c => ?_) (fun c h => ?_)
  · constructor
    · rintro ⟨h1, h2, h3⟩
      refine ⟨by omega, ?_⟩
      show c = ⟨3, 0, 0, sgn32 (c.num % 4294967296).toNat, []⟩
      have : sgn32 (c.num % 4294967296).toNat = c.num := by unfold sgn32; split <;> omega
      rw [this]; exact h3
    · rintro ⟨h1, h2⟩
      have h2 : c = ⟨3, 0, 0, sgn32 (c.num % 4294967296).toNat, []⟩ := h2
      have e := congrArg Cst.num h2
      have h1 : (c.num % 4294967296).toNat < 256 ^ 4 := h1
      have e : c.num = sgn32 (c.num % 4294967296).toNat := e
      have hb : -2147483648 ≤ sgn32 (c.num % 4294967296).toNat ∧ sgn32 (c.num % 4294967296).toNat ≤ 2147483647 := by unfold sgn32; split <;> omega
      exact ⟨by omega, by omega, by rw [← e] at h2; exact h2⟩
  · show beB 4 c.num = beB 4 (((c.num % 4294967296).toNat : Nat) : Int) ++ []
    rw [List.append_nil]
    unfold beB
    rw [leB_low4]
theorem long_law : LawP (bindP (rdN 8) fun v => retP (⟨5, 0, 0, wrap64 (v : Int), []⟩ : Cst)) (fun c => beB 8 c.num) (fun c => -9223372036854775808 ≤ c.num ∧ c.num ≤ 9223372036854775807 ∧ c = ⟨5, 0, 0, c.num, []⟩) := by
  have p8 := pow8
  refine (LawP.bind' (fun c : Cst => (c.num % 18446744073709551616).toNat) (LawP.num (n := 8) (by omega)) (fun v => LawP.ret (⟨5, 0, 0, wrap64 (v : Int), []⟩ : Cst)) (fun v c hv h => by subst h; show (wrap64 (v : Int) % 18446744073709551616).toNat = v; unfold wrap64; omega)).to (fun c => ?_) (fun c h => ?_)
  · constructor
    · rintro ⟨h1, h2, h3⟩
      refine ⟨by omega, ?_⟩
      show c = ⟨5, 0, 0, wrap64 (((c.num % 18446744073709551616).toNat : Nat) : Int), []⟩
      have : wrap64 (((c.num % 18446744073709551616).toNat : Nat) : Int) = c.num := by unfold wrap64; omega
      rw [this]; exact h3
    · rintro ⟨h1, h2⟩
      have h2 : c = ⟨5, 0, 0, wrap64 (((c.num % 18446744073709551616).toNat : Nat) : Int), []⟩ := h2
      have e := congrArg Cst.num h2
      have e : c.num = wrap64 (((c.num % 18446744073709551616).toNat : Nat) : Int) := e
      have hb : -9223372036854775808 ≤ wrap64 (((c.num % 18446744073709551616).toNat : Nat) : Int) ∧ wrap64 (((c.num % 18446744073709551616).toNat : Nat) : Int) ≤ 9223372036854775807 := by unfold wrap64; omega
      exact ⟨by omega, by omega, by rw [← e] at h2; exact h2⟩
  · show beB 8 c.num = beB 8 (((c.num % 18446744073709551616).toNat : Nat) : Int) ++ []
    rw [List.append_nil]
    unfold beB
    rw [← leB_low8]
theorem ref1_law (t : Int) : LawP (bindP (rdN 2) fun a => retP (⟨t, a, 0, 0, []⟩ : Cst)) (fun c => beB 2 c.a) (fun c => (0 ≤ c.a ∧ c.a ≤ 65535) ∧ c = ⟨t, c.a, 0, 0, []⟩) := by
  refine (LawP.bind (fun c : Cst => c.a.toNat) (LawP.num (n := 2) (by omega)) (fun a => LawP.ret (⟨t, a, 0, 0, []⟩ : Cst)) (fun a c h => by subst h; simp)).to (fun c => ?_) (fun c h => ?_)
  · constructor
    · rintro ⟨h1, h2⟩
      refine ⟨by omega, ?_⟩
      show c = ⟨t, ((c.a.toNat : Nat) : Int), 0, 0, []⟩
      rw [Int.toNat_of_nonneg h1.1]; exact h2
    · rintro ⟨h1, h2⟩
      have h2 : c = ⟨t, ((c.a.toNat : Nat) : Int), 0, 0, []⟩ := h2
      have e : c.a = ((c.a.toNat : Nat) : Int) := congrArg Cst.a h2
      exact ⟨by omega, by rw [← e] at h2; exact h2⟩
  · show beB 2 c.a = beB 2 ((c.a.toNat : Nat) : Int) ++ []
    rw [Int.toNat_of_nonneg h.1.1, List.append_nil]
theorem ref2_law (t : Int) : LawP (bindP (rdN 2) fun a => bindP (rdN 2) fun b => retP (⟨t, a, b, 0, []⟩ : Cst)) (fun c => beB 2 c.a ++ beB 2 c.b) (fun c => (0 ≤ c.a ∧ c.a ≤ 65535) ∧ (0 ≤ c.b ∧ c.b ≤ 65535) ∧ c = ⟨t, c.a, c.b, 0, []⟩) := by
  refine (LawP.bind (fun c : Cst => c.a.toNat) (LawP.num (n := 2) (by omega)) (fun a => LawP.bind (fun c : Cst => c.b.toNat) (LawP.num (n := 2) (by omega)) (fun b => LawP.ret (⟨t, a, b, 0, []⟩ : Cst)) (fun b c h => by subst h; simp)) (fun a c h => by rw [h.2]; simp)).to (fun c => ?_) (fun c h => ?_)
  · constructor
    · rintro ⟨h1, h2, h3⟩
      refine ⟨by omega, by omega, ?_⟩
      show c = ⟨t, ((c.a.toNat : Nat) : Int), ((c.b.toNat : Nat) : Int), 0, []⟩
      rw [Int.toNat_of_nonneg h1.1, Int.toNat_of_nonneg h2.1]; exact h3
    · rintro ⟨h1, h2, h3⟩
      have h3 : c = ⟨t, ((c.a.toNat : Nat) : Int), ((c.b.toNat : Nat) : Int), 0, []⟩ := h3
      have e : c.a = ((c.a.toNat : Nat) : Int) := congrArg Cst.a h3
      have e2 : c.b = ((c.b.toNat : Nat) : Int) := congrArg Cst.b h3
      exact ⟨by omega, by omega, by rw [← e, ← e2] at h3; exact h3⟩
  · show beB 2 c.a ++ beB 2 c.b = beB 2 ((c.a.toNat : Nat) : Int) ++ (beB 2 ((c.b.toNat : Nat) : Int) ++ [])
    rw [Int.toNat_of_nonneg h.1.1, Int.toNat_of_nonneg h.2.1.1, List.append_nil]
theorem cst_law : LawP cstP cstB cstV := by
  refine (LawP.bind (fun c : Cst => c.tag.toNat) (LawP.num (n := 1) (by omega)) (fun t => LawP.ite (c := t = 1) one_law (LawP.ite (c := t = 3) int_law (LawP.ite (c := t = 5) long_law (LawP.ite (c := t = 7 ∨ t = 8) (ref1_law t) (LawP.ite (c := t = 9 ∨ t = 10 ∨ t = 11 ∨ t = 12) (ref2_law t) (LawP.fail 24 (fun _ => []))))))) (fun t c h => ?_)).to (fun c => ?_) (fun c h => ?_)
  · split at h
    · rename_i e; rw [h.2.2, e]; rfl
    split at h
    · rename_i e; rw [h.2.2, e]; rfl
    split at h
    · rename_i e; rw [h.2.2, e]; rfl
    split at h
    · rw [h.2]; simp
    split at h
    · rw [h.2.2]; simp
    · exact h.elim
  · unfold cstV
    by_cases h1 : c.tag = 1
    · have e : c.tag.toNat = 1 := by omega
      rw [if_pos h1, e]
      exact ⟨fun h => ⟨by decide, h⟩, fun h => h.2⟩
    by_cases h3 : c.tag = 3
    · have e : c.tag.toNat = 3 := by omega
      rw [if_neg h1, if_pos h3, e]
      exact ⟨fun h => ⟨by decide, h⟩, fun h => h.2⟩
    by_cases h5 : c.tag = 5
    · have e : c.tag.toNat = 5 := by omega
      rw [if_neg h1, if_neg h3, if_pos h5, e]
      exact ⟨fun h => ⟨by decide, h⟩, fun h => h.2⟩
    rw [if_neg h1, if_neg h3, if_neg h5]
    by_cases h7 : c.tag = 7 ∨ c.tag = 8
    · have e7 : c.tag.toNat = 7 ∨ c.tag.toNat = 8 := by omega
      have ec : ((c.tag.toNat : Nat) : Int) = c.tag := by omega
      rw [if_pos h7, if_neg (by omega), if_neg (by omega), if_neg (by omega), if_pos e7, ec]
      exact ⟨fun h => ⟨by omega, h⟩, fun h => h.2⟩
    rw [if_neg h7]
    by_cases h9 : c.tag = 9 ∨ c.tag = 10 ∨ c.tag = 11 ∨ c.tag = 12
    · have e9 : c.tag.toNat = 9 ∨ c.tag.toNat = 10 ∨ c.tag.toNat = 11 ∨ c.tag.toNat = 12 := by omega
      have ec : ((c.tag.toNat : Nat) : Int) = c.tag := by omega
      rw [if_neg (by omega), if_neg (by omega), if_neg (by omega), if_neg (by omega), if_pos e9, ec]
      exact ⟨fun h => ⟨by omega, h.2⟩, fun h => ⟨h9, h.2⟩⟩
    · refine ⟨fun h => absurd h.1 h9, fun h => ?_⟩
      exfalso
      have h := h.2
      by_cases g1 : c.tag.toNat = 1
      · omega
      by_cases g3 : c.tag.toNat = 3
      · omega
      by_cases g5 : c.tag.toNat = 5
      · omega
      rw [if_neg g1, if_neg g3, if_neg g5, if_neg (by omega), if_neg (by omega)] at h
      exact h
  · unfold cstV at h
    unfold cstB
    show (if c.tag = 0 then [] else _) = beB 1 ((c.tag.toNat : Nat) : Int) ++ (if c.tag.toNat = 1 then _ else if c.tag.toNat = 3 then _ else if c.tag.toNat = 5 then _ else if c.tag.toNat = 7 ∨ c.tag.toNat = 8 then _ else if c.tag.toNat = 9 ∨ c.tag.toNat = 10 ∨ c.tag.toNat = 11 ∨ c.tag.toNat = 12 then _ else [])
    have hpos : 1 ≤ c.tag := by
      split at h
      · omega
      split at h
      · omega
      split at h
      · omega
      split at h
      · omega
      omega
    rw [if_neg (by omega), Int.toNat_of_nonneg (by omega)]
    congr 1
    by_cases h1 : c.tag = 1
    · rw [if_pos h1, if_pos (by omega)]
    rw [if_neg h1, if_neg (show ¬ c.tag.toNat = 1 by omega)]
    by_cases h3 : c.tag = 3
    · rw [if_pos h3, if_pos (by omega)]
    rw [if_neg h3, if_neg (show ¬ c.tag.toNat = 3 by omega)]
    by_cases h5 : c.tag = 5
    · rw [if_pos h5, if_pos (by omega)]
    rw [if_neg h5, if_neg (show ¬ c.tag.toNat = 5 by omega)]
    by_cases h7 : c.tag = 7 ∨ c.tag = 8
    · rw [if_pos h7, if_pos (by omega)]
    rw [if_neg h1, if_neg h3, if_neg h5, if_neg h7] at h
    rw [if_neg h7, if_neg (show ¬ (c.tag.toNat = 7 ∨ c.tag.toNat = 8) by omega), if_pos (by omega)]
/-- The places behind the first one: constants, each long one with an unused place behind it. -/
inductive PoolV : List Cst → Prop
  | nil : PoolV []
  | one (c : Cst) (r : List Cst) : cstV c → c.tag ≠ 5 → PoolV r → PoolV (c :: r)
  | long (c : Cst) (r : List Cst) : cstV c → c.tag = 5 → PoolV r → PoolV (c :: cst0 :: r)
theorem pool_law : ∀ f k, k ≤ f → LawP (poolP f k) (fun l => l.flatMap cstB) (fun l => l.length = k ∧ PoolV l) := by
  intro f
  induction f with
  | zero =>
    intro k hk
    obtain rfl : k = 0 := by omega
    refine (LawP.ret ([] : List Cst)).to (fun l => ⟨fun h => List.eq_nil_of_length_eq_zero h.1, fun h => by subst h; exact ⟨rfl, .nil⟩⟩) (fun l h => ?_)
    rw [List.eq_nil_of_length_eq_zero h.1]; rfl
  | succ f ih =>
    intro k hk
    by_cases h0 : k = 0
    · subst h0
      refine (show LawP (poolP (f + 1) 0) (fun _ => []) (fun a => a = []) from LawP.ret []).to (fun l => ⟨fun h => List.eq_nil_of_length_eq_zero h.1, fun h => by subst h; exact ⟨rfl, .nil⟩⟩) (fun l h => ?_)
      rw [List.eq_nil_of_length_eq_zero h.1]; rfl
    · have hu : poolP (f + 1) k = bindP cstP fun c => if c.tag = 5 then (if k = 1 then failP 24 else bindP (poolP f (k - 2)) fun r => retP (c :: cst0 :: r)) else bindP (poolP f (k - 1)) fun r => retP (c :: r) := by
        rw [poolP, if_neg h0]
      rw [hu]
      have L5 := fun c : Cst => LawP.bind (fun l : List Cst => l.tail.tail) (ih (k - 2) (by omega)) (fun r => LawP.ret (c :: cst0 :: r)) (fun r l h => by subst h; rfl)
      have L1 := fun c : Cst => LawP.bind (fun l : List Cst => l.tail) (ih (k - 1) (by omega)) (fun r => LawP.ret (c :: r)) (fun r l h => by subst h; rfl)
      refine (LawP.bind (fun l : List Cst => l.headD default) cst_law (fun c => LawP.ite (c := c.tag = 5) (LawP.ite (c := k = 1) (LawP.fail 24 (fun _ => [])) (L5 c)) (L1 c)) (fun c l h => ?_)).to (fun l => ?_) (fun l h => ?_)
      · split at h
        · split at h
          · exact h.elim
          · rw [h.2]; rfl
        · rw [h.2]; rfl
      · constructor
        · rintro ⟨h1, h2⟩
          cases h2 with
          | nil => exact absurd h1.symm h0
          | one c r hc h5 hr =>
            refine ⟨hc, ?_⟩
            rw [if_neg (show ¬ ((c :: r).headD default).tag = 5 from h5)]
            exact ⟨⟨by simp at h1 ⊢; omega, hr⟩, rfl⟩
          | long c r hc h5 hr =>
            refine ⟨hc, ?_⟩
            rw [if_pos (show ((c :: cst0 :: r).headD default).tag = 5 from h5), if_neg (by simp at h1; omega)]
            exact ⟨⟨by simp at h1 ⊢; omega, hr⟩, rfl⟩
        · rintro ⟨h1, h2⟩
          by_cases h5 : (l.headD default).tag = 5
          · rw [if_pos h5] at h2
            by_cases hk1 : k = 1
            · rw [if_pos hk1] at h2; exact h2.elim
            · rw [if_neg hk1] at h2
              obtain ⟨⟨e1, e2⟩, e3⟩ := h2
              have e3 : l = l.headD default :: cst0 :: l.tail.tail := e3
              have e1 : l.tail.tail.length = k - 2 := e1
              rw [e3]
              exact ⟨by simp only [List.length_cons]; omega, .long _ _ h1 h5 e2⟩
          · rw [if_neg h5] at h2
            obtain ⟨⟨e1, e2⟩, e3⟩ := h2
            have e3 : l = l.headD default :: l.tail := e3
            have e1 : l.tail.length = k - 1 := e1
            rw [e3]
            exact ⟨by simp only [List.length_cons]; omega, .one _ _ h1 h5 e2⟩
      · cases h.2 with
        | nil => exact absurd h.1.symm h0
        | one c r hc h5 hr =>
          show (c :: r).flatMap cstB = cstB c ++ (if c.tag = 5 then _ else r.flatMap cstB ++ [])
          rw [if_neg h5, List.append_nil]; rfl
        | long c r hc h5 hr =>
          show (c :: cst0 :: r).flatMap cstB = cstB c ++ (if c.tag = 5 then (if k = 1 then [] else r.flatMap cstB ++ []) else _)
          have := h.1
          simp at this
          rw [if_pos h5, if_neg (by omega), List.append_nil]; rfl
end Go.Proofs.Ytdioijhmmmnbgaa
namespace Go.Proofs.Ytdioijhmmmnbgaa
open Go.RowKit
def imgV (m : Img) : Prop := (0 ≤ m.minor ∧ m.minor ≤ 65535) ∧ (45 ≤ m.major ∧ m.major ≤ 52) ∧ (∃ pl, m.pool = cst0 :: pl ∧ pl.length < 1024 ∧ PoolV pl) ∧ (0 ≤ m.access ∧ m.access ≤ 65535) ∧ (0 ≤ m.this ∧ m.this ≤ 65535) ∧ (0 ≤ m.super ∧ m.super ≤ 65535) ∧
  (m.ifaces.length ≤ 64 ∧ ∀ x ∈ m.ifaces, 0 ≤ x ∧ x ≤ 65535) ∧ (m.fields.length ≤ 64 ∧ ∀ x ∈ m.fields, memV x) ∧ (m.methods.length ≤ 64 ∧ ∀ x ∈ m.methods, memV x) ∧ (m.attrs.length ≤ 64 ∧ ∀ x ∈ m.attrs, attV x)
/-- What stands behind the pool. -/
structure Tl where
  access : Nat
  this : Nat
  super : Nat
  ifaces : List Int
  fields : List Mem
  methods : List Mem
  attrs : List Att
def tlP : Py Tl := bindP (rdN 2) fun ac => bindP (rdN 2) fun th => bindP (rdN 2) fun su => bindP ifP fun ifs => bindP memsP fun fs => bindP memsP fun ms => bindP attsP fun at_ => retP ⟨ac, th, su, ifs, fs, ms, at_⟩
def tlV (t : Tl) : Prop := t.access < 65536 ∧ t.this < 65536 ∧ t.super < 65536 ∧ (t.ifaces.length ≤ 64 ∧ ∀ x ∈ t.ifaces, 0 ≤ x ∧ x ≤ 65535) ∧ (t.fields.length ≤ 64 ∧ ∀ x ∈ t.fields, memV x) ∧ (t.methods.length ≤ 64 ∧ ∀ x ∈ t.methods, memV x) ∧ (t.attrs.length ≤ 64 ∧ ∀ x ∈ t.attrs, attV x)
def tlB (t : Tl) : List UInt8 := beB 2 t.access ++ (beB 2 t.this ++ (beB 2 t.super ++ (ifB t.ifaces ++ (memsB t.fields ++ (memsB t.methods ++ attsB t.attrs)))))
theorem tl_law : LawP tlP tlB tlV := by
  refine (LawP.bind (fun t : Tl => t.access) (LawP.num (n := 2) (by omega)) (fun ac => LawP.bind (fun t : Tl => t.this) (LawP.num (n := 2) (by omega)) (fun th => LawP.bind (fun t : Tl => t.super) (LawP.num (n := 2) (by omega)) (fun su => LawP.bind (fun t : Tl => t.ifaces) if_law (fun ifs => LawP.bind (fun t : Tl => t.fields) mems_law (fun fs => LawP.bind (fun t : Tl => t.methods) mems_law (fun ms => LawP.bind (fun t : Tl => t.attrs) atts_law (fun at_ => LawP.ret (⟨ac, th, su, ifs, fs, ms, at_⟩ : Tl)) (fun a c h => by subst h; rfl)) (fun a c h => by rw [h.2])) (fun a c h => by rw [h.2.2])) (fun a c h => by rw [h.2.2.2])) (fun a c h => by rw [h.2.2.2.2])) (fun a c h => by rw [h.2.2.2.2.2])) (fun a c h => by rw [h.2.2.2.2.2.2])).to (fun t => ?_) (fun t h => ?_)
  · constructor
    · rintro ⟨h1, h2, h3, h4, h5, h6, h7⟩; exact ⟨h1, h2, h3, h4, h5, h6, h7, rfl⟩
    · rintro ⟨h1, h2, h3, h4, h5, h6, h7, _⟩; exact ⟨h1, h2, h3, h4, h5, h6, h7⟩
  · show tlB t = beB 2 (t.access : Int) ++ (beB 2 (t.this : Int) ++ (beB 2 (t.super : Int) ++ (ifB t.ifaces ++ (memsB t.fields ++ (memsB t.methods ++ (attsB t.attrs ++ []))))))
    rw [List.append_nil]; rfl
def mkI (mi ma : Nat) (pl : List Cst) (t : Tl) : Img := ⟨mi, ma, cst0 :: pl, t.access, t.this, t.super, t.ifaces, t.fields, t.methods, t.attrs⟩
theorem bind_assocP {α β γ : Type} (A : Py α) (F : α → Py β) (G : β → Py γ) : bindP (bindP A F) G = bindP A fun a => bindP (F a) G := by
  funext b p
  unfold bindP
  cases A b p <;> rfl
theorem ret_bindP {α β : Type} (a : α) (F : α → Py β) : bindP (retP a) F = F a := rfl
theorem imgP_eq : imgP = bindP (rdN 4) fun g => if g ≠ 3405691582 then failP 24 else bindP (rdN 2) fun mi => bindP (rdN 2) fun ma => if ma < 45 ∨ 52 < ma then failP 24 else
  bindP (rdN 2) fun n => if n < 1 ∨ 1024 < n then failP 24 else bindP (poolP n (n - 1)) fun pl => bindP tlP fun t => retP (mkI mi ma pl t) := by
  unfold imgP tlP
  simp only [bind_assocP, ret_bindP]
  rfl
def tlOf (m : Img) : Tl := ⟨m.access.toNat, m.this.toNat, m.super.toNat, m.ifaces, m.fields, m.methods, m.attrs⟩
theorem tlOf_mk (mi ma : Nat) (pl : List Cst) (t : Tl) : tlOf (mkI mi ma pl t) = t := by unfold tlOf mkI; simp
theorem img_law : LawP imgP imgB imgV := by
  rw [imgP_eq]
  have LP : ∀ n, LawP (poolP n (n - 1)) (fun l => l.flatMap cstB) (fun l => l.length = n - 1 ∧ PoolV l) := fun n => pool_law n (n - 1) (by omega)
  refine (LawP.bind (fun _ : Img => (3405691582 : Nat)) (LawP.num (n := 4) (by omega)) (fun g => LawP.ite (c := g ≠ 3405691582) (LawP.fail 24 (fun _ => [])) (LawP.bind (fun m : Img => m.minor.toNat) (LawP.num (n := 2) (by omega)) (fun mi => LawP.bind (fun m : Img => m.major.toNat) (LawP.num (n := 2) (by omega)) (fun ma => LawP.ite (c := ma < 45 ∨ 52 < ma) (LawP.fail 24 (fun _ => []))
    (LawP.bind (fun m : Img => m.pool.length) (LawP.num (n := 2) (by omega)) (fun n => LawP.ite (c := n < 1 ∨ 1024 < n) (LawP.fail 24 (fun _ => [])) (LawP.bind (fun m : Img => m.pool.tail) (LP n) (fun pl => LawP.bind tlOf tl_law (fun t => LawP.ret (mkI mi ma pl t)) (fun t c h => by subst h; exact tlOf_mk _ _ _ _)) (fun pl c h => by rw [h.2]; rfl))) (fun n c h => ?_))) (fun ma c h => ?_)) (fun mi c h => ?_))) (fun g c h => ?_)).to (fun m => ?_) (fun m h => ?_)
  · split at h
    · exact h.elim
    · rename_i hn
      obtain ⟨⟨h1, _⟩, _, h3⟩ := h
      rw [h3]
      show (c.pool.tail).length + 1 = n
      omega
  · split at h
    · exact h.elim
    · obtain ⟨_, h⟩ := h
      split at h
      · exact h.elim
      · rw [h.2.2]; simp [mkI]
  · obtain ⟨_, h⟩ := h
    split at h
    · exact h.elim
    · obtain ⟨_, h⟩ := h
      split at h
      · exact h.elim
      · rw [h.2.2]; simp [mkI]
  · split at h
    · exact h.elim
    · rename_i hg; omega
  · constructor
    · rintro ⟨h1, h2, ⟨pl, hp, hpl, hpv⟩, h3, h4, h5, h6, h7, h8, h9⟩
      refine ⟨by decide, ?_⟩
      rw [if_neg (by decide)]
      refine ⟨by omega, by omega, ?_⟩
      rw [if_neg (by omega)]
      have hpl2 : m.pool.length = pl.length + 1 := by rw [hp]; rfl
      refine ⟨by omega, ?_⟩
      rw [if_neg (by omega)]
      have ht : m.pool.tail = pl := by rw [hp]; rfl
      refine ⟨⟨by rw [ht]; omega, by rw [ht]; exact hpv⟩, ⟨?_, ?_⟩⟩
      · exact ⟨by show m.access.toNat < 65536; omega, by show m.this.toNat < 65536; omega, by show m.super.toNat < 65536; omega, h6, h7, h8, h9⟩
      · show m = mkI m.minor.toNat m.major.toNat m.pool.tail (tlOf m)
        unfold mkI tlOf
        rw [ht, ← hp, Int.toNat_of_nonneg h1.1, Int.toNat_of_nonneg (by omega), Int.toNat_of_nonneg h3.1, Int.toNat_of_nonneg h4.1, Int.toNat_of_nonneg h5.1]
    · rintro ⟨_, h⟩
      rw [if_neg (by decide)] at h
      obtain ⟨g1, g2, h⟩ := h
      split at h
      · exact h.elim
      rename_i hma
      obtain ⟨g3, h⟩ := h
      split at h
      · exact h.elim
      rename_i hn
      obtain ⟨⟨e1, e2⟩, ⟨t1, t2, t3, t4, t5, t6, t7⟩, e3⟩ := h
      have e3 : m = mkI m.minor.toNat m.major.toNat m.pool.tail (tlOf m) := e3
      have b1 : m.minor = ((m.minor.toNat : Nat) : Int) := congrArg Img.minor e3
      have b2 : m.major = ((m.major.toNat : Nat) : Int) := congrArg Img.major e3
      have b3 : m.access = ((m.access.toNat : Nat) : Int) := congrArg Img.access e3
      have b4 : m.this = ((m.this.toNat : Nat) : Int) := congrArg Img.this e3
      have b5 : m.super = ((m.super.toNat : Nat) : Int) := congrArg Img.super e3
      have b6 : m.pool = cst0 :: m.pool.tail := congrArg Img.pool e3
      have t1 : m.access.toNat < 65536 := t1
      have t2 : m.this.toNat < 65536 := t2
      have t3 : m.super.toNat < 65536 := t3
      exact ⟨by omega, by omega, ⟨m.pool.tail, b6, by omega, e2⟩, by omega, by omega, by omega, t4, t5, t6, t7⟩
  · obtain ⟨h1, h2, ⟨pl, hp, hpl, hpv⟩, h3, h4, h5, _⟩ := h
    show imgB m = beB 4 3405691582 ++ (if (3405691582 : Nat) ≠ 3405691582 then [] else beB 2 ((m.minor.toNat : Nat) : Int) ++ (beB 2 ((m.major.toNat : Nat) : Int) ++ (if m.major.toNat < 45 ∨ 52 < m.major.toNat then [] else
      beB 2 (m.pool.length : Int) ++ (if m.pool.length < 1 ∨ 1024 < m.pool.length then [] else m.pool.tail.flatMap cstB ++ (tlB (tlOf m) ++ [])))))
    have hpl2 : m.pool.length = pl.length + 1 := by rw [hp]; rfl
    rw [if_neg (by decide), if_neg (by omega), if_neg (by omega), List.append_nil, Int.toNat_of_nonneg h1.1, Int.toNat_of_nonneg (by omega)]
    unfold imgB tlB tlOf
    rw [Int.toNat_of_nonneg h3.1, Int.toNat_of_nonneg h4.1, Int.toNat_of_nonneg h5.1]
    have hf : m.pool.flatMap cstB = m.pool.tail.flatMap cstB := by rw [hp]; rfl
    rw [hf]
theorem tagP_pos {pool : List Cst} {i : Int} (h : tagP pool i ≠ 0) : 1 ≤ i ∧ i < pool.length := by
  unfold tagP at h
  split at h
  · exact absurd rfl h
  · split at h
    · rename_i hc
      have := (List.getElem?_eq_some_iff.1 hc).1
      omega
    · exact absurd rfl h
theorem right_at {pool : List Cst} (h : rightsP pool = true) {i : Nat} {c : Cst} (hc : pool[i]? = some c) : rightP pool i c = true := by
  unfold rightsP at h
  rw [List.all_eq_true] at h
  have := h i (List.mem_range.2 (List.getElem?_eq_some_iff.1 hc).1)
  rw [hc] at this
  exact this
theorem right_cst {pool : List Cst} {i : Nat} {c : Cst} (hl : pool.length ≤ 1024) (hn : -9223372036854775808 ≤ c.num ∧ c.num ≤ 9223372036854775807) (h : rightP pool i c = true) (h0 : c.tag ≠ 0) : cstV c := by
  unfold rightP at h
  rw [if_neg h0, Bool.and_eq_true] at h
  have h := h.2
  unfold cstV
  by_cases h1 : c.tag = 1
  · rw [if_pos h1, Bool.and_eq_true, decide_eq_true_eq] at h
    rw [if_pos h1]; exact ⟨h.1, h.2⟩
  rw [if_neg h1] at h ⊢
  by_cases h3 : c.tag = 3
  · rw [if_pos h3, decide_eq_true_eq] at h
    rw [if_pos h3]; exact h
  rw [if_neg h3] at h ⊢
  by_cases h5 : c.tag = 5
  · rw [if_pos h5, decide_eq_true_eq] at h
    rw [if_pos h5]; exact ⟨hn.1, hn.2, h.2⟩
  rw [if_neg h5] at h ⊢
  by_cases h7 : c.tag = 7 ∨ c.tag = 8
  · rw [if_pos h7, decide_eq_true_eq] at h
    rw [if_pos h7]
    have := tagP_pos (pool := pool) (i := c.a) (by rw [h.1]; decide)
    exact ⟨by omega, h.2⟩
  rw [if_neg h7] at h ⊢
  by_cases h9 : c.tag = 9 ∨ c.tag = 10 ∨ c.tag = 11
  · rw [if_pos h9, decide_eq_true_eq] at h
    have p1 := tagP_pos (pool := pool) (i := c.a) (by rw [h.1]; decide)
    have p2 := tagP_pos (pool := pool) (i := c.b) (by rw [h.2.1]; decide)
    exact ⟨by omega, by omega, by omega, h.2.2⟩
  rw [if_neg h9] at h
  by_cases h12 : c.tag = 12
  · rw [if_pos h12, decide_eq_true_eq] at h
    have p1 := tagP_pos (pool := pool) (i := c.a) (by rw [h.1]; decide)
    have p2 := tagP_pos (pool := pool) (i := c.b) (by rw [h.2.1]; decide)
    exact ⟨by omega, by omega, by omega, by rw [h12]; exact h.2.2⟩
  · rw [if_neg h12] at h; cases h
theorem right_zero {pool : List Cst} {i : Nat} {c : Cst} (h : rightP pool i c = true) (h0 : c.tag = 0) : (i = 0 ∨ (pool[i - 1]?).map (·.tag) = some 5) ∧ c = cst0 := by
  unfold rightP at h
  rw [if_pos h0, decide_eq_true_eq] at h
  exact h
theorem right_pos {pool : List Cst} {i : Nat} {c : Cst} (h : rightP pool i c = true) (h0 : c.tag ≠ 0) : i ≠ 0 ∧ (c.tag = 5 → (pool[i + 1]?).map (·.tag) = some 0) := by
  unfold rightP at h
  rw [if_neg h0, Bool.and_eq_true, decide_eq_true_eq] at h
  refine ⟨h.1, fun h5 => ?_⟩
  have h := h.2
  rw [if_neg (by omega), if_neg (by omega), if_pos h5, decide_eq_true_eq] at h
  exact h.1
/-- From a place on that is not behind a long constant. -/
theorem rights_pool {pool : List Cst} (hl : pool.length ≤ 1024) (hn : ∀ c ∈ pool, -9223372036854775808 ≤ c.num ∧ c.num ≤ 9223372036854775807) (h : rightsP pool = true) :
    ∀ (n i : Nat), pool.length - i ≤ n → 1 ≤ i → ((pool[i - 1]?).map (·.tag) ≠ some 5) → PoolV (pool.drop i) := by
  intro n
  induction n using Nat.strongRecOn with
  | _ n ih =>
    intro i hi h1 hp
    cases hc : pool[i]? with
    | none =>
      rw [List.drop_eq_nil_of_le (List.getElem?_eq_none_iff.1 hc)]; exact .nil
    | some c =>
      obtain ⟨hlt, he⟩ := List.getElem?_eq_some_iff.1 hc
      have hr := right_at h hc
      have h0 : c.tag ≠ 0 := fun e => by
        rcases (right_zero hr e).1 with k | k
        · omega
        · exact hp k
      have hv := right_cst hl (hn c (List.mem_of_getElem? hc)) hr h0
      rw [List.drop_eq_getElem_cons hlt, he]
      by_cases h5 : c.tag = 5
      · have hz := (right_pos hr h0).2 h5
        cases hc2 : pool[i + 1]? with
        | none => rw [hc2] at hz; cases hz
        | some z =>
          rw [hc2] at hz
          injection hz with hz
          have hz0 := (right_zero (right_at h hc2) hz).2
          obtain ⟨hlt2, he2⟩ := List.getElem?_eq_some_iff.1 hc2
          rw [List.drop_eq_getElem_cons hlt2, he2, hz0]
          refine .long c _ hv h5 (ih (n - 2) (by omega) (i + 1 + 1) (by omega) (by omega) ?_)
          rw [show i + 1 + 1 - 1 = i + 1 by omega, hc2]
          simp [hz]
      · refine .one c _ hv h5 (ih (n - 1) (by omega) (i + 1) (by omega) (by omega) ?_)
        rw [Nat.add_sub_cancel, hc]
        simp [h5]
theorem pool_valid {pool : List Cst} (h1 : 1 ≤ pool.length) (hl : pool.length ≤ 1024) (hn : ∀ c ∈ pool, -9223372036854775808 ≤ c.num ∧ c.num ≤ 9223372036854775807) (h : rightsP pool = true) : ∃ pl, pool = cst0 :: pl ∧ pl.length < 1024 ∧ PoolV pl := by
  cases hp : pool with
  | nil => rw [hp] at h1; cases h1
  | cons c r =>
    have hc : pool[0]? = some c := by rw [hp]; rfl
    have hr := right_at h hc
    have h0 : c.tag = 0 := Decidable.byContradiction fun e => (right_pos hr e).1 rfl
    have hz := (right_zero hr h0).2
    have hv := rights_pool hl hn h pool.length 1 (by omega) (by omega) (by rw [show 1 - 1 = 0 from rfl, hc]; simp [h0])
    rw [hp] at hv hl
    refine ⟨r, by rw [hz], by simp at hl; omega, hv⟩
theorem u2P_iff {x : Int} : u2P x = true ↔ 0 ≤ x ∧ x ≤ 65535 := by unfold u2P; rw [decide_eq_true_eq]
theorem attsOk_v {pool : List Cst} (hl : pool.length ≤ 1024) {l : List Att} (h : attsOk pool l = true) : l.length ≤ 64 ∧ ∀ x ∈ l, attV x := by
  unfold attsOk at h
  rw [Bool.and_eq_true, decide_eq_true_eq, List.all_eq_true] at h
  refine ⟨h.2, fun x hx => ?_⟩
  have := h.1 x hx
  unfold attOk at this
  rw [Bool.and_eq_true, decide_eq_true_eq, decide_eq_true_eq] at this
  have p := tagP_pos (pool := pool) (i := x.name) (by rw [this.1]; decide)
  exact ⟨by omega, by omega, by omega⟩
theorem memsOk_v {pool : List Cst} (hl : pool.length ≤ 1024) {l : List Mem} (h : memsOk pool l = true) : l.length ≤ 64 ∧ ∀ x ∈ l, memV x := by
  unfold memsOk at h
  rw [Bool.and_eq_true, decide_eq_true_eq, List.all_eq_true] at h
  refine ⟨h.2, fun x hx => ?_⟩
  have := h.1 x hx
  unfold memOk at this
  simp only [Bool.and_eq_true, decide_eq_true_eq, u2P_iff] at this
  obtain ⟨⟨⟨q1, q2⟩, q3⟩, q4⟩ := this
  have p := tagP_pos (pool := pool) (i := x.name) (by rw [q2]; decide)
  have p2 := tagP_pos (pool := pool) (i := x.desc) (by rw [q3]; decide)
  exact ⟨q1, by omega, by omega, attsOk_v hl q4⟩
/-- An image's numbers of constants are 64-bit ones. -/
def numsOk (m : Img) : Prop := ∀ c ∈ m.pool, -9223372036854775808 ≤ c.num ∧ c.num ≤ 9223372036854775807
theorem holds_v {m : Img} (hn : numsOk m) (h : holdsP m = true) : imgV m := by
  unfold holdsP headOk at h
  simp only [Bool.and_eq_true, decide_eq_true_eq, u2P_iff, List.all_eq_true] at h
  obtain ⟨⟨⟨⟨⟨⟨⟨⟨⟨⟨⟨a1, a2⟩, a3⟩, a4⟩, a5⟩, b⟩, c⟩, d⟩, e⟩, f⟩, g⟩, k⟩ := h
  have q1 := tagP_pos (pool := m.pool) (i := m.this) (by rw [d]; decide)
  have q2 : 0 ≤ m.super ∧ m.super ≤ 65535 := by
    rcases e with e | e
    · omega
    · have := tagP_pos (pool := m.pool) (i := m.super) (by rw [e]; decide); omega
  refine ⟨a1, a2, pool_valid a3.1 a3.2 hn b, a4, by omega, q2, ⟨a5, fun x hx => ?_⟩, memsOk_v a3.2 f, memsOk_v a3.2 g, attsOk_v a3.2 k⟩
  have := tagP_pos (pool := m.pool) (i := x) (by rw [c x hx]; decide)
  omega
theorem at_whole (l : List UInt8) : At l 0 l := by unfold At; simp
theorem write_parse {m : Img} {b : List UInt8} (hn : numsOk m) (h : writeP m = .ok b) : parseP b = .ok m := by
  unfold writeP at h
  split at h
  · cases h
  rename_i h1
  split at h
  · cases h
  rename_i h2
  injection h with h
  subst h
  have hh : holdsP m = true := by simpa using h1
  have e := img_law.fwd (imgB m) 0 m (holds_v hn hh) (at_whole _) (by omega)
  unfold parseP
  rw [if_neg h2, e]
  show (if 0 + (imgB m).length ≠ (imgB m).length ∨ holdsP m = false then _ else _) = _
  rw [if_neg (by rw [hh]; simp)]
theorem cst_nums {c : Cst} (h : cstV c) : -9223372036854775808 ≤ c.num ∧ c.num ≤ 9223372036854775807 := by
  unfold cstV at h
  split at h
  · have e : c.num = 0 := congrArg Cst.num h.2.2
    omega
  split at h
  · omega
  split at h
  · omega
  split at h
  · have e : c.num = 0 := congrArg Cst.num h.2
    omega
  · have e : c.num = 0 := congrArg Cst.num h.2.2.2
    omega
theorem pool_nums {l : List Cst} (h : PoolV l) : ∀ c ∈ l, -9223372036854775808 ≤ c.num ∧ c.num ≤ 9223372036854775807 := by
  induction h with
  | nil => intro c hc; cases hc
  | one c r hc _ _ ih =>
    intro x hx
    rcases List.mem_cons.1 hx with e | e
    · subst e; exact cst_nums hc
    · exact ih x e
  | long c r hc _ _ ih =>
    intro x hx
    rcases List.mem_cons.1 hx with e | e
    · subst e; exact cst_nums hc
    rcases List.mem_cons.1 e with e | e
    · subst e; exact ⟨by decide, by decide⟩
    · exact ih x e
theorem imgV_nums {m : Img} (h : imgV m) : numsOk m := by
  obtain ⟨_, _, ⟨pl, hp, _, hv⟩, _⟩ := h
  intro c hc
  rw [hp] at hc
  rcases List.mem_cons.1 hc with e | e
  · subst e; exact ⟨by decide, by decide⟩
  · exact pool_nums hv c e
theorem parse_ok {b : List UInt8} {m : Img} (h : parseP b = .ok m) : b.length ≤ 32768 ∧ holdsP m = true ∧ imgB m = b ∧ imgV m ∧ imgP b 0 = .ok (m, b.length) := by
  unfold parseP at h
  split at h
  · cases h
  rename_i h1
  obtain ⟨⟨x, p⟩, e1, e2⟩ := bindR_ok h
  have e2 : (if p ≠ b.length ∨ holdsP x = false then Rz.err 24 else .ok x) = .ok m := e2
  split at e2
  · cases e2
  rename_i h2
  injection e2 with e2
  subst e2
  obtain ⟨v, a, q, l⟩ := img_law.bwd b 0 x p (Nat.zero_le _) e1
  have hp : p = b.length := by omega
  refine ⟨by omega, by have : ¬ holdsP x = false := fun e => h2 (.inr e); simpa using this, ?_, v, by rw [← hp]; exact e1⟩
  unfold At at a
  rw [List.drop_zero] at a
  have hlen : (imgB x).length = b.length := by omega
  rw [hlen, List.take_length] at a
  exact a.symm
theorem parse_write {b : List UInt8} {m : Img} (h : parseP b = .ok m) : writeP m = .ok b := by
  obtain ⟨h1, h2, h3, _⟩ := parse_ok h
  unfold writeP
  rw [if_neg (by rw [h2]; simp), h3, if_neg (by omega)]
theorem parse_cut {m : Img} {b : List UInt8} (hn : numsOk m) (h : writeP m = .ok b) {k : Nat} (hk : k < b.length) : parseP (b.take k) = .err 2 := by
  obtain ⟨h1, _, _, _, h5⟩ := parse_ok (write_parse hn h)
  unfold parseP
  rw [if_neg (by rw [List.length_take]; omega), img_law.cut b k 0 m b.length (Nat.zero_le _) (by omega) h5 hk]
  rfl
theorem parse_more {m : Img} {b : List UInt8} (hn : numsOk m) (h : writeP m = .ok b) (x : UInt8) : parseP (b ++ [x]) = .err (if b.length = 32768 then 8 else 24) := by
  obtain ⟨h1, _, h3, h4, h5⟩ := parse_ok (write_parse hn h)
  unfold parseP
  rw [List.length_append]
  by_cases e : b.length = 32768
  · rw [if_pos e, if_pos (by simp; omega)]
  · have ha : At (b ++ [x]) 0 (imgB m) := by
      rw [h3]; unfold At; simp
    have e2 := img_law.fwd (b ++ [x]) 0 m h4 ha (by rw [h3]; simp)
    rw [if_neg e, if_neg (by simp; omega), e2]
    show (if 0 + (imgB m).length ≠ _ ∨ _ then _ else _) = _
    rw [if_pos (.inl (by rw [h3]; simp))]
theorem write_ok {m : Img} {b : List UInt8} (h : writeP m = .ok b) : holdsP m = true ∧ b = imgB m ∧ b.length ≤ 32768 := by
  unfold writeP at h
  split at h
  · cases h
  rename_i h1
  split at h
  · cases h
  injection h with h
  subst h
  exact ⟨by simpa using h1, rfl, by omega⟩
end Go.Proofs.Ytdioijhmmmnbgaa
namespace Go.Proofs.Ytdioijhmmmnbgaa
/-- A constant as it should be, whatever stands behind it. -/
def cGood (pool : List Cst) (c : Cst) : Bool :=
  if c.tag = 1 then uOk c.text && decide (c.text.length ≤ 65535 ∧ c = ⟨1, 0, 0, 0, c.text⟩)
  else if c.tag = 3 then decide (-2147483648 ≤ c.num ∧ c.num ≤ 2147483647 ∧ c = ⟨3, 0, 0, c.num, []⟩)
  else if c.tag = 5 then decide (c = ⟨5, 0, 0, c.num, []⟩)
  else if c.tag = 7 ∨ c.tag = 8 then decide (tagP pool c.a = 1 ∧ c = ⟨c.tag, c.a, 0, 0, []⟩)
  else if c.tag = 9 ∨ c.tag = 10 ∨ c.tag = 11 then decide (tagP pool c.a = 7 ∧ tagP pool c.b = 12 ∧ c = ⟨c.tag, c.a, c.b, 0, []⟩)
  else if c.tag = 12 then decide (tagP pool c.a = 1 ∧ tagP pool c.b = 1 ∧ c = ⟨12, c.a, c.b, 0, []⟩)
  else false
theorem right_good {pool : List Cst} {i : Nat} {c : Cst} (hi : i ≠ 0) (h0 : c.tag ≠ 0) : rightP pool i c = (cGood pool c && (if c.tag = 5 then decide ((pool[i + 1]?).map (·.tag) = some 0) else true)) := by
  unfold rightP cGood
  rw [if_neg h0, decide_eq_true hi, Bool.true_and]
  by_cases h5 : c.tag = 5
  · rw [if_neg (by omega), if_neg (by omega), if_pos h5, if_neg (by omega), if_neg (by omega), if_pos h5, if_pos h5, Bool.and_comm, Bool.decide_and]
  · rw [if_neg h5, if_neg h5, if_neg h5, Bool.and_true]
theorem good_tag {pool : List Cst} {c : Cst} (h : cGood pool c = true) : c.tag ≠ 0 := by
  intro e
  unfold cGood at h
  rw [e, if_neg (by decide), if_neg (by decide), if_neg (by decide), if_neg (by decide), if_neg (by decide), if_neg (by decide)] at h
  cases h
/-- All places from i on. -/
def RestOk (pool : List Cst) (i : Nat) : Prop := ∀ j c, i ≤ j → pool[j]? = some c → rightP pool j c = true
theorem rights_iff {pool : List Cst} : rightsP pool = true ↔ RestOk pool 0 := by
  constructor
  · intro h j c _ hc; exact right_at h hc
  · intro h
    unfold rightsP
    rw [List.all_eq_true]
    intro j hj
    cases hc : pool[j]? with
    | none => rfl
    | some c => exact h j c (Nat.zero_le _) hc
theorem rest_first {pool : List Cst} (h : pool[0]? = some cst0) : RestOk pool 0 ↔ RestOk pool 1 := by
  constructor
  · intro k j c hj hc; exact k j c (by omega) hc
  · intro k j c hj hc
    cases j with
    | zero =>
      rw [h] at hc
      injection hc with hc
      subst hc
      unfold rightP
      rw [if_pos (show cst0.tag = 0 from rfl)]
      simp
    | succ j => exact k (j + 1) c (by omega) hc
theorem rest_bad {pool : List Cst} {i : Nat} {c : Cst} (hi : 1 ≤ i) (hp : (pool[i - 1]?).map (·.tag) ≠ some 5) (hc : pool[i]? = some c) (hg : cGood pool c = false) : ¬ RestOk pool i := by
  intro k
  have h := k i c (Nat.le_refl _) hc
  by_cases h0 : c.tag = 0
  · rcases (right_zero h h0).1 with e | e
    · omega
    · exact hp e
  · rw [right_good (by omega) h0, hg] at h
    cases h
theorem rest_one {pool : List Cst} {i : Nat} {c : Cst} (hi : 1 ≤ i) (hc : pool[i]? = some c) (hg : cGood pool c = true) (h5 : c.tag ≠ 5) : (RestOk pool i ↔ RestOk pool (i + 1)) ∧ (pool[i + 1 - 1]?).map (·.tag) ≠ some 5 := by
  refine ⟨⟨fun k j d hj hd => k j d (by omega) hd, fun k j d hj hd => ?_⟩, by rw [Nat.add_sub_cancel, hc]; simpa using h5⟩
  rcases Nat.lt_or_ge i j with h | h
  · exact k j d (by omega) hd
  · obtain rfl : j = i := by omega
    rw [hc] at hd
    injection hd with hd
    subst hd
    rw [right_good (by omega) (good_tag hg), hg, if_neg h5]; rfl
theorem rest_long {pool : List Cst} {i : Nat} {c : Cst} (hi : 1 ≤ i) (hc : pool[i]? = some c) (hg : cGood pool c = true) (h5 : c.tag = 5) (hz : pool[i + 1]? = some cst0) : (RestOk pool i ↔ RestOk pool (i + 2)) ∧ (pool[i + 2 - 1]?).map (·.tag) ≠ some 5 := by
  have e1 : i + 2 - 1 = i + 1 := by omega
  refine ⟨⟨fun k j d hj hd => k j d (by omega) hd, fun k j d hj hd => ?_⟩, by rw [e1, hz]; simp [cst0]⟩
  rcases Nat.lt_or_ge (i + 1) j with h | h
  · exact k j d (by omega) hd
  rcases (by omega : j = i ∨ j = i + 1) with e | e
  · subst e
    rw [hc] at hd
    injection hd with hd
    subst hd
    rw [right_good (by omega) (good_tag hg), hg, if_pos h5, hz]; rfl
  · subst e
    rw [hz] at hd
    injection hd with hd
    subst hd
    unfold rightP
    rw [if_pos (show cst0.tag = 0 from rfl), Nat.add_sub_cancel, hc]
    simp [h5]
theorem rest_longBad {pool : List Cst} {i : Nat} {c : Cst} (hi : 1 ≤ i) (hc : pool[i]? = some c) (hg : cGood pool c = true) (h5 : c.tag = 5) (hz : pool[i + 1]? ≠ some cst0) : ¬ RestOk pool i := by
  intro k
  have h := k i c (Nat.le_refl _) hc
  rw [right_good (by omega) (good_tag hg), hg, if_pos h5, Bool.true_and, decide_eq_true_eq] at h
  cases hd : pool[i + 1]? with
  | none => rw [hd] at h; cases h
  | some d =>
    rw [hd] at h
    injection h with h
    have := (right_zero (k (i + 1) d (by omega) hd) h).2
    exact hz (by rw [hd, this])
theorem rest_end {pool : List Cst} {i : Nat} (h : pool.length ≤ i) : RestOk pool i := by
  intro j c hj hc
  have := (List.getElem?_eq_some_iff.1 hc).1
  omega
end Go.Proofs.Ytdioijhmmmnbgaa
namespace Go.Proofs.Ytdioijhmmmnbgaa
/-- What a constant's places must be. -/
def wantA (k : Int) : Option (Int × Int) := if k = 1 ∨ k = 3 ∨ k = 5 then some (0, 0) else if k = 7 ∨ k = 8 then some (1, 0) else if k = 9 ∨ k = 10 ∨ k = 11 then some (7, 12) else if k = 12 then some (1, 1) else none
def atOk (pool : List Cst) (w a : Int) : Bool := if w = 0 then decide (a = 0) else decide (tagP pool a = w)
def restC (c : Cst) : Bool := (decide (c.tag = 1) || decide (c.text = [])) && (decide (c.tag = 3) || decide (c.tag = 5) || decide (c.num = 0))
def lastC (c : Cst) : Bool := if c.tag = 1 then uOk c.text && decide (c.text.length ≤ 65535) else if c.tag = 3 then decide (-2147483648 ≤ c.num ∧ c.num ≤ 2147483647) else true
theorem good_parts (pool : List Cst) (c : Cst) : cGood pool c = match wantA c.tag with
    | none => false
    | some (p, q) => (atOk pool p c.a && atOk pool q c.b) && (restC c && lastC c) := by
  obtain ⟨t, a, b, n, s⟩ := c
  have key : ∀ (t' a' b' n' : Int) (s' : List UInt8), ((⟨t, a, b, n, s⟩ : Cst) = ⟨t', a', b', n', s'⟩) ↔ (t = t' ∧ a = a' ∧ b = b' ∧ n = n' ∧ s = s') := fun _ _ _ _ _ => by simp
  by_cases h1 : t = 1
  · subst h1
    unfold cGood wantA restC lastC atOk
    simp only [key]
    rw [Bool.eq_iff_iff]
    simp
    constructor <;> (intro h; simp_all)
  by_cases h3 : t = 3
  · subst h3
    unfold cGood wantA restC lastC atOk
    simp only [key]
    rw [Bool.eq_iff_iff]
    simp
    constructor <;> (intro h; simp_all)
  by_cases h5 : t = 5
  · subst h5
    unfold cGood wantA restC lastC atOk
    simp only [key]
    rw [Bool.eq_iff_iff]
    simp
    constructor <;> (intro h; simp_all)
  by_cases h7 : t = 7 ∨ t = 8
  · have hw : wantA t = some (1, 0) := by unfold wantA; rw [if_neg (by omega), if_pos h7]
    show cGood pool ⟨t, a, b, n, s⟩ = match wantA t with
      | none => false
      | some (p, q) => _
    rw [hw]
    unfold cGood restC lastC atOk
    simp only [key]
    rw [if_neg h1, if_neg h3, if_neg h5, if_pos h7]
    rw [Bool.eq_iff_iff]
    simp [h1, h3, h5]
    constructor <;> (intro h; simp_all)
  by_cases h9 : t = 9 ∨ t = 10 ∨ t = 11
  · have hw : wantA t = some (7, 12) := by unfold wantA; rw [if_neg (by omega), if_neg (by omega), if_pos h9]
    show cGood pool ⟨t, a, b, n, s⟩ = match wantA t with
      | none => false
      | some (p, q) => _
    rw [hw]
    unfold cGood restC lastC atOk
    simp only [key]
    rw [if_neg h1, if_neg h3, if_neg h5, if_neg h7, if_pos h9]
    rw [Bool.eq_iff_iff]
    simp [h1, h3, h5]
    constructor <;> (intro h; simp_all)
  by_cases h12 : t = 12
  · subst h12
    unfold cGood wantA restC lastC atOk
    simp only [key]
    rw [Bool.eq_iff_iff]
    simp
    constructor <;> (intro h; simp_all)
  have hw : wantA t = none := by unfold wantA; rw [if_neg (by omega), if_neg (by omega), if_neg (by omega), if_neg h12]
  show cGood pool ⟨t, a, b, n, s⟩ = match wantA t with
    | none => false
    | some (p, q) => _
  rw [hw]
  unfold cGood
  rw [if_neg h1, if_neg h3, if_neg h5, if_neg h7, if_neg h9, if_neg h12]
theorem good_none {pool : List Cst} {c : Cst} (h : wantA c.tag = none) : cGood pool c = false := by rw [good_parts, h]
theorem good_some {pool : List Cst} {c : Cst} {p q : Int} (h : wantA c.tag = some (p, q)) : cGood pool c = ((atOk pool p c.a && atOk pool q c.b) && (restC c && lastC c)) := by rw [good_parts, h]
end Go.Proofs.Ytdioijhmmmnbgaa
namespace Go.Proofs.Ytdioijhmmmnbgaa
open Go.RowKit
/-- Where a reader stands behind an answer. -/
def stR {α : Type} (r : Rz (α × Nat)) : Rz Nat := r.bind fun x => .ok x.2
/-- A reader that is asked where s says. -/
def onR {α : Type} (s : Rz Nat) (A : Py α) (b : List UInt8) : Rz (α × Nat) := s.bind (A b)
/-- An error that is noted, unless there was one. -/
def failR (s : Rz Nat) (k : Int) : Rz Nat := s.bind fun _ => .err k
def valN (r : Rz (Nat × Nat)) : Int := match r with
  | .ok x => (x.1 : Int)
  | .err _ => 0
def valB (r : Rz (List UInt8 × Nat)) : List UInt8 := match r with
  | .ok x => x.1
  | .err _ => []
section
variable {α β : Type} {s : Rz Nat} {b : List UInt8} {p : Nat} {k : Int} {A : Py α}
theorem onR_ok : onR (.ok p) A b = A b p := rfl
theorem onR_err : onR (.err k) A b = .err k := rfl
theorem onR_bind (F : α → Py β) : onR s (bindP A F) b = (onR s A b).bind fun x => F x.1 b x.2 := by
  cases s <;> rfl
theorem stR_ok {x : α × Nat} : stR (.ok x) = .ok x.2 := rfl
theorem stR_err : stR (.err k : Rz (α × Nat)) = .err k := rfl
theorem stR_inv {r : Rz (α × Nat)} (h : stR r = .ok p) : ∃ a, r = .ok (a, p) := by
  cases r with
  | ok x => obtain ⟨a, q⟩ := x; injection h with h; subst h; exact ⟨a, rfl⟩
  | err k => cases h
theorem stR_bad {r : Rz (α × Nat)} (h : stR r = .err k) : r = .err k := by
  cases r with
  | ok x => cases h
  | err j => injection h with h; rw [h]
theorem onR_inv {r : α × Nat} (h : onR s A b = .ok r) : ∃ q, s = .ok q ∧ A b q = .ok r := by
  cases s with
  | ok q => exact ⟨q, rfl, h⟩
  | err k => cases h
/-- What stands behind a reader is asked where the reader stands. -/
theorem onR_seq {B : Py β} {r : Rz (α × Nat)} : (r.bind fun x => B b x.2) = onR (stR r) B b := by cases r <;> rfl
theorem failR_ok : failR (.ok p) k = .err k := rfl
theorem failR_err {j : Int} : failR (.err j) k = .err j := rfl
theorem rdN_cases (n : Nat) (b : List UInt8) (p : Nat) : (p + n ≤ b.length ∧ rdN n b p = .ok (beN ((b.drop p).take n), p + n)) ∨ (b.length < p + n ∧ rdN n b p = .err 2) := by
  unfold rdN
  split
  · rename_i h; exact .inl ⟨h, rfl⟩
  · rename_i h; exact .inr ⟨by omega, rfl⟩
theorem valN_lt (n : Nat) (s : Rz Nat) (b : List UInt8) : 0 ≤ valN (onR s (rdN n) b) ∧ valN (onR s (rdN n) b) < ((256 ^ n : Nat) : Int) := by
  have hp : 0 < 256 ^ n := Nat.pow_pos (by omega)
  cases s with
  | err k => rw [onR_err]; show (0 : Int) ≤ 0 ∧ (0 : Int) < _; omega
  | ok p =>
    rw [onR_ok]
    rcases rdN_cases n b p with ⟨h, e⟩ | ⟨_, e⟩
    · rw [e]
      have h1 : beN ((b.drop p).take n) < 256 ^ n := beN_lt_of _ (by simp; omega)
      show (0 : Int) ≤ ((beN ((b.drop p).take n) : Nat) : Int) ∧ ((beN ((b.drop p).take n) : Nat) : Int) < _
      omega
    · rw [e]; show (0 : Int) ≤ 0 ∧ (0 : Int) < _; omega
end
end Go.Proofs.Ytdioijhmmmnbgaa
namespace Go.Proofs.Ytdioijhmmmnbgaa
open Go.RowKit
section
variable {s : Rz Nat} {b : List UInt8}
theorem cnt_num : onR s cntI b = (onR s (rdN 2) b).bind fun x => if 64 < x.1 then .err 24 else .ok x := by
  unfold cntI
  rw [onR_bind]
  cases onR s (rdN 2) b with
  | err k => rfl
  | ok x =>
    show (if 64 < x.1 then failP 24 else retP x.1) b x.2 = _
    by_cases h : 64 < x.1
    · rw [if_pos h]; show _ = (if 64 < x.1 then _ else _); rw [if_pos h]; rfl
    · rw [if_neg h]; show _ = (if 64 < x.1 then _ else _); rw [if_neg h]; rfl
theorem att_chain {r1 r2 : Rz (Nat × Nat)} {r3 : Rz (List UInt8 × Nat)} {n : Nat} (h1 : onR s (rdN 2) b = r1) (h2 : onR (stR r1) (rdN 4) b = r2) (hn : valN r2 = (n : Int)) (h3 : onR (stR r2) (rdB n) b = r3) :
    onR s attP b = r3.bind fun z => .ok (⟨valN r1, z.1⟩, z.2) := by
  unfold attP
  rw [onR_bind, h1]
  cases r1 with
  | err k => rw [stR_err, onR_err] at h2; subst h2; rw [stR_err, onR_err] at h3; subst h3; rfl
  | ok x =>
    rw [stR_ok, onR_ok] at h2
    show (bindP (rdN 4) fun sz => bindP (rdB sz) fun d => retP (⟨(x.1 : Int), d⟩ : Att)) b x.2 = _
    unfold bindP
    rw [h2]
    cases r2 with
    | err k => rw [stR_err, onR_err] at h3; subst h3; rfl
    | ok y =>
      have hn : y.1 = n := by have : (y.1 : Int) = (n : Int) := hn; omega
      rw [stR_ok, onR_ok] at h3
      subst hn
      show (rdB y.1 b y.2).bind _ = _
      rw [h3]
      cases r3 <;> rfl
theorem mem_chain {r1 r2 r3 : Rz (Nat × Nat)} {r4 : Rz (List Att × Nat)} (h1 : onR s (rdN 2) b = r1) (h2 : onR (stR r1) (rdN 2) b = r2) (h3 : onR (stR r2) (rdN 2) b = r3) (h4 : onR (stR r3) attsP b = r4) :
    onR s memP b = r4.bind fun z => .ok (⟨valN r1, valN r2, valN r3, z.1⟩, z.2) := by
  unfold memP
  rw [onR_bind, h1]
  cases r1 with
  | err k => rw [stR_err, onR_err] at h2; subst h2; rw [stR_err, onR_err] at h3; subst h3; rw [stR_err, onR_err] at h4; subst h4; rfl
  | ok x =>
    rw [stR_ok, onR_ok] at h2
    show (bindP (rdN 2) fun nm => bindP (rdN 2) fun ds => bindP attsP fun at_ => retP (⟨(x.1 : Int), nm, ds, at_⟩ : Mem)) b x.2 = _
    unfold bindP
    rw [h2]
    cases r2 with
    | err k => rw [stR_err, onR_err] at h3; subst h3; rw [stR_err, onR_err] at h4; subst h4; rfl
    | ok y =>
      rw [stR_ok, onR_ok] at h3
      show (rdN 2 b y.2).bind _ = _
      rw [h3]
      cases r3 with
      | err k => rw [stR_err, onR_err] at h4; subst h4; rfl
      | ok z =>
        rw [stR_ok, onR_ok] at h4
        show (attsP b z.2).bind _ = _
        rw [h4]
        cases r4 <;> rfl
/-- So many more, behind those that were read. -/
def repR {α : Type} (A : Py α) (b : List UInt8) (acc : List α) (s : Rz Nat) (n : Nat) : Rz (List α × Nat) := (onR s (repP A n) b).bind fun y => .ok (acc ++ y.1, y.2)
theorem repR_zero {α : Type} (A : Py α) (acc : List α) (p : Nat) : repR A b acc (.ok p) 0 = .ok (acc, p) := by
  unfold repR
  rw [onR_ok]
  show Rz.ok (acc ++ [], p) = _
  rw [List.append_nil]
theorem repR_err {α : Type} (A : Py α) (acc : List α) (k : Int) (n : Nat) : repR A b acc (.err k) n = .err k := rfl
theorem repR_step {α : Type} {A : Py α} {acc : List α} {p n : Nat} {x : α × Nat} (h : A b p = .ok x) : repR A b acc (.ok p) (n + 1) = repR A b (acc ++ [x.1]) (.ok x.2) n := by
  unfold repR
  rw [onR_ok, onR_ok]
  show (bindP A (fun y => bindP (repP A n) fun r => retP (y :: r)) b p).bind _ = _
  unfold bindP
  rw [h]
  show ((repP A n b x.2).bind fun y => retP (x.1 :: y.1) b y.2).bind _ = _
  cases repP A n b x.2 with
  | err k => rfl
  | ok y =>
    show Rz.ok (acc ++ (x.1 :: y.1), y.2) = Rz.ok ((acc ++ [x.1]) ++ y.1, y.2)
    rw [List.append_assoc]; rfl
theorem repR_bad {α : Type} {A : Py α} {acc : List α} {p n : Nat} {k : Int} (h : A b p = .err k) : repR A b acc (.ok p) (n + 1) = .err k := by
  unfold repR
  rw [onR_ok]
  show (bindP A (fun y => bindP (repP A n) fun r => retP (y :: r)) b p).bind _ = _
  unfold bindP
  rw [h]
  rfl
/-- A count and what it counts. -/
theorem many_rep {α : Type} {A : Py α} {r : Rz (Nat × Nat)} {n : Nat} (h : onR s cntI b = r) (hn : valN r = (n : Int)) : onR s (bindP cntI fun n => repP A n) b = repR A b [] (stR r) n := by
  rw [onR_bind, h]
  cases r with
  | err k => rfl
  | ok x =>
    have hn : x.1 = n := by have : (x.1 : Int) = (n : Int) := hn; omega
    subst hn
    unfold repR
    rw [stR_ok, onR_ok]
    show repP A x.1 b x.2 = (repP A x.1 b x.2).bind _
    cases repP A x.1 b x.2 <;> rfl
end
end Go.Proofs.Ytdioijhmmmnbgaa
namespace Go.Proofs.Ytdioijhmmmnbgaa
open Go.RowKit
section
variable {s : Rz Nat} {b : List UInt8} {p : Nat} {k : Int}
/-- What comes behind a constant's tag. -/
def cstK (t : Nat) : Py Cst :=
  if t = 1 then bindP (rdN 2) fun n => bindP (rdB n) fun s => if uOk s = true then retP ⟨1, 0, 0, 0, s⟩ else failP 23
  else if t = 3 then bindP (rdN 4) fun v => retP ⟨3, 0, 0, sgn32 v, []⟩
  else if t = 5 then bindP (rdN 8) fun v => retP ⟨5, 0, 0, wrap64 (v : Int), []⟩
  else if t = 7 ∨ t = 8 then bindP (rdN 2) fun a => retP ⟨t, a, 0, 0, []⟩
  else if t = 9 ∨ t = 10 ∨ t = 11 ∨ t = 12 then bindP (rdN 2) fun a => bindP (rdN 2) fun b => retP ⟨t, a, b, 0, []⟩
  else failP 24
theorem cst_bad (h : onR s (rdN 1) b = .err k) : onR s cstP b = .err k := by
  unfold cstP; rw [onR_bind, h]; rfl
theorem cst_tag {t : Nat} (h : onR s (rdN 1) b = .ok (t, p)) : onR s cstP b = cstK t b p := by
  unfold cstP; rw [onR_bind, h]; rfl
theorem cst_text {r2 : Rz (Nat × Nat)} {r3 : Rz (List UInt8 × Nat)} {n : Nat} (h2 : onR (.ok p) (rdN 2) b = r2) (hn : valN r2 = (n : Int)) (h3 : onR (stR r2) (rdB n) b = r3) :
    cstK 1 b p = r3.bind fun z => if uOk z.1 = true then .ok (⟨1, 0, 0, 0, z.1⟩, z.2) else .err 23 := by
  unfold cstK
  rw [if_pos rfl]
  rw [onR_ok] at h2
  unfold bindP
  rw [h2]
  cases r2 with
  | err k => rw [stR_err, onR_err] at h3; subst h3; rfl
  | ok y =>
    have hn : y.1 = n := by have : (y.1 : Int) = (n : Int) := hn; omega
    subst hn
    rw [stR_ok, onR_ok] at h3
    show (rdB y.1 b y.2).bind _ = _
    rw [h3]
    cases r3 with
    | err k => rfl
    | ok z =>
      show (if uOk z.1 = true then retP (⟨1, 0, 0, 0, z.1⟩ : Cst) else failP 23) b z.2 = (if uOk z.1 = true then _ else _)
      by_cases h : uOk z.1 = true
      · rw [if_pos h, if_pos h]; rfl
      · rw [if_neg h, if_neg h]; rfl
theorem cst_int {r2 : Rz (Nat × Nat)} (h2 : onR (.ok p) (rdN 4) b = r2) : cstK 3 b p = r2.bind fun y => .ok (⟨3, 0, 0, sgn32 y.1, []⟩, y.2) := by
  unfold cstK
  rw [if_neg (by decide), if_pos rfl]
  rw [onR_ok] at h2
  unfold bindP
  rw [h2]
  cases r2 <;> rfl
theorem cst_long {r2 : Rz (Nat × Nat)} (h2 : onR (.ok p) (rdN 8) b = r2) : cstK 5 b p = r2.bind fun y => .ok (⟨5, 0, 0, wrap64 (y.1 : Int), []⟩, y.2) := by
  unfold cstK
  rw [if_neg (by decide), if_neg (by decide), if_pos rfl]
  rw [onR_ok] at h2
  unfold bindP
  rw [h2]
  cases r2 <;> rfl
theorem cst_one {r2 : Rz (Nat × Nat)} {t : Nat} (ht : t = 7 ∨ t = 8) (h2 : onR (.ok p) (rdN 2) b = r2) : cstK t b p = r2.bind fun y => .ok (⟨t, y.1, 0, 0, []⟩, y.2) := by
  unfold cstK
  rw [if_neg (by omega), if_neg (by omega), if_neg (by omega), if_pos ht]
  rw [onR_ok] at h2
  unfold bindP
  rw [h2]
  cases r2 <;> rfl
theorem cst_two {r2 r3 : Rz (Nat × Nat)} {t : Nat} (ht : t = 9 ∨ t = 10 ∨ t = 11 ∨ t = 12) (h2 : onR (.ok p) (rdN 2) b = r2) (h3 : onR (stR r2) (rdN 2) b = r3) :
    cstK t b p = r3.bind fun z => .ok (⟨t, valN r2, z.1, 0, []⟩, z.2) := by
  unfold cstK
  rw [if_neg (by omega), if_neg (by omega), if_neg (by omega), if_neg (by omega), if_pos ht]
  rw [onR_ok] at h2
  unfold bindP
  rw [h2]
  cases r2 with
  | err k => rw [stR_err, onR_err] at h3; subst h3; rfl
  | ok y =>
    rw [stR_ok, onR_ok] at h3
    show (rdN 2 b y.2).bind _ = _
    rw [h3]
    cases r3 <;> rfl
theorem cst_none {t : Nat} (h : t ≠ 1 ∧ t ≠ 3 ∧ t ≠ 5 ∧ t ≠ 7 ∧ t ≠ 8 ∧ t ≠ 9 ∧ t ≠ 10 ∧ t ≠ 11 ∧ t ≠ 12) : cstK t b p = .err 24 := by
  unfold cstK
  rw [if_neg (by omega), if_neg (by omega), if_neg (by omega), if_neg (by omega), if_neg (by omega)]; rfl
/-- The pool, behind those constants that were read. -/
def poolR (b : List UInt8) (acc : List Cst) (s : Rz Nat) (f k : Nat) : Rz (List Cst × Nat) := (onR s (poolP f k) b).bind fun y => .ok (acc ++ y.1, y.2)
theorem poolR_zero (acc : List Cst) (f : Nat) : poolR b acc (.ok p) f 0 = .ok (acc, p) := by
  unfold poolR
  rw [onR_ok]
  have e : poolP f 0 b p = .ok ([], p) := by cases f <;> rfl
  rw [e]
  show Rz.ok (acc ++ [], p) = _
  rw [List.append_nil]
theorem poolR_err (acc : List Cst) (f n : Nat) : poolR b acc (.err k) f n = .err k := rfl
theorem pool_eq (f n : Nat) : poolP (f + 1) (n + 1) b p = (cstP b p).bind fun x => (if x.1.tag = 5 then (if n + 1 = 1 then failP 24 else bindP (poolP f (n + 1 - 2)) fun r => retP (x.1 :: cst0 :: r)) else bindP (poolP f (n + 1 - 1)) fun r => retP (x.1 :: r)) b x.2 := by
  rw [poolP, if_neg (by omega)]; rfl
theorem poolR_bad {acc : List Cst} {f n : Nat} (h : cstP b p = .err k) : poolR b acc (.ok p) (f + 1) (n + 1) = .err k := by
  unfold poolR
  rw [onR_ok, pool_eq, h]; rfl
theorem poolR_one {acc : List Cst} {f n q : Nat} {c : Cst} (h : cstP b p = .ok (c, q)) (h5 : c.tag ≠ 5) : poolR b acc (.ok p) (f + 1) (n + 1) = poolR b (acc ++ [c]) (.ok q) f n := by
  unfold poolR
  rw [onR_ok, onR_ok, pool_eq, h]
  show ((if c.tag = 5 then _ else bindP (poolP f (n + 1 - 1)) fun r => retP (c :: r)) b q).bind _ = _
  rw [if_neg h5, Nat.add_sub_cancel]
  unfold bindP
  cases poolP f n b q with
  | err k => rfl
  | ok y =>
    show Rz.ok (acc ++ (c :: y.1), y.2) = Rz.ok ((acc ++ [c]) ++ y.1, y.2)
    rw [List.append_assoc]; rfl
theorem poolR_last {acc : List Cst} {f q : Nat} {c : Cst} (h : cstP b p = .ok (c, q)) (h5 : c.tag = 5) : poolR b acc (.ok p) (f + 1) 1 = .err 24 := by
  unfold poolR
  rw [onR_ok, pool_eq (n := 0), h]
  show ((if c.tag = 5 then (if 0 + 1 = 1 then failP 24 else _) else _) b q).bind _ = _
  rw [if_pos h5, if_pos rfl]; rfl
theorem poolR_long {acc : List Cst} {f n q : Nat} {c : Cst} (h : cstP b p = .ok (c, q)) (h5 : c.tag = 5) : poolR b acc (.ok p) (f + 1) (n + 2) = poolR b (acc ++ [c, cst0]) (.ok q) f n := by
  unfold poolR
  rw [onR_ok, onR_ok, pool_eq (n := n + 1), h]
  show ((if c.tag = 5 then (if n + 1 + 1 = 1 then _ else bindP (poolP f (n + 1 + 1 - 2)) fun r => retP (c :: cst0 :: r)) else _) b q).bind _ = _
  rw [if_pos h5, if_neg (by omega), show n + 1 + 1 - 2 = n by omega]
  unfold bindP
  cases poolP f n b q with
  | err k => rfl
  | ok y =>
    show Rz.ok (acc ++ (c :: cst0 :: y.1), y.2) = Rz.ok ((acc ++ [c, cst0]) ++ y.1, y.2)
    rw [List.append_assoc]; rfl
end
end Go.Proofs.Ytdioijhmmmnbgaa
namespace Go.Proofs.Ytdioijhmmmnbgaa
open Go.RowKit
def valL {α : Type} (r : Rz (List α × Nat)) : List α := match r with
  | .ok x => x.1
  | .err _ => []
/-- What stands behind the pool's length. -/
def im7 (mi ma n : Nat) : Py Img := bindP (poolP n (n - 1)) fun pl => bindP (rdN 2) fun ac => bindP (rdN 2) fun th => bindP (rdN 2) fun su => bindP ifP fun ifs =>
  bindP memsP fun fs => bindP memsP fun ms => bindP attsP fun at_ => retP ⟨mi, ma, cst0 :: pl, ac, th, su, ifs, fs, ms, at_⟩
def im5 (mi ma : Nat) : Py Img := bindP (rdN 2) fun n => if n < 1 ∨ 1024 < n then failP 24 else im7 mi ma n
def im2 : Py Img := bindP (rdN 2) fun mi => bindP (rdN 2) fun ma => if ma < 45 ∨ 52 < ma then failP 24 else im5 mi ma
theorem img_im2 : imgP = bindP (rdN 4) fun g => if g ≠ 3405691582 then failP 24 else im2 := rfl
section
variable {b : List UInt8}
theorem im7_chain {mi ma n : Nat} {s : Rz Nat} {R7 : Rz (List Cst × Nat)} {r8 r9 r10 : Rz (Nat × Nat)} {r11 : Rz (List Int × Nat)} {r12 r13 : Rz (List Mem × Nat)} {r14 : Rz (List Att × Nat)}
    (h7 : poolR b [cst0] s n (n - 1) = R7) (h8 : onR (stR R7) (rdN 2) b = r8) (h9 : onR (stR r8) (rdN 2) b = r9) (h10 : onR (stR r9) (rdN 2) b = r10) (h11 : onR (stR r10) ifP b = r11) (h12 : onR (stR r11) memsP b = r12)
    (h13 : onR (stR r12) memsP b = r13) (h14 : onR (stR r13) attsP b = r14) :
    onR s (im7 mi ma n) b = r14.bind fun z => .ok (⟨mi, ma, valL R7, valN r8, valN r9, valN r10, valL r11, valL r12, valL r13, z.1⟩, z.2) := by
  unfold im7
  rw [onR_bind]
  unfold poolR at h7
  cases hp : onR s (poolP n (n - 1)) b with
  | err k => rw [hp] at h7; subst h7; subst h8; subst h9; subst h10; subst h11; subst h12; subst h13; subst h14; rfl
  | ok x =>
    rw [hp] at h7
    subst h7
    have h8 : rdN 2 b x.2 = r8 := h8
    show (bindP (rdN 2) fun ac => bindP (rdN 2) fun th => bindP (rdN 2) fun su => bindP ifP fun ifs => bindP memsP fun fs => bindP memsP fun ms => bindP attsP fun at_ => retP (⟨mi, ma, cst0 :: x.1, ac, th, su, ifs, fs, ms, at_⟩ : Img)) b x.2 = _
    unfold bindP
    rw [h8]
    cases r8 with
    | err k => subst h9; subst h10; subst h11; subst h12; subst h13; subst h14; rfl
    | ok y0 =>
      have h9 : rdN 2 b y0.2 = r9 := h9
      show (rdN 2 b y0.2).bind _ = _
      rw [h9]
      cases r9 with
      | err k => subst h10; subst h11; subst h12; subst h13; subst h14; rfl
      | ok y1 =>
        have h10 : rdN 2 b y1.2 = r10 := h10
        show (rdN 2 b y1.2).bind _ = _
        rw [h10]
        cases r10 with
        | err k => subst h11; subst h12; subst h13; subst h14; rfl
        | ok y2 =>
          have h11 : ifP b y2.2 = r11 := h11
          show (ifP b y2.2).bind _ = _
          rw [h11]
          cases r11 with
          | err k => subst h12; subst h13; subst h14; rfl
          | ok y3 =>
            have h12 : memsP b y3.2 = r12 := h12
            show (memsP b y3.2).bind _ = _
            rw [h12]
            cases r12 with
            | err k => subst h13; subst h14; rfl
            | ok y4 =>
              have h13 : memsP b y4.2 = r13 := h13
              show (memsP b y4.2).bind _ = _
              rw [h13]
              cases r13 with
              | err k => subst h14; rfl
              | ok y5 =>
                have h14 : attsP b y5.2 = r14 := h14
                show (attsP b y5.2).bind _ = _
                rw [h14]
                cases r14 <;> rfl
theorem im5_chain {mi ma n : Nat} {s s6 : Rz Nat} {r5 : Rz (Nat × Nat)} (h5 : onR s (rdN 2) b = r5) (hn : valN r5 = (n : Int)) (h6 : (if (n : Int) < 1 ∨ 1024 < (n : Int) then failR (stR r5) 24 else stR r5) = s6) :
    onR s (im5 mi ma) b = onR s6 (im7 mi ma n) b := by
  unfold im5
  rw [onR_bind, h5]
  cases r5 with
  | err k =>
    have hn : (0 : Int) = (n : Int) := hn
    rw [if_pos (by omega)] at h6
    subst h6; rfl
  | ok x =>
    have hn : x.1 = n := by have : (x.1 : Int) = (n : Int) := hn; omega
    subst hn
    show (if x.1 < 1 ∨ 1024 < x.1 then failP 24 else im7 mi ma x.1) b x.2 = _
    by_cases h : x.1 < 1 ∨ 1024 < x.1
    · rw [if_pos (by omega)] at h6; subst h6; rw [if_pos h]; rfl
    · rw [if_neg (by omega)] at h6; subst h6; rw [if_neg h]; rfl
theorem im2_chain {s s4 : Rz Nat} {r2 r3 : Rz (Nat × Nat)} (h2 : onR s (rdN 2) b = r2) (h3 : onR (stR r2) (rdN 2) b = r3) (h4 : (if valN r3 < 45 ∨ 52 < valN r3 then failR (stR r3) 24 else stR r3) = s4) :
    onR s im2 b = onR s4 (im5 (valN r2).toNat (valN r3).toNat) b := by
  unfold im2
  rw [onR_bind, h2]
  cases r2 with
  | err k =>
    subst h3
    rw [if_pos (.inl (by show (0 : Int) < 45; decide))] at h4
    subst h4; rfl
  | ok x =>
    have h3 : rdN 2 b x.2 = r3 := h3
    show (bindP (rdN 2) fun ma => if ma < 45 ∨ 52 < ma then failP 24 else im5 x.1 ma) b x.2 = _
    unfold bindP
    rw [h3]
    cases r3 with
    | err k =>
      rw [if_pos (.inl (by show (0 : Int) < 45; decide))] at h4
      subst h4; rfl
    | ok y =>
      have hv : valN (.ok y) = (y.1 : Int) := rfl
      have hx : valN (.ok x) = (x.1 : Int) := rfl
      rw [hv] at h4 ⊢
      rw [hx, Int.toNat_natCast, Int.toNat_natCast]
      show (if y.1 < 45 ∨ 52 < y.1 then failP 24 else im5 x.1 y.1) b y.2 = _
      by_cases h : y.1 < 45 ∨ 52 < y.1
      · rw [if_pos (by omega)] at h4; subst h4; rw [if_pos h]; rfl
      · rw [if_neg (by omega)] at h4; subst h4; rw [if_neg h]; rfl
theorem img_chain {s1 : Rz Nat} {r0 : Rz (Nat × Nat)} (h0 : onR (.ok 0) (rdN 4) b = r0) (h1 : (if valN r0 ≠ 3405691582 then failR (stR r0) 24 else stR r0) = s1) : imgP b 0 = onR s1 im2 b := by
  have e : imgP b 0 = onR (.ok 0) imgP b := rfl
  rw [e, img_im2, onR_bind, h0]
  cases r0 with
  | err k =>
    rw [if_pos (by show (0 : Int) ≠ _; decide)] at h1
    subst h1; rfl
  | ok x =>
    have hv : valN (.ok x) = (x.1 : Int) := rfl
    rw [hv] at h1
    show (if x.1 ≠ 3405691582 then failP 24 else im2) b x.2 = _
    by_cases h : x.1 ≠ 3405691582
    · rw [if_pos (by omega)] at h1; subst h1; rw [if_pos h]; rfl
    · rw [if_neg (by omega)] at h1; subst h1; rw [if_neg h]; rfl
end
end Go.Proofs.Ytdioijhmmmnbgaa
namespace Go.Proofs.Ytdioijhmmmnbgaa
open Go.RowKit
section
variable {s : Rz Nat} {b : List UInt8}
theorem cnt_le : 0 ≤ valN (onR s cntI b) ∧ valN (onR s cntI b) ≤ 64 := by
  rw [cnt_num]
  cases onR s (rdN 2) b with
  | err k => show (0 : Int) ≤ 0 ∧ (0 : Int) ≤ 64; omega
  | ok x =>
    show 0 ≤ valN (if 64 < x.1 then Rz.err 24 else Rz.ok x) ∧ valN (if 64 < x.1 then Rz.err 24 else Rz.ok x) ≤ 64
    by_cases h : 64 < x.1
    · rw [if_pos h]; show (0 : Int) ≤ 0 ∧ (0 : Int) ≤ 64; omega
    · rw [if_neg h]; show (0 : Int) ≤ (x.1 : Int) ∧ (x.1 : Int) ≤ 64; omega
theorem rep_round {α : Type} {A : Py α} {acc : List α} {p m : Nat} {R : Rz (List α × Nat)} {r : Rz (α × Nat)} {y : α} (hR : repR A b acc (.ok p) (m + 1) = R) (h : onR (.ok p) A b = r) (hy : ∀ x, r = .ok x → y = x.1) : repR A b (acc ++ [y]) (stR r) m = R := by
  rw [onR_ok] at h
  cases r with
  | err k => rw [← hR, repR_bad h]; rfl
  | ok x => rw [← hR, repR_step h, hy x rfl]; rfl
theorem att_round {acc : List Att} {p m n : Nat} {R : Rz (List Att × Nat)} {r1 r2 : Rz (Nat × Nat)} {r3 : Rz (List UInt8 × Nat)} (hR : repR attP b acc (.ok p) (m + 1) = R) (h1 : onR (.ok p) (rdN 2) b = r1) (h2 : onR (stR r1) (rdN 4) b = r2) (hn : valN r2 = (n : Int)) (h3 : onR (stR r2) (rdB n) b = r3) :
    repR attP b (acc ++ [⟨valN r1, valB r3⟩]) (stR r3) m = R := by
  have h := att_chain h1 h2 hn h3
  have e := rep_round (y := (⟨valN r1, valB r3⟩ : Att)) hR h (fun x hx => by
    cases r3 with
    | err k => cases hx
    | ok z =>
      have hx : Rz.ok ((⟨valN r1, z.1⟩ : Att), z.2) = Rz.ok x := hx
      injection hx with hx; rw [← hx]; rfl)
  have e2 : stR (r3.bind fun z => .ok ((⟨valN r1, z.1⟩ : Att), z.2)) = stR r3 := by cases r3 <;> rfl
  rw [e2] at e
  exact e
theorem mem_round {acc : List Mem} {p m : Nat} {R : Rz (List Mem × Nat)} {r1 r2 r3 : Rz (Nat × Nat)} {r4 : Rz (List Att × Nat)} {l : List Att} (hR : repR memP b acc (.ok p) (m + 1) = R) (h1 : onR (.ok p) (rdN 2) b = r1) (h2 : onR (stR r1) (rdN 2) b = r2) (h3 : onR (stR r2) (rdN 2) b = r3) (h4 : onR (stR r3) attsP b = r4)
    (hl : ∀ x, r4 = .ok x → l = x.1) : repR memP b (acc ++ [⟨valN r1, valN r2, valN r3, l⟩]) (stR r4) m = R := by
  have h := mem_chain h1 h2 h3 h4
  have e := rep_round (y := (⟨valN r1, valN r2, valN r3, l⟩ : Mem)) hR h (fun x hx => by
    cases r4 with
    | err k => cases hx
    | ok z =>
      have hx : Rz.ok ((⟨valN r1, valN r2, valN r3, z.1⟩ : Mem), z.2) = Rz.ok x := hx
      injection hx with hx; rw [← hx, hl z rfl])
  have e2 : stR (r4.bind fun z => .ok ((⟨valN r1, valN r2, valN r3, z.1⟩ : Mem), z.2)) = stR r4 := by cases r4 <;> rfl
  rw [e2] at e
  exact e
/-- At the end: no more, or an error. -/
theorem rep_end {α : Type} {A : Py α} {acc : List α} {R : Rz (List α × Nat)} {n : Nat} (hR : repR A b acc s n = R) (h : n = 0 ∨ ∃ k, s = .err k) : stR R = s ∧ ∀ x, R = .ok x → acc = x.1 := by
  cases s with
  | err k => rw [repR_err] at hR; subst hR; exact ⟨rfl, fun x hx => by cases hx⟩
  | ok p =>
    rcases h with rfl | ⟨k, hk⟩
    · rw [repR_zero] at hR; subst hR; exact ⟨rfl, fun x hx => by injection hx with hx; rw [← hx]⟩
    · cases hk
end
end Go.Proofs.Ytdioijhmmmnbgaa
