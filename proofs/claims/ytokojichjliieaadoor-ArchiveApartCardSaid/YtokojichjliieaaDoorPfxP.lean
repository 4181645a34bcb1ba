/- Plain facts on canonical prefix codes. -/
import Derived.Laws.BitsLemmas
namespace Go.Proofs.YtokojichjliieaaDoor

/-- How many symbols have words of n bits; the first word of n bits; the symbols that have n bits, rising. -/
def cntP (l : List Nat) (n : Nat) : Nat := if n = 0 then 0 else l.count n
def firstP (l : List Nat) : Nat → Nat
  | 0 => 0
  | n + 1 => 2 * (firstP l n + cntP l n)
def symsP (l : List Nat) (k n : Nat) : List Nat := (List.range k).filter fun s => l[s]? == some n
def kraftTo (l : List Nat) : Nat → Nat
  | 0 => 0
  | n + 1 => 2 * kraftTo l n + cntP l (n + 1)
def usedP (l : List Nat) : Nat := (l.filter fun n => n != 0).length
/-- Do lengths make a code? -/
def codeB (l : List Nat) (lone : Bool) : Bool := decide (kraftTo l 15 = 32768) || (lone && (decide (usedP l = 0) || (decide (usedP l = 1) && decide (l.count 1 = 1))))
theorem kraft_first (l : List Nat) (n : Nat) : firstP l n + cntP l n = kraftTo l n := by
  induction n with
  | zero => rfl
  | succ n ih => simp only [firstP, kraftTo, ih]
theorem kraft_mono (l : List Nat) (n d : Nat) : kraftTo l n * 2 ^ d ≤ kraftTo l (n + d) := by
  induction d with
  | zero => simp
  | succ d ih =>
    rw [← Nat.add_assoc]
    simp only [kraftTo]
    rw [Nat.pow_succ, ← Nat.mul_assoc]; omega
/-- A word of n bits has no more than n bits. -/
theorem first_bound {l : List Nat} (h : kraftTo l 15 ≤ 32768) {n : Nat} (hn : n ≤ 15) : firstP l n + cntP l n ≤ 2 ^ n := by
  rw [kraft_first]
  have h1 := kraft_mono l n (15 - n)
  rw [show n + (15 - n) = 15 by omega] at h1
  have h2 : (2 : Nat) ^ 15 = 2 ^ n * 2 ^ (15 - n) := by rw [← Nat.pow_add]; congr 1; omega
  have h3 : 0 < 2 ^ (15 - n) := Nat.two_pow_pos _
  have h4 : kraftTo l n * 2 ^ (15 - n) ≤ 2 ^ n * 2 ^ (15 - n) := by rw [← h2]; omega
  exact Nat.le_of_mul_le_mul_right h4 h3
theorem symsP_succ (l : List Nat) (k n : Nat) : symsP l (k + 1) n = symsP l k n ++ (if l[k]? = some n then [k] else []) := by
  unfold symsP
  rw [List.range_succ, List.filter_append]
  congr 1
  by_cases h : l[k]? = some n <;> simp [h]
theorem count_take (l : List Nat) (k n : Nat) (hk : k ≤ l.length) : (symsP l k n).length = (l.take k).count n := by
  induction k with
  | zero => simp [symsP]
  | succ k ih =>
    rw [symsP_succ, List.length_append, ih (by omega), List.take_add_one, List.getElem?_eq_getElem (show k < l.length by omega)]
    simp only [Option.toList_some, List.count_append, Option.some.injEq]
    by_cases h : l[k] = n <;> simp [h]
theorem symsP_len (l : List Nat) (n : Nat) : (symsP l l.length n).length = l.count n := by
  rw [count_take _ _ _ (Nat.le_refl _), List.take_length]
/-- The symbol of a word of n bits, among the first k symbols. -/
def symK (l : List Nat) (k : Nat) (n c : Nat) : Option Nat := if n = 0 then none else if firstP l n ≤ c then (symsP l k n)[c - firstP l n]? else none
def symAt (l : List Nat) (n c : Nat) : Option Nat := symK l l.length n c
theorem symK_zero (l : List Nat) (n c : Nat) : symK l 0 n c = none := by
  unfold symK symsP
  split
  · rfl
  · split <;> simp
theorem symK_same {l : List Nat} {k m : Nat} (hk : l[k]? = some m) (hm : m ≠ 0) : symK l (k + 1) m (firstP l m + (symsP l k m).length) = some k := by
  unfold symK
  rw [if_neg hm, if_pos (by omega), symsP_succ, if_pos hk]
  rw [show firstP l m + (symsP l k m).length - firstP l m = (symsP l k m).length by omega]
  simp
theorem symK_other {l : List Nat} {k m n c : Nat} (hk : l[k]? = some m) (h : ¬ (n = m ∧ c = firstP l m + (symsP l k m).length)) : symK l (k + 1) n c = symK l k n c := by
  unfold symK
  split
  · rfl
  · split
    · rename_i h1
      rw [symsP_succ]
      by_cases hn : n = m
      · subst hn
        rw [if_pos hk]
        rcases Nat.lt_or_ge (c - firstP l n) (symsP l k n).length with h2 | h2
        · rw [List.getElem?_append_left h2]
        · rw [List.getElem?_append_right h2, List.getElem?_eq_none h2]
          have h3 : c - firstP l n - (symsP l k n).length ≠ 0 := fun e => h ⟨rfl, by omega⟩
          obtain ⟨q, hq⟩ : ∃ q, c - firstP l n - (symsP l k n).length = q + 1 := ⟨c - firstP l n - (symsP l k n).length - 1, by omega⟩
          rw [hq]; simp
      · rw [if_neg (by rw [hk]; intro e; injection e with e; exact hn e.symm)]; simp
    · rfl
theorem symK_skip {l : List Nat} {k n c : Nat} (hk : l[k]? = some 0) : symK l (k + 1) n c = symK l k n c := by
  by_cases hn : n = 0
  · unfold symK; rw [if_pos hn, if_pos hn]
  · exact symK_other hk (fun e => hn e.1)
def mostP (l : List Nat) : Nat := l.foldl max 0
end Go.Proofs.YtokojichjliieaaDoor
