/- Plain facts on making a prefix code of lengths. -/
import Derived.Test.YtbhljigppljjbaaPfxP
namespace Go.Proofs.Ytbhljigppljjbaa

theorem cntP_take {l : List Nat} {k m : Nat} (hk : l[k]? = some m) (i : Nat) : cntP (l.take (k + 1)) i = if i = m ∧ m ≠ 0 then cntP (l.take k) i + 1 else cntP (l.take k) i := by
  have hkl : k < l.length := by
    rcases Nat.lt_or_ge k l.length with h | h
    · exact h
    · rw [List.getElem?_eq_none h] at hk; cases hk
  unfold cntP
  rw [List.take_add_one, hk]
  by_cases h0 : i = 0
  · subst h0
    by_cases hm : 0 = m
    · subst hm; simp
    · simp [hm]
  · rw [if_neg h0, if_neg h0, Option.toList_some, List.count_append, List.count_singleton]
    by_cases h : i = m
    · subst h; simp [h0]
    · have h' : ¬ m = i := fun e => h e.symm
      simp [h, h']
theorem cntP_le (l : List Nat) (i : Nat) : cntP l i ≤ l.length := by
  unfold cntP; split
  · omega
  · exact List.count_le_length
theorem usedP_take {l : List Nat} {k m : Nat} (hk : l[k]? = some m) : usedP (l.take (k + 1)) = if m ≠ 0 then usedP (l.take k) + 1 else usedP (l.take k) := by
  unfold usedP
  rw [List.take_add_one, hk, Option.toList_some, List.filter_append, List.length_append]
  by_cases h : m = 0 <;> simp [h]
theorem usedP_le (l : List Nat) : usedP l ≤ l.length := List.length_filter_le _ _
theorem kraft_le_over {l : List Nat} {n : Nat} (hn : n ≤ 15) (h : 32768 < kraftTo l n * 2 ^ (15 - n)) : 32768 < kraftTo l 15 := by
  have h1 := kraft_mono l n (15 - n)
  rw [show n + (15 - n) = 15 by omega] at h1
  omega
theorem count_pos_used {l : List Nat} {n : Nat} (hn : n ≠ 0) : l.count n ≤ usedP l := by
  unfold usedP
  induction l with
  | nil => simp
  | cons a l ih =>
    rw [List.count_cons, List.filter_cons]
    by_cases ha : a = 0
    · subst ha
      have : ¬ (0 : Nat) = n := fun e => hn e.symm
      simpa [this] using ih
    · simp only [bne_iff_ne, ne_eq, ha, not_false_eq_true, if_true, List.length_cons]
      split <;> omega
theorem used_sum {l : List Nat} {a b : Nat} (ha : a ≠ 0) (hb : b ≠ 0) (hab : a ≠ b) : l.count a + l.count b ≤ usedP l := by
  unfold usedP
  induction l with
  | nil => simp
  | cons c l ih =>
    rw [List.count_cons, List.count_cons, List.filter_cons]
    by_cases hc : c = 0
    · subst hc
      have h1 : ¬ (0 : Nat) = a := fun e => ha e.symm
      have h2 : ¬ (0 : Nat) = b := fun e => hb e.symm
      simpa [h1, h2] using ih
    · simp only [bne_iff_ne, ne_eq, hc, not_false_eq_true, if_true, List.length_cons, beq_iff_eq]
      split <;> split <;> omega
/-- Few symbols: the sum is small. -/
theorem kraft_lone {l : List Nat} (h : usedP l = 0 ∨ (usedP l = 1 ∧ l.count 1 = 1)) : kraftTo l 15 ≤ 32768 := by
  have hz : ∀ n, 2 ≤ n → l.count n = 0 := fun n hn => by
    rcases h with h | ⟨h, h1⟩
    · have := count_pos_used (l := l) (n := n) (by omega); omega
    · have := used_sum (l := l) (a := 1) (b := n) (by omega) (by omega) (by omega); omega
  have h1 : l.count 1 ≤ 1 := by
    rcases h with h | ⟨_, h1⟩
    · have := count_pos_used (l := l) (n := 1) (by omega); omega
    · omega
  simp only [kraftTo, cntP]
  simp only [hz 2 (by omega), hz 3 (by omega), hz 4 (by omega), hz 5 (by omega), hz 6 (by omega), hz 7 (by omega), hz 8 (by omega), hz 9 (by omega), hz 10 (by omega), hz 11 (by omega), hz 12 (by omega), hz 13 (by omega), hz 14 (by omega), hz 15 (by omega)]
  simp
  omega
theorem code_over {l : List Nat} {lone : Bool} (h : 32768 < kraftTo l 15) : codeB l lone = false := by
  unfold codeB
  have h1 : ¬ kraftTo l 15 = 32768 := by omega
  have h2 : ¬ usedP l = 0 := fun e => by have := kraft_lone (l := l) (.inl e); omega
  have h3 : ¬ (usedP l = 1 ∧ l.count 1 = 1) := fun e => by have := kraft_lone (l := l) (.inr e); omega
  have h4 : ¬ usedP l = 1 ∨ ¬ l.count 1 = 1 := by omega
  simp only [h1, h2, decide_false, Bool.false_or, Bool.and_eq_false_iff]
  right
  rcases h4 with h4 | h4 <;> simp [h4]
theorem code_kraft {l : List Nat} {lone : Bool} (h : codeB l lone = true) : kraftTo l 15 ≤ 32768 := by
  rcases Nat.lt_or_ge 32768 (kraftTo l 15) with h' | h'
  · rw [code_over h'] at h; cases h
  · exact h'
/-- What is left behind n lengths. -/
def leftP (l : List Nat) (n : Nat) : Nat := 32768 - kraftTo l n * 2 ^ (15 - n)
theorem left_succ {l : List Nat} {n : Nat} (hn : n < 15) (h : kraftTo l n * 2 ^ (15 - n) ≤ 32768) :
    leftP l n + kraftTo l n * 2 ^ (15 - n) = 32768 ∧ kraftTo l (n + 1) * 2 ^ (15 - (n + 1)) = kraftTo l n * 2 ^ (15 - n) + cntP l (n + 1) * 2 ^ (15 - (n + 1)) := by
  refine ⟨by unfold leftP; omega, ?_⟩
  have e : 15 - n = (15 - (n + 1)) + 1 := by omega
  rw [e, Nat.pow_succ, kraftTo, Nat.add_mul]
  congr 1
  rw [← Nat.mul_assoc]; rw [Nat.mul_comm 2, Nat.mul_assoc, Nat.mul_assoc, Nat.mul_comm 2]
theorem mostP_le {l : List Nat} (h : ∀ x ∈ l, x ≤ 15) : mostP l ≤ 15 := by
  unfold mostP
  suffices ∀ a, a ≤ 15 → List.foldl max a l ≤ 15 from this 0 (by omega)
  induction l with
  | nil => intro a ha; exact ha
  | cons b l ih =>
    intro a ha
    rw [List.foldl_cons]
    exact ih (fun x hx => h x (List.mem_cons_of_mem _ hx)) _ (by have := h b (List.mem_cons_self ..); omega)
theorem mostP_take {l : List Nat} {k m : Nat} (hk : l[k]? = some m) : mostP (l.take (k + 1)) = max (mostP (l.take k)) m := by
  unfold mostP
  rw [List.take_add_one, hk, Option.toList_some, List.foldl_append]
  rfl
theorem symsP_len_succ {l : List Nat} {k m : Nat} (hk : l[k]? = some m) (i : Nat) : (symsP l (k + 1) i).length = if i = m then (symsP l k i).length + 1 else (symsP l k i).length := by
  rw [symsP_succ, List.length_append, hk]
  by_cases h : i = m
  · subst h; simp
  · have h' : ¬ m = i := fun e => h e.symm
    simp [h, h']
/-- A word fits its bits. -/
theorem word_fits {l : List Nat} (h : kraftTo l 15 ≤ 32768) {k m : Nat} (hk : l[k]? = some m) (hm : m ≠ 0) (hm15 : m ≤ 15) : firstP l m + (symsP l k m).length < 2 ^ m := by
  have h1 := first_bound h hm15
  have hkl : k < l.length := by
    rcases Nat.lt_or_ge k l.length with h | h
    · exact h
    · rw [List.getElem?_eq_none h] at hk; cases hk
  have h2 := count_take l (k + 1) m (by omega)
  have h3 := symsP_len_succ hk m
  rw [if_pos rfl] at h3
  have h4 : (l.take (k + 1)).count m ≤ l.count m := (List.take_sublist _ _).count_le _
  unfold cntP at h1
  rw [if_neg hm] at h1
  omega
end Go.Proofs.Ytbhljigppljjbaa
