/- The document's code, its lengths and distances, in plain numbers. -/
import Derived.Test.YtbhljigppljjbaaInfP
import Derived.Test.YtbhljigppljjbaaPfxQ
namespace Go.Proofs.Ytbhljigppljjbaa

/-- How much of the code's room one length takes. -/
def kOne (a n : Nat) : Nat := if 0 < a ∧ a ≤ n then 2 ^ (n - a) else 0
def kSum (l : List Nat) : Nat := (l.map fun a => kOne a 15).sum
theorem cnt_snoc (l : List Nat) (a n : Nat) : cntP (l ++ [a]) n = cntP l n + (if n = a ∧ 0 < a then 1 else 0) := by
  unfold cntP
  by_cases h0 : n = 0
  · rw [if_pos h0, if_pos h0, if_neg (by omega)]
  · rw [if_neg h0, if_neg h0, List.count_append, List.count_singleton]
    by_cases h : n = a
    · subst h; simp; omega
    · have h' : ¬ a = n := fun e => h e.symm
      simp [h, h']
theorem kraft_snoc (l : List Nat) (a : Nat) : ∀ n, kraftTo (l ++ [a]) n = kraftTo l n + kOne a n := by
  intro n
  induction n with
  | zero => unfold kOne; rw [if_neg (by omega)]; rfl
  | succ n ih =>
    simp only [kraftTo]
    rw [ih, cnt_snoc]
    unfold kOne
    by_cases h1 : 0 < a ∧ a ≤ n
    · rw [if_pos h1, if_neg (by omega), if_pos (by omega), show n + 1 - a = (n - a) + 1 by omega, Nat.pow_succ]; omega
    · rw [if_neg h1]
      by_cases h2 : n + 1 = a
      · subst h2; rw [if_pos (by omega), if_pos (by omega), Nat.sub_self, Nat.pow_zero]; omega
      · rw [if_neg (by omega), if_neg (by omega)]; omega
theorem kraft_nil : ∀ n, kraftTo [] n = 0 := by
  intro n
  induction n with
  | zero => rfl
  | succ n ih => simp only [kraftTo, ih]; unfold cntP; split <;> simp
theorem kSum_snoc (l : List Nat) (a : Nat) : kSum (l ++ [a]) = kSum l + kOne a 15 := by
  unfold kSum; rw [List.map_append, List.sum_append]; simp
theorem kSum_take {l : List Nat} {k m : Nat} (hk : l[k]? = some m) : kSum (l.take (k + 1)) = kSum (l.take k) + kOne m 15 := by
  rw [List.take_add_one, hk, Option.toList_some, kSum_snoc]
theorem kSum_eq (l : List Nat) : kSum l = kraftTo l 15 := by
  suffices ∀ k, kSum (l.take k) = kraftTo (l.take k) 15 by have := this l.length; rwa [List.take_length] at this
  intro k
  induction k with
  | zero => rw [List.take_zero, kraft_nil]; rfl
  | succ k ih =>
    cases hk : l[k]? with
    | none => rw [List.take_add_one, hk, Option.toList_none, List.append_nil]; exact ih
    | some m => rw [List.take_add_one, hk, Option.toList_some, kSum_snoc, kraft_snoc, ih]
theorem kSum_le (l : List Nat) : kSum l ≤ l.length * 16384 := by
  suffices ∀ k, k ≤ l.length → kSum (l.take k) ≤ k * 16384 by have := this l.length (Nat.le_refl _); rwa [List.take_length] at this
  intro k
  induction k with
  | zero => intro _; rw [List.take_zero]; exact Nat.le_refl _
  | succ k ih =>
    intro h
    rw [kSum_take (List.getElem?_eq_getElem (by omega : k < l.length))]
    have := ih (by omega)
    have h1 : kOne l[k] 15 ≤ 16384 := by
      unfold kOne; split
      · have : 2 ^ (15 - l[k]) ≤ 2 ^ 14 := Nat.pow_le_pow_right (by decide) (by omega)
        omega
      · omega
    omega
theorem ones_take {l : List Nat} {k m : Nat} (hk : l[k]? = some m) : (l.take (k + 1)).count 1 = (l.take k).count 1 + (if m = 1 then 1 else 0) := by
  rw [List.take_add_one, hk, Option.toList_some, List.count_append, List.count_singleton]
  by_cases h : m = 1
  · subst h; simp
  · have : ¬ 1 = m := fun e => h e.symm
    simp [h]
/-- The symbols that have words of n bits; none has a word of none. -/
def synV (l : List Nat) (n : Nat) : List Nat := if n = 0 then [] else symsP l l.length n
def synK (l : List Nat) (k n : Nat) : List Nat := if n = 0 then [] else symsP l k n
theorem syn_len (l : List Nat) (n : Nat) : (synV l n).length = cntP l n := by
  unfold synV cntP
  split
  · rfl
  · rw [symsP_len]
theorem syn_at {l : List Nat} {n c : Nat} : symAt l n c = if firstP l n ≤ c then (synV l n)[c - firstP l n]? else none := by
  unfold symAt symK synV
  by_cases h : n = 0
  · rw [if_pos h, if_pos h]; split <;> simp
  · rw [if_neg h, if_neg h]
theorem first_fits {l : List Nat} (h : kraftTo l 15 ≤ 32768) {n : Nat} (hn : n ≤ 15) : firstP l n ≤ 32768 := by
  have h1 := first_bound h hn
  have h2 : (2 : Nat) ^ n ≤ 2 ^ 15 := Nat.pow_le_pow_right (by decide) hn
  omega
theorem mem_le_most {l : List Nat} {x : Nat} (hx : x ∈ l) : x ≤ mostP l := by
  unfold mostP
  suffices ∀ a, a ≤ List.foldl max a l ∧ ∀ x ∈ l, x ≤ List.foldl max a l from (this 0).2 x hx
  clear hx
  induction l with
  | nil => intro a; exact ⟨Nat.le_refl _, fun x hx => by cases hx⟩
  | cons b l ih =>
    intro a
    rw [List.foldl_cons]
    have h := ih (max a b)
    refine ⟨by omega, fun x hx => ?_⟩
    rcases List.mem_cons.1 hx with e | e
    · subst e; omega
    · exact h.2 x e
theorem most_le {l : List Nat} {k : Nat} (h : ∀ x ∈ l, x ≤ k) : mostP l ≤ k := by
  unfold mostP
  suffices ∀ a, a ≤ k → List.foldl max a l ≤ k from this 0 (by omega)
  induction l with
  | nil => intro a ha; exact ha
  | cons b l ih =>
    intro a ha
    rw [List.foldl_cons]
    exact ih (fun x hx => h x (List.mem_cons_of_mem _ hx)) _ (by have := h b List.mem_cons_self; omega)
theorem most_is {l : List Nat} (h15 : ∀ x ∈ l, x ≤ 15) {k : Nat} (hk : ∀ j, k < j → j ≤ 15 → (synV l j).length = 0) (h : k = 0 ∨ (synV l k).length ≠ 0) : mostP l = k := by
  apply Nat.le_antisymm
  · refine most_le fun x hx => ?_
    rcases Nat.lt_or_ge k x with hlt | hge
    · have h1 := hk x hlt (h15 x hx)
      rw [syn_len] at h1
      unfold cntP at h1
      rw [if_neg (by omega)] at h1
      exact absurd hx (List.count_eq_zero.1 h1)
    · exact hge
  · rcases h with rfl | h
    · exact Nat.zero_le _
    · rw [syn_len] at h
      unfold cntP at h
      split at h
      · exact absurd rfl h
      · exact mem_le_most (List.count_pos_iff.1 (by omega))
theorem len_step : ∀ k, 257 ≤ k → k < 284 → (lenP (k + 1)).1 = (lenP k).1 + 2 ^ (lenP k).2 := by
  have key : ∀ k, k < 284 → 257 ≤ k → (lenP (k + 1)).1 = (lenP k).1 + 2 ^ (lenP k).2 := by decide +kernel
  exact fun k h1 h2 => key k h2 h1
theorem len_more : ∀ k, 257 ≤ k → k < 285 → (lenP k).2 = if 265 ≤ k then 1 + (k - 265) / 4 else 0 := by
  have key : ∀ k, k < 285 → 257 ≤ k → (lenP k).2 = if 265 ≤ k then 1 + (k - 265) / 4 else 0 := by decide +kernel
  exact fun k h1 h2 => key k h2 h1
theorem len_bd : ∀ k, 257 ≤ k → k < 286 → (lenP k).1 ≤ 258 ∧ (lenP k).2 ≤ 5 ∧ 3 ≤ (lenP k).1 := by
  have key : ∀ k, k < 286 → 257 ≤ k → (lenP k).1 ≤ 258 ∧ (lenP k).2 ≤ 5 ∧ 3 ≤ (lenP k).1 := by decide +kernel
  exact fun k h1 h2 => key k h2 h1
theorem dst_step : ∀ k, k < 29 → (dstP (k + 1)).1 = (dstP k).1 + 2 ^ (dstP k).2 := by decide +kernel
theorem dst_more : ∀ k, k < 30 → (dstP k).2 = if 4 ≤ k then 1 + (k - 4) / 2 else 0 := by decide +kernel
theorem dst_bd : ∀ k, k < 30 → (dstP k).1 ≤ 24577 ∧ (dstP k).2 ≤ 13 ∧ 1 ≤ (dstP k).1 := by decide +kernel
end Go.Proofs.Ytbhljigppljjbaa
