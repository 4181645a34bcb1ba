/- Plain facts on texts: all instances replaced, cut at a sign; the lines of a text. -/
import Derived.Lib.Replace
namespace Go.Proofs.YtokojichjliieaaDoor
open Go.Lib

theorem pre_ne {a c : UInt8} {l r : List UInt8} (h : ¬ a = c) : (a :: l).isPrefixOf (c :: r) = false := by
  have : (a == c) = false := by simpa using h
  show (a == c && _) = false
  rw [this]; rfl
theorem idx_zero {s old : List UInt8} (h : old.isPrefixOf s = true) : index s old = 0 := by
  cases s with
  | nil => cases old with
    | nil => rfl
    | cons a t => simp at h
  | cons c r => unfold index; rw [if_pos h]
theorem idx_miss {c : UInt8} {r old : List UInt8} (h : old.isPrefixOf (c :: r) = false) : (index r old = -1 ∧ index (c :: r) old = -1) ∨ ∃ i : Nat, index r old = i ∧ index (c :: r) old = (i + 1 : Nat) := by
  have hge := index_ge r old
  have e : index (c :: r) old = if old.isPrefixOf (c :: r) then 0 else if index r old == -1 then -1 else index r old + 1 := rfl
  rw [e, if_neg (by rw [h]; decide)]
  by_cases h1 : index r old = -1
  · exact .inl ⟨h1, by rw [h1]; rfl⟩
  · refine .inr ⟨(index r old).toNat, by omega, ?_⟩
    rw [if_neg (by simpa using h1)]; omega
theorem cnt_zero {s old : List UInt8} (ho : old ≠ []) (h : old.isPrefixOf s = true) : count s old = 1 + count (s.drop old.length) old := by
  rw [count_hit (i := 0) ho (by rw [idx_zero h]; rfl), Nat.zero_add]
theorem cnt_miss {c : UInt8} {r old : List UInt8} (ho : old ≠ []) (h : old.isPrefixOf (c :: r) = false) : count (c :: r) old = count r old := by
  rcases idx_miss h with ⟨h1, h2⟩ | ⟨i, h1, h2⟩
  · rw [count_miss h1, count_miss h2]
  · rw [count_hit ho h1, count_hit ho h2]
    congr 2
    rw [show i + 1 + old.length = (i + old.length) + 1 by omega]; rfl
theorem rep_eq {s old new : List UInt8} (hn : (old == new) = false) : replaceAll s old new = replaceK old new (count s old) s := by
  unfold replaceAll replace replaceNum
  rw [hn]; simp
theorem rep_hit {s old new : List UInt8} (ho : old ≠ []) (hn : (old == new) = false) (h : old.isPrefixOf s = true) : replaceAll s old new = new ++ replaceAll (s.drop old.length) old new := by
  rw [rep_eq hn, rep_eq hn, cnt_zero ho h, Nat.add_comm, replaceK_hit _ _ _ _ 0 (by rw [idx_zero h]; rfl)]
  simp
theorem repK_miss {c : UInt8} {r old new : List UInt8} (h : old.isPrefixOf (c :: r) = false) (k : Nat) : replaceK old new k (c :: r) = c :: replaceK old new k r := by
  cases k with
  | zero => rfl
  | succ k =>
    rcases idx_miss h with ⟨h1, h2⟩ | ⟨i, h1, h2⟩
    · simp only [replaceK, h1, h2]; simp
    · rw [replaceK_hit _ _ _ _ i h1, replaceK_hit _ _ _ _ (i + 1) h2]
      rw [show i + 1 + old.length = (i + old.length) + 1 by omega]
      simp
theorem rep_miss {c : UInt8} {r old new : List UInt8} (ho : old ≠ []) (hn : (old == new) = false) (h : old.isPrefixOf (c :: r) = false) : replaceAll (c :: r) old new = c :: replaceAll r old new := by
  rw [rep_eq hn, rep_eq hn, cnt_miss ho h, repK_miss h]
theorem rep_nil {old new : List UInt8} (ho : old ≠ []) (hn : (old == new) = false) : replaceAll [] old new = [] := by
  rw [rep_eq hn, count_miss (by cases old with | nil => exact absurd rfl ho | cons a t => rfl)]; rfl
/-- One sign for another. -/
theorem rep_one (a b : UInt8) (h : a ≠ b) (s : List UInt8) : replaceAll s [a] [b] = s.map fun c => if c = a then b else c := by
  have hn : ([a] == [b]) = false := by simpa using h
  induction s with
  | nil => exact rep_nil (by simp) hn
  | cons c r ih =>
    by_cases hc : c = a
    · subst hc
      rw [rep_hit (by simp) hn (by simp)]
      simp [ih]
    · rw [rep_miss (by simp) hn (pre_ne fun e => hc e.symm), ih]
      simp [hc]
/-- The ends of lines made one: a line feed behind a carriage return is none of its own. -/
def normF : Bool → List UInt8 → List UInt8
  | _, [] => []
  | p, c :: r => if c = 10 ∧ p = true then normF false r else (if c = 13 then 10 else c) :: normF (c == 13) r
theorem normF_flag {r : List UInt8} (h : r.head? ≠ some 10) : normF true r = normF false r := by
  cases r with
  | nil => rfl
  | cons c r =>
    have : c ≠ 10 := fun e => h (by rw [e]; rfl)
    simp [normF, this]
theorem norm_rep (s : List UInt8) : replaceAll (replaceAll s [13, 10] [10]) [13] [10] = normF false s := by
  have key : ∀ (n : Nat) (s : List UInt8), s.length ≤ n → replaceAll (replaceAll s [13, 10] [10]) [13] [10] = normF false s := by
    intro n
    induction n with
    | zero =>
      intro s hs
      obtain rfl := List.eq_nil_of_length_eq_zero (Nat.le_zero.1 hs)
      rw [rep_nil (by simp) (by decide), rep_nil (by simp) (by decide)]; rfl
    | succ n ih =>
      intro s hs
      cases s with
      | nil => rw [rep_nil (by simp) (by decide), rep_nil (by simp) (by decide)]; rfl
      | cons c r =>
        simp only [List.length_cons] at hs
        by_cases hc : c = 13
        · subst hc
          cases r with
          | nil =>
            rw [rep_miss (by simp) (by decide) (by decide), rep_nil (by simp) (by decide)]
            decide
          | cons d r =>
            by_cases hd : d = 10
            · subst hd
              have e1 : replaceAll (13 :: 10 :: r) [13, 10] [10] = [10] ++ replaceAll r [13, 10] [10] := rep_hit (by simp) (by decide) (by simp)
              rw [e1, List.singleton_append, rep_miss (by simp) (by decide) (pre_ne (by decide)), ih r (by simp only [List.length_cons] at hs; omega)]
              simp [normF]
            · have e1 : replaceAll (13 :: d :: r) [13, 10] [10] = 13 :: replaceAll (d :: r) [13, 10] [10] := rep_miss (by simp) (by decide) (by
                have : (10 == d) = false := by simpa using fun e : 10 = d => hd e.symm
                show (13 == 13 && (10 == d && _)) = false
                rw [this]; rfl)
              rw [e1, rep_hit (by simp) (by decide) (by simp)]
              show [10] ++ replaceAll (replaceAll (d :: r) [13, 10] [10]) [13] [10] = _
              rw [ih (d :: r) (by omega)]
              simp [normF, hd]
        · have e1 : replaceAll (c :: r) [13, 10] [10] = c :: replaceAll r [13, 10] [10] := rep_miss (by simp) (by decide) (pre_ne fun e => hc e.symm)
          rw [e1, rep_miss (by simp) (by decide) (pre_ne fun e => hc e.symm), ih r (by omega)]
          have : (c == 13) = false := by simpa using hc
          simp [normF, hc, this]
  exact key s.length s (Nat.le_refl _)
/-- Cut at a sign. -/
def cutL (a : UInt8) : List UInt8 → List (List UInt8)
  | [] => [[]]
  | c :: r => if c = a then [] :: cutL a r else match cutL a r with
    | [] => [[c]]
    | x :: xs => (c :: x) :: xs
theorem cutL_ne (a : UInt8) (s : List UInt8) : cutL a s ≠ [] := by
  cases s with
  | nil => simp [cutL]
  | cons c r =>
    unfold cutL
    split
    · simp
    · split <;> simp
theorem splitK_hit' (sep : List UInt8) (k : Nat) (s : List UInt8) (i : Nat) (h : index s sep = i) : splitK sep 0 (k + 1) s = s.take i :: splitK sep 0 k (s.drop (i + sep.length)) := by
  have hm : ¬ (index s sep == -1) = true := fun e => by have := beq_iff_eq.1 e; omega
  have e : (index s sep).toNat = i := by omega
  rw [splitK, if_neg hm, e, Nat.add_zero]
theorem splitK_miss {c : UInt8} {r sep : List UInt8} (h : sep.isPrefixOf (c :: r) = false) (k : Nat) : ∃ x xs, splitK sep 0 k r = x :: xs ∧ splitK sep 0 k (c :: r) = (c :: x) :: xs := by
  cases k with
  | zero => exact ⟨r, [], rfl, rfl⟩
  | succ k =>
    rcases idx_miss h with ⟨h1, h2⟩ | ⟨i, h1, h2⟩
    · refine ⟨r, [], ?_, ?_⟩
      · simp only [splitK, h1]; simp
      · simp only [splitK, h2]; simp
    · rw [splitK_hit' _ _ _ i h1, splitK_hit' _ _ _ (i + 1) h2]
      refine ⟨_, _, rfl, ?_⟩
      rw [show i + 1 + sep.length = (i + sep.length) + 1 by omega]
      simp
theorem split_cut (a : UInt8) (s : List UInt8) : split s [a] = cutL a s := by
  unfold split
  induction s with
  | nil => rfl
  | cons c r ih =>
    by_cases hc : c = a
    · subst hc
      rw [cnt_zero (by simp) (by simp), Nat.add_comm, splitK_hit' _ _ _ 0 (by rw [idx_zero (by simp)]; rfl)]
      simp only [List.take_zero, List.length_singleton, Nat.zero_add, List.drop_succ_cons, List.drop_zero]
      rw [ih]; simp [cutL]
    · have hp : ([a] : List UInt8).isPrefixOf (c :: r) = false := pre_ne fun e => hc e.symm
      rw [cnt_miss (by simp) hp]
      obtain ⟨x, xs, h1, h2⟩ := splitK_miss hp (count r [a])
      rw [ih] at h1
      rw [h2]
      unfold cutL
      rw [if_neg hc, h1]
/-- The lines ahead of the first empty one. -/
def linesOf (s : List UInt8) : List (List UInt8) := (cutL 10 s).takeWhile fun l => !l.isEmpty
def linesM (s : List UInt8) : List (List UInt8) := linesOf (normF false s)
theorem cutL_app (a : UInt8) {x : List UInt8} (h : ∀ c ∈ x, c ≠ a) (y : List UInt8) : cutL a (x ++ a :: y) = x :: cutL a y := by
  induction x with
  | nil => simp [cutL]
  | cons c r ih =>
    have hc : c ≠ a := h c (by simp)
    rw [List.cons_append, cutL, if_neg hc, ih (fun d hd => h d (by simp [hd]))]
theorem cutL_end (a : UInt8) {x : List UInt8} (h : ∀ c ∈ x, c ≠ a) : cutL a x = [x] := by
  induction x with
  | nil => rfl
  | cons c r ih =>
    unfold cutL
    rw [if_neg (h c (by simp)), ih (fun d hd => h d (by simp [hd]))]
theorem normF_app {x : List UInt8} (h : ∀ c ∈ x, c ≠ 13 ∧ c ≠ 10) (y : List UInt8) (hx : x ≠ []) (p : Bool) : normF p (x ++ y) = x ++ normF false y := by
  induction x generalizing p with
  | nil => exact absurd rfl hx
  | cons c r ih =>
    obtain ⟨h1, h2⟩ := h c (by simp)
    have e : (c == 13) = false := by simpa using h1
    simp only [List.cons_append, normF, h1, h2, false_and, if_false, e]
    congr 1
    cases r with
    | nil => rfl
    | cons d r => exact ih (fun q hq => h q (by simp [hq])) (by simp) false
theorem normF_app0 {x : List UInt8} (h : ∀ c ∈ x, c ≠ 13 ∧ c ≠ 10) (y : List UInt8) : normF false (x ++ y) = x ++ normF false y := by
  cases x with
  | nil => rfl
  | cons c r => exact normF_app h y (by simp) false
theorem linesOf_cons {x : List UInt8} (h : ∀ c ∈ x, c ≠ 10) (hx : x ≠ []) (y : List UInt8) : linesOf (x ++ 10 :: y) = x :: linesOf y := by
  unfold linesOf
  rw [cutL_app 10 h, List.takeWhile_cons, if_pos (by cases x with | nil => exact absurd rfl hx | cons => rfl)]
theorem linesOf_nil (y : List UInt8) : linesOf (10 :: y) = [] := by simp [linesOf, cutL]
theorem linesM_nil : linesM [] = [] := rfl
section
variable {x : List UInt8} (h : ∀ c ∈ x, c ≠ 13 ∧ c ≠ 10)
include h
theorem linesM_end (hx : x ≠ []) : linesM x = [x] := by
  have := normF_app0 h []
  rw [List.append_nil] at this
  unfold linesM
  rw [this, show normF false [] = [] from rfl, List.append_nil]
  unfold linesOf
  rw [cutL_end 10 (fun c hc => (h c hc).2), List.takeWhile_cons, if_pos (by cases x with | nil => exact absurd rfl hx | cons => rfl)]; rfl
theorem linesM_lf (hx : x ≠ []) (y : List UInt8) : linesM (x ++ 10 :: y) = x :: linesM y := by
  unfold linesM
  rw [normF_app0 h]
  show linesOf (x ++ normF false (10 :: y)) = _
  rw [show normF false (10 :: y) = 10 :: normF false y by simp [normF], linesOf_cons (fun c hc => (h c hc).2) hx]
theorem linesM_crlf (hx : x ≠ []) (y : List UInt8) : linesM (x ++ 13 :: 10 :: y) = x :: linesM y := by
  unfold linesM
  rw [normF_app0 h, show normF false (13 :: 10 :: y) = 10 :: normF false y by simp [normF], linesOf_cons (fun c hc => (h c hc).2) hx]
theorem linesM_cr (hx : x ≠ []) (y : List UInt8) (hy : y.head? ≠ some 10) : linesM (x ++ 13 :: y) = x :: linesM y := by
  unfold linesM
  rw [normF_app0 h, show normF false (13 :: y) = 10 :: normF true y by simp [normF], normF_flag hy, linesOf_cons (fun c hc => (h c hc).2) hx]
end
theorem linesM_empty {c : UInt8} (h : c = 10 ∨ c = 13) (y : List UInt8) : linesM (c :: y) = [] := by
  unfold linesM
  rcases h with rfl | rfl
  · rw [show normF false (10 :: y) = 10 :: normF false y by simp [normF]]; exact linesOf_nil _
  · rw [show normF false (13 :: y) = 10 :: normF true y by simp [normF]]; exact linesOf_nil _
end Go.Proofs.YtokojichjliieaaDoor
