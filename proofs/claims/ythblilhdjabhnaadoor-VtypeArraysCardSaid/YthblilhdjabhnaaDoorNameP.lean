/- Plain facts on names, descriptors and texts of class files: nothing of the program. -/
import Derived.Lib.Split
import Derived.Lib.SplitLaws
import Derived.Lib.IndexBytes
import Derived.Lib.IndexLaws
import Derived.Lib.CountLaws
namespace Go.Proofs.YthblilhdjabhnaaDoor
open Go.Lib

/-- The bytes that stand in no name: . ; [ \ ( ) < > -/
def badL : List UInt8 := [46, 59, 91, 92, 40, 41, 60, 62]
/-- May the byte stand in a name? -/
def okc (c : UInt8) : Bool := decide (32 < c.toNat) && c.toNat != 127 && !badL.contains c
def cleanB (l : List UInt8) : Bool := l.all okc && !l.isEmpty
theorem indexByte_mem (l : List UInt8) (c : UInt8) : (0 ≤ indexByte l c) ↔ c ∈ l := by
  induction l with
  | nil => simp [indexByte]
  | cons b r ih =>
    have hge := indexByte_ge r c
    unfold indexByte
    by_cases h : b = c
    · subst h; simp
    · have h1 : (b == c) = false := by simpa using h
      rw [h1]
      by_cases h2 : indexByte r c = -1
      · rw [h2]
        have h3 : c ∉ r := fun hm => by have := ih.2 hm; omega
        have h4 : ¬ c = b := fun e => h e.symm
        simp [h3, h4]
      · have h3 : (indexByte r c == -1) = false := by simpa using h2
        rw [h3]
        have h4 : c ∈ r := ih.1 (by omega)
        simp [h4]; omega

/-- A class's name, byte by byte: n bytes of the part have gone by. -/
def classGo : List UInt8 → Nat → Bool
  | [], n => decide (0 < n)
  | c :: r, n => if c = 47 then decide (0 < n) && classGo r 0 else okc c && classGo r (n + 1)
theorem classGo_none (l : List UInt8) (h : (47 : UInt8) ∉ l) (n : Nat) : classGo l n = (l.all okc && decide (0 < n + l.length)) := by
  induction l generalizing n with
  | nil => simp [classGo]
  | cons c r ih =>
    have hc : ¬ c = 47 := fun e => h (by simp [e])
    have hr : (47 : UInt8) ∉ r := fun hm => h (by simp [hm])
    unfold classGo
    rw [if_neg hc, ih hr]
    simp only [List.all_cons, List.length_cons]
    rw [show n + 1 + r.length = n + (r.length + 1) by omega, Bool.and_assoc]
theorem classGo_at (a r : List UInt8) (h : (47 : UInt8) ∉ a) (n : Nat) : classGo (a ++ 47 :: r) n = (a.all okc && decide (0 < n + a.length) && classGo r 0) := by
  induction a generalizing n with
  | nil => simp [classGo]
  | cons c t ih =>
    have hc : ¬ c = 47 := fun e => h (by simp [e])
    have hr : (47 : UInt8) ∉ t := fun hm => h (by simp [hm])
    have e : classGo (c :: (t ++ 47 :: r)) n = (if c = 47 then decide (0 < n) && classGo (t ++ 47 :: r) 0 else okc c && classGo (t ++ 47 :: r) (n + 1)) := rfl
    rw [List.cons_append, e, if_neg hc, ih hr]
    simp only [List.all_cons, List.length_cons]
    rw [show n + 1 + t.length = n + (t.length + 1) by omega]
    simp [Bool.and_assoc]
theorem split_class (k : Nat) : ∀ l : List UInt8, count l [47] = k → (splitK [47] 0 k l).all cleanB = classGo l 0 := by
  induction k with
  | zero =>
    intro l hk
    rw [count_one] at hk
    have hm : (47 : UInt8) ∉ l := List.count_eq_zero.1 hk
    rw [classGo_none l hm]
    simp only [splitK, List.all_cons, List.all_nil, Bool.and_true, cleanB]
    congr 1
    cases l <;> simp
  | succ k ih =>
    intro l hk
    have hne : ¬ index l [47] = -1 := fun e => by rw [count_miss e] at hk; omega
    have hge := index_ge l [47]
    obtain ⟨i, hi⟩ := Int.eq_ofNat_of_zero_le (show 0 ≤ index l [47] by omega)
    have hb : indexByte l 47 = i := by rw [← index_one]; exact hi
    obtain ⟨h1, h2⟩ := indexByte_some hb
    have hc := count_hit (s := l) (sub := [47]) (by simp) hi
    rw [hk] at hc
    obtain ⟨hil, hi47⟩ := List.getElem?_eq_some_iff.1 h1
    have hl : l = l.take i ++ 47 :: l.drop (i + 1) := by
      rw [← hi47, ← List.drop_eq_getElem_cons hil, List.take_append_drop]
    have hm : (47 : UInt8) ∉ l.take i := fun hmem => by
      obtain ⟨j, hj⟩ := List.getElem?_of_mem hmem
      rw [List.getElem?_take] at hj
      split at hj
      · exact h2 j (by assumption) hj
      · cases hj
    unfold splitK
    rw [show (index l [47] == -1) = false by simpa using hne]
    simp only [Bool.false_eq_true, if_false, hi, Int.toNat_natCast, Nat.add_zero, List.length_singleton, List.all_cons]
    rw [ih _ (by simpa using (by simp only [List.length_singleton] at hc; omega))]
    conv => rhs; rw [hl, classGo_at _ _ hm]
    congr 1
    unfold cleanB
    congr 1
    cases hq : l.take i <;> simp
theorem split_all (l : List UInt8) : (split l [47]).all cleanB = classGo l 0 := split_class _ l rfl
end Go.Proofs.YthblilhdjabhnaaDoor
