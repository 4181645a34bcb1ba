/- Plain facts on descriptors: with how many bytes a descriptor begins. -/
import Derived.Test.YthblilhdjabhnaaDoorNameP
namespace Go.Proofs.YthblilhdjabhnaaDoor
open Go.Lib

/-- How many brackets stand ahead. -/
def skipB : List UInt8 → Nat
  | [] => 0
  | c :: r => if c = 91 then skipB r + 1 else 0
def primL : List UInt8 := [66, 67, 83, 90, 73, 74]
def classOk (l : List UInt8) : Bool := decide (l.length ≤ 58) && classGo l 0
/-- How many bytes the descriptor takes with which l begins; 0: it begins with none. -/
def headN (l : List UInt8) : Nat :=
  if 8 < skipB l then 0
  else match l[skipB l]? with
    | none => 0
    | some c =>
      if c ∈ primL then skipB l + 1
      else if c = 76 ∧ 0 ≤ indexByte l 59 ∧ classOk ((l.drop (skipB l + 1)).take ((indexByte l 59).toNat - (skipB l + 1))) = true then (indexByte l 59).toNat + 1
      else 0
theorem skipB_le (l : List UInt8) : skipB l ≤ l.length := by
  induction l with
  | nil => simp [skipB]
  | cons c r ih => unfold skipB; split <;> simp <;> omega
theorem skipB_step {l : List UInt8} {k : Nat} {c : UInt8} (h : l[k]? = some c) (hk : skipB l = k + skipB (l.drop k)) (hc : c = 91) : skipB l = (k + 1) + skipB (l.drop (k + 1)) := by
  obtain ⟨hl, he⟩ := List.getElem?_eq_some_iff.1 h
  rw [hk, List.drop_eq_getElem_cons hl, he]
  simp [skipB, hc]; omega
theorem skipB_stop {l : List UInt8} {k : Nat} {c : UInt8} (h : l[k]? = some c) (hk : skipB l = k + skipB (l.drop k)) (hc : ¬ c = 91) : skipB l = k := by
  obtain ⟨hl, he⟩ := List.getElem?_eq_some_iff.1 h
  rw [hk, List.drop_eq_getElem_cons hl, he]
  simp [skipB, hc]
theorem skipB_full {l : List UInt8} {k : Nat} (h : l.length ≤ k) (hk : skipB l = k + skipB (l.drop k)) : skipB l = k := by
  rw [hk, List.drop_eq_nil_of_le h]; rfl
theorem skipB_at {l : List UInt8} : ∀ {k : Nat}, k < skipB l → l[k]? = some 91 := by
  induction l with
  | nil => intro k h; simp [skipB] at h
  | cons c r ih =>
    intro k h
    unfold skipB at h
    split at h
    · cases k with
      | zero => simp_all
      | succ k => simpa using ih (by omega)
    · omega
/-- The first semicolon stands behind the brackets and the letter. -/
theorem semi_behind {l : List UInt8} (hc : l[skipB l]? = some 76) (h0 : 0 ≤ indexByte l 59) : skipB l + 1 ≤ (indexByte l 59).toNat ∧ (indexByte l 59).toNat < l.length := by
  obtain ⟨i, hi⟩ := Int.eq_ofNat_of_zero_le h0
  obtain ⟨h1, h2⟩ := indexByte_some hi
  have hil := (List.getElem?_eq_some_iff.1 h1).1
  rw [hi]
  refine ⟨?_, by simpa using hil⟩
  rcases Nat.lt_or_ge i (skipB l) with h | h
  · rw [skipB_at h] at h1; cases h1
  · rcases Nat.lt_or_ge (skipB l) i with h3 | h3
    · simp; omega
    · obtain rfl : i = skipB l := by omega
      rw [hc] at h1; cases h1
theorem headN_le (l : List UInt8) : headN l ≤ l.length := by
  unfold headN
  split
  · omega
  · split
    · omega
    · rename_i c hc
      have := (List.getElem?_eq_some_iff.1 hc).1
      split
      · omega
      · split
        · rename_i h
          obtain ⟨rfl, h0, _⟩ := h
          have := semi_behind hc h0
          omega
        · omega
end Go.Proofs.YthblilhdjabhnaaDoor
