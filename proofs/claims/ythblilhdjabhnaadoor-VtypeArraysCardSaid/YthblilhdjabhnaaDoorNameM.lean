/- Plain facts on methods' descriptors. -/
import Derived.Test.YthblilhdjabhnaaDoorNameQ
namespace Go.Proofs.YthblilhdjabhnaaDoor
open Go.Lib

def descB (l : List UInt8) : Bool := decide (0 < headN l) && decide (headN l = l.length)
def slotsN (l : List UInt8) : Int := if l = [74] then 2 else if l = [] ∨ l = [86] then 0 else 1
theorem slotsN_range (l : List UInt8) : 0 ≤ slotsN l ∧ slotsN l ≤ 2 := by unfold slotsN; split <;> (try split) <;> omega
/-- What stands behind the bracket: a result. -/
def resB (l : List UInt8) : Bool := decide (l = [86]) || descB l
/-- A method's descriptor from behind its bracket on: the parameters and their slots so far, what is left. -/
def methGo : Nat → List (List UInt8) → Int → List UInt8 → Option (List (List UInt8) × List UInt8)
  | 0, _, _, _ => none
  | _ + 1, _, _, [] => none
  | f + 1, ps, k, c :: r =>
    if c = 41 then (if k < 64 ∧ resB r = true then some (ps, r) else none)
    else if headN (c :: r) = 0 then none
    else methGo f (ps ++ [(c :: r).take (headN (c :: r))]) (k + slotsN ((c :: r).take (headN (c :: r)))) ((c :: r).drop (headN (c :: r)))
def methB : List UInt8 → Option (List (List UInt8) × List UInt8)
  | [] => none
  | c :: r => if c = 40 then methGo (r.length + 1) [] 0 r else none
/-- The parameters, the result, the error's number. -/
def methV (l : List UInt8) : List (List UInt8) × List UInt8 × Int := match methB l with
  | none => ([], [], 24)
  | some (ps, r) => (ps, r, 0)
theorem methV_no {l : List UInt8} (h : methB l = none) : methV l = ([], [], 24) := by unfold methV; rw [h]
theorem methV_yes {l r : List UInt8} {ps : List (List UInt8)} (h : methB l = some (ps, r)) : methV l = (ps, r, 0) := by unfold methV; rw [h]
section
variable {f : Nat} {ps : List (List UInt8)} {k : Int} {l r : List UInt8}
theorem methGo_nil : methGo f ps k [] = none := by cases f <;> rfl
theorem methGo_close_no (h : ¬ (k < 64 ∧ resB r = true)) : methGo f ps k (41 :: r) = none := by
  cases f
  · rfl
  · simp only [methGo, if_true]; rw [if_neg h]
theorem methGo_close_yes (hf : 0 < f) (h1 : k < 64) (h2 : resB r = true) : methGo f ps k (41 :: r) = some (ps, r) := by
  obtain ⟨g, rfl⟩ : ∃ g, f = g + 1 := ⟨f - 1, by omega⟩
  simp only [methGo, if_true]; rw [if_pos ⟨h1, h2⟩]
theorem methGo_bad {c : UInt8} (hc : ¬ c = 41) (h : headN (c :: r) = 0) : methGo f ps k (c :: r) = none := by
  cases f
  · rfl
  · simp only [methGo]; rw [if_neg hc, if_pos h]
theorem methGo_step {c : UInt8} {h : Nat} (hl : l = c :: r) (hc : ¬ c = 41) (hh : headN l = h + 1) : methGo (f + 1) ps k l = methGo f (ps ++ [l.take (h + 1)]) (k + slotsN (l.take (h + 1))) (l.drop (h + 1)) := by
  subst hl
  simp only [methGo]; rw [if_neg hc, if_neg (by omega), hh]
end
theorem headN_short (l : List UInt8) : headN l ≤ l.length := headN_le l
theorem methB_cons (c : UInt8) (r : List UInt8) : methB (c :: r) = if c = 40 then methGo (r.length + 1) [] 0 r else none := rfl
/-- A text of fewer than three signs is none. -/
theorem methB_short {l : List UInt8} (h : l.length < 3) : methB l = none := by
  match l, h with
  | [], _ => rfl
  | [c], _ =>
    rw [methB_cons]
    split <;> rfl
  | [c, d], _ =>
    rw [methB_cons]
    split
    · by_cases hd : d = 41
      · subst hd; rw [methGo_close_no (by decide)]
      · rcases Nat.eq_zero_or_pos (headN [d]) with h0 | h0
        · exact methGo_bad hd h0
        · have h1 := headN_le [d]
          simp at h1
          rw [show [d].length + 1 = 1 + 1 from rfl, methGo_step (h := 0) rfl hd (by omega)]
          exact methGo_nil
    · rfl
theorem methB_open (r : List UInt8) : methB (40 :: r) = methGo (r.length + 1) [] 0 r := rfl
theorem methB_other {l : List UInt8} (h : ¬ l[0]? = some 40) : methB l = none := by
  cases l with
  | nil => rfl
  | cons c r =>
    rw [methB_cons]
    split
    · rename_i e; exact absurd (by rw [e]; rfl) h
    · rfl
theorem methGo_len {f : Nat} : ∀ {ps qs : List (List UInt8)} {k : Int} {l r : List UInt8}, methGo f ps k l = some (qs, r) → qs.length + r.length ≤ ps.length + l.length := by
  induction f with
  | zero => intro ps qs k l r h; cases h
  | succ f ih =>
    intro ps qs k l r h
    cases l with
    | nil => cases h
    | cons c t =>
      simp only [methGo] at h
      split at h
      · split at h
        · simp at h; obtain ⟨rfl, rfl⟩ := h; simp
        · cases h
      · split at h
        · cases h
        · rename_i h0
          have h1 := ih h
          have h2 := headN_le (c :: t)
          simp only [List.length_append, List.length_drop, List.length_singleton] at h1
          omega
theorem methV_len (l : List UInt8) : (methV l).1.length ≤ l.length := by
  unfold methV
  cases h : methB l with
  | none => simp
  | some p =>
    obtain ⟨ps, r⟩ := p
    cases l with
    | nil => cases h
    | cons c t =>
      rw [methB_cons] at h
      split at h
      · have := methGo_len h
        simp at this ⊢; omega
      · cases h
end Go.Proofs.YthblilhdjabhnaaDoor
