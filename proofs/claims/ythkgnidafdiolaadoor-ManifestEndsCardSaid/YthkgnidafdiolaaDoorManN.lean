/- Plain facts on what Write writes; what it answers. -/
import Derived.Test.YthkgnidafdiolaaDoorManI
import Derived.Test.YthkgnidafdiolaaDoorApS
namespace Go.Proofs.YthkgnidafdiolaaDoor
open Go.RowKit

theorem foldA_nil (f : Nat) : foldA f [] = [] := by cases f <;> simp [foldA]
theorem foldA_cons (f : Nat) {s : List UInt8} (h : s ≠ []) : foldA (f + 1) s = (32 :: s.take 71) :: foldA f (s.drop 71) := by
  conv => lhs; unfold foldA
  rw [if_neg h]
theorem foldA_fuel (n : Nat) : ∀ (s : List UInt8), s.length ≤ n → ∀ f g, s.length ≤ f → s.length ≤ g → foldA f s = foldA g s := by
  induction n with
  | zero =>
    intro s h f g _ _
    obtain rfl := List.eq_nil_of_length_eq_zero (Nat.le_zero.1 h)
    rw [foldA_nil, foldA_nil]
  | succ n ih =>
    intro s h f g hf hg
    by_cases hs : s = []
    · subst hs; rw [foldA_nil, foldA_nil]
    · have hp := List.length_pos_iff.2 hs
      obtain ⟨f, rfl⟩ : ∃ k, f = k + 1 := ⟨f - 1, by omega⟩
      obtain ⟨g, rfl⟩ : ∃ k, g = k + 1 := ⟨g - 1, by omega⟩
      rw [foldA_cons f hs, foldA_cons g hs]
      have hd : (s.drop 71).length = s.length - 71 := List.length_drop
      rw [ih (s.drop 71) (by omega) f g (by omega) (by omega)]
/-- What is still to be written of an attribute's text: the next line's beginning, its room. -/
def tailT (r : Nat) (ah rest : List UInt8) : List UInt8 := if rest = [] then [] else ah ++ rest.take r ++ [13, 10] ++ textL (foldA rest.length (rest.drop r))
theorem tailT_nil (r : Nat) (ah : List UInt8) : tailT r ah [] = [] := rfl
theorem attrS_ne (a : Attr) : attrS a ≠ [] := by unfold attrS; cases a.1 <;> simp
theorem tailT_start (a : Attr) : tailT 72 [] (attrS a) = textL (attrL a) := by
  unfold tailT attrL
  rw [if_neg (attrS_ne a)]
  simp [textL]
theorem tailT_step {r : Nat} {ah rest : List UInt8} (h : rest ≠ []) (hr : 0 < r) : tailT r ah rest = ah ++ rest.take r ++ [13, 10] ++ tailT 71 [32] (rest.drop r) := by
  have hp := List.length_pos_iff.2 h
  have hd : (rest.drop r).length = rest.length - r := List.length_drop
  rw [tailT, if_neg h]
  congr 1
  unfold tailT
  split
  · rename_i e; rw [e, foldA_nil]; rfl
  · rename_i e
    have hp2 := List.length_pos_iff.2 e
    rw [foldA_fuel rest.length (rest.drop r) (by omega) rest.length ((rest.drop r).length + 1) (by omega) (by omega), foldA_cons _ e]
    simp [textL]
theorem textL_len : ∀ (n : Nat) (s : List UInt8), s.length ≤ n → (textL (foldA n s)).length ≤ 4 * s.length := by
  intro n
  induction n with
  | zero => intro s h; simp [foldA, textL]
  | succ n ih =>
    intro s h
    by_cases hs : s = []
    · subst hs; rw [foldA_nil]; simp [textL]
    · have hp := List.length_pos_iff.2 hs
      rw [foldA_cons n hs]
      have := ih (s.drop 71) (by simp; omega)
      have e : textL ((32 :: s.take 71) :: foldA n (s.drop 71)) = (32 :: s.take 71) ++ [13, 10] ++ textL (foldA n (s.drop 71)) := by simp [textL]
      rw [e]
      simp only [List.length_append, List.length_cons, List.length_nil, List.length_take, List.length_drop] at this ⊢
      omega
theorem attrT_len (a : Attr) : (textL (attrL a)).length ≤ 4 * (attrS a).length + 74 := by
  have h := textL_len (attrS a).length ((attrS a).drop 72) (by simp)
  have e : textL (attrL a) = (attrS a).take 72 ++ [13, 10] ++ textL (foldA (attrS a).length ((attrS a).drop 72)) := by unfold attrL; simp [textL]
  rw [e]
  simp only [List.length_append, List.length_cons, List.length_nil, List.length_take, List.length_drop] at h ⊢
  omega
theorem attrS_len (a : Attr) : (attrS a).length = a.1.length + a.2.length + 2 := by unfold attrS; simp; omega
/-- The rounds of the check. -/
def namesL (L : List Attr) : List (List UInt8) := L.map fun a => smallL a.1
section
variable {L : List Attr} {k : Nat} {a : Attr} (hx : L[k]? = some a)
include hx
theorem dropA : L.drop k = a :: L.drop (k + 1) := by
  have hk := (List.getElem?_eq_some_iff.1 hx).1
  rw [List.drop_eq_getElem_cons hk]
  rw [List.getElem?_eq_getElem hk] at hx; injection hx with hx; rw [hx]
theorem namesL_take : namesL (L.take (k + 1)) = namesL (L.take k) ++ [smallL a.1] := by unfold namesL; rw [List.take_add_one, hx]; simp
theorem namesL_zero : namesL (L.take k) = [] ↔ k = 0 := by
  have hk := (List.getElem?_eq_some_iff.1 hx).1
  unfold namesL
  rw [List.map_eq_nil_iff, List.take_eq_nil_iff]
  constructor
  · rintro (h | h)
    · exact h
    · subst h; simp at hk
  · exact .inl
theorem cw_name (h : nameB a.1 = false) : checkW (L.drop k) (namesL (L.take k)) = 22 := by
  rw [dropA hx, checkW, if_pos (.inl h)]
theorem cw_first (h : k = 0) (h2 : ¬ smallL a.1 = mvL) : checkW (L.drop k) (namesL (L.take k)) = 22 := by
  rw [dropA hx, checkW, if_pos (.inr ⟨(namesL_zero hx).2 h, h2⟩)]
variable (h1 : nameB a.1 = true) (h2 : k = 0 → smallL a.1 = mvL)
include h1 h2
theorem cw_neg : ¬ (nameB a.1 = false ∨ (namesL (L.take k) = [] ∧ ¬ smallL a.1 = mvL)) := by
  rintro (h | ⟨h, h'⟩)
  · rw [h1] at h; cases h
  · exact h' (h2 ((namesL_zero hx).1 h))
theorem cw_val (h3 : badV a.2 = true) : checkW (L.drop k) (namesL (L.take k)) = 22 := by
  rw [dropA hx, checkW, if_neg (cw_neg hx h1 h2), if_pos h3]
theorem cw_dup (h3 : badV a.2 = false) (h4 : smallL a.1 ∈ namesL (L.take k)) : checkW (L.drop k) (namesL (L.take k)) = 14 := by
  rw [dropA hx, checkW, if_neg (cw_neg hx h1 h2), if_neg (by rw [h3]; decide : ¬ badV a.2 = true), if_pos h4]
theorem cw_on (h3 : badV a.2 = false) (h4 : ¬ smallL a.1 ∈ namesL (L.take k)) : checkW (L.drop k) (namesL (L.take k)) = checkW (L.drop (k + 1)) (namesL (L.take (k + 1))) := by
  rw [dropA hx, checkW, if_neg (cw_neg hx h1 h2), if_neg (by rw [h3]; decide : ¬ badV a.2 = true), if_neg h4, namesL_take hx]
end
theorem cw_end {L : List Attr} : checkW (L.drop L.length) (namesL (L.take L.length)) = 0 := by rw [List.drop_length]; rfl
theorem badV_yes {v : List UInt8} {j : Nat} {x : UInt8} (hx : v[j]? = some x) (h : x = 0 ∨ x = 13 ∨ x = 10) : badV v = true := by
  unfold badV; rw [List.any_eq_true]; exact ⟨x, List.mem_of_getElem? hx, by rcases h with rfl | rfl | rfl <;> decide⟩
theorem badV_no {v : List UInt8} (h : ∀ (j : Nat) (x : UInt8), j < v.length → v[j]? = some x → ¬ x = 0 ∧ ¬ x = 13 ∧ ¬ x = 10) : badV v = false := by
  unfold badV; rw [List.any_eq_false]
  intro x hx
  obtain ⟨j, hj⟩ := List.getElem?_of_mem hx
  have := h j x (List.getElem?_eq_some_iff.1 hj).1 hj
  simp [this.1, this.2.1, this.2.2]
section
variable {L : List Attr} {k : Nat} {a : Attr} (hx : L[k]? = some a) {out : List UInt8}
include hx
theorem wt_value (h : 32768 < a.2.length) : writeT (L.drop k) out = (8, []) := by rw [dropA hx, writeT, if_pos h]
theorem wt_long (h : ¬ 32768 < a.2.length) (h2 : 32768 < (out ++ textL (attrL a)).length) : writeT (L.drop k) out = (8, []) := by rw [dropA hx, writeT, if_neg h, if_pos h2]
theorem wt_on (h : ¬ 32768 < a.2.length) (h2 : ¬ 32768 < (out ++ textL (attrL a)).length) : writeT (L.drop k) out = writeT (L.drop (k + 1)) (out ++ textL (attrL a)) := by rw [dropA hx, writeT, if_neg h, if_neg h2]
end
theorem wt_end {L : List Attr} {out : List UInt8} : writeT (L.drop L.length) out = if 32768 < (out ++ [13, 10]).length then (8, []) else (0, out ++ [13, 10]) := by rw [List.drop_length]; rfl
def WrPost (R : Int × List UInt8) (w : World) (e : Ending) (w' : World) : Prop :=
  ∃ A c, e = .returned (.tuple #[.slice A R.2.length c, .int .i64 R.1]) ∧ RB w' w'.heap.size A R.2 ∧ Below w.heap.size w w' ∧ R.2.length ≤ c
theorem wrPost_err {R : Int × List UInt8} {w w' : World} {k : Int} (h : R = (k, [])) (hb : Below w.heap.size w w') : WrPost R w (.returned (.tuple #[.slice none 0 0, .int .i64 k])) w' := by
  subst h; exact ⟨none, 0, rfl, RL.nil, hb, Nat.le_refl _⟩
theorem wrPost_ok {R : Int × List UInt8} {w w' : World} {l : List UInt8} {base : Nat} {e : TypeId} {v : Value} (h : R = (0, l)) (ho : OwB w' base e v l) (hb : Below w.heap.size w w') : WrPost R w (.returned (.tuple #[v, .int .i64 0])) w' := by
  subst h
  obtain ⟨A, c, rfl, hr, hc, _⟩ := ho.rd
  exact ⟨A, c, rfl, hr, hb, hc⟩
theorem writeM_len {l : List Attr} {b : List UInt8} (h : writeM l = (0, b)) : b.length ≤ 32768 := by
  unfold writeM at h
  split at h
  · rename_i h1; simp only [Prod.mk.injEq] at h; exact absurd h.1 h1
  · split at h
    · simp at h
    · exact (writeT_fine _ _ _ h).2
end Go.Proofs.YthkgnidafdiolaaDoor
