/- Names, sign by sign. -/
import Derived.Test.YtokojichjliieaaDoorArcP
namespace Go.Proofs.YtokojichjliieaaDoor

/-- The document's way through a name: the part that is being read, the rest. -/
def nmF : List UInt8 → List UInt8 → Bool
  | part, [] => partOk part
  | part, c :: r => if c = 47 then (partOk part && !part.isEmpty && nmF [] r) else if c = 0 ∨ c = 92 then false else nmF (part ++ [c]) r
theorem cutL_form (a : UInt8) (s : List UInt8) : ∃ x xs, cutL a s = x :: xs := by
  cases h : cutL a s with
  | nil => exact absurd h (cutL_ne a s)
  | cons x xs => exact ⟨x, xs, rfl⟩
theorem partsOk_cons {p : List UInt8} {q : List UInt8} {r : List (List UInt8)} : partsOk (p :: q :: r) = (partOk p && !p.isEmpty && partsOk (q :: r)) := rfl
theorem nmF_eq (s : List UInt8) : ∀ part x xs, cutL 47 s = x :: xs → nmF part s = (!s.contains 0 && !s.contains 92 && partsOk ((part ++ x) :: xs)) := by
  induction s with
  | nil =>
    intro part x xs h
    have h : [[]] = x :: xs := h
    injection h with h1 h2
    subst h1 h2
    simp [nmF, partsOk]
  | cons c r ih =>
    intro part x xs h
    obtain ⟨y, ys, hy⟩ := cutL_form 47 r
    rw [nmF]
    rw [cutL] at h
    by_cases hc : c = 47
    · rw [if_pos hc] at h ⊢
      injection h with h1 h2
      subst h1
      rw [hy] at h2
      subst h2
      rw [ih [] y ys hy, List.append_nil, partsOk_cons, List.nil_append]
      subst hc
      simp only [List.contains_cons]
      have e1 : ((0 : UInt8) == 47) = false := by decide
      have e2 : ((92 : UInt8) == 47) = false := by decide
      rw [e1, e2, Bool.false_or, Bool.false_or]
      cases partOk part <;> cases part.isEmpty <;> cases r.contains 0 <;> cases r.contains 92 <;> simp
    · rw [if_neg hc] at h ⊢
      rw [hy] at h
      injection h with h1 h2
      subst h1 h2
      by_cases hb : c = 0 ∨ c = 92
      · rw [if_pos hb]
        rcases hb with e | e <;> subst e <;> simp
      · rw [if_neg hb, ih (part ++ [c]) y ys hy, List.append_assoc, List.singleton_append]
        simp only [List.contains_cons]
        have e1 : ((0 : UInt8) == c) = false := by rw [beq_eq_false_iff_ne]; exact fun e => hb (.inl e.symm)
        have e2 : ((92 : UInt8) == c) = false := by rw [beq_eq_false_iff_ne]; exact fun e => hb (.inr e.symm)
        rw [e1, e2, Bool.false_or, Bool.false_or]
theorem nameA_nmF (s : List UInt8) : nameA s = (!s.isEmpty && decide (s.length ≤ 64) && nmF [] s) := by
  obtain ⟨x, xs, hx⟩ := cutL_form 47 s
  rw [nmF_eq s [] x xs hx, List.nil_append]
  unfold nameA
  rw [hx]
  cases s with
  | nil => rfl
  | cons c r =>
    show (true && decide _ && _ && _ && (!x.isEmpty && partsOk (x :: xs))) = (true && decide _ && (_ && _ && partsOk (x :: xs)))
    have hxe : x.isEmpty = true → partsOk (x :: xs) = false := by
      intro he
      have hx0 : x = [] := List.isEmpty_iff.1 he
      subst hx0
      rw [cutL] at hx
      by_cases hc : c = 47
      · rw [if_pos hc] at hx
        injection hx with _ h2
        obtain ⟨y, ys, hy⟩ := cutL_form 47 r
        rw [← h2, hy, partsOk_cons]; rfl
      · rw [if_neg hc] at hx
        obtain ⟨y, ys, hy⟩ := cutL_form 47 r
        rw [hy] at hx
        injection hx with h1 _
        cases h1
    cases hp : partsOk (x :: xs) with
    | false => simp
    | true =>
      cases he : x.isEmpty with
      | true => rw [hxe he] at hp; cases hp
      | false => simp [Bool.and_assoc]
/-- What a name begins with. -/
theorem nmF_first {c : UInt8} {r : List UInt8} (h : nmF [] (c :: r) = true) : c ≠ 47 := by
  intro e
  rw [nmF, if_pos e] at h
  simp at h
theorem flags_parts (v : Nat) : flagsA v = v - 2 * (v / 2 % 2) - 4 * (v / 4 % 2) - 2048 * (v / 2048 % 2) := rfl
end Go.Proofs.YtokojichjliieaaDoor
