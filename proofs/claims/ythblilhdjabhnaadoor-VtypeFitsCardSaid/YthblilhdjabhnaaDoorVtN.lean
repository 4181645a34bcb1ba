/- Plain fact: what needs a class has not found it so. -/
import Derived.Test.YthblilhdjabhnaaDoorVtP
namespace Go.Proofs.YthblilhdjabhnaaDoor
theorem chain_need (known : List Hdr) (y : Byts) : ∀ (n : Nat) (x : Byts), (chain known y n x).2 = [] ∨ (chain known y n x).1 = false := by
  intro n
  induction n with
  | zero => intro x; exact .inl rfl
  | succ n ih =>
    intro x
    unfold chain
    split
    · exact .inr rfl
    · split
      · exact .inl rfl
      · split
        · exact .inl rfl
        · exact ih _
theorem under_need (known : List Hdr) : ∀ (f : Nat) (x y : Byts), (under known f x y).2 = [] ∨ (under known f x y).1 = false := by
  intro f
  induction f with
  | zero => intro x y; exact .inl rfl
  | succ f ih =>
    intro x y
    unfold under
    split
    · exact .inl rfl
    · split
      · exact .inl rfl
      · split
        · split
          · exact ih _ _
          · exact .inl rfl
        · split
          · exact .inl rfl
          · unfold classU
            split
            · exact .inr rfl
            · split
              · exact .inl rfl
              · exact chain_need _ _ _ _
theorem need_false (known : List Hdr) (x y : Byts) : (underV known x y).2 = [] ∨ (underV known x y).1 = false := under_need _ _ _ _
end Go.Proofs.YthblilhdjabhnaaDoor
