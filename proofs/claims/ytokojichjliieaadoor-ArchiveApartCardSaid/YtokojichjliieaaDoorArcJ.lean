/- Plain parts of archive.Directory: how many end records, the rounds. -/
import Derived.Test.YtokojichjliieaaDoorArcQ
import Derived.Test.YtokojichjliieaaDoorArcE
namespace Go.Proofs.YtokojichjliieaaDoor
open Go.RowKit
/-- What was found among the places ahead of k: the last one, how many. -/
def EndC (b : List UInt8) (k p e : Nat) : Prop := e ≤ k ∧ ((e = 0 ∧ p = 0 ∧ ∀ j, j < k → endA b j = false) ∨ (e = 1 ∧ p < k ∧ endA b p = true ∧ ∀ j, j < k → endA b j = true → j = p) ∨ (2 ≤ e ∧ ∃ q r, q ≠ r ∧ q < k ∧ r < k ∧ endA b q = true ∧ endA b r = true))
theorem EndC.start (b : List UInt8) : EndC b 0 0 0 := ⟨Nat.le_refl _, .inl ⟨rfl, rfl, fun j hj => absurd hj (by omega)⟩⟩
theorem EndC.skip {b : List UInt8} {k p e : Nat} (h : EndC b k p e) (hk : endA b k = false) : EndC b (k + 1) p e := by
  obtain ⟨h0, h⟩ := h
  refine ⟨by omega, ?_⟩
  rcases h with ⟨h1, h2, h3⟩ | ⟨h1, h2, h3, h4⟩ | ⟨h1, q, r, h2, h3, h4, h5⟩
  · exact .inl ⟨h1, h2, fun j hj => by
      by_cases e : j = k
      · subst e; exact hk
      · exact h3 j (by omega)⟩
  · exact .inr (.inl ⟨h1, by omega, h3, fun j hj hj2 => by
      by_cases e : j = k
      · subst e; rw [hk] at hj2; cases hj2
      · exact h4 j (by omega) hj2⟩)
  · exact .inr (.inr ⟨h1, q, r, h2, by omega, by omega, h5⟩)
theorem EndC.hit {b : List UInt8} {k p e : Nat} (h : EndC b k p e) (hk : endA b k = true) : EndC b (k + 1) k (e + 1) := by
  obtain ⟨h0, h⟩ := h
  refine ⟨by omega, ?_⟩
  rcases h with ⟨h1, h2, h3⟩ | ⟨h1, h2, h3, h4⟩ | ⟨h1, q, r, h2, h3, h4, h5⟩
  · exact .inr (.inl ⟨by omega, by omega, hk, fun j hj hj2 => by
      by_cases e : j = k
      · exact e
      · rw [h3 j (by omega)] at hj2; cases hj2⟩)
  · exact .inr (.inr ⟨by omega, p, k, by omega, by omega, by omega, h3, hk⟩)
  · exact .inr (.inr ⟨by omega, q, r, h2, by omega, by omega, h5⟩)
theorem EndC.none {b : List UInt8} {p e : Nat} (h : EndC b (b.length - 21) p e) (he : e ≠ 1) : endP b = none := by
  obtain ⟨_, ⟨h1, h2, h3⟩ | ⟨h1, _⟩ | ⟨h1, q, r, h2, h3, h4, h5, h6⟩⟩ := h
  · exact endP_none h3
  · exact absurd h1 he
  · exact endP_two h2 h3 h4 h5 h6
theorem EndC.some {b : List UInt8} {p e : Nat} (h : EndC b (b.length - 21) p e) (he : e = 1) : endP b = some p := by
  obtain ⟨_, ⟨h1, h2, h3⟩ | ⟨h1, h2, h3, h4⟩ | ⟨h1, _⟩⟩ := h
  · omega
  · exact endP_one h2 h3 h4
  · omega
/-- What comes behind the records; behind the locals. -/
def dirK (b : List UInt8) (dir p : Nat) (x : List (Rec × Nat) × Nat) : Rz (List (Rec × Nat)) := if x.2 ≠ p then .err 11 else match localsA b dir x.1 with
  | none => .err 15
  | some l => if anyOver l = true then .err 16 else .ok l
theorem bookA_dirK (b : List UInt8) (dir p n : Nat) : bookA b dir p n = (centA b p n dir []).bind (dirK b dir p) := rfl
theorem cent_err {b : List UInt8} {p n at_ : Nat} {acc : List (Rec × Nat)} {k : Int} {K : List (Rec × Nat) × Nat → Rz (List (Rec × Nat))} (h : recA b at_ p (acc.map (·.1.name)) = .err k) : (centA b p (n + 1) at_ acc).bind K = .err k := by
  rw [centA, h]; rfl
theorem cent_ok {b : List UInt8} {p n at_ : Nat} {acc : List (Rec × Nat)} {x : Rec × Nat} {K : List (Rec × Nat) × Nat → Rz (List (Rec × Nat))} (h : recA b at_ p (acc.map (·.1.name)) = .ok x) : (centA b p (n + 1) at_ acc).bind K = (centA b p n x.2 (acc ++ [(x.1, at_)])).bind K := by
  rw [centA, h]; rfl
def locK (l : List (Rec × Nat)) : Rz (List (Rec × Nat)) := if anyOver l = true then .err 16 else .ok l
/-- The locals of what is left, behind those that are done. -/
def locR (b : List UInt8) (dir : Nat) (done rest : List (Rec × Nat)) : Rz (List (Rec × Nat)) := match localsA b dir rest with
  | none => .err 15
  | some r => locK (done ++ r)
theorem dirK_loc {b : List UInt8} {dir p : Nat} {l : List (Rec × Nat)} : dirK b dir p (l, p) = locR b dir [] l := by
  unfold dirK locR locK
  rw [if_neg (by simp)]
  cases localsA b dir l <;> rfl
theorem locR_bad {b : List UInt8} {dir : Nat} {done rest : List (Rec × Nat)} {x : Rec × Nat} (h : localA b dir x = none) : locR b dir done (x :: rest) = .err 15 := by
  unfold locR localsA; rw [h]
theorem locR_good {b : List UInt8} {dir a : Nat} {done rest : List (Rec × Nat)} {x : Rec × Nat} (h : localA b dir x = some a) : locR b dir done (x :: rest) = locR b dir (done ++ [(x.1, a)]) rest := by
  unfold locR
  rw [localsA, h]
  cases localsA b dir rest with
  | none => rfl
  | some r => simp
theorem locR_nil {b : List UInt8} {dir : Nat} {done : List (Rec × Nat)} : locR b dir done [] = locK done := by
  unfold locR; rw [localsA]; simp
end Go.Proofs.YtokojichjliieaaDoor
