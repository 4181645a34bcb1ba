/- A block that is a row of so many cells, each told by its place. Nothing here speaks of the program. -/
import Derived.Test.YtokojichjliieaaDoorBase
namespace Go.Proofs.YtokojichjliieaaDoor
open Go.RowKit

/-- A fact that no tactic sees through (Hid is a definition, and 'assumption' opens it). -/
structure Bx (p : Prop) : Prop where out : p
theorem bx {p : Prop} (h : p) : Bx p := ⟨h⟩
/-- A row of the call's own is a slice, its length behind a letter. -/
theorem OwL.sl {α : Type} {f : α → Value} {w : World} {base : Nat} {e : TypeId} {v : Value} {l : List α} (h : OwL f w base e v l) : ∃ A n c, v = .slice A n c ∧ Bx (n = l.length) ∧ RL f w w.heap.size A l := by
  obtain ⟨A, c, h1, h2, _⟩ := h.rd
  exact ⟨A, _, c, h1, ⟨rfl⟩, h2⟩
def Rw (w : World) (g : Nat) (t : TypeId) (n : Nat) (C : Nat → Value) : Prop := ∃ cs, Bk w g t cs ∧ cs.size = n ∧ ∀ i, i < n → cs[i]? = some (C i)
section
variable {w w' : World} {g : Nat} {t : TypeId} {n : Nat} {C : Nat → Value}
theorem Rw.lt (h : Rw w g t n C) : g < w.heap.size := by obtain ⟨_, h, _⟩ := h; exact h.lt
theorem Rw.cell (h : Rw w g t n C) {i : Nat} (hi : i < n) : w.cell? ⟨g, i, none⟩ = some (C i) := by
  obtain ⟨cs, hb, _, hc⟩ := h
  rw [hb.cell, hc i hi]
theorem Rw.frz (h : Rw w g t n C) (i : Nat) : w.frozen? ⟨g, i, none⟩ = false := by obtain ⟨_, h, _⟩ := h; exact h.frz i
theorem Rw.of {cs : Array Value} (h : Bk w g t cs) (hn : cs.size = n) (hc : ∀ i, i < n → cs[i]? = some (C i)) : Rw w g t n C := ⟨cs, h, hn, hc⟩
theorem Rw.ext (h : Rw w g t n C) {D : Nat → Value} (hD : ∀ i, i < n → D i = C i) : Rw w g t n D := by
  obtain ⟨cs, h1, h2, h3⟩ := h
  exact ⟨cs, h1, h2, fun i hi => by rw [hD i hi]; exact h3 i hi⟩
theorem Rw.set (h : Rw w g t n C) (i : Nat) (u : Value) : Rw (w.setCell ⟨g, i, none⟩ u) g t n (fun j => if j = i then u else C j) := by
  obtain ⟨cs, h1, h2, h3⟩ := h
  refine ⟨_, h1.set i u, by simpa using h2, fun j hj => ?_⟩
  rw [Array.getElem?_setIfInBounds]
  by_cases e : i = j
  · subst e; simp [h2, hj]
  · have e' : ¬ j = i := fun x => e x.symm
    simp [e, e', h3 j hj]
theorem Rw.keep (h : Rw w g t n C) (hk : w'.heap[g]? = w.heap[g]?) : Rw w' g t n C := by
  obtain ⟨cs, h1, r⟩ := h
  exact ⟨cs, hk.trans h1, r⟩
theorem Rw.alloc (h : Rw w g t n C) (o : Obj) : Rw (w.alloc o) g t n C := h.keep (Below.heap_alloc w o g h.lt)
theorem Rw.far (h : Rw w g t n C) {p : Addr} (hp : g ≠ p.block) (u : Value) : Rw (w.setCell p u) g t n C := h.keep (Below.heap_setCell w p u g hp)
theorem Rw.below {B : Nat} (h : Rw w g t n C) (hb : Below B w w') (hg : g < B) : Rw w' g t n C := h.keep (hb.block g hg)
theorem Rw.grown {row : Option Nat} (h : Rw w g t n C) (hb : w.grownBy w' row) (hg : some g ≠ row) : Rw w' g t n C := h.keep (hb.block g h.lt hg)
end
end Go.Proofs.YtokojichjliieaaDoor
