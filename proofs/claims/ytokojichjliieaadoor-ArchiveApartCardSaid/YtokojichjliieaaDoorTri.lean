/- Three rows of the call's own, each in a block of its own. Nothing here speaks of the program. -/
import Derived.Test.YtokojichjliieaaDoorBase
namespace Go.Proofs.YtokojichjliieaaDoor
open Go.RowKit

def Apt (a b : Value) : Prop := a.ownBlock = none ∨ b.ownBlock = none ∨ a.ownBlock ≠ b.ownBlock
theorem Apt.symm {a b : Value} (h : Apt a b) : Apt b a := by
  rcases h with h | h | h
  · exact .inr (.inl h)
  · exact .inl h
  · exact .inr (.inr fun e => h e.symm)
structure Tri {α : Type} (f : α → Value) (w : World) (base : Nat) (e : TypeId) (v1 : Value) (l1 : List α) (v2 : Value) (l2 : List α) (v3 : Value) (l3 : List α) : Prop where
  o1 : OwL f w base e v1 l1
  o2 : OwL f w base e v2 l2
  o3 : OwL f w base e v3 l3
  a12 : Apt v1 v2
  a13 : Apt v1 v3
  a23 : Apt v2 v3
section
variable {α : Type} {f : α → Value} {w w' : World} {base : Nat} {e : TypeId} {v1 v2 v3 v' : Value} {l1 l2 l3 n : List α}
theorem Tri.nil : Tri f w base e (.slice none 0 0) [] (.slice none 0 0) [] (.slice none 0 0) [] :=
  ⟨OwL.nil, OwL.nil, OwL.nil, .inl rfl, .inl rfl, .inl rfl⟩
theorem Tri.rot (h : Tri f w base e v1 l1 v2 l2 v3 l3) : Tri f w base e v2 l2 v3 l3 v1 l1 := ⟨h.o2, h.o3, h.o1, h.a23, h.a12.symm, h.a13.symm⟩
theorem Tri.alloc (h : Tri f w base e v1 l1 v2 l2 v3 l3) (o : Obj) : Tri f (w.alloc o) base e v1 l1 v2 l2 v3 l3 := ⟨h.o1.alloc o, h.o2.alloc o, h.o3.alloc o, h.a12, h.a13, h.a23⟩
theorem apt_kept {v : Value} {l : List α} (ho : OwL f w base e v l) (ha : Apt v1 v) (g : w.grownBy w' v1.ownBlock) : OwL f w' base e v l := by
  refine World.ownsRow.kept ho g ?_
  rcases ha with h | h | h
  · rw [h]
    cases hv : v.ownBlock with
    | none => exact .inl rfl
    | some b => exact .inr (by simp)
  · exact .inl h
  · exact .inr fun e => h e.symm
theorem apt_new {v : Value} {l : List α} (ho : OwL f w base e v l) (ha : Apt v1 v) (k : v'.ownBlock = v1.ownBlock ∨ v'.ownBlock = some w.heap.size) : Apt v' v := by
  rcases k with k | k
  · unfold Apt; rw [k]; exact ha
  · unfold Apt
    rw [k]
    cases hv : v.ownBlock with
    | none => exact .inr (.inl rfl)
    | some b =>
      have := (World.ownsRow.lt ho b hv).2
      exact .inr (.inr (by intro e; injection e with e; omega))
theorem Tri.app (h : Tri f w base e v1 l1 v2 l2 v3 l3) (o : OwL f w' base e v' (l1 ++ n)) (g : w.grownBy w' v1.ownBlock) (k : v'.ownBlock = v1.ownBlock ∨ v'.ownBlock = some w.heap.size) :
    Tri f w' base e v' (l1 ++ n) v2 l2 v3 l3 := ⟨o, apt_kept h.o2 h.a12 g, apt_kept h.o3 h.a13 g, apt_new h.o2 h.a12 k, apt_new h.o3 h.a13 k, h.a23⟩
end
end Go.Proofs.YtokojichjliieaaDoor
