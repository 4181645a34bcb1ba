/- A block whose whole row is stored anew. Nothing here speaks of the program. -/
import Derived.Test.YtokojichjliieaaDoorBase
import Derived.Laws.Tables
import Derived.Laws.ResultCell
import Derived.Deep.WholeRow
namespace Go.Proofs.YtokojichjliieaaDoor
open Go.RowKit
theorem Bk.setRow {w : World} {g : Nat} {t : TypeId} {old : Array Value} (h : Bk w g t old) (cs : Array Value) : Bk (w.setRow g cs) g t cs := by
  unfold Bk at h ⊢
  simp [World.setRow, Array.getElem?_modify, h]
theorem heap_setRow (w : World) (g : Nat) (cs : Array Value) (k : Nat) (h : k ≠ g) : (w.setRow g cs).heap[k]? = w.heap[k]? := by
  have h' : ¬ g = k := fun e => h e.symm
  simp [World.setRow, Array.getElem?_modify, h']
theorem bl_setRow {B : Nat} {a w : World} (h : Below B a w) {g : Nat} (hg : B ≤ g) (cs : Array Value) : Below B a (w.setRow g cs) :=
  ⟨h.os, h.tape, h.output, by simpa using h.size, fun k hk => (heap_setRow w g cs k (by omega)).trans (h.block k hk)⟩
end Go.Proofs.YtokojichjliieaaDoor
