/- []byte(s): a new row of bytes that bears the run-time's mark behind its last cell. Nothing here speaks of the program. -/
import Derived.Test.YthkgnidafdiolaaDoorBytes
import Derived.Laws.IdiomStrings
namespace Go.Proofs.YthkgnidafdiolaaDoor
open Go.RowKit

/-- Block g holds the bytes l, none of them frozen. -/
def Mb (w : World) (g : Nat) (t : TypeId) (l : List UInt8) : Prop :=
  ∃ (C : Array Value) (lo : Nat), w.heap[g]? = some (.cells C t (lo, lo + 1)) ∧ l.length ≤ lo ∧ ∀ (j : Nat) (x : UInt8), l[j]? = some x → C[j]? = some (bV x)
section
variable {w w' : World} {g : Nat} {t : TypeId} {l : List UInt8}
theorem Mb.lt (h : Mb w g t l) : g < w.heap.size := by
  obtain ⟨C, lo, h, _⟩ := h
  rcases Nat.lt_or_ge g w.heap.size with hlt | hge
  · exact hlt
  · rw [Array.getElem?_eq_none hge] at h; cases h
theorem Mb.cell (h : Mb w g t l) {j : Nat} {x : UInt8} (hx : l[j]? = some x) : w.cell? ⟨g, j, none⟩ = some (bV x) := by
  obtain ⟨C, lo, h, _, hc⟩ := h
  rw [cell_of_row w g j C t _ h]; exact hc j x hx
theorem Mb.frz (h : Mb w g t l) {j : Nat} (hj : j < l.length) : w.frozen? ⟨g, j, none⟩ = false := by
  obtain ⟨C, lo, h, hl, _⟩ := h
  simp [World.frozen?, h]; omega
theorem Mb.new (w : World) (s : ByteArray) (cap : Nat) (e : TypeId) : Mb (w.alloc (.cells (bytesRow s cap) e ((bytesRow s cap).size, (bytesRow s cap).size + 1))) w.heap.size e s.data.toList := by
  refine ⟨_, _, heap_alloc_new w _, ?_, fun j x hx => ?_⟩
  · unfold bytesRow; simp
  · have hj : j < s.data.size := by have := (List.getElem?_eq_some_iff.1 hx).1; simpa using this
    rw [bytesRow_at s cap j hj]
    have : s.data.toList[j]? = some s.data[j] := by simp [hj]
    rw [this] at hx; injection hx with hx; subst hx; rfl
theorem Mb.set (h : Mb w g t l) (k : Nat) (x : UInt8) : Mb (w.setCell ⟨g, k, none⟩ (bV x)) g t (l.set k x) := by
  obtain ⟨C, lo, h, hl, hc⟩ := h
  refine ⟨C.setIfInBounds k (bV x), lo, ?_, by simpa using hl, fun j y hy => ?_⟩
  · simp [World.setCell, Array.getElem?_modify, h]
  · rw [List.getElem?_set] at hy
    split at hy
    · rename_i e
      subst e
      split at hy
      · rename_i hk
        injection hy with hy
        subst hy
        have : k < C.size := (Array.getElem?_eq_some_iff.1 (hc k _ (List.getElem?_eq_getElem hk))).1
        simp [this]
      · cases hy
    · rename_i e
      rw [Array.getElem?_setIfInBounds_ne e]
      exact hc j y hy
theorem Mb.below (h : Mb w g t l) {B : Nat} (hb : Below B w w') (hg : g < B) : Mb w' g t l := by
  obtain ⟨C, lo, h, r⟩ := h
  exact ⟨C, lo, (hb.block g hg).trans h, r⟩
theorem Mb.drewN (h : Mb w g t l) (n : Nat) : Mb (w.drewN n) g t l := h
theorem Mb.rb (h : Mb w g t l) : RB w (g + 1) (some ⟨g, 0, none⟩) l := fun _ => ⟨_, rfl, Nat.lt_succ_self _, fun i u hu => by
  have e : (⟨g, 0, none⟩ : Addr).add i = ⟨g, i, none⟩ := by unfold Addr.add; split <;> simp_all
  rw [e]
  rw [List.getElem?_map] at hu
  cases hx : l[i]? with
  | none => rw [hx] at hu; cases hu
  | some x => rw [hx] at hu; injection hu with hu; subst hu; exact h.cell hx⟩
end
end Go.Proofs.YthkgnidafdiolaaDoor
