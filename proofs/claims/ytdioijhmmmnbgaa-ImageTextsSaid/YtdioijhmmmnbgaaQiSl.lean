/- Arguments that are rows of rows of bytes, opened. -/
import Derived.Test.YtdioijhmmmnbgaaQiArgs
import Derived.Test.YtdioijhmmmnbgaaPi2
namespace Go.Proofs.Ytdioijhmmmnbgaa
open Go.ChangeShapes Go.WideShapes Go.ChangeAt Go.RowKit

def SlOk (w : World) (x : Sl) : Prop := x.l.length = x.n ∧ x.n ≤ x.c ∧ (x.c : Int) ≤ 9223372036854775807 ∧ RB w w.heap.size x.A x.l
section
variable {H : Type} {enc : TypeId × Value → H} {P : Program} {w : World} {base : Nat} {spare : Nat → Bool} {held : Bool}
theorem bytes_el {t e : TypeId} {v : Value} {n : Nat} {y : DataW H × List MemPlace} (ht : P.underlying t = some (.slice e)) (he : P.underlying e = some (.int .u8)) (hc : P.cellsOf e = 1)
    (hf : DataW.trod enc P w base spare held n t [v] = some y) : ∃ x, v = slV x ∧ SlOk w x := by
  rcases open_ints ht he hc hf with ⟨hcs, hx⟩ | ⟨x, l, c', zs, hcs, _, hl, hm, hz, hx, hcell, hwz⟩
  · simp at hcs
    subst hcs
    exact ⟨⟨none, 0, 0, []⟩, rfl, rfl, Nat.le_refl _, by show ((0 : Nat) : Int) ≤ _; omega, Rd.nil⟩
  · simp at hcs
    subst hcs
    have hzl : l ≤ zs.length := by rw [hz]; split <;> omega
    refine ⟨⟨some x, l, c', (zs.take l).map fun q => UInt8.ofNat q.toNat⟩, rfl, by simp; omega, hl, by unfold maxLen at hm; show (c' : Int) ≤ _; omega, fun hne => ?_⟩
    have key : ∀ i u, (((zs.take l).map fun q => UInt8.ofNat q.toNat).map bV)[i]? = some u → w.cell? (x.add i) = some u := by
      intro i u hu
      have hi : i < l := by
        have := (List.getElem?_eq_some_iff.1 hu).1
        simp at this; omega
      have hiz : i < zs.length := by omega
      rw [hcell i hiz]
      have hw := hwz zs[i] (List.getElem_mem hiz)
      have hb := bounds_u8 hw
      rw [← hu]
      simp only [List.getElem?_map, List.getElem?_take_of_lt hi, List.getElem?_eq_getElem hiz, Option.map_some, List.getD, Option.getD_some, bV, UInt8.toNat_ofNat']
      congr 2
      omega
    refine ⟨x, rfl, ?_, key⟩
    obtain ⟨u, us, hq⟩ := List.exists_cons_of_ne_nil hne
    have := World.block_lt_of_cell? _ _ (key 0 u (by rw [hq]; rfl))
    rwa [blk_add] at this
theorem open_rowsl {r : Reach} {b0 : Nat} {t e q : TypeId} {v : Value} {d : DataW H} {ps : List MemPlace} (ht : P.underlying t = some (.slice e)) (he : P.underlying e = some (.slice q)) (hq : P.underlying q = some (.int .u8)) (hC : P.cellsOf e = 1) (hCq : P.cellsOf q = 1)
    (hv : Value.okWide P w r b0 t v) (h : DataW.Trod enc P w base spare held t v d ps) :
    ∃ (A : Option Addr) (n c : Nat) (l : List Sl), v = .slice A n c ∧ l.length = n ∧ n ≤ c ∧ (c : Int) ≤ 9223372036854775807 ∧ RL slV w w.heap.size A l ∧ DAll (fun x _ => SlOk w x) d l :=
  open_one slV (fun x _ => SlOk w x) ht hC (fun _ _ _ hy => bytes_el he hq hCq hy) hv h
theorem dall_each {α : Type} {Q : α → Prop} {d : DataW H} {l : List α} (h : DAll (fun x _ => Q x) d l) : ∀ x ∈ l, Q x := by
  intro x hx
  rcases h with ⟨_, rfl⟩ | ⟨es, sp, _, he, hq⟩
  · cases hx
  · obtain ⟨i, hi⟩ := List.getElem?_of_mem hx
    have hil : i < es.length := by have := (List.getElem?_eq_some_iff.1 hi).1; omega
    exact hq i x _ hi (List.getElem?_eq_getElem hil)
end
end Go.Proofs.Ytdioijhmmmnbgaa
