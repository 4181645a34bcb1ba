/- Arguments opened to what the walks are told of them; what the bound on the bulk gives. -/
import Derived.Test.YtfbmocpkfaiddaaRows
import Derived.Test.YtfbmocpkfaiddaaBase
import Derived.ProofKit
import Derived.OpenShut
import Derived.ShutString
import Derived.ChangeOld
import Derived.Below
import Derived.SizedLaws
import Derived.Deep.CondSized
import Derived.JoinedCond
namespace Go.Proofs.Ytfbmocpkfaiddaa
open Go.ChangeShapes Go.WideShapes Go.ChangeAt Go.RowKit
open Go.ChangeMaps (open_string shut_string)

theorem own : ownKnob Try.prog.godebug = none := by kernel_rfl
theorem laidOut : laidOutB Try.prog = true := by kernel_rfl

section
variable {H : Type} {enc : TypeId × Value → H} {P : Program} {w : World} {base : Nat} {spare : Nat → Bool} {held : Bool} {r : Reach} {b0 : Nat}
/-- What the datum of a slice says of its length. -/
def DLen (d : DataW H) (n : Nat) : Prop := (d = .nil ∧ n = 0) ∨ ∃ es sp, d = .slice es sp ∧ es.length = n

theorem open_bytes {t e : TypeId} {v : Value} {d : DataW H} {ps : List MemPlace} (ht : P.underlying t = some (.slice e)) (he : P.underlying e = some (.int .u8)) (hc : P.cellsOf e = 1)
    (hv : Value.okWide P w r b0 t v) (h : DataW.Trod enc P w base spare held t v d ps) :
    ∃ (A : Option Addr) (n c : Nat) (l : List UInt8), v = .slice A n c ∧ l.length = n ∧ n ≤ c ∧ (c : Int) ≤ 9223372036854775807 ∧ RB w w.heap.size A l ∧ DLen d n := by
  obtain ⟨A, n, c, rfl⟩ := okWide_slice ht hv
  obtain ⟨fuel, hf⟩ := h
  rcases open_ints ht he hc hf with ⟨hcs, hx⟩ | ⟨x, l, c', zs, hcs, _, hl, hm, hz, hx, hcell, hwz⟩
  · simp [Value.cells] at hcs
    obtain ⟨rfl, rfl, rfl⟩ := hcs
    simp only [Prod.mk.injEq] at hx
    exact ⟨none, 0, 0, [], rfl, rfl, Nat.le_refl _, by omega, Rd.nil, .inl ⟨hx.1, rfl⟩⟩
  · simp [Value.cells] at hcs
    obtain ⟨rfl, rfl, rfl⟩ := hcs
    simp only [Prod.mk.injEq] at hx
    have hzl : n ≤ zs.length := by rw [hz]; split <;> omega
    have hlen : (zs.take n).length = n := by simp; omega
    refine ⟨some x, n, c, (zs.take n).map fun q => UInt8.ofNat q.toNat, rfl, by simp; omega, hl, by unfold maxLen at hm; omega, fun hne => ?_, .inr ⟨_, _, hx.1, by simp [lits]; omega⟩⟩
    have key : ∀ i u, (((zs.take n).map fun q => UInt8.ofNat q.toNat).map bV)[i]? = some u → w.cell? (x.add i) = some u := by
      intro i u hu
      have hi : i < n := by
        have := (List.getElem?_eq_some_iff.1 hu).1
        simp at this; omega
      have hiz : i < zs.length := by omega
      rw [hcell i hiz]
      have hw := hwz zs[i] (List.getElem_mem hiz)
      have hb := bounds_u8 hw
      rw [← hu]
      simp only [List.getElem?_map, List.getElem?_take_of_lt hi, List.getElem?_eq_getElem hiz, Option.map_some, List.getD, Option.getD_some, bV, UInt8.toNat_ofNat']
      congr 2
      omega
    refine ⟨x, rfl, ?_, key⟩
    obtain ⟨u, us, hq⟩ := List.exists_cons_of_ne_nil hne
    have := World.block_lt_of_cell? _ _ (key 0 u (by rw [hq]; rfl))
    rwa [blk_add] at this

end

section
variable {H : Type}
theorem bulk_one (d : DataW H) : 1 ≤ Rows.uptoBulk d := by
  cases d with
  | lit l => cases l <;> simp [Rows.uptoBulk]
  | nil => simp [Rows.uptoBulk]
  | ptr d => simp [Rows.uptoBulk]
  | slice elems spare => simp [Rows.uptoBulk]
  | agg parts => simp [Rows.uptoBulk]
  | iface t d => simp [Rows.uptoBulk]
  | map entries => simp [Rows.uptoBulk]
  | held h => simp [Rows.uptoBulk]
theorem bulk_len (l : List (DataW H)) : l.length ≤ Rows.uptoBulkAll l := by
  induction l with
  | nil => simp [Rows.uptoBulkAll]
  | cons x r ih => have := bulk_one x; simp only [Rows.uptoBulkAll, List.length_cons]; omega
theorem bulk_slice {d : DataW H} {n : Nat} (h : DLen d n) : n ≤ Rows.uptoBulk d := by
  rcases h with ⟨rfl, rfl⟩ | ⟨es, sp, rfl, rfl⟩
  · omega
  · have := bulk_len es; simp only [Rows.uptoBulk]; omega
end
end Go.Proofs.Ytfbmocpkfaiddaa
