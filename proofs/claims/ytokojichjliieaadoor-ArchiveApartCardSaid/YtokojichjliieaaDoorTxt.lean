/- Texts in cells; what strings.Split and strings.IndexByte answer. -/
import Derived.Test.YtokojichjliieaaDoorProg
import Derived.Test.YtokojichjliieaaDoorTl
import Derived.Test.YtokojichjliieaaDoorManS
import Derived.Test.YtokojichjliieaaDoorRow
import Derived.Lib.IndexLaws
namespace Go.Proofs.YtokojichjliieaaDoor
open Go.RowKit
open Go.Lib (replaceAll countB splitB splitK splitB_data splitB_all countB_le)

/-- A text's cell. -/
def sV (x : List UInt8) : Value := .string ⟨x.toArray⟩
theorem sV_one (x : List UInt8) : (sV x).oneCell' = true := rfl
theorem str_info : ∃ i, Tryd.prog.info? 9 = some i ∧ i.zero = some (.string .empty) ∧ i.size = 1 ∧ i.bytes = 16 := info_parts (by kernel_rfl)
theorem strTy : ETy Tryd.prog 70 9 (.string .empty) 1 16 := ⟨Tryd.underlying70, str_info, rfl, by decide⟩
/-- What Split lays. -/
theorem split_row (s : ByteArray) (a : UInt8) : countB s ⟨#[a]⟩ + 1 = (cutL a s.data.toList).length ∧ (splitB ⟨#[a]⟩ 0 (countB s ⟨#[a]⟩) s).map Value.string = (cutL a s.data.toList).map sV := by
  have h := splitB_data ⟨#[a]⟩ 0 (countB s ⟨#[a]⟩) s
  have e : splitK (⟨#[a]⟩ : ByteArray).data.toList 0 (countB s ⟨#[a]⟩) s.data.toList = cutL a s.data.toList := split_cut a s.data.toList
  rw [e] at h
  refine ⟨?_, ?_⟩
  · rw [← h, List.length_map, splitB_all ⟨#[a]⟩ (Nat.le_refl 1) 0 _ s rfl]
  · rw [← h, List.map_map]; rfl
theorem idx_has {l : List UInt8} {x : UInt8} (h : l.contains x = true) : 0 ≤ Lib.indexByte l x := by
  have hge := Lib.indexByte_ge l x
  rcases Decidable.em (Lib.indexByte l x = -1) with h1 | h1
  · obtain ⟨i, hi⟩ := List.getElem?_of_mem (List.contains_iff_mem.1 h)
    exact absurd hi (Lib.indexByte_none h1 i)
  · omega
theorem idx_lacks {l : List UInt8} {x : UInt8} (h : l.contains x = false) : Lib.indexByte l x = -1 := by
  have hge := Lib.indexByte_ge l x
  rcases Decidable.em (Lib.indexByte l x = -1) with h1 | h1
  · exact h1
  · obtain ⟨hi, _⟩ := Lib.indexByte_some (l := l) (c := x) (o := (Lib.indexByte l x).toNat) (by omega)
    have := List.contains_iff_mem.2 (List.mem_of_getElem? hi)
    rw [h] at this; cases this
end Go.Proofs.YtokojichjliieaaDoor
