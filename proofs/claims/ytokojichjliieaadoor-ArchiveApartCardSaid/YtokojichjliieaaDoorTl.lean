/- Texts as lists of bytes: equations in the walk's spelling. -/
import Derived.Test.YtokojichjliieaaDoorBase
import Derived.Lib.Strings
namespace Go.Proofs.YtokojichjliieaaDoor
theorem ba_eq {s t : ByteArray} (h : s.data.toList = t.data.toList) : s = t := ByteArray.ext (Array.toList_inj.1 h)
theorem size_len (s : ByteArray) : s.data.toList.length = s.size := rfl
theorem byte_at {s : ByteArray} {k : Nat} (h : k < s.size) : s.data.toList[k]? = some s[k] := by
  rw [List.getElem?_eq_getElem (by exact h)]; rfl
theorem head_at {s : ByteArray} (h : 0 < s.size) : s.data.toList.head? = some s[0] := by
  rw [List.head?_eq_getElem?]; exact byte_at h
theorem tl_ne {s : ByteArray} {l : List UInt8} (h : ¬ s.data.toList = l) : (s.toList == l) = false := by
  rw [Lib.toList_data]; simpa using h
theorem tl_eq {s : ByteArray} {l : List UInt8} (h : s.data.toList = l) : (s.toList == l) = true := by
  rw [Lib.toList_data]; simpa using h
theorem tl_some {s : ByteArray} (h : ¬ s.data.toList = []) : s.toList.isEmpty = false := by
  rw [Lib.toList_data]; simpa using h
theorem tl_none {s : ByteArray} (h : s.data.toList = []) : s.toList.isEmpty = true := by
  rw [Lib.toList_data]; simpa using h
theorem size_zero {s : ByteArray} (h : s.data.toList = []) : s.size = 0 := by rw [← size_len, h]; rfl
theorem size_pos {s : ByteArray} (h : ¬ s.data.toList = []) : 0 < s.size := by rw [← size_len]; exact List.length_pos_iff.2 h
theorem mk_toList (l : List UInt8) : (⟨l.toArray⟩ : ByteArray).data.toList = l := rfl
theorem ret_bool {b b' : Bool} (h : b = b') : Ending.returned (.bool b) = Ending.returned (.bool b') := by rw [h]
theorem u8_ne {x y : UInt8} (h : ¬ x = y) : ¬ (x.toNat : Int) = (y.toNat : Int) := fun e => h (UInt8.toNat_inj.1 (by omega))
end Go.Proofs.YtokojichjliieaaDoor
