/- Contracts of the inner functions of name: clean. -/
import Derived.Test.YthblilhdjabhnaaDoorProg
import Derived.Test.YthblilhdjabhnaaDoorBase
import Derived.Test.YthblilhdjabhnaaDoorNameP
import Derived.Test.YthblilhdjabhnaaDoorShelf
namespace Go.Proofs.YthblilhdjabhnaaDoor
open Go.RowKit

theorem byteAt {s : ByteArray} {k : Nat} (h : k < s.size) : s.data.toList[k]? = some s[k] := by
  have : k < s.data.toList.length := h
  rw [List.getElem?_eq_getElem this]; rfl
theorem size_len (s : ByteArray) : s.data.toList.length = s.size := rfl
theorem okc_iff (c : UInt8) : okc c = true ↔ 32 < (c.toNat : Int) ∧ ¬ (c.toNat : Int) = 127 ∧ Lib.indexByte [46, 59, 91, 92, 40, 41, 60, 62] c < 0 := by
  unfold okc
  have h := indexByte_mem badL c
  have h2 : (Lib.indexByte badL c < 0) ↔ ¬ c ∈ badL := by rw [← h]; omega
  rw [show ([46, 59, 91, 92, 40, 41, 60, 62] : List UInt8) = badL from rfl, h2]
  simp only [Bool.and_eq_true, decide_eq_true_eq, bne_iff_ne, ne_eq, Bool.not_eq_true', List.contains_eq_mem, decide_eq_false_iff_not]
  constructor
  · rintro ⟨⟨a, b⟩, c⟩; exact ⟨by omega, by omega, c⟩
  · rintro ⟨a, b, c⟩; exact ⟨⟨by omega, by omega⟩, c⟩
theorem clean_bad {s : ByteArray} {k : Nat} (h : k < s.size) (hb : ¬ (32 < (s[k].toNat : Int) ∧ ¬ (s[k].toNat : Int) = 127 ∧ Lib.indexByte [46, 59, 91, 92, 40, 41, 60, 62] s[k] < 0)) : cleanB s.data.toList = false := by
  rw [← okc_iff] at hb
  unfold cleanB
  have hm : s[k] ∈ s.data.toList := List.mem_of_getElem? (byteAt h)
  have : s.data.toList.all okc = false := by
    rw [List.all_eq_false]; exact ⟨_, hm, hb⟩
  rw [this]; rfl
theorem take_all {s : ByteArray} {k : Nat} (h : k < s.size) {p : UInt8 → Bool} (ha : (s.data.toList.take k).all p = true) (hb : p s[k] = true) : (s.data.toList.take (k + 1)).all p = true := by
  rw [List.take_add_one, byteAt h]
  simp [hb] at ha ⊢
  exact ha

theorem ret_bool {a b : Bool} (h : a = b) : Ending.returned (.bool a) = Ending.returned (.bool b) := by rw [h]
set_option maxHeartbeats 400000 in
theorem clean_any (s : ByteArray) (w : World) (hs : s.size ≤ 140737488355328) :
    Calls Tryd.prog 36 #[.string s] w fun e w' => e = .returned (.bool (cleanB s.data.toList)) ∧ w = w' := by
  go_enter Tryd.func36, Tryd.ntmps36
  go_wp2
  go_loop [7] (fun i => ∃ k : Nat, k ≤ s.size ∧ i = .int .i64 (k : Int) ∧ Hid (((s.data.toList).take k).all okc = true)) (fun i => s.size - (intOf i).toNat)
  case atStart => exact ⟨0, by omega, rfl, Lib.hid (by simp)⟩
  case round =>
    obtain ⟨k, hk, rfl, hall⟩ := hrel
    by_cases hk0 : k < s.size
    · go_wp2_with (go_at_call 30; refine (Tryd.strings_IndexByte _ _ _).mono ?_; rintro e w' ⟨rfl, rfl⟩)
      · go_ret
        exact ⟨ret_bool (clean_bad hk0 (by omega)).symm, rfl⟩
      · rename_i h4
        go_ret
        exact ⟨ret_bool (clean_bad hk0 (by rintro ⟨a1, a2, a3⟩; simp only [beq_iff_eq] at h4; omega)).symm, rfl⟩
      · rename_i h4
        go_round
        case rel => exact ⟨k + 1, by omega, by go_num, Lib.hid (take_all hk0 hall.out ((okc_iff _).2 (by simp at h4; omega)))⟩
        case measure => simp [intOf]; omega
      · go_ret
        exact ⟨ret_bool (clean_bad hk0 (by omega)).symm, rfl⟩
    · obtain rfl : k = s.size := by omega
      go_wp2
      go_ret
      exact ⟨ret_bool (by rw [Lib.toList_data]; have h := hall.out; rw [show s.data.toList.take s.size = s.data.toList from List.take_length] at h; unfold cleanB; rw [h, Bool.true_and]), rfl⟩
end Go.Proofs.YthblilhdjabhnaaDoor
