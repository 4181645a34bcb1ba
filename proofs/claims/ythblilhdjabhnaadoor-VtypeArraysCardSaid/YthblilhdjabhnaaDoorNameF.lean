/- Desc, Slots, Member of name and of samovarref13: what they answer. -/
import Derived.Test.YthblilhdjabhnaaDoorNameE
import Derived.Test.YthblilhdjabhnaaDoorNameM
import Derived.Outline
namespace Go.Proofs.YthblilhdjabhnaaDoor
open Go.RowKit


theorem isEmpty_ext (s : ByteArray) (a : Nat) (h : a ≤ s.size) : (s.extract a s.size).toList.isEmpty = decide (a = s.size) := by
  rw [Lib.toList_data, extract_data, Bool.eq_iff_iff]
  simp; omega
set_option maxHeartbeats 400000 in
theorem desc_any (s : ByteArray) (m : Int) (w : World) (hs : s.size ≤ 140737488355328) (hm : w.cell? ⟨0, 0, none⟩ = some (.int .i64 m)) :
    Calls Tryd.prog 18 #[.string s] w fun e w' => e = .returned (.bool (descB s.data.toList)) ∧ Below w.heap.size w w' := by
  have hle : headN s.data.toList ≤ s.size := headN_le _
  have hds : descB s.data.toList = (decide (0 < headN s.data.toList) && decide (headN s.data.toList = s.size)) := rfl
  rw [hds]
  obtain ⟨h, hh⟩ : ∃ h, headN s.data.toList = h := ⟨_, rfl⟩
  rw [hh] at hle ⊢
  have HH := Lib.hid hh
  have HP := Lib.hid (head_post s m w hs hm)
  clear hh hds
  cases h with
  | zero =>
    go_enter Tryd.func18, Tryd.ntmps18
    go_wp2_with (go_at_call 25; refine (HP.out).mono ?_; rintro e w' ⟨h1, _, hb⟩; have h2 := h1 HH.out; clear h1; subst h2)
    go_ret
    exact ⟨rfl, hb⟩
  | succ h =>
    have HE := Lib.hid (isEmpty_ext s (h + 1) hle)
    go_enter Tryd.func18, Tryd.ntmps18
    go_wp2_with (go_at_call 25; refine (HP.out).mono ?_; rintro e w' ⟨_, h1, hb⟩; have h2 := h1 _ HH.out; clear h1; subst h2)
    go_ret
    refine ⟨ret_bool ?_, hb⟩
    rw [HE.out]; simp

set_option maxHeartbeats 400000 in
theorem refDesc_any (s : ByteArray) (w : World) (hs : s.size ≤ 140737488355328) :
    Calls Tryd.prog 20 #[.string s] w fun e w' => e = .returned (.bool (descB s.data.toList)) ∧ Below w.heap.size w w' := by
  have hle : headN s.data.toList ≤ s.size := headN_le _
  have hds : descB s.data.toList = (decide (0 < headN s.data.toList) && decide (headN s.data.toList = s.size)) := rfl
  rw [hds]
  have HP := Lib.hid (first_any s w hs)
  clear hds
  generalize headN s.data.toList = h at *
  rcases Nat.lt_or_ge 0 s.size with h0 | h0
  · go_enter Tryd.func20, Tryd.ntmps20
    go_wp2_with (go_at_call 27; refine (HP.out).mono ?_; rintro e w' ⟨rfl, hb⟩)
    go_ret
    refine ⟨ret_bool ?_, hb⟩
    rw [Bool.eq_iff_iff]; simp; omega
  · have h1 : s.size ≤ 0 := h0
    go_enter Tryd.func20, Tryd.ntmps20
    go_wp2
    go_ret
    refine ⟨ret_bool ?_, Below.refl _ _⟩
    rw [Bool.eq_iff_iff]; simp; omega
theorem ba_eq {s t : ByteArray} (h : s.data.toList = t.data.toList) : s = t := ByteArray.ext (Array.toList_inj.1 h)
theorem tl_ne {s : ByteArray} {l : List UInt8} (h : ¬ s.data.toList = l) : (s.toList == l) = false := by
  rw [Lib.toList_data]; simpa using h
theorem tl_eq {s : ByteArray} {l : List UInt8} (h : s.data.toList = l) : (s.toList == l) = true := by
  rw [Lib.toList_data]; simpa using h
theorem tl_some {s : ByteArray} (h : ¬ s.data.toList = []) : s.toList.isEmpty = false := by
  rw [Lib.toList_data]; simpa using h
theorem tl_none {s : ByteArray} (h : s.data.toList = []) : s.toList.isEmpty = true := by
  rw [Lib.toList_data]; simpa using h
theorem ext_drop (s : ByteArray) (k : Nat) : (s.extract k s.size).data.toList = s.data.toList.drop k := by
  rw [extract_data]; exact List.take_of_length_le (by simp)
theorem ext_take (s : ByteArray) (k : Nat) : (s.extract 0 k).data.toList = s.data.toList.take k := by
  rw [extract_data]; simp
theorem u8nb {c : UInt8} {n : Nat} (h : ¬ c = UInt8.ofNat n) (hn : n < 256) : ((c.toNat : Int) != (n : Int)) = true := by
  have := u8ne h hn
  simpa using this
end Go.Proofs.YthblilhdjabhnaaDoor
