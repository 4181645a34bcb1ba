/- Desc, Slots, Member of name and of samovarref13: what they answer. -/
import Derived.Test.YthlplphpikboiaaDoorNameE
import Derived.Test.YthlplphpikboiaaDoorNameM
import Derived.Outline
namespace Go.Proofs.YthlplphpikboiaaDoor
open Go.RowKit


theorem isEmpty_ext (s : ByteArray) (a : Nat) (h : a ≤ s.size) : (s.extract a s.size).toList.isEmpty = decide (a = s.size) := by
  rw [Lib.toList_data, extract_data, Bool.eq_iff_iff]
  simp; omega
set_option maxHeartbeats 400000 in
theorem desc_any (s : ByteArray) (m : Int) (w : World) (hs : s.size ≤ 140737488355328) (hm : w.cell? ⟨0, 0, none⟩ = some (.int .i64 m)) :
    Calls Tryd.prog 13 #[.string s] w fun e w' => e = .returned (.bool (descB s.data.toList)) ∧ Below w.heap.size w w' := by
  have hle : headN s.data.toList ≤ s.size := headN_le _
  have hds : descB s.data.toList = (decide (0 < headN s.data.toList) && decide (headN s.data.toList = s.size)) := rfl
  rw [hds]
  obtain ⟨h, hh⟩ : ∃ h, headN s.data.toList = h := ⟨_, rfl⟩
  rw [hh] at hle ⊢
  have HH := Lib.hid hh
  have HP := Lib.hid (head_post s m w hs hm)
  clear hh hds
  cases h with
  | zero =>
    go_enter Tryd.func13, Tryd.ntmps13
    go_wp2_with (go_at_call 29; refine (HP.out).mono ?_; rintro e w' ⟨h1, _, hb⟩; have h2 := h1 HH.out; clear h1; subst h2)
    go_ret
    exact ⟨rfl, hb⟩
  | succ h =>
    have HE := Lib.hid (isEmpty_ext s (h + 1) hle)
    go_enter Tryd.func13, Tryd.ntmps13
    go_wp2_with (go_at_call 29; refine (HP.out).mono ?_; rintro e w' ⟨_, h1, hb⟩; have h2 := h1 _ HH.out; clear h1; subst h2)
    go_ret
    refine ⟨ret_bool ?_, hb⟩
    rw [HE.out]; simp

set_option maxHeartbeats 400000 in
theorem refDesc_any (s : ByteArray) (w : World) (hs : s.size ≤ 140737488355328) :
    Calls Tryd.prog 14 #[.string s] w fun e w' => e = .returned (.bool (descB s.data.toList)) ∧ Below w.heap.size w w' := by
  have hle : headN s.data.toList ≤ s.size := headN_le _
  have hds : descB s.data.toList = (decide (0 < headN s.data.toList) && decide (headN s.data.toList = s.size)) := rfl
  rw [hds]
  have HP := Lib.hid (first_any s w hs)
  clear hds
  generalize headN s.data.toList = h at *
  rcases Nat.lt_or_ge 0 s.size with h0 | h0
  · go_enter Tryd.func14, Tryd.ntmps14
    go_wp2_with (go_at_call 30; refine (HP.out).mono ?_; rintro e w' ⟨rfl, hb⟩)
    go_ret
    refine ⟨ret_bool ?_, hb⟩
    rw [Bool.eq_iff_iff]; simp; omega
  · have h1 : s.size ≤ 0 := h0
    go_enter Tryd.func14, Tryd.ntmps14
    go_wp2
    go_ret
    refine ⟨ret_bool ?_, Below.refl _ _⟩
    rw [Bool.eq_iff_iff]; simp; omega
theorem ba_eq {s t : ByteArray} (h : s.data.toList = t.data.toList) : s = t := ByteArray.ext (Array.toList_inj.1 h)
theorem tl_ne {s : ByteArray} {l : List UInt8} (h : ¬ s.data.toList = l) : (s.toList == l) = false := by
  rw [Lib.toList_data]; simpa using h
theorem tl_eq {s : ByteArray} {l : List UInt8} (h : s.data.toList = l) : (s.toList == l) = true := by
  rw [Lib.toList_data]; simpa using h
theorem tl_some {s : ByteArray} (h : ¬ s.data.toList = []) : s.toList.isEmpty = false := by
  rw [Lib.toList_data]; simpa using h
theorem tl_none {s : ByteArray} (h : s.data.toList = []) : s.toList.isEmpty = true := by
  rw [Lib.toList_data]; simpa using h
theorem slotsN_one {l : List UInt8} (h1 : ¬ l = [74]) (h2 : ¬ l = []) (h3 : ¬ l = [86]) : slotsN l = 1 := by unfold slotsN; rw [if_neg h1, if_neg (by simp [h2, h3])]
set_option maxHeartbeats 400000 in
theorem slots_any (s : ByteArray) (w : World) :
    Calls Tryd.prog 15 #[.string s] w fun e w' => e = .returned (.int .i64 (slotsN s.data.toList)) ∧ w = w' := by
  by_cases h1 : s.data.toList = [74]
  · obtain rfl : s = ⟨#[74]⟩ := ba_eq h1
    clear h1
    go_enter Tryd.func15, Tryd.ntmps15
    go_wp2
    go_ret
    exact ⟨rfl, rfl⟩
  · by_cases h2 : s.data.toList = []
    · obtain rfl : s = ⟨#[]⟩ := ba_eq h2
      clear h1 h2
      go_enter Tryd.func15, Tryd.ntmps15
      go_wp2
      go_ret
      exact ⟨rfl, rfl⟩
    · by_cases h3 : s.data.toList = [86]
      · obtain rfl : s = ⟨#[86]⟩ := ba_eq h3
        clear h1 h2 h3
        go_enter Tryd.func15, Tryd.ntmps15
        go_wp2
        go_ret
        exact ⟨rfl, rfl⟩
      · rw [slotsN_one h1 h2 h3]
        have g1 := tl_ne h1
        have g2 := tl_some h2
        have g3 := tl_ne h3
        clear h1 h2 h3
        go_enter Tryd.func15, Tryd.ntmps15
        go_wp2
        go_ret
        exact ⟨rfl, rfl⟩
set_option maxHeartbeats 400000 in
theorem refSlots_any (s : ByteArray) (w : World) :
    Calls Tryd.prog 16 #[.string s] w fun e w' => e = .returned (.int .i64 (slotsN s.data.toList)) ∧ w = w' := by
  by_cases h1 : s.data.toList = [74]
  · obtain rfl : s = ⟨#[74]⟩ := ba_eq h1
    clear h1
    go_enter Tryd.func16, Tryd.ntmps16
    go_wp2
    go_ret
    exact ⟨rfl, rfl⟩
  · by_cases h2 : s.data.toList = []
    · obtain rfl : s = ⟨#[]⟩ := ba_eq h2
      clear h1 h2
      go_enter Tryd.func16, Tryd.ntmps16
      go_wp2
      go_ret
      exact ⟨rfl, rfl⟩
    · by_cases h3 : s.data.toList = [86]
      · obtain rfl : s = ⟨#[86]⟩ := ba_eq h3
        clear h1 h2 h3
        go_enter Tryd.func16, Tryd.ntmps16
        go_wp2
        go_ret
        exact ⟨rfl, rfl⟩
      · rw [slotsN_one h1 h2 h3]
        have g1 := tl_ne h1
        have g2 := tl_some h2
        have g3 := tl_ne h3
        clear h1 h2 h3
        go_enter Tryd.func16, Tryd.ntmps16
        go_wp2
        go_ret
        exact ⟨rfl, rfl⟩

def initL : List UInt8 := [60, 105, 110, 105, 116, 62]
def clinitL : List UInt8 := [60, 99, 108, 105, 110, 105, 116, 62]
def plainName (l : List UInt8) : Bool := cleanB l && decide (l.length ≤ 64) && !l.contains 47
def memB (l : List UInt8) (meth : Bool) : Bool := (meth && (l == initL || l == clinitL)) || plainName l
theorem noslash (l : List UInt8) : decide (Lib.indexByte l 47 < 0) = !l.contains 47 := by
  rw [Bool.eq_iff_iff]
  have h := indexByte_mem l 47
  simp only [decide_eq_true_eq, Bool.not_eq_true', List.contains_eq_mem, decide_eq_false_iff_not]
  rw [← h]; omega
set_option maxHeartbeats 800000 in
theorem member_plain (s : ByteArray) (meth : Bool) (w : World) (hs : s.size ≤ 140737488355328) (h : meth = false ∨ (¬ s.data.toList = initL ∧ ¬ s.data.toList = clinitL)) :
    Calls Tryd.prog 11 #[.string s, .bool meth] w fun e w' => e = .returned (.bool (plainName s.data.toList)) ∧ w = w' := by
  have hv := Lib.hid (show plainName s.data.toList = (cleanB s.data.toList && decide (s.size ≤ 64) && decide (Lib.indexByte s.data.toList 47 < 0)) by rw [noslash]; rfl)
  have hm : meth = false ∨ (meth = true ∧ (s.toList == [60, 105, 110, 105, 116, 62]) = false ∧ (s.toList == [60, 99, 108, 105, 110, 105, 116, 62]) = false) := by
    rcases h with h | ⟨a, b⟩
    · exact .inl h
    · cases meth
      · exact .inl rfl
      · exact .inr ⟨rfl, tl_ne a, tl_ne b⟩
  clear h
  rcases hm with rfl | ⟨rfl, g1, g2⟩
  all_goals
    cases hc : cleanB s.data.toList
    all_goals
      have HC := Lib.hid hc
      clear hc
      by_cases h64 : s.size ≤ 64
      all_goals
        go_enter Tryd.func11, Tryd.ntmps11
        go_wp2_with (first
          | (go_at_call 26; refine (clean_any _ _ hs).mono ?_; rintro e w' ⟨rfl, rfl⟩; rw [HC.out])
          | (go_at_call 28; refine (Tryd.strings_IndexByte _ _ _).mono ?_; rintro e w' ⟨rfl, rfl⟩))
        go_ret
        refine ⟨ret_bool ?_, rfl⟩
        rw [hv.out, HC.out]
        simp [h64]
set_option maxHeartbeats 400000 in
theorem member_any (s : ByteArray) (meth : Bool) (w : World) (hs : s.size ≤ 140737488355328) :
    Calls Tryd.prog 11 #[.string s, .bool meth] w fun e w' => e = .returned (.bool (memB s.data.toList meth)) ∧ w = w' := by
  by_cases h : meth = false ∨ (¬ s.data.toList = initL ∧ ¬ s.data.toList = clinitL)
  · refine (member_plain s meth w hs h).mono ?_
    rintro e w' ⟨rfl, rfl⟩
    refine ⟨ret_bool ?_, rfl⟩
    unfold memB
    rcases h with rfl | ⟨a, b⟩
    · simp
    · simp [a, b]
  · simp only [not_or, Bool.not_eq_false, not_and] at h
    obtain ⟨rfl, h⟩ := h
    by_cases h1 : s.data.toList = initL
    · obtain rfl : s = ⟨#[60, 105, 110, 105, 116, 62]⟩ := ba_eq h1
      clear h h1
      go_enter Tryd.func11, Tryd.ntmps11
      go_wp2
      go_ret
      exact ⟨rfl, rfl⟩
    · have h2 := Classical.not_not.1 (h h1)
      obtain rfl : s = ⟨#[60, 99, 108, 105, 110, 105, 116, 62]⟩ := ba_eq h2
      clear h h1 h2
      go_enter Tryd.func11, Tryd.ntmps11
      go_wp2
      go_ret
      exact ⟨rfl, rfl⟩
theorem plain_take {s : ByteArray} {k : Nat} (h : k < s.size) (hb : ¬ (s[k] = 47) → okc s[k] = false) : plainName s.data.toList = false := by
  unfold plainName
  by_cases h47 : s[k] = 47
  · have : s.data.toList.contains 47 = true := by rw [List.contains_eq_mem]; exact decide_eq_true (by rw [← h47]; exact List.mem_of_getElem? (byteAt h))
    rw [this]; simp
  · have : cleanB s.data.toList = false := by
      unfold cleanB
      rw [List.all_eq_false.2 ⟨s[k], List.mem_of_getElem? (byteAt h), by rw [hb h47]; decide⟩]; rfl
    rw [this]; rfl
theorem isEmpty_len (l : List UInt8) : l.isEmpty = decide (l.length = 0) := by cases l <;> simp
theorem plain_done {s : ByteArray} (h : (s.data.toList.take s.size).all (fun c => okc c && c != 47) = true) : plainName s.data.toList = (decide (1 ≤ s.size) && decide (s.size ≤ 64)) := by
  rw [show s.data.toList.take s.size = s.data.toList from List.take_length, List.all_eq_true] at h
  have h1 : s.data.toList.all okc = true := List.all_eq_true.2 fun x hx => by have := h x hx; simp at this; exact this.1
  have h2 : s.data.toList.contains 47 = false := by
    rw [List.contains_eq_mem]
    exact decide_eq_false fun hm => by have := h _ hm; simp at this
  unfold plainName cleanB
  rw [h1, h2, isEmpty_len, size_len]
  simp only [Bool.true_and, Bool.not_false, Bool.and_true]
  rw [Bool.eq_iff_iff]; simp only [Bool.and_eq_true, Bool.not_eq_true', decide_eq_false_iff_not, decide_eq_true_eq]; omega
set_option maxHeartbeats 800000 in
theorem refMember_plain (s : ByteArray) (meth : Bool) (w : World) (hs : s.size ≤ 140737488355328) (h : meth = false ∨ (¬ s.data.toList = initL ∧ ¬ s.data.toList = clinitL)) :
    Calls Tryd.prog 12 #[.string s, .bool meth] w fun e w' => e = .returned (.bool (plainName s.data.toList)) ∧ Below w.heap.size w w' := by
  have hm : meth = false ∨ (meth = true ∧ (s.toList == [60, 105, 110, 105, 116, 62]) = false ∧ (s.toList == [60, 99, 108, 105, 110, 105, 116, 62]) = false) := by
    rcases h with h | ⟨a, b⟩
    · exact .inl h
    · cases meth
      · exact .inl rfl
      · exact .inr ⟨rfl, tl_ne a, tl_ne b⟩
  clear h
  rcases hm with rfl | ⟨rfl, g1, g2⟩
  all_goals
    go_enter Tryd.func12, Tryd.ntmps12
    go_wp2
    go_loopw [5] (fun i wr => ∃ k : Nat, k ≤ s.size ∧ i = .int .i64 (k : Int) ∧ Hid ((s.data.toList.take k).all (fun c => okc c && c != 47) = true) ∧ Below w.heap.size w wr) (fun i _ => s.size - (intOf i).toNat)
    case atStart => exact ⟨0, by omega, rfl, Lib.hid (by simp), Below.refl _ _⟩
    case round =>
      obtain ⟨k, hk, rfl, hgo, hb⟩ := hrel
      by_cases hk0 : k < s.size
      · by_cases h47 : s[k] = 47
        · have h47' : (s[k].toNat : Int) = 47 := by rw [h47]; rfl
          have HF := Lib.hid (plain_take hk0 (fun h => absurd h47 h))
          clear h47
          go_wp2
          go_ret
          exact ⟨ret_bool (by rw [HF.out]), hb⟩
        · have h47' := u8ne (n := 47) h47 (by omega)
          have H47 := Lib.hid h47
          clear h47
          cases hok : okc s[k]
          · have HO := Lib.hid hok
            clear hok
            go_wp2_with (go_at_call 27; refine (plain_any _ _).mono ?_; rintro e w' ⟨rfl, hb'⟩; rw [HO.out])
            go_ret
            exact ⟨ret_bool (by rw [plain_take hk0 (fun _ => HO.out)]), hb.trans (hb'.mono hb.size)⟩
          · have HO := Lib.hid hok
            clear hok
            go_wp2_with (go_at_call 27; refine (plain_any _ _).mono ?_; rintro e w' ⟨rfl, hb'⟩; rw [HO.out])
            go_roundw
            case rel => exact ⟨k + 1, by omega, by go_num, Lib.hid (take_all hk0 hgo.out (by rw [HO.out]; simpa using H47.out)), hb.trans (hb'.mono hb.size)⟩
            case measure => simp [intOf]; omega
      · obtain rfl : k = s.size := by omega
        go_wp2
        all_goals
          go_ret
          refine ⟨ret_bool ?_, hb⟩
          rw [plain_done hgo.out, Bool.eq_iff_iff]
          simp only [Bool.and_eq_true, decide_eq_true_eq, Bool.false_eq_true, false_iff]
          omega
set_option maxHeartbeats 400000 in
theorem refMember_any (s : ByteArray) (meth : Bool) (w : World) (hs : s.size ≤ 140737488355328) :
    Calls Tryd.prog 12 #[.string s, .bool meth] w fun e w' => e = .returned (.bool (memB s.data.toList meth)) ∧ Below w.heap.size w w' := by
  by_cases h : meth = false ∨ (¬ s.data.toList = initL ∧ ¬ s.data.toList = clinitL)
  · refine (refMember_plain s meth w hs h).mono ?_
    rintro e w' ⟨rfl, hb⟩
    refine ⟨ret_bool ?_, hb⟩
    unfold memB
    rcases h with rfl | ⟨a, b⟩
    · simp
    · simp [a, b]
  · simp only [not_or, Bool.not_eq_false, not_and] at h
    obtain ⟨rfl, h⟩ := h
    by_cases h1 : s.data.toList = initL
    · obtain rfl : s = ⟨#[60, 105, 110, 105, 116, 62]⟩ := ba_eq h1
      clear h h1
      go_enter Tryd.func12, Tryd.ntmps12
      go_wp2
      go_ret
      exact ⟨rfl, Below.refl _ _⟩
    · have h2 := Classical.not_not.1 (h h1)
      obtain rfl : s = ⟨#[60, 99, 108, 105, 110, 105, 116, 62]⟩ := ba_eq h2
      clear h h1 h2
      go_enter Tryd.func12, Tryd.ntmps12
      go_wp2
      go_ret
      exact ⟨rfl, Below.refl _ _⟩
end Go.Proofs.YthlplphpikboiaaDoor
