/- samovarref13.first: what it answers. -/
import Derived.Test.YthblilhdjabhnaaDoorNameD
namespace Go.Proofs.YthblilhdjabhnaaDoor
open Go.RowKit

theorem indexByte_of {l : List UInt8} {c : UInt8} {j : Nat} (h : l[j]? = some c) (hn : ∀ i, i < j → ¬ l[i]? = some c) : Lib.indexByte l c = j := by
  obtain ⟨i, hi⟩ := Int.eq_ofNat_of_zero_le ((indexByte_mem l c).2 (List.mem_of_getElem? h))
  obtain ⟨h1, h2⟩ := Lib.indexByte_some hi
  rcases Nat.lt_trichotomy i j with h3 | h3 | h3
  · exact absurd h1 (hn i h3)
  · subst h3; exact hi
  · exact absurd h (h2 j h3)
theorem indexByte_neg {l : List UInt8} {c : UInt8} (hn : ∀ i, i < l.length → ¬ l[i]? = some c) : Lib.indexByte l c < 0 := by
  rcases Int.lt_or_le (Lib.indexByte l c) 0 with h | h
  · exact h
  · obtain ⟨i, hi⟩ := List.getElem?_of_mem ((indexByte_mem l c).1 h)
    exact absurd hi (hn i (List.getElem?_eq_some_iff.1 hi).1)
theorem u8ne {c : UInt8} {n : Nat} (h : ¬ c = UInt8.ofNat n) (hn : n < 256) : ¬ (c.toNat : Int) = n := fun e => h (UInt8.toNat_inj.1 (by rw [UInt8.toNat_ofNat']; omega))
theorem nosemi {l : List UInt8} {k : Nat} {c : UInt8} (hk : skipB l = k) (hc : l[k]? = some c) (h : ¬ c = 59) : ∀ i, i < k + 1 → ¬ l[i]? = some 59 := by
  intro i hi e
  rcases Nat.lt_or_ge i k with h1 | h1
  · rw [skipB_at (by omega)] at e; cases e
  · obtain rfl : i = k := by omega
    rw [hc] at e; injection e with e; exact h e

set_option maxHeartbeats 1000000 in
theorem first_any (s : ByteArray) (w : World) (hs : s.size ≤ 140737488355328) :
    Calls Tryd.prog 27 #[.string s] w fun e w' => e = .returned (.int .i64 (headN s.data.toList : Int)) ∧ Below w.heap.size w w' := by
  go_enter Tryd.func27, Tryd.ntmps27
  go_wp2
  go_loop [3] (fun i => ∃ k : Nat, k ≤ s.size ∧ i = .int .i64 (k : Int) ∧ Hid (skipB s.data.toList = k + skipB (s.data.toList.drop k))) (fun i => s.size - (intOf i).toNat)
  case atStart => exact ⟨0, by omega, rfl, Lib.hid (by simp)⟩
  case round =>
    obtain ⟨k, hk, rfl, hall⟩ := hrel
    by_cases hk0 : k < s.size
    · by_cases h91 : s[k] = 91
      · have h91' : (s[k].toNat : Int) = 91 := by rw [h91]; rfl
        have H91 := Lib.hid h91
        clear h91
        go_wp2
        go_round
        case rel => exact ⟨k + 1, by omega, by go_num, Lib.hid (skipB_step (byteAt hk0) hall.out H91.out)⟩
        case measure => simp [intOf]; omega
      · have h91' : ¬ (s[k].toNat : Int) = 91 := fun e => h91 (UInt8.toNat_inj.1 (by simpa using (by omega : s[k].toNat = 91)))
        have hsk := Lib.hid (skipB_stop (byteAt hk0) hall.out h91)
        have hat := Lib.hid (byteAt hk0)
        have hne : ((k : Int) == (s.size : Int)) = false := by simp; omega
        clear h91
        by_cases h8 : 8 < k
        · go_wp2
          go_ret
          exact ⟨ret_v (by rw [headN_far (by rw [hsk.out]; exact h8)]; rfl), Below.refl _ _⟩
        · by_cases hp : s[k] ∈ primL
          · have HR := Lib.hid (headN_prim hsk.out h8 hat.out hp)
            simp only [primL, List.mem_cons, List.mem_nil_iff, or_false] at hp
            rcases hp with hp | hp | hp | hp | hp | hp
            all_goals
              have hc' := congrArg (fun c : UInt8 => (c.toNat : Int)) hp
              simp only [UInt8.reduceToNat] at hc'
              clear hp
              go_wp2
              go_ret
              exact ⟨ret_v (by rw [HR.out]; go_num), Below.refl _ _⟩
          · have hp' := Lib.hid hp
            simp only [primL, List.mem_cons, List.mem_nil_iff, or_false, not_or] at hp
            obtain ⟨p1, p2, p3, p4, p5, p6⟩ := hp
            have q1 := u8ne (n := 66) p1 (by omega)
            have q2 := u8ne (n := 67) p2 (by omega)
            have q3 := u8ne (n := 83) p3 (by omega)
            have q4 := u8ne (n := 90) p4 (by omega)
            have q5 := u8ne (n := 73) p5 (by omega)
            have q6 := u8ne (n := 74) p6 (by omega)
            clear p1 p2 p3 p4 p5 p6
            by_cases h76 : s[k] = 76
            · have h76' : (s[k].toNat : Int) = 76 := by rw [h76]; rfl
              have H76 : Hid (s.data.toList[k]? = some 76) := by rw [← h76]; exact byteAt hk0
              clear h76 q1 q2 q3 q4 q5 q6
              go_wp2
              go_loop [4] (fun i => ∃ j : Nat, k + 1 ≤ j ∧ j ≤ s.size ∧ i = .int .i64 (j : Int) ∧ Hid (∀ i, i < j → ¬ s.data.toList[i]? = some 59)) (fun i => s.size - (intOf i).toNat)
              case atStart => exact ⟨k + 1, by omega, by omega, by go_num, Lib.hid (nosemi hsk.out H76.out (by decide))⟩
              case round =>
                obtain ⟨j, hj1, hj2, rfl, hno⟩ := hrel
                by_cases hj : j < s.size
                · by_cases h59 : s[j] = 59
                  · have h59' : (s[j].toNat : Int) = 59 := by rw [h59]; rfl
                    have HJ := Lib.hid (indexByte_of (by rw [← h59]; exact byteAt hj) hno.out)
                    have hcd := Lib.hid (extract_data s (k + 1) j)
                    clear h59
                    cases hok : (decide ((s.extract (k + 1) j).size ≤ 58) && classGo (s.extract (k + 1) j).data.toList 0)
                    · have HO := Lib.hid hok
                      clear hok
                      go_wp2_with (go_at_call 33; refine (refClass_any _ _ (by rw [ByteArray.size_extract]; omega)).mono ?_; rintro e w1 ⟨rfl, hb⟩; rw [HO.out])
                      go_ret
                      exact ⟨ret_v (by rw [headN_noclass hsk.out H76.out HJ.out (by unfold classOk; rw [← hcd.out]; exact HO.out)]; rfl), hb⟩
                    · have HO := Lib.hid hok
                      clear hok
                      go_wp2_with (go_at_call 33; refine (refClass_any _ _ (by rw [ByteArray.size_extract]; omega)).mono ?_; rintro e w1 ⟨rfl, hb⟩; rw [HO.out])
                      go_ret
                      exact ⟨ret_v (by rw [headN_class hsk.out h8 H76.out HJ.out (by unfold classOk; rw [← hcd.out]; exact HO.out)]; go_num), hb⟩
                  · have h59' := u8ne (n := 59) h59 (by omega)
                    have H59 := Lib.hid h59
                    clear h59
                    go_wp2
                    go_round
                    case rel =>
                      refine ⟨j + 1, by omega, by omega, by go_num, Lib.hid ?_⟩
                      intro i hi e
                      rcases Nat.lt_or_ge i j with h1 | h1
                      · exact hno.out i h1 e
                      · obtain rfl : i = j := by omega
                        rw [byteAt hj] at e; injection e with e; exact H59.out e
                    case measure => simp [intOf]; omega
                · obtain rfl : j = s.size := by omega
                  go_wp2
                  go_ret
                  exact ⟨ret_v (by rw [headN_nosemi hsk.out hat.out hp'.out (indexByte_neg hno.out)]; rfl), Below.refl _ _⟩
            · have h76' := u8ne (n := 76) h76 (by omega)
              have H76 := Lib.hid h76
              clear h76
              go_wp2
              go_ret
              exact ⟨ret_v (by rw [headN_other hsk.out hat.out hp'.out H76.out]; rfl), Below.refl _ _⟩
    · obtain rfl : k = s.size := by omega
      go_wp2
      all_goals
        go_ret
        exact ⟨ret_v (by rw [headN_end (skipB_full (Nat.le_refl _) hall.out)]; rfl), Below.refl _ _⟩
end Go.Proofs.YthblilhdjabhnaaDoor
