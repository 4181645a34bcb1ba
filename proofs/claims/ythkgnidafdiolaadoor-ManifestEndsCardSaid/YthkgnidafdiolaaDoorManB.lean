/- Contract: manifest.named. -/
import Derived.Test.YthkgnidafdiolaaDoorManA
namespace Go.Proofs.YthkgnidafdiolaaDoor
open Go.RowKit

theorem all_take {p : UInt8 → Bool} {l : List UInt8} {k : Nat} {x : UInt8} (h : (l.take k).all p = true) (hx : l[k]? = some x) (hp : p x = true) : (l.take (k + 1)).all p = true := by
  rw [List.take_add_one, hx, List.all_append, h]; simp [hp]
theorem all_not {p : UInt8 → Bool} {l : List UInt8} {k : Nat} {x : UInt8} (hx : l[k]? = some x) (hp : p x = false) : l.all p = false := by
  rw [List.all_eq_false]; exact ⟨x, List.mem_of_getElem? hx, by rw [hp]; decide⟩
set_option maxHeartbeats 2000000 in
theorem named_any (s : ByteArray) (w : World) (hs : s.size ≤ 140737488355328) :
    Calls Tryd.prog 21 #[.string s] w fun e w' => e = .returned (.bool (nameB s.data.toList)) ∧ Below w.heap.size w w' := by
  by_cases h0 : s.data.toList = []
  · have hv := Lib.hid (nameB_bad (.inl h0))
    have h0' := size_zero h0
    have h0s := tl_none h0
    clear h0
    go_enter Tryd.func21, Tryd.ntmps21
    go_wp2
    go_ret
    exact ⟨ret_bool hv.out.symm, Below.refl _ _⟩
  · have hp := size_pos h0
    have h0s := tl_some h0
    by_cases h70 : 70 < s.size
    · have hv := Lib.hid (nameB_bad (s := s.data.toList) (.inr (.inl h70)))
      clear h0
      go_enter Tryd.func21, Tryd.ntmps21
      go_wp2
      go_ret
      exact ⟨ret_bool hv.out.symm, Below.refl _ _⟩
    · by_cases h45 : s[0] = 45
      · have hv := Lib.hid (nameB_bad (s := s.data.toList) (.inr (.inr (.inl (by rw [head_at hp, h45])))))
        have h45' : (s[0].toNat : Int) = 45 := by rw [h45]; rfl
        clear h0 h45
        go_enter Tryd.func21, Tryd.ntmps21
        go_wp2
        go_ret
        exact ⟨ret_bool hv.out.symm, Below.refl _ _⟩
      · by_cases h95 : s[0] = 95
        · have hv := Lib.hid (nameB_bad (s := s.data.toList) (.inr (.inr (.inr (by rw [head_at hp, h95])))))
          have h95' : (s[0].toNat : Int) = 95 := by rw [h95]; rfl
          clear h0 h95 h45
          go_enter Tryd.func21, Tryd.ntmps21
          go_wp2
          go_ret
          exact ⟨ret_bool hv.out.symm, Below.refl _ _⟩
        · have hv := Lib.hid (nameB_small h0 (by rw [size_len]; omega) (by rw [head_at hp]; intro e; injection e with e; exact h45 e) (by rw [head_at hp]; intro e; injection e with e; exact h95 e))
          have h45' : ¬ (s[0].toNat : Int) = 45 := fun e => h45 (UInt8.toNat_inj.1 (by have : s[0].toNat = 45 := by omega
                                                                                       rw [this]; rfl))
          have h95' : ¬ (s[0].toNat : Int) = 95 := fun e => h95 (UInt8.toNat_inj.1 (by have : s[0].toNat = 95 := by omega
                                                                                       rw [this]; rfl))
          have e45 : ((s[0].toNat : Int) == 45) = false := by simpa using h45'
          have e95 : ((s[0].toNat : Int) == 95) = false := by simpa using h95'
          clear h0 h45 h95
          obtain ⟨r, hr⟩ : ∃ r : ByteArray, (⟨(smallL s.data.toList).toArray⟩ : ByteArray) = r := ⟨_, rfl⟩
          have hrl : r.data.toList = smallL s.data.toList := by rw [← hr]
          have hrs : r.size = s.size := by rw [← size_len, hrl, ← size_len]; simp [smallL]
          have HR := Lib.hid hr
          rw [← hrl] at hv
          clear hr hrl
          have hcv := fun w0 : World => run_bytes_of_string (P := Tryd.prog) w0 9 22 5 r Tryd.underlying9 Tryd.underlying22 Tryd.underlying5
          go_enter Tryd.func21, Tryd.ntmps21
          go_wp2_with fail
          refine (small_any s _ hs).mono ?_
          rintro e w1 ⟨rfl, hb1⟩
          rw [HR.out]
          go_wp2
          go_loopw [4, 26] (fun _ i wr => ∃ k : Nat, k ≤ r.size ∧ i = .int .i64 (k : Int) ∧ Mb wr w1.heap.size 5 r.data.toList ∧ Below w.heap.size w wr ∧ Hid ((r.data.toList.take k).all smlB = true)) (fun _ i _ => r.size - (intOf i).toNat)
          case atStart => exact ⟨0, by omega, rfl, Mb.new w1.drew r _ _, bl_alloc hb1.drew (Nat.le_refl _) _, Lib.hid rfl⟩
          case round =>
            obtain ⟨k, hk, rfl, hm, hbel, hall⟩ := hrel
            by_cases hk0 : k < r.size
            · have hx := byte_at hk0
              have hc : wr.cell? ⟨w1.heap.size, k, none⟩ = some (.int .u8 (r[k].toNat : Int)) := hm.cell hx
              have HX := Lib.hid hx
              clear hx
              cases hb : smlB r[k]
              · have hfin := Lib.hid (all_not HX.out hb)
                unfold smlB at hb
                simp only [decide_eq_false_iff_not, not_or] at hb
                obtain ⟨p1, p2, p3, p4⟩ := hb
                have q1 : (r[k].toNat : Int) < 97 ∨ 122 < (r[k].toNat : Int) := by omega
                have q2 : (r[k].toNat : Int) < 48 ∨ 57 < (r[k].toNat : Int) := by omega
                have q3 : ((r[k].toNat : Int) != 45) = true := by simp; omega
                have q4 : ((r[k].toNat : Int) != 95) = true := by simp; omega
                have q5 : ¬ (r[k].toNat : Int) = 45 := by omega
                have q6 : ¬ (r[k].toNat : Int) = 95 := by omega
                clear p1 p2 p3 p4
                rcases q1 with q1 | q1 <;> rcases q2 with q2 | q2 <;> go_wp2
                all_goals
                  go_ret
                  exact ⟨ret_bool (by rw [hv.out, hfin.out]), hbel⟩
              · have hnx := Lib.hid (all_take hall.out HX.out hb)
                unfold smlB at hb
                simp only [decide_eq_true_eq] at hb
                rcases hb with ⟨p1, p2⟩ | ⟨p1, p2⟩ | p1 | p1
                · have q1 : 97 ≤ (r[k].toNat : Int) := by omega
                  have q2 : (r[k].toNat : Int) ≤ 122 := by omega
                  clear p1 p2
                  go_wp2
                  all_goals
                    go_roundw
                    case rel => exact ⟨k + 1, by omega, by go_num, hm, hbel, hnx⟩
                    case measure => simp [intOf]; omega
                · have q1 : 48 ≤ (r[k].toNat : Int) := by omega
                  have q2 : (r[k].toNat : Int) ≤ 57 := by omega
                  clear p1 p2
                  go_wp2
                  all_goals
                    go_roundw
                    case rel => exact ⟨k + 1, by omega, by go_num, hm, hbel, hnx⟩
                    case measure => simp [intOf]; omega
                · have q1 : (r[k].toNat : Int) = 45 := by omega
                  clear p1
                  go_wp2
                  all_goals
                    go_roundw
                    case rel => exact ⟨k + 1, by omega, by go_num, hm, hbel, hnx⟩
                    case measure => simp [intOf]; omega
                · have q1 : (r[k].toNat : Int) = 95 := by omega
                  clear p1
                  go_wp2
                  all_goals
                    go_roundw
                    case rel => exact ⟨k + 1, by omega, by go_num, hm, hbel, hnx⟩
                    case measure => simp [intOf]; omega
            · obtain rfl : k = r.size := by omega
              have hfin : r.data.toList.all smlB = true := by have := hall.out; rwa [← size_len, List.take_length] at this
              have HF := Lib.hid (hv.out.trans hfin)
              clear hfin
              go_wp2
              go_ret
              exact ⟨ret_bool HF.out.symm, hbel⟩
end Go.Proofs.YthkgnidafdiolaaDoor
