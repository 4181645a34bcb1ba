/- Contracts: samovarref12.letter and Name. -/
import Derived.Test.YthkgnidafdiolaaDoorManB
namespace Go.Proofs.YthkgnidafdiolaaDoor
open Go.RowKit

def letV (x : UInt8) (b : Bool) : Bool := letB x || (!b && decide (x.toNat = 45 ∨ x.toNat = 95))
theorem letV_false (x : UInt8) : letV x false = letterB x := u8_all (P := fun x => letV x false = letterB x) (by decide +kernel) x
theorem letV_true (x : UInt8) : letV x true = letB x := by simp [letV]
set_option maxHeartbeats 1000000 in
theorem letter_any (x : UInt8) (b : Bool) (w : World) :
    Calls Tryd.prog 33 #[.int .u8 (x.toNat : Int), .bool b] w fun e w' => e = .returned (.bool (letV x b)) ∧ w = w' := by
  go_enter Tryd.func33, Tryd.ntmps33
  go_wp2
  all_goals
    go_ret
    refine ⟨ret_bool ?_, rfl⟩
    unfold letV letB
    rw [Bool.eq_iff_iff]
    first
      | (simp; done)
      | (simp; omega)
      | (cases b <;> simp <;> omega)
theorem nameB_fine {l : List UInt8} (h : ∀ (j : Nat) (x : UInt8), l[j]? = some x → letV x (decide (j = 0)) = true) : nameB l = (decide (1 ≤ l.length) && decide (l.length ≤ 70)) := by
  cases l with
  | nil => rfl
  | cons c r =>
    have h0 : letB c = true := by have := h 0 c rfl; rwa [show decide (0 = 0) = true from rfl, letV_true] at this
    have hr : ∀ x ∈ r, letterB x = true := by
      intro x hx
      obtain ⟨i, hi⟩ := List.getElem?_of_mem hx
      have := h (i + 1) x (by simpa using hi)
      rwa [show decide (i + 1 = 0) = false by simp, letV_false] at this
    have hc : letterB c = true := by rw [let_letter] at h0; simp at h0; exact h0.1.1
    unfold nameB
    rw [List.head?_cons, List.all_cons, hc, List.all_eq_true.2 hr]
    simp [h0]
theorem nameB_fail {l : List UInt8} {k : Nat} {x : UInt8} (hx : l[k]? = some x) (h : letV x (decide (k = 0)) = false) : nameB l = false := by
  cases hh : nameB l with
  | false => rfl
  | true =>
    obtain ⟨_, _, h3⟩ := nameB_all hh
    cases k with
    | zero =>
      cases l with
      | nil => simp at hx
      | cons c r =>
        simp at hx
        subst hx
        rw [show decide (0 = 0) = true from rfl, letV_true] at h
        unfold nameB at hh
        rw [List.head?_cons] at hh
        simp [h] at hh
    | succ k =>
      rw [show decide (k + 1 = 0) = false by simp, letV_false] at h
      rw [h3 x (List.mem_of_getElem? hx)] at h; cases h
set_option maxHeartbeats 1000000 in
theorem refName_any (s : ByteArray) (w : World) (hs : s.size ≤ 140737488355328) :
    Calls Tryd.prog 24 #[.string s] w fun e w' => e = .returned (.bool (nameB s.data.toList)) ∧ w = w' := by
  go_enter Tryd.func24, Tryd.ntmps24
  go_wp2
  go_loop [3] (fun i => ∃ k : Nat, k ≤ s.size ∧ i = .int .i64 (k : Int) ∧ Hid (∀ (j : Nat) (x : UInt8), j < k → s.data.toList[j]? = some x → letV x (decide (j = 0)) = true)) (fun i => s.size - (intOf i).toNat)
  case atStart => exact ⟨0, by omega, rfl, Lib.hid (fun j x h => by omega)⟩
  case round =>
    obtain ⟨k, hk, rfl, hall⟩ := hrel
    by_cases hk0 : k < s.size
    · have HX := Lib.hid (byte_at hk0)
      obtain ⟨x, hx⟩ : ∃ x, s[k] = x := ⟨_, rfl⟩
      have HXE := Lib.hid hx
      have hd : ((k : Int) == 0) = decide (k = 0) := by rw [Bool.eq_iff_iff]; simp
      go_wp2_with fail
      refine (letter_any x (decide (k = 0)) w).mono ?_
      rintro e w' ⟨rfl, rfl⟩
      cases hb : letV x (decide (k = 0))
      · have HF := Lib.hid (nameB_fail HX.out (by rw [HXE.out]; exact hb))
        go_wp2
        go_ret
        exact ⟨ret_bool HF.out.symm, rfl⟩
      · have hnx : Hid (∀ (j : Nat) (x : UInt8), j < k + 1 → s.data.toList[j]? = some x → letV x (decide (j = 0)) = true) := Lib.hid (fun j y hj hy => by
          rcases Nat.lt_or_ge j k with h | h
          · exact hall.out j y h hy
          · obtain rfl : j = k := by omega
            rw [HX.out, HXE.out] at hy; injection hy with hy; subst hy; exact hb)
        go_wp2
        go_round
        case rel => exact ⟨k + 1, by omega, by go_num, hnx⟩
        case measure => simp [intOf]; omega
    · obtain rfl : k = s.size := by omega
      have HF := Lib.hid (nameB_fine (l := s.data.toList) (fun j x hx => hall.out j x (by have := (List.getElem?_eq_some_iff.1 hx).1; exact this) hx))
      go_wp2
      all_goals
        go_ret
        refine ⟨ret_bool ?_, rfl⟩
        rw [HF.out, size_len, Bool.eq_iff_iff]; simp; omega
end Go.Proofs.YthkgnidafdiolaaDoor
