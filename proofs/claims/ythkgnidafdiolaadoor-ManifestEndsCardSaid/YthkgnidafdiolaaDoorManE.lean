/- Contract: samovarref12.One. -/
import Derived.Test.YthkgnidafdiolaaDoorManB
namespace Go.Proofs.YthkgnidafdiolaaDoor
open Go.RowKit

theorem wrap_small {x : UInt8} (h : 65 ≤ x.toNat ∧ x.toNat ≤ 90) : IntKind.u8.wrap ((x.toNat : Int) + 32) = ((smallB x).toNat : Int) := by
  revert h
  exact u8_all (P := fun x => 65 ≤ x.toNat ∧ x.toNat ≤ 90 → IntKind.u8.wrap ((x.toNat : Int) + 32) = ((smallB x).toNat : Int)) (by decide +kernel) x
theorem small_other {x : UInt8} (h : ¬ (65 ≤ x.toNat ∧ x.toNat ≤ 90)) : (smallB x).toNat = x.toNat := by unfold smallB; rw [if_neg h]
theorem small_at {l : List UInt8} {k : Nat} {x : UInt8} (h : l[k]? = some x) : (smallL l)[k]? = some (smallB x) := by simp [smallL, h]
theorem eq_at {a b : List UInt8} {n : Nat} (ha : a.length = n) (hb : b.length = n) (h : ∀ j, j < n → a[j]? = b[j]?) : a = b := by
  apply List.ext_getElem?
  intro i
  rcases Nat.lt_or_ge i n with h1 | h1
  · exact h i h1
  · rw [List.getElem?_eq_none (by omega), List.getElem?_eq_none (by omega)]
set_option maxHeartbeats 2000000 in
theorem one_any (s t : ByteArray) (w : World) (hs : s.size ≤ 140737488355328) (ht : t.size ≤ 140737488355328) :
    Calls Tryd.prog 25 #[.string s, .string t] w fun e w' => e = .returned (.bool (decide (smallL s.data.toList = smallL t.data.toList))) ∧ Below w.heap.size w w' := by
  by_cases hn : s.size = t.size
  · go_enter Tryd.func25, Tryd.ntmps25
    go_wp2
    go_loopw [5, 6, 7] (fun i _ _ wr => ∃ k : Nat, k ≤ s.size ∧ i = .int .i64 (k : Int) ∧ Hid (∀ j, j < k → (smallL s.data.toList)[j]? = (smallL t.data.toList)[j]?) ∧ Hid (∃ q, wr = w.drewN q)) (fun i _ _ _ => s.size - (intOf i).toNat)
    case atStart => exact ⟨0, by omega, rfl, Lib.hid (fun j hj => by omega), Lib.hid ⟨0, rfl⟩⟩
    case round =>
      obtain ⟨k, hk, rfl, hgo, hw⟩ := hrel
      obtain ⟨q, rfl⟩ := hw.out
      clear hw
      by_cases hk0 : k < s.size
      · have hk1 : k < t.size := by omega
        have HX := Lib.hid (byte_at hk0)
        have HY := Lib.hid (byte_at hk1)
        have s0 : (0 : Int) ≤ (k : Int) := by omega
        have s1 : (k : Int) < (s.size : Int) := by omega
        have s2 : (k : Int) < (t.size : Int) := by omega
        have s3 : (k : Int).toNat = k := by omega
        go_wp2
        go_quiet (fail)
        obtain ⟨x, hx⟩ : ∃ x, s[k] = x := ⟨_, rfl⟩
        obtain ⟨y, hy⟩ : ∃ y, t[k] = y := ⟨_, rfl⟩
        rw [hx] at HX ⊢
        rw [hy] at HY ⊢
        clear hx hy
        by_cases he : (smallB x).toNat = (smallB y).toNat
        · have hnx : Hid (∀ j, j < k + 1 → (smallL s.data.toList)[j]? = (smallL t.data.toList)[j]?) := Lib.hid (fun j hj => by
            rcases Nat.lt_or_ge j k with h | h
            · exact hgo.out j h
            · obtain rfl : j = k := by omega
              rw [small_at HX.out, small_at HY.out, UInt8.toNat_inj.1 he])
          by_cases hu : 65 ≤ x.toNat ∧ x.toNat ≤ 90
          · have wx := wrap_small hu
            have u1 : 65 ≤ (x.toNat : Int) := by omega
            have u2 : (x.toNat : Int) ≤ 90 := by omega
            by_cases hv : 65 ≤ y.toNat ∧ y.toNat ≤ 90
            · have wy := wrap_small hv
              have v1 : 65 ≤ (y.toNat : Int) := by omega
              have v2 : (y.toNat : Int) ≤ 90 := by omega
              clear hu hv
              go_wp2
              all_goals
                go_roundw
                case rel => exact ⟨k + 1, by omega, by go_num, hnx, Lib.hid ⟨_, rfl⟩⟩
                case measure => simp [intOf]; omega
            · have hy := small_other hv
              have v1 : (y.toNat : Int) < 65 ∨ 90 < (y.toNat : Int) := by omega
              rw [hy] at he
              clear hu hv
              rcases v1 with v1 | v1 <;> go_wp2
              all_goals
                go_roundw
                case rel => exact ⟨k + 1, by omega, by go_num, hnx, Lib.hid ⟨_, rfl⟩⟩
                case measure => simp [intOf]; omega
          · have hx := small_other hu
            have u1 : (x.toNat : Int) < 65 ∨ 90 < (x.toNat : Int) := by omega
            rw [hx] at he
            by_cases hv : 65 ≤ y.toNat ∧ y.toNat ≤ 90
            · have wy := wrap_small hv
              have v1 : 65 ≤ (y.toNat : Int) := by omega
              have v2 : (y.toNat : Int) ≤ 90 := by omega
              clear hu hv
              rcases u1 with u1 | u1 <;> go_wp2
              all_goals
                go_roundw
                case rel => exact ⟨k + 1, by omega, by go_num, hnx, Lib.hid ⟨_, rfl⟩⟩
                case measure => simp [intOf]; omega
            · have hy := small_other hv
              have v1 : (y.toNat : Int) < 65 ∨ 90 < (y.toNat : Int) := by omega
              rw [hy] at he
              clear hu hv
              rcases u1 with u1 | u1 <;> rcases v1 with v1 | v1 <;> go_wp2
              all_goals
                go_roundw
                case rel => exact ⟨k + 1, by omega, by go_num, hnx, Lib.hid ⟨_, rfl⟩⟩
                case measure => simp [intOf]; omega
        · have HNO := Lib.hid (decide_eq_false (p := smallL s.data.toList = smallL t.data.toList) fun e => he (by
            have h1 := small_at HX.out
            rw [e, small_at HY.out] at h1
            injection h1 with h1; rw [h1]))
          by_cases hu : 65 ≤ x.toNat ∧ x.toNat ≤ 90
          · have wx := wrap_small hu
            have u1 : 65 ≤ (x.toNat : Int) := by omega
            have u2 : (x.toNat : Int) ≤ 90 := by omega
            by_cases hv : 65 ≤ y.toNat ∧ y.toNat ≤ 90
            · have wy := wrap_small hv
              have v1 : 65 ≤ (y.toNat : Int) := by omega
              have v2 : (y.toNat : Int) ≤ 90 := by omega
              have hne : (((smallB x).toNat : Int) != ((smallB y).toNat : Int)) = true := by simp; omega
              clear hu hv he
              go_wp2
              all_goals
                go_ret
                exact ⟨ret_bool HNO.out.symm, below_drewN (Below.refl _ _) _⟩
            · have hy := small_other hv
              have v1 : (y.toNat : Int) < 65 ∨ 90 < (y.toNat : Int) := by omega
              have hne : (((smallB x).toNat : Int) != (y.toNat : Int)) = true := by simp; omega
              clear hu hv he hy
              rcases v1 with v1 | v1 <;> go_wp2
              all_goals
                go_ret
                exact ⟨ret_bool HNO.out.symm, below_drewN (Below.refl _ _) _⟩
          · have hx := small_other hu
            have u1 : (x.toNat : Int) < 65 ∨ 90 < (x.toNat : Int) := by omega
            by_cases hv : 65 ≤ y.toNat ∧ y.toNat ≤ 90
            · have wy := wrap_small hv
              have v1 : 65 ≤ (y.toNat : Int) := by omega
              have v2 : (y.toNat : Int) ≤ 90 := by omega
              have hne : ((x.toNat : Int) != ((smallB y).toNat : Int)) = true := by simp; omega
              clear hu hv he hx
              rcases u1 with u1 | u1 <;> go_wp2
              all_goals
                go_ret
                exact ⟨ret_bool HNO.out.symm, below_drewN (Below.refl _ _) _⟩
            · have hy := small_other hv
              have v1 : (y.toNat : Int) < 65 ∨ 90 < (y.toNat : Int) := by omega
              have hne : ((x.toNat : Int) != (y.toNat : Int)) = true := by simp; omega
              clear hu hv he hx hy
              rcases u1 with u1 | u1 <;> rcases v1 with v1 | v1 <;> go_wp2
              all_goals
                go_ret
                exact ⟨ret_bool HNO.out.symm, below_drewN (Below.refl _ _) _⟩
      · obtain rfl : k = s.size := by omega
        have HF := Lib.hid (eq_at (n := s.size) (by simp [smallL]) (by simp [smallL]; omega) hgo.out)
        go_wp2
        go_ret
        exact ⟨ret_bool (by symm; rw [decide_eq_true_eq]; exact HF.out), below_drewN (Below.refl _ _) _⟩
  · have hnb : ((s.size : Int) != (t.size : Int)) = true := by simp; omega
    have hf : decide (smallL s.data.toList = smallL t.data.toList) = false := decide_eq_false fun e => hn (by
      have := congrArg List.length e
      simpa [smallL] using this)
    rw [hf]
    clear hf hn
    go_enter Tryd.func25, Tryd.ntmps25
    go_wp2
    go_ret
    exact ⟨rfl, Below.refl _ _⟩
end Go.Proofs.YthkgnidafdiolaaDoor
