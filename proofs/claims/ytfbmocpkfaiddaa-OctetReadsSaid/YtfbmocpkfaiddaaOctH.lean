/- The document's number with its sign. -/
import Derived.Test.YtfbmocpkfaiddaaProg
import Derived.Test.YtfbmocpkfaiddaaOctG
namespace Go.Proofs.Ytfbmocpkfaiddaa
open Go.RowKit

theorem signV_zero (n : Int) : signV n 0 = 0 := by
  unfold signV
  split
  · rw [Int.zero_mul, show (wrap64 0 : Int) = 0 by unfold wrap64; omega, Int.zero_ediv]
  · rfl
theorem wrap64_idem (v : Int) : wrap64 (wrap64 v) = wrap64 v := by unfold wrap64; omega
theorem signV_eight (v : Int) : signV 8 (wrap64 v) = wrap64 v := by
  unfold signV
  rw [if_pos (by omega), show (64 - 8 * 8 : Int).toNat = 0 from rfl, Int.pow_zero, Int.mul_one, Int.ediv_one, wrap64_idem]
/-- Below eight bytes: the number, less 256^n where its highest bit is set. -/
theorem signV_less (m : Nat) (y : Nat) (h1 : 1 ≤ m) (h2 : m < 8) (hy : y < 256 ^ m) :
    signV m (wrap64 y) = if ((256 ^ m : Nat) : Int) / 2 ≤ wrap64 y then wrap64 y - ((256 ^ m : Nat) : Int) else wrap64 y := by
  unfold signV
  rw [if_pos (by omega)]
  have h : m = 1 ∨ m = 2 ∨ m = 3 ∨ m = 4 ∨ m = 5 ∨ m = 6 ∨ m = 7 := by omega
  rcases h with rfl | rfl | rfl | rfl | rfl | rfl | rfl
  · rw [show (64 - 8 * ((1 : Nat) : Int)).toNat = 56 from rfl, show (2 : Int) ^ 56 = 72057594037927936 from rfl]
    rw [show 256 ^ 1 = 256 from rfl] at hy ⊢
    unfold wrap64; split <;> omega
  · rw [show (64 - 8 * ((2 : Nat) : Int)).toNat = 48 from rfl, show (2 : Int) ^ 48 = 281474976710656 from rfl]
    rw [show 256 ^ 2 = 65536 from rfl] at hy ⊢
    unfold wrap64; split <;> omega
  · rw [show (64 - 8 * ((3 : Nat) : Int)).toNat = 40 from rfl, show (2 : Int) ^ 40 = 1099511627776 from rfl]
    rw [show 256 ^ 3 = 16777216 from rfl] at hy ⊢
    unfold wrap64; split <;> omega
  · rw [show (64 - 8 * ((4 : Nat) : Int)).toNat = 32 from rfl, show (2 : Int) ^ 32 = 4294967296 from rfl]
    rw [show 256 ^ 4 = 4294967296 from rfl] at hy ⊢
    unfold wrap64; split <;> omega
  · rw [show (64 - 8 * ((5 : Nat) : Int)).toNat = 24 from rfl, show (2 : Int) ^ 24 = 16777216 from rfl]
    rw [show 256 ^ 5 = 1099511627776 from rfl] at hy ⊢
    unfold wrap64; split <;> omega
  · rw [show (64 - 8 * ((6 : Nat) : Int)).toNat = 16 from rfl, show (2 : Int) ^ 16 = 65536 from rfl]
    rw [show 256 ^ 6 = 281474976710656 from rfl] at hy ⊢
    unfold wrap64; split <;> omega
  · rw [show (64 - 8 * ((7 : Nat) : Int)).toNat = 8 from rfl, show (2 : Int) ^ 8 = 256 from rfl]
    rw [show 256 ^ 7 = 72057594037927936 from rfl] at hy ⊢
    unfold wrap64; split <;> omega

theorem okN_parts {l : List UInt8} {at_ : Nat} {bad : Bool} {n : Int} (h : okN l at_ bad n = true) : 1 ≤ n ∧ n ≤ 8 ∧ (at_ : Int) + n ≤ l.length := by
  simp only [okN, Bool.and_eq_true, decide_eq_true_eq] at h
  exact ⟨h.1.1.2, h.1.2, h.2⟩

/-- What the call of Num has left. -/
def NumLeft (w : World) (g : Nat) (l : List UInt8) (n V : Int) (a' : Nat) (bd : Bool) : Prop :=
  Calls Try.prog 21 #[.pointer (some ⟨g, 0, none⟩), .int .i64 n] w fun e w' => e = .returned (.int .i64 V) ∧ Rdx w' g l a' bd ∧ w.grownBy w' (some g)

set_option maxHeartbeats 1000000 in
theorem refSigned_keep (g : Nat) (l : List UInt8) (n V : Int) (a' : Nat) (bd : Bool) (w : World) (h : NumLeft w g l n V a' bd) (hk : bd = true ∨ n = 8) :
    Calls Try.prog 23 #[.pointer (some ⟨g, 0, none⟩), .int .i64 n] w fun e w' => e = .returned (.int .i64 V) ∧ Rdx w' g l a' bd ∧ w.grownBy w' (some g) := by
  rcases hk with rfl | rfl
  all_goals
    go_enter Try.func23, Try.ntmps23
    go_wp2_with fail
    refine Calls.mono h ?_
    rintro e w1 ⟨rfl, hx, hg⟩
    have HX := Lib.hid hx
    obtain ⟨A, c, hB, _⟩ := hx
    have c2 := hB.cell 2
    simp only [List.getElem?_toArray, List.getElem?_cons_zero, List.getElem?_cons_succ] at c2
    clear hB
    go_wp2
    all_goals
      go_ret
      exact ⟨rfl, HX.out, hg⟩
set_option maxHeartbeats 1000000 in
theorem refSigned_turn (g : Nat) (l : List UInt8) (m q : Nat) (V : Int) (a' : Nat) (w : World) (h : NumLeft w g l m V a' false) (h1 : 1 ≤ m) (h2 : m < 8) (hq : q = 256 ^ m) (hv0 : 0 ≤ V) (hv1 : V < q) :
    Calls Try.prog 23 #[.pointer (some ⟨g, 0, none⟩), .int .i64 m] w fun e w' => e = .returned (.int .i64 (if (q : Int) / 2 ≤ V then V - q else V)) ∧ Rdx w' g l a' false ∧ w.grownBy w' (some g) := by
  have hq1 : 256 ≤ q := by rw [hq]; exact pow_mono (a := 1) (by omega)
  have hq2 : q ≤ 72057594037927936 := by rw [hq, ← pow7]; exact pow_mono (by omega)
  have h8 : ((m : Int) == 8) = false := by simp; omega
  have HQ := Lib.hid hq
  clear hq
  by_cases hc : (q : Int) / 2 ≤ V
  · rw [if_pos hc]
    go_enter Try.func23, Try.ntmps23
    go_wp2_with fail
    refine Calls.mono h ?_
    rintro e w1 ⟨rfl, hx, hg⟩
    have HX := Lib.hid hx
    obtain ⟨A, c, hB, _⟩ := hx
    have c2 := hB.cell 2
    simp only [List.getElem?_toArray, List.getElem?_cons_zero, List.getElem?_cons_succ] at c2
    clear hB
    go_wp2
    go_loop [6, 7] (fun a i => ∃ k z : Nat, k ≤ m ∧ z = 256 ^ k ∧ i = .int .i64 (k : Int) ∧ a = .int .i64 (z : Int)) (fun _ i => m - (intOf i).toNat)
    case atStart => exact ⟨0, 1, by omega, rfl, rfl, rfl⟩
    case round =>
      obtain ⟨k, z, hk, hz, rfl, rfl⟩ := hrel
      by_cases hk0 : k < m
      · have hz2 : z ≤ 281474976710656 := by rw [hz, show 281474976710656 = 256 ^ 6 from rfl]; exact pow_mono (by omega)
        have HZ := Lib.hid hz
        clear hz
        go_wp2
        go_round
        case rel => exact ⟨k + 1, z * 256, by omega, by rw [HZ.out, Nat.pow_succ], by go_num, by go_num⟩
        case measure => simp [intOf]; omega
      · obtain rfl : k = m := by omega
        obtain rfl : z = q := by rw [hz, HQ.out]
        clear hz
        go_wp2
        go_ret
        exact ⟨rfl, HX.out, hg⟩
  · rw [if_neg hc]
    go_enter Try.func23, Try.ntmps23
    go_wp2_with fail
    refine Calls.mono h ?_
    rintro e w1 ⟨rfl, hx, hg⟩
    have HX := Lib.hid hx
    obtain ⟨A, c, hB, _⟩ := hx
    have c2 := hB.cell 2
    simp only [List.getElem?_toArray, List.getElem?_cons_zero, List.getElem?_cons_succ] at c2
    clear hB
    go_wp2
    go_loop [6, 7] (fun a i => ∃ k z : Nat, k ≤ m ∧ z = 256 ^ k ∧ i = .int .i64 (k : Int) ∧ a = .int .i64 (z : Int)) (fun _ i => m - (intOf i).toNat)
    case atStart => exact ⟨0, 1, by omega, rfl, rfl, rfl⟩
    case round =>
      obtain ⟨k, z, hk, hz, rfl, rfl⟩ := hrel
      by_cases hk0 : k < m
      · have hz2 : z ≤ 281474976710656 := by rw [hz, show 281474976710656 = 256 ^ 6 from rfl]; exact pow_mono (by omega)
        have HZ := Lib.hid hz
        clear hz
        go_wp2
        go_round
        case rel => exact ⟨k + 1, z * 256, by omega, by rw [HZ.out, Nat.pow_succ], by go_num, by go_num⟩
        case measure => simp [intOf]; omega
      · obtain rfl : k = m := by omega
        obtain rfl : z = q := by rw [hz, HQ.out]
        clear hz
        go_wp2
        go_ret
        exact ⟨rfl, HX.out, hg⟩

theorem refSigned_any (g : Nat) (l : List UInt8) (at_ : Nat) (bad : Bool) (n : Int) (w : World) (h : Rdx w g l at_ bad) :
    Calls Try.prog 23 #[.pointer (some ⟨g, 0, none⟩), .int .i64 n] w fun e w' =>
      e = .returned (.int .i64 (signV n (numV l at_ bad n))) ∧ Rdx w' g l (numAt l at_ bad n) (!okN l at_ bad n) ∧ w.grownBy w' (some g) := by
  have hN : NumLeft w g l n (numV l at_ bad n) (numAt l at_ bad n) (!okN l at_ bad n) := refNum_any g l at_ bad n w h
  by_cases hk : okN l at_ bad n = true
  · obtain ⟨h1, h2, h3⟩ := okN_parts hk
    obtain ⟨m, rfl⟩ := Int.eq_ofNat_of_zero_le (show 0 ≤ n by omega)
    have hv : numV l at_ bad (m : Int) = wrap64 (beN ((l.drop at_).take m)) := by unfold numV; rw [hk, if_pos rfl, Int.toNat_natCast]
    have hlt : beN ((l.drop at_).take m) < 256 ^ m := beN_lt_of _ (by simp; omega)
    rw [hk] at hN ⊢
    by_cases h8 : m = 8
    · subst h8
      have e8 : signV ((8 : Nat) : Int) (numV l at_ bad ((8 : Nat) : Int)) = numV l at_ bad ((8 : Nat) : Int) := by rw [hv]; exact signV_eight _
      rw [e8]
      exact refSigned_keep g l _ _ _ _ w hN (.inr rfl)
    · have e7 := signV_less m _ (by omega) (by omega) hlt
      rw [← hv] at e7
      rw [e7]
      have hp : 256 ^ m ≤ 256 ^ 7 := pow_mono (by omega)
      rw [pow7] at hp
      exact refSigned_turn g l m (256 ^ m) _ _ w hN (by omega) (by omega) rfl (by rw [hv]; unfold wrap64; omega) (by rw [hv]; unfold wrap64; omega)
  · have hk' : okN l at_ bad n = false := by simpa using hk
    have hv : numV l at_ bad n = 0 := by unfold numV; rw [hk']; rfl
    have hs : signV n (numV l at_ bad n) = numV l at_ bad n := by rw [hv, signV_zero]
    rw [hs]
    exact refSigned_keep g l _ _ _ _ w hN (.inl (by rw [hk']; rfl))
end Go.Proofs.Ytfbmocpkfaiddaa
