/- Contracts of the document's functions that lay a number, and of its comparison of bytes. -/
import Derived.Test.YtfbmocpkfaiddaaProg
import Derived.Test.YtfbmocpkfaiddaaOctB
import Derived.Test.YtfbmocpkfaiddaaOctC
namespace Go.Proofs.Ytfbmocpkfaiddaa
open Go.RowKit

set_option maxHeartbeats 400000 in
theorem refPutLittle_no (n v : Int) (w : World) (h : n < 1 ∨ 8 < n) :
    Calls Try.prog 16 #[.int .i64 n, .int .i64 v] w fun e w' => e = .returned (.slice none 0 0) ∧ w = w' := by
  rcases h with h | h
  all_goals
    go_enter Try.func16, Try.ntmps16
    go_wp2
    go_ret
    exact ⟨rfl, rfl⟩
theorem low_facts (y : Int) (h1 : -9223372036854775808 ≤ y) : -255 ≤ y.tmod 256 ∧ y.tmod 256 ≤ 255 ∧ (y.tmod 256 + 256) % 256 = y % 256 ∧ -9223372036854775808 ≤ y - (y.tmod 256 + 256) % 256 ∧ (y - y.tmod 256 % 256).tdiv 256 = y / 256 := by
  have h := Int.tmod_def y 256
  have h3 : y.tmod 256 % 256 = y % 256 := by rw [h]; omega
  have h4 : -255 ≤ y.tmod 256 ∧ y.tmod 256 ≤ 255 := by
    have a := Int.tmod_lt_of_pos y (show (0 : Int) < 256 by omega)
    have b := Int.lt_tmod_of_pos y (show (0 : Int) < 256 by omega)
    omega
  have h5 : (y.tmod 256 + 256) % 256 = y % 256 := by omega
  refine ⟨h4.1, h4.2, h5, by omega, ?_⟩
  rw [h3]
  have h6 : y - y % 256 = 256 * (y / 256) := by omega
  rw [h6, Int.mul_tdiv_cancel_left _ (by omega)]

theorem pow256 (k : Nat) : ((256 ^ k : Nat) : Int) = (256 : Int) ^ k := Int.natCast_pow 256 k
theorem low_byte (v : Int) (k : Nat) (hk : k < 8) : (v / 256 ^ k) % 256 = (((v % 18446744073709551616).toNat / 256 ^ k % 256 : Nat) : Int) := by
  rw [← pow256]
  have : 256 ^ k = 1 ∨ 256 ^ k = 256 ∨ 256 ^ k = 65536 ∨ 256 ^ k = 16777216 ∨ 256 ^ k = 4294967296 ∨ 256 ^ k = 1099511627776 ∨ 256 ^ k = 281474976710656 ∨ 256 ^ k = 72057594037927936 := by
    have h : k = 0 ∨ k = 1 ∨ k = 2 ∨ k = 3 ∨ k = 4 ∨ k = 5 ∨ k = 6 ∨ k = 7 := by omega
    rcases h with rfl | rfl | rfl | rfl | rfl | rfl | rfl | rfl <;> decide
  rcases this with h | h | h | h | h | h | h | h <;> rw [h] <;> omega
theorem low_cell (v y : Int) (k : Nat) (hk : k < 8) (hy : y = v / 256 ^ k) (h1 : -9223372036854775808 ≤ y) : Value.int .u8 (y.tmod 256 % 256) = bV (UInt8.ofNat ((v % 18446744073709551616).toNat / 256 ^ k)) := by
  have h := low_facts y h1
  have h2 : y.tmod 256 % 256 = y % 256 := by omega
  unfold bV
  rw [h2, UInt8.toNat_ofNat', hy, low_byte v k hk]
theorem next_y (v : Int) (k : Nat) : v / 256 ^ k / 256 = v / 256 ^ (k + 1) := by
  rw [Int.pow_succ, Int.ediv_ediv_of_nonneg (Int.le_of_lt (Int.pow_pos (by omega)))]

set_option maxHeartbeats 400000 in
theorem refPutLittle_ok (n : Nat) (v : Int) (w : World) (h1 : 1 ≤ n) (h2 : n ≤ 8) (hv : -9223372036854775808 ≤ v) (hv2 : v ≤ 9223372036854775807) :
    Calls Try.prog 16 #[.int .i64 n, .int .i64 v] w fun e w' => ∃ r, e = .returned r ∧ OwB w' w.heap.size 5 r (leB n v) ∧ Below w.heap.size w w' := by
  go_enter Try.func16, Try.ntmps16
  go_wp2
  go_loopw [1, 5, 6, 7] (fun y r i _ wr => ∃ k : Nat, k ≤ n ∧ i = .int .i64 (k : Int) ∧ y = .int .i64 (v / 256 ^ k) ∧ OwB wr w.heap.size 5 r ((leB n v).take k) ∧ Below w.heap.size w wr) (fun _ _ i _ _ => n - (intOf i).toNat)
  case atStart => exact ⟨0, by omega, rfl, by rw [Int.pow_zero, Int.ediv_one], OwL.nil, Below.refl _ _⟩
  case round =>
    obtain ⟨k, hk, rfl, rfl, hown, hb⟩ := hrel
    by_cases hk0 : k < n
    · obtain ⟨y, hy⟩ : ∃ y, y = v / 256 ^ k := ⟨_, rfl⟩
      rw [← hy]
      have HY := Lib.hid hy
      have hpos : (0 : Int) < 256 ^ k := Int.pow_pos (by omega)
      have hy1 : -9223372036854775808 ≤ y := by
        rw [hy]; exact Int.le_ediv_of_mul_le hpos (by
          have h1 : (1 : Int) ≤ 256 ^ k := hpos
          generalize (256 : Int) ^ k = z at h1
          omega)
      have hy2 : y ≤ 9223372036854775807 := by
        rw [hy]
        by_cases h0 : 0 ≤ v
        · exact Int.le_trans (Int.ediv_le_self _ h0) hv2
        · have := Int.ediv_neg_of_neg_of_pos (by omega : v < 0) hpos; omega
      clear hy
      obtain ⟨l1, l2, l3, l4, l5⟩ := low_facts y hy1
      have L3 := Lib.hid l3
      have L5 := Lib.hid l5
      clear l3 l5
      have hsz := hb.size
      go_wp2_with (at_builtin; refine wpList_appL _ bV_one rfl _ _ rfl byteTy (by decide) w.heap.size _ _ rfl (hown.alloc _) _ _ 1 1 [UInt8.ofNat ((v % 18446744073709551616).toNat / 256 ^ k)] rfl rfl (RL.freshe _ _ ?c0 _) ?c1 ?c2 ?_)
      case c0 => exact low_cell v y k (by omega) HY.out hy1
      case c1 => simp [leB_len]; omega
      case c2 => simp; omega
      intro v1 w1 hown1 _ _ hb1
      go_wp2
      go_roundw
      case rel =>
        refine ⟨k + 1, by omega, by go_num, ?_, ?_, (hb.alloc hsz _).trans hb1⟩
        · rw [L5.out, HY.out, next_y]
        · rw [take_snoc' (leB_get v hk0)]; exact hown1
      case measure => simp [intOf]; omega
    · obtain rfl : k = n := by omega
      go_wp2
      go_ret
      refine ⟨_, rfl, ?_, hb⟩
      rw [List.take_of_length_le (by rw [leB_len]; omega)] at hown
      exact hown
set_option maxHeartbeats 400000 in
theorem refPutBig_no (n v : Int) (w : World) (h : n < 1 ∨ 8 < n) :
    Calls Try.prog 17 #[.int .i64 n, .int .i64 v] w fun e w' => ∃ r, e = .returned r ∧ OwB w' w.heap.size 5 r [] ∧ Below w.heap.size w w' := by
  go_enter Try.func17, Try.ntmps17
  go_wp2_with (go_at_call 16; refine (refPutLittle_no n v _ h).mono ?_; rintro e w' ⟨rfl, rfl⟩)
  go_wp2_with (go_at_call 30; refine (turn_any _ _ _ _ [] (by simp) (by simp) RL.nil).mono ?_; rintro e w1 ⟨r, rfl, hown, hb⟩)
  go_ret
  exact ⟨r, rfl, hown, hb⟩
set_option maxHeartbeats 400000 in
theorem refPutBig_ok (n : Nat) (v : Int) (w : World) (h1 : 1 ≤ n) (h2 : n ≤ 8) (hv : -9223372036854775808 ≤ v) (hv2 : v ≤ 9223372036854775807) :
    Calls Try.prog 17 #[.int .i64 n, .int .i64 v] w fun e w' => ∃ r, e = .returned r ∧ OwB w' w.heap.size 5 r (leB n v).reverse ∧ Below w.heap.size w w' := by
  go_enter Try.func17, Try.ntmps17
  go_wp2_with (go_at_call 16; refine (refPutLittle_ok n v _ h1 h2 hv hv2).mono ?_; rintro e w1 ⟨r, rfl, hown, hb⟩; obtain ⟨A1, c1, rfl, hr1, hc1⟩ := hown.rd)
  go_wp2_with (go_at_call 30; refine (turn_any _ _ _ _ (leB n v) (by simp [leB_len]) (by rw [leB_len]; omega) hr1).mono ?_; rintro e w2 ⟨r, rfl, hown2, hb2⟩)
  go_ret
  exact ⟨r, rfl, hown2.low hb.size, hb.trans (hb2.mono hb.size)⟩

set_option maxHeartbeats 400000 in
theorem same_any (A C : Option Addr) (n c m d : Nat) (w : World) (l r : List UInt8) (hn : l.length = n) (hm : r.length = m) (hl : (n : Int) ≤ 140737488355328) (hr : (m : Int) ≤ 140737488355328)
    (ha : RB w w.heap.size A l) (hc : RB w w.heap.size C r) :
    Calls Try.prog 15 #[.slice A n c, .slice C m d] w fun e w' => e = .returned (.bool (decide (l = r))) ∧ Below w.heap.size w w' := by
  subst hn
  subst hm
  by_cases he : l.length = r.length
  · go_enter Try.func15, Try.ntmps15
    have he1 : ((l.length : Int) != (r.length : Int)) = false := by simp [he]
    have HE := Lib.hid he
    clear he
    go_wp2
    go_loopw [5] (fun i wr => ∃ k m : Nat, k ≤ l.length ∧ i = .int .i64 (k : Int) ∧ l.take k = r.take k ∧ wr = w.drewN m) (fun i _ => l.length - (intOf i).toNat)
    case atStart => exact ⟨0, 0, by omega, rfl, rfl, rfl⟩
    case round =>
      obtain ⟨k, m, hk, rfl, heq, rfl⟩ := hrel
      have HQ := Lib.hid heq
      clear heq
      by_cases hk0 : k < l.length
      · have hk1 : k < r.length := by have := HE.out; omega
        obtain ⟨ad, x, rfl, _, hx, hcx⟩ := ha.byte hk0
        obtain ⟨bd, y, rfl, _, hy, hcy⟩ := hc.byte hk1
        by_cases hxy : x = y
        · subst hxy
          have hb1 : ((x.toNat : Int) != (x.toNat : Int)) = false := by simp
          go_wp2
          go_quiet (fail)
          go_wp2
          go_roundw
          case rel => exact ⟨k + 1, _, by omega, by go_num, by rw [take_snoc' hx.out, take_snoc' hy.out, HQ.out], rfl⟩
          case measure => simp [intOf]; omega
        · have hb1 : ((x.toNat : Int) != (y.toNat : Int)) = true := by
            simp only [bne_iff_ne, ne_eq, Int.natCast_inj]
            exact fun e => hxy (UInt8.toNat_inj.1 e)
          have HN : Hid (decide (l = r) = false) := by
            unfold Hid
            simp only [decide_eq_false_iff_not]
            rintro rfl
            have := hx.out.symm.trans hy.out
            exact hxy (by injection this)
          clear hxy
          go_wp2
          go_quiet (fail)
          go_wp2
          go_ret
          exact ⟨by rw [HN.out]; rfl, below_drewN (below_drewN (Below.refl _ _) _) _⟩
      · obtain rfl : k = l.length := by omega
        have HN : Hid (decide (l = r) = true) := by
          have h1 := HQ.out
          rw [List.take_length, List.take_of_length_le (by have := HE.out; omega)] at h1
          unfold Hid; simp [h1]
        go_wp2
        go_ret
        exact ⟨by rw [HN.out]; rfl, below_drewN (Below.refl _ _) _⟩
  · have he1 : ((l.length : Int) != (r.length : Int)) = true := by simp; omega
    have hne : decide (l = r) = false := by simp; rintro rfl; exact he rfl
    rw [hne]
    go_enter Try.func15, Try.ntmps15
    go_wp2
    go_ret
    exact ⟨rfl, Below.refl _ _⟩
end Go.Proofs.Ytfbmocpkfaiddaa
