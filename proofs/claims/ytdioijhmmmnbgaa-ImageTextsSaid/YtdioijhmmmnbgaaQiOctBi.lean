/- Contracts: octet.fits, octet.Big. -/
import Derived.Test.YtdioijhmmmnbgaaProg
import Derived.Test.YtdioijhmmmnbgaaPi1
namespace Go.Proofs.Ytdioijhmmmnbgaa
open Go.RowKit
set_option maxHeartbeats 400000 in
theorem fits_arg (A : Option Addr) (len cap : Nat) (at_ n : Int) (w : World) (h : n < 1 ∨ 8 < n ∨ at_ < 0) :
    Calls Try.prog 75 #[.slice A len cap, .int .i64 at_, .int .i64 n] w fun e w' => e = .returned (.int .i64 1) ∧ w = w' := by
  rcases h with h | h | h
  all_goals
    go_enter Try.func75, Try.ntmps75
    go_wp2
    all_goals
      go_ret
      exact ⟨rfl, rfl⟩
set_option maxHeartbeats 400000 in
theorem fits_short (A : Option Addr) (len cap : Nat) (at_ n : Int) (w : World) (hl : (len : Int) ≤ 140737488355328) (h1 : 1 ≤ n) (h2 : n ≤ 8) (h3 : 0 ≤ at_) (h : len - n < at_) :
    Calls Try.prog 75 #[.slice A len cap, .int .i64 at_, .int .i64 n] w fun e w' => e = .returned (.int .i64 2) ∧ w = w' := by
  go_enter Try.func75, Try.ntmps75
  go_wp2
  go_ret
  exact ⟨rfl, rfl⟩
set_option maxHeartbeats 400000 in
theorem fits_ok (A : Option Addr) (len cap : Nat) (at_ n : Int) (w : World) (hl : (len : Int) ≤ 140737488355328) (h1 : 1 ≤ n) (h2 : n ≤ 8) (h3 : 0 ≤ at_) (h : at_ ≤ len - n) :
    Calls Try.prog 75 #[.slice A len cap, .int .i64 at_, .int .i64 n] w fun e w' => e = .returned (.int .i64 0) ∧ w = w' := by
  go_enter Try.func75, Try.ntmps75
  go_wp2
  go_ret
  exact ⟨rfl, rfl⟩
theorem big_step {s : List UInt8} {k n : Nat} {x : UInt8} (hs : s.length = n) (hn : n ≤ 8) (hk : k < n) (hx : s[k]? = some x) :
    beN (s.take k) < 72057594037927936 ∧ bits .or .u64 ((beN (s.take k) : Int) * 256) (x.toNat : Int) = (beN (s.take (k + 1)) : Int) := by
  have h7 : beN (s.take k) < 256 ^ 7 := beN_lt_of _ (by simp; omega)
  rw [pow7] at h7
  refine ⟨h7, ?_⟩
  rw [or_byte _ _ (u8lt x) h7, take_snoc' hx, beN_snoc]
set_option maxHeartbeats 400000 in
theorem big_ok (A : Option Addr) (cap : Nat) (at_ n : Nat) (w : World) (l : List UInt8) (len : Nat) (hlen : l.length = len) (hl : (l.length : Int) ≤ 140737488355328) (hcap : l.length ≤ cap) (hcap2 : (cap : Int) ≤ 9223372036854775807) (h1 : 1 ≤ n) (h2 : n ≤ 8) (h : at_ + n ≤ l.length)
   (hr : RB w w.heap.size A l) :
    Calls Try.prog 70 #[.slice A len cap, .int .i64 at_, .int .i64 n] w fun e w' => e = .returned (.tuple #[.int .i64 (wrap64 (beN ((l.drop at_).take n))), .int .i64 0]) ∧ w = w' := by
  subst hlen
  obtain ⟨s, hs⟩ : ∃ s, s = (l.drop at_).take n := ⟨_, rfl⟩
  have hsl : s.length = n := by rw [hs]; simp; omega
  rw [← hs]
  have hrs : RB w w.heap.size (A.map (·.add at_)) s := by rw [hs]; exact (hr.drop at_).take n
  have HL := Lib.hid hsl
  obtain ⟨ad, x0, rfl, _, _, _⟩ := hr.byte (k := at_) (by omega)
  clear hsl hs
  have hne : ¬ cap = at_ := by omega
  go_enter Try.func70, Try.ntmps70
  go_wp2_with (go_at_call 75; refine (fits_ok _ _ _ _ _ _ hl (by omega) (by omega) (by omega) (by omega)).mono ?_; rintro e w' ⟨rfl, rfl⟩)
  go_loop [9, 26] (fun v i => ∃ k : Nat, k ≤ n ∧ i = .int .i64 (k : Int) ∧ v = .int .u64 (beN (s.take k) : Int)) (fun _ i => n - (intOf i).toNat)
  case atStart => exact ⟨0, by omega, rfl, rfl⟩
  case round =>
    obtain ⟨k, hk, rfl, rfl⟩ := hrel
    by_cases hk0 : k < n
    · obtain ⟨ad', x, hA, hb, hx, hc⟩ := hrs.byte (k := k) (by rw [HL.out]; omega)
      simp only [Option.map_some, Option.some.injEq] at hA
      subst hA
      obtain ⟨hlt, hst⟩ := big_step HL.out h2 hk0 hx.out
      have HST := Lib.hid hst
      have hx8 := u8lt x
      clear hst
      go_wp2
      go_round
      case rel => exact ⟨k + 1, by omega, by go_num, by rw [HST.out]⟩
      case measure => simp [intOf]; omega
    · obtain rfl : k = n := by omega
      have hlt : beN s < 256 ^ 8 := beN_lt_of _ (by rw [HL.out]; exact h2)
      rw [pow8] at hlt
      have e2 : s.take k = s := List.take_of_length_le (by rw [HL.out]; omega)
      rw [e2]
      clear e2
      go_wp2
      go_ret2
      exact ⟨rfl, rfl⟩
set_option maxHeartbeats 400000 in
theorem big_arg (A : Option Addr) (len cap : Nat) (at_ n : Int) (w : World) (h : n < 1 ∨ 8 < n ∨ at_ < 0) :
    Calls Try.prog 70 #[.slice A len cap, .int .i64 at_, .int .i64 n] w fun e w' => e = .returned (.tuple #[.int .i64 0, .int .i64 1]) ∧ w = w' := by
  go_enter Try.func70, Try.ntmps70
  go_wp2_with (go_at_call 75; refine (fits_arg _ _ _ _ _ _ h).mono ?_; rintro e w' ⟨rfl, rfl⟩)
  go_ret2
  exact ⟨rfl, rfl⟩
set_option maxHeartbeats 400000 in
theorem big_short (A : Option Addr) (len cap : Nat) (at_ n : Int) (w : World) (hl : (len : Int) ≤ 140737488355328) (h1 : 1 ≤ n) (h2 : n ≤ 8) (h3 : 0 ≤ at_) (h : len - n < at_) :
    Calls Try.prog 70 #[.slice A len cap, .int .i64 at_, .int .i64 n] w fun e w' => e = .returned (.tuple #[.int .i64 0, .int .i64 2]) ∧ w = w' := by
  go_enter Try.func70, Try.ntmps70
  go_wp2_with (go_at_call 75; refine (fits_short _ _ _ _ _ _ hl h1 h2 h3 h).mono ?_; rintro e w' ⟨rfl, rfl⟩)
  go_ret2
  exact ⟨rfl, rfl⟩
end Go.Proofs.Ytdioijhmmmnbgaa
