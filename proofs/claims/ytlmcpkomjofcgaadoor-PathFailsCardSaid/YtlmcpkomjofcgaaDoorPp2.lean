/- Contracts: octet.fits, octet.Little. Rows of bytes as a type. -/
import Derived.Test.YtlmcpkomjofcgaaDoorProg
import Derived.Test.YtlmcpkomjofcgaaDoorPp1
namespace Go.Proofs.YtlmcpkomjofcgaaDoor
open Go.RowKit
set_option maxHeartbeats 400000 in
theorem fits_arg (A : Option Addr) (len cap : Nat) (at_ n : Int) (w : World) (h : n < 1 ∨ 8 < n ∨ at_ < 0) :
    Calls Tryd.prog 61 #[.slice A len cap, .int .i64 at_, .int .i64 n] w fun e w' => e = .returned (.int .i64 1) ∧ w = w' := by
  rcases h with h | h | h
  all_goals
    go_enter Tryd.func61, Tryd.ntmps61
    go_wp2
    all_goals
      go_ret
      exact ⟨rfl, rfl⟩
set_option maxHeartbeats 400000 in
theorem fits_short (A : Option Addr) (len cap : Nat) (at_ n : Int) (w : World) (hl : (len : Int) ≤ 140737488355328) (h1 : 1 ≤ n) (h2 : n ≤ 8) (h3 : 0 ≤ at_) (h : len - n < at_) :
    Calls Tryd.prog 61 #[.slice A len cap, .int .i64 at_, .int .i64 n] w fun e w' => e = .returned (.int .i64 2) ∧ w = w' := by
  go_enter Tryd.func61, Tryd.ntmps61
  go_wp2
  go_ret
  exact ⟨rfl, rfl⟩
set_option maxHeartbeats 400000 in
theorem fits_ok (A : Option Addr) (len cap : Nat) (at_ n : Int) (w : World) (hl : (len : Int) ≤ 140737488355328) (h1 : 1 ≤ n) (h2 : n ≤ 8) (h3 : 0 ≤ at_) (h : at_ ≤ len - n) :
    Calls Tryd.prog 61 #[.slice A len cap, .int .i64 at_, .int .i64 n] w fun e w' => e = .returned (.int .i64 0) ∧ w = w' := by
  go_enter Tryd.func61, Tryd.ntmps61
  go_wp2
  go_ret
  exact ⟨rfl, rfl⟩

theorem little_step {s : List UInt8} {k n : Nat} {x : UInt8} (hs : s.length = n) (hn : n ≤ 8) (hk : 1 ≤ k) (hx : s[k - 1]? = some x) :
    leN (s.drop k) < 72057594037927936 ∧ bits .or .u64 ((leN (s.drop k) : Int) * 256) (x.toNat : Int) = (leN (s.drop (k - 1)) : Int) := by
  have h7 : leN (s.drop k) < 256 ^ 7 := leN_lt_of _ (by simp; omega)
  rw [pow7] at h7
  refine ⟨h7, ?_⟩
  rw [or_byte _ _ (u8lt x) h7, leN_drop hx, show k - 1 + 1 = k by omega]
  omega

set_option maxHeartbeats 400000 in
theorem little_ok (A : Option Addr) (cap : Nat) (at_ n : Nat) (w : World) (l : List UInt8) (len : Nat) (hlen : l.length = len) (hl : (l.length : Int) ≤ 140737488355328) (h1 : 1 ≤ n) (h2 : n ≤ 8) (h : at_ + n ≤ l.length)
   (hr : RB w w.heap.size A l) :
    Calls Tryd.prog 50 #[.slice A len cap, .int .i64 at_, .int .i64 n] w fun e w' => e = .returned (.tuple #[.int .i64 (wrap64 (leN ((l.drop at_).take n))), .int .i64 0]) ∧ w = w' := by
  subst hlen
  obtain ⟨s, hs⟩ : ∃ s, s = (l.drop at_).take n := ⟨_, rfl⟩
  have hsl : s.length = n := by rw [hs]; simp; omega
  rw [← hs]
  have HS := Lib.hid hs
  have HL := Lib.hid hsl
  clear hs hsl
  go_enter Tryd.func50, Tryd.ntmps50
  go_wp2_with (go_at_call 61; refine (fits_ok _ _ _ _ _ _ hl (by omega) (by omega) (by omega) (by omega)).mono ?_; rintro e w' ⟨rfl, rfl⟩)
  go_loop [9, 10] (fun v i => ∃ k : Nat, k ≤ n ∧ i = .int .i64 ((k : Int) - 1) ∧ v = .int .u64 (leN (s.drop k) : Int)) (fun _ i => (intOf i + 1).toNat)
  case atStart => exact ⟨n, by omega, by go_num, by rw [List.drop_eq_nil_of_le (by rw [HL.out]; omega)]; rfl⟩
  case round =>
    obtain ⟨k, hk, rfl, rfl⟩ := hrel
    by_cases hk0 : 1 ≤ k
    · obtain ⟨ad, x, rfl, hb, hx, hc⟩ := hr.byte (k := at_ + (k - 1)) (by omega)
      have hx' : s[k - 1]? = some x := by
        rw [HS.out, List.getElem?_take_of_lt (by omega), List.getElem?_drop]; exact hx.out
      have e1 : ((at_ : Int) + ((k : Int) - 1)).toNat = at_ + (k - 1) := by omega
      obtain ⟨hlt, hst⟩ := little_step HL.out h2 hk0 hx'
      have HST := Lib.hid hst
      have hx8 := u8lt x
      clear hst hx'
      go_wp2
      go_round
      case rel => exact ⟨k - 1, by omega, by go_num, by rw [HST.out]⟩
      case measure => simp [intOf]; omega
    · obtain rfl : k = 0 := by omega
      have hlt : leN s < 256 ^ 8 := leN_lt_of _ (by rw [HL.out]; exact h2)
      rw [pow8] at hlt
      go_wp2
      go_ret2
      exact ⟨rfl, rfl⟩
set_option maxHeartbeats 400000 in
theorem little_arg (A : Option Addr) (len cap : Nat) (at_ n : Int) (w : World) (h : n < 1 ∨ 8 < n ∨ at_ < 0) :
    Calls Tryd.prog 50 #[.slice A len cap, .int .i64 at_, .int .i64 n] w fun e w' => e = .returned (.tuple #[.int .i64 0, .int .i64 1]) ∧ w = w' := by
  go_enter Tryd.func50, Tryd.ntmps50
  go_wp2_with (go_at_call 61; refine (fits_arg _ _ _ _ _ _ h).mono ?_; rintro e w' ⟨rfl, rfl⟩)
  go_ret2
  exact ⟨rfl, rfl⟩
set_option maxHeartbeats 400000 in
theorem little_short (A : Option Addr) (len cap : Nat) (at_ n : Int) (w : World) (hl : (len : Int) ≤ 140737488355328) (h1 : 1 ≤ n) (h2 : n ≤ 8) (h3 : 0 ≤ at_) (h : len - n < at_) :
    Calls Tryd.prog 50 #[.slice A len cap, .int .i64 at_, .int .i64 n] w fun e w' => e = .returned (.tuple #[.int .i64 0, .int .i64 2]) ∧ w = w' := by
  go_enter Tryd.func50, Tryd.ntmps50
  go_wp2_with (go_at_call 61; refine (fits_short _ _ _ _ _ _ hl h1 h2 h3 h).mono ?_; rintro e w' ⟨rfl, rfl⟩)
  go_ret2
  exact ⟨rfl, rfl⟩
end Go.Proofs.YtlmcpkomjofcgaaDoor
namespace Go.Proofs.YtlmcpkomjofcgaaDoor
open Go.RowKit
theorem u8_info : (Tryd.prog.info? 5).map (fun i => (i.zero, i.size, i.bytes)) = some (some (.int .u8 0), 1, 1) := by kernel_rfl
theorem byteTy : ETy Tryd.prog 22 5 (.int .u8 0) 1 1 := ⟨Tryd.underlying22, info_parts u8_info, rfl, by decide⟩
end Go.Proofs.YtlmcpkomjofcgaaDoor
