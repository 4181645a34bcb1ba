/- Contracts: octet.fits, octet.Little. Rows of bytes as a type. Contracts: samovarref02.Little and what it calls. -/
import Derived.Test.YtlmcpkomjofcgaaGreatDoorProg
import Derived.Test.YtlmcpkomjofcgaaGreatDoorPv1
namespace Go.Proofs.YtlmcpkomjofcgaaGreatDoor
open Go.RowKit
set_option maxHeartbeats 400000 in
theorem fits_arg (A : Option Addr) (len cap : Nat) (at_ n : Int) (w : World) (h : n < 1 ∨ 8 < n ∨ at_ < 0) :
    Calls Tryz.prog 96 #[.slice A len cap, .int .i64 at_, .int .i64 n] w fun e w' => e = .returned (.int .i64 1) ∧ w = w' := by
  rcases h with h | h | h
  all_goals
    go_enter Tryz.func96, Tryz.ntmps96
    go_wp2
    all_goals
      go_ret
      exact ⟨rfl, rfl⟩
set_option maxHeartbeats 400000 in
theorem fits_short (A : Option Addr) (len cap : Nat) (at_ n : Int) (w : World) (hl : (len : Int) ≤ 140737488355328) (h1 : 1 ≤ n) (h2 : n ≤ 8) (h3 : 0 ≤ at_) (h : len - n < at_) :
    Calls Tryz.prog 96 #[.slice A len cap, .int .i64 at_, .int .i64 n] w fun e w' => e = .returned (.int .i64 2) ∧ w = w' := by
  go_enter Tryz.func96, Tryz.ntmps96
  go_wp2
  go_ret
  exact ⟨rfl, rfl⟩
set_option maxHeartbeats 400000 in
theorem fits_ok (A : Option Addr) (len cap : Nat) (at_ n : Int) (w : World) (hl : (len : Int) ≤ 140737488355328) (h1 : 1 ≤ n) (h2 : n ≤ 8) (h3 : 0 ≤ at_) (h : at_ ≤ len - n) :
    Calls Tryz.prog 96 #[.slice A len cap, .int .i64 at_, .int .i64 n] w fun e w' => e = .returned (.int .i64 0) ∧ w = w' := by
  go_enter Tryz.func96, Tryz.ntmps96
  go_wp2
  go_ret
  exact ⟨rfl, rfl⟩

theorem little_step {s : List UInt8} {k n : Nat} {x : UInt8} (hs : s.length = n) (hn : n ≤ 8) (hk : 1 ≤ k) (hx : s[k - 1]? = some x) :
    leN (s.drop k) < 72057594037927936 ∧ bits .or .u64 ((leN (s.drop k) : Int) * 256) (x.toNat : Int) = (leN (s.drop (k - 1)) : Int) := by
  have h7 : leN (s.drop k) < 256 ^ 7 := leN_lt_of _ (by simp; omega)
  rw [pow7] at h7
  refine ⟨h7, ?_⟩
  rw [or_byte _ _ (u8lt x) h7, leN_drop hx, show k - 1 + 1 = k by omega]
  omega

set_option maxHeartbeats 400000 in
theorem little_ok (A : Option Addr) (cap : Nat) (at_ n : Nat) (w : World) (l : List UInt8) (len : Nat) (hlen : l.length = len) (hl : (l.length : Int) ≤ 140737488355328) (h1 : 1 ≤ n) (h2 : n ≤ 8) (h : at_ + n ≤ l.length)
   (hr : RB w w.heap.size A l) :
    Calls Tryz.prog 84 #[.slice A len cap, .int .i64 at_, .int .i64 n] w fun e w' => e = .returned (.tuple #[.int .i64 (wrap64 (leN ((l.drop at_).take n))), .int .i64 0]) ∧ w = w' := by
  subst hlen
  obtain ⟨s, hs⟩ : ∃ s, s = (l.drop at_).take n := ⟨_, rfl⟩
  have hsl : s.length = n := by rw [hs]; simp; omega
  rw [← hs]
  have HS := Lib.hid hs
  have HL := Lib.hid hsl
  clear hs hsl
  go_enter Tryz.func84, Tryz.ntmps84
  go_wp2_with (go_at_call 96; refine (fits_ok _ _ _ _ _ _ hl (by omega) (by omega) (by omega) (by omega)).mono ?_; rintro e w' ⟨rfl, rfl⟩)
  go_loop [9, 10] (fun v i => ∃ k : Nat, k ≤ n ∧ i = .int .i64 ((k : Int) - 1) ∧ v = .int .u64 (leN (s.drop k) : Int)) (fun _ i => (intOf i + 1).toNat)
  case atStart => exact ⟨n, by omega, by go_num, by rw [List.drop_eq_nil_of_le (by rw [HL.out]; omega)]; rfl⟩
  case round =>
    obtain ⟨k, hk, rfl, rfl⟩ := hrel
    by_cases hk0 : 1 ≤ k
    · obtain ⟨ad, x, rfl, hb, hx, hc⟩ := hr.byte (k := at_ + (k - 1)) (by omega)
      have hx' : s[k - 1]? = some x := by
        rw [HS.out, List.getElem?_take_of_lt (by omega), List.getElem?_drop]; exact hx.out
      have e1 : ((at_ : Int) + ((k : Int) - 1)).toNat = at_ + (k - 1) := by omega
      obtain ⟨hlt, hst⟩ := little_step HL.out h2 hk0 hx'
      have HST := Lib.hid hst
      have hx8 := u8lt x
      clear hst hx'
      go_wp2
      go_round
      case rel => exact ⟨k - 1, by omega, by go_num, by rw [HST.out]⟩
      case measure => simp [intOf]; omega
    · obtain rfl : k = 0 := by omega
      have hlt : leN s < 256 ^ 8 := leN_lt_of _ (by rw [HL.out]; exact h2)
      rw [pow8] at hlt
      go_wp2
      go_ret2
      exact ⟨rfl, rfl⟩
end Go.Proofs.YtlmcpkomjofcgaaGreatDoor
namespace Go.Proofs.YtlmcpkomjofcgaaGreatDoor
open Go.RowKit
theorem u8_info : (Tryz.prog.info? 5).map (fun i => (i.zero, i.size, i.bytes)) = some (some (.int .u8 0), 1, 1) := by kernel_rfl
theorem byteTy : ETy Tryz.prog 22 5 (.int .u8 0) 1 1 := ⟨Tryz.underlying22, info_parts u8_info, rfl, by decide⟩
end Go.Proofs.YtlmcpkomjofcgaaGreatDoor
namespace Go.Proofs.YtlmcpkomjofcgaaGreatDoor
open Go.RowKit

set_option maxHeartbeats 400000 in
theorem number_any (A : Option Addr) (n cap : Nat) (w : World) (l : List UInt8) (hn : l.length = n) (hl : (l.length : Int) ≤ 140737488355328) (hr : RB w w.heap.size A l) :
    Calls Tryz.prog 77 #[.slice A n cap] w fun e w' => e = .returned (.int .i64 (num64 l)) ∧ w = w' := by
  subst hn
  go_enter Tryz.func77, Tryz.ntmps77
  go_wp2
  go_loop [3, 4] (fun v i => ∃ k : Nat, k ≤ l.length ∧ i = .int .i64 (k : Int) ∧ v = .int .i64 (num64 (l.take k))) (fun _ i => l.length - (intOf i).toNat)
  case atStart => exact ⟨0, by omega, rfl, rfl⟩
  case round =>
    obtain ⟨k, hk, rfl, rfl⟩ := hrel
    by_cases hk0 : k < l.length
    · obtain ⟨ad, x, rfl, hb, hx, hc⟩ := hr.byte hk0
      have hx8 := u8lt x
      have HST : Hid (num64 (l.take (k + 1)) = wrap64 (wrap64 (num64 (l.take k) * 256) + (x.toNat : Int))) := by
        rw [take_snoc' hx.out]; exact num64_snoc _ _
      go_wp2
      go_round
      case rel => exact ⟨k + 1, by omega, by go_num, by rw [HST.out]⟩
      case measure => simp [intOf]; omega
    · obtain rfl : k = l.length := by omega
      rw [List.take_length]
      go_wp2
      go_ret
      exact ⟨rfl, rfl⟩

set_option maxHeartbeats 400000 in
set_option maxRecDepth 100000 in
theorem turn_any (A : Option Addr) (n cap : Nat) (w : World) (l : List UInt8) (hn : l.length = n) (hl : (l.length : Int) ≤ 140737488355328) (hr : RB w w.heap.size A l) :
    Calls Tryz.prog 78 #[.slice A n cap] w fun e w' => ∃ v, e = .returned v ∧ OwB w' w.heap.size 5 v l.reverse ∧ Below w.heap.size w w' := by
  subst hn
  go_enter Tryz.func78, Tryz.ntmps78
  go_wp2
  go_loopw [3, 4] (fun v i wr => ∃ k : Nat, k ≤ l.length ∧ i = .int .i64 ((k : Int) - 1) ∧ OwB wr w.heap.size 5 v (l.drop k).reverse ∧ Below w.heap.size w wr) (fun _ i _ => (intOf i + 1).toNat)
  case atStart => exact ⟨l.length, by omega, rfl, by rw [List.drop_length]; exact OwL.nil, Below.refl _ _⟩
  case round =>
    obtain ⟨k, hk, rfl, hown, hb⟩ := hrel
    by_cases hk0 : 1 ≤ k
    · obtain ⟨ad, x, rfl, hbk, hx, hc⟩ := (hr.below hb (Nat.le_refl _)).byte (k := k - 1) (by omega)
      have e1 : ((k : Int) - 1).toNat = k - 1 := by omega
      have hsz := hb.size
      go_wp2_with (at_builtin; (refine wpList_appL _ bV_one rfl _ _ rfl byteTy (by decide) w.heap.size _ _ rfl (hown.alloc _) _ _ 1 1 [x] rfl rfl (RL.fresh _ _ _) ?c1 ?c2 ?_))
      case c1 => simp; omega
      case c2 => simp; omega
      intro v1 w1 hown1 _ _ hb1
      go_wp2
      go_roundw
      case rel =>
        refine ⟨k - 1, by omega, by go_num, ?_, (hb.alloc hsz _).trans hb1⟩
        have : (l.drop (k - 1)).reverse = (l.drop k).reverse ++ [x] := by
          obtain ⟨h1, h2⟩ := List.getElem?_eq_some_iff.1 hx.out
          rw [List.drop_eq_getElem_cons h1, List.reverse_cons, h2, show k - 1 + 1 = k by omega]
        rw [this]; exact hown1
      case measure => simp [intOf]; omega
    · obtain rfl : k = 0 := by omega
      go_wp2
      go_ret
      exact ⟨_, rfl, hown, hb⟩

set_option maxHeartbeats 400000 in
theorem refLittle_ok (A : Option Addr) (cap : Nat) (at_ n : Nat) (w : World) (l : List UInt8) (len : Nat) (hlen : l.length = len) (hcap : l.length ≤ cap) (hcap2 : (cap : Int) ≤ 9223372036854775807) (h1 : 1 ≤ n) (h2 : n ≤ 8) (h : at_ + n ≤ l.length)
   (hr : RB w w.heap.size A l) :
    Calls Tryz.prog 54 #[.slice A len cap, .int .i64 at_, .int .i64 n] w fun e w' => e = .returned (.tuple #[.int .i64 (num64 ((l.drop at_).take n).reverse), .int .i64 0]) ∧ Below w.heap.size w w' := by
  subst hlen
  obtain ⟨s, hs⟩ : ∃ s, s = (l.drop at_).take n := ⟨_, rfl⟩
  have hsl : s.length = n := by rw [hs]; simp; omega
  rw [← hs]
  have hrs : RB w w.heap.size (A.map (·.add at_)) s := by rw [hs]; exact (hr.drop at_).take n
  obtain ⟨ad, x0, rfl, _, _, _⟩ := hr.byte (k := at_) (by omega)
  clear hs
  subst hsl
  have hne : ¬ cap = at_ := by omega
  go_enter Tryz.func54, Tryz.ntmps54
  go_wp2_with (go_at_call 78; refine (turn_any _ _ _ _ s (by omega) (by omega) hrs).mono ?_; rintro e w1 ⟨v, rfl, hown, hb⟩; obtain ⟨A1, c1, rfl, hr1, hc1⟩ := hown.rd)
  go_wp2_with (go_at_call 77; refine (number_any _ _ _ _ s.reverse (by simp) (by simp; omega) hr1).mono ?_; rintro e w' ⟨rfl, rfl⟩)
  go_ret2
  exact ⟨rfl, hb⟩
end Go.Proofs.YtlmcpkomjofcgaaGreatDoor
