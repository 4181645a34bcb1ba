/- Contracts of octet's functions that lay a number, and of the document's. -/
import Derived.Test.YtfbmocpkfaiddaaProg
import Derived.Test.YtfbmocpkfaiddaaOctP
import Derived.Test.YtfbmocpkfaiddaaOctB
namespace Go.Proofs.Ytfbmocpkfaiddaa
open Go.RowKit

/-- The lowest n bytes of v, the least one first. -/
def leB (n : Nat) (v : Int) : List UInt8 := (List.range n).map fun i => UInt8.ofNat ((v % 18446744073709551616).toNat / 256 ^ i)

theorem leB_len (n : Nat) (v : Int) : (leB n v).length = n := by simp [leB]
theorem leB_get {n k : Nat} (v : Int) (hk : k < n) : (leB n v)[k]? = some (UInt8.ofNat ((v % 18446744073709551616).toNat / 256 ^ k)) := by simp [leB, hk]
theorem leB_cell (v : Int) (k : Nat) : Value.int .u8 (IntKind.u64.wrap v / 2 ^ (8 * k) % 256) = bV (UInt8.ofNat ((v % 18446744073709551616).toNat / 256 ^ k)) := by
  have h1 : IntKind.u64.wrap v = ((v % 18446744073709551616).toNat : Int) := by rw [IntKind.wrap_u64]; omega
  have h2 : (2 : Int) ^ (8 * k) = ((256 ^ k : Nat) : Int) := by
    rw [show 256 = 2 ^ 8 from rfl, ← Nat.pow_mul]; simp
  unfold bV
  rw [h1, h2, UInt8.toNat_ofNat']
  congr 1
/-- One store more of a row of bytes. -/
theorem fill_set {l : List UInt8} {n k : Nat} {x : UInt8} (hl : l.length = n) (hk : k < n) (hx : l[k]? = some x) :
    (l.take k ++ List.replicate (n - k) 0).set k x = l.take (k + 1) ++ List.replicate (n - (k + 1)) 0 := by
  rw [take_snoc' hx, List.set_append_right _ _ (by simp; omega), show n - k = (n - (k + 1)) + 1 by omega, List.replicate_succ]
  simp [show min k l.length = k by omega]
theorem fill_get {l : List UInt8} {n k : Nat} (hl : l.length = n) (hk : k < n) : (l.take k ++ List.replicate (n - k) 0)[k]? = some 0 := by
  rw [List.getElem?_append_right (by simp; omega), List.getElem?_replicate, if_pos (by simp; omega)]

set_option maxHeartbeats 400000 in
theorem putLittle_ok (n : Nat) (v : Int) (w : World) (h1 : 1 ≤ n) (h2 : n ≤ 8) :
    Calls Try.prog 13 #[.int .i64 n, .int .i64 v] w fun e w' => ∃ r, e = .returned r ∧ OwB w' w.heap.size 5 r (leB n v) ∧ Below w.heap.size w w' := by
  obtain ⟨i0, hi, hz0, hz1, hz2⟩ := info_parts u8_info
  go_enter Try.func13, Try.ntmps13
  go_wp2_with (at_make; refine wpList_make_full _ rfl _ _ _ rfl w.heap.size 5 i0 (.int .u8 0) 1 Try.underlying22 hi hz0 hz1 .i64 .i64 _ _ n rfl rfl rfl rfl (by rw [hz2]; omega) (by unfold maxLen; omega) (Nat.le_refl _) ?_)
  intro w1 hown hg
  have hb1 : Below w.heap.size w w1 := (Below.refl _ _).grown hg (Nat.le_refl _) (by simp)
  have hown0 : OwB w1 w.heap.size 5 (.slice (some ⟨w.heap.size, 0, none⟩) n n) (List.replicate n 0) := OwL.made (f := bV) (z := 0) hown
  clear hown hg
  go_wp2
  go_loopw [6, 17] (fun _ i wr => ∃ k : Nat, k ≤ n ∧ i = .int .i64 (k : Int) ∧ OwB wr w.heap.size 5 (.slice (some ⟨w.heap.size, 0, none⟩) n n) ((leB n v).take k ++ List.replicate (n - k) 0) ∧ Below w.heap.size w wr) (fun _ i _ => n - (intOf i).toNat)
  case atStart => exact ⟨0, by omega, rfl, by simpa using hown0, hb1⟩
  case round =>
    obtain ⟨k, hk, rfl, hown1, hb⟩ := hrel
    by_cases hk0 : k < n
    · have hc := hown1.cell (fill_get (leB_len n v) hk0)
      have hf := hown1.frz k
      have S := Lib.hid (hown1.set k (UInt8.ofNat ((v % 18446744073709551616).toNat / 256 ^ k)))
      go_wp2
      go_roundw
      case rel =>
        refine ⟨k + 1, by omega, by go_num, ?_, hb.setCell (Nat.le_refl _) _⟩
        rw [leB_cell, ← fill_set (leB_len n v) hk0 (leB_get v hk0)]
        exact S.out
      case measure => simp [intOf]; omega
    · obtain rfl : k = n := by omega
      go_wp2
      go_ret
      refine ⟨_, rfl, ?_, hb⟩
      rw [List.take_of_length_le (by rw [leB_len]; omega), Nat.sub_self, List.replicate_zero, List.append_nil] at hown1
      exact hown1

/-- The row filled from its end. -/
theorem back_set {l : List UInt8} {n k : Nat} {x : UInt8} (hk : k < n) (hx : l[k]? = some x) :
    (List.replicate (n - k) 0 ++ (l.take k).reverse).set (n - 1 - k) x = List.replicate (n - (k + 1)) 0 ++ (l.take (k + 1)).reverse := by
  rw [take_snoc' hx, List.reverse_append, show n - k = (n - (k + 1)) + 1 by omega, List.replicate_succ', List.append_assoc,
    List.set_append_right _ _ (by simp; omega)]
  simp [show n - 1 - k - (n - (k + 1)) = 0 by omega]
theorem back_get {l : List UInt8} {n k : Nat} (hk : k < n) : (List.replicate (n - k) 0 ++ (l.take k).reverse)[n - 1 - k]? = some 0 := by
  rw [List.getElem?_append_left (by simp; omega), List.getElem?_replicate, if_pos (by omega)]

set_option maxHeartbeats 400000 in
theorem putBig_ok (n : Nat) (v : Int) (w : World) (h1 : 1 ≤ n) (h2 : n ≤ 8) :
    Calls Try.prog 14 #[.int .i64 n, .int .i64 v] w fun e w' => ∃ r, e = .returned r ∧ OwB w' w.heap.size 5 r (leB n v).reverse ∧ Below w.heap.size w w' := by
  obtain ⟨i0, hi, hz0, hz1, hz2⟩ := info_parts u8_info
  go_enter Try.func14, Try.ntmps14
  go_wp2_with (at_make; refine wpList_make_full _ rfl _ _ _ rfl w.heap.size 5 i0 (.int .u8 0) 1 Try.underlying22 hi hz0 hz1 .i64 .i64 _ _ n rfl rfl rfl rfl (by rw [hz2]; omega) (by unfold maxLen; omega) (Nat.le_refl _) ?_)
  intro w1 hown hg
  have hb1 : Below w.heap.size w w1 := (Below.refl _ _).grown hg (Nat.le_refl _) (by simp)
  have hown0 : OwB w1 w.heap.size 5 (.slice (some ⟨w.heap.size, 0, none⟩) n n) (List.replicate n 0) := OwL.made (f := bV) (z := 0) hown
  clear hown hg
  go_wp2
  go_loopw [6, 17] (fun _ i wr => ∃ k : Nat, k ≤ n ∧ i = .int .i64 (k : Int) ∧ OwB wr w.heap.size 5 (.slice (some ⟨w.heap.size, 0, none⟩) n n) (List.replicate (n - k) 0 ++ ((leB n v).take k).reverse) ∧ Below w.heap.size w wr) (fun _ i _ => n - (intOf i).toNat)
  case atStart => exact ⟨0, by omega, rfl, by simpa using hown0, hb1⟩
  case round =>
    obtain ⟨k, hk, rfl, hown1, hb⟩ := hrel
    by_cases hk0 : k < n
    · have hc := hown1.cell (back_get hk0)
      have hf := hown1.frz (n - 1 - k)
      have e1 : ((n : Int) - 1 - (k : Int)).toNat = n - 1 - k := by omega
      have S := Lib.hid (hown1.set (n - 1 - k) (UInt8.ofNat ((v % 18446744073709551616).toNat / 256 ^ k)))
      go_wp2
      go_roundw
      case rel =>
        refine ⟨k + 1, by omega, by go_num, ?_, hb.setCell (Nat.le_refl _) _⟩
        rw [leB_cell, ← back_set hk0 (leB_get v hk0)]
        exact S.out
      case measure => simp [intOf]; omega
    · obtain rfl : k = n := by omega
      go_wp2
      go_ret
      refine ⟨_, rfl, ?_, hb⟩
      rw [List.take_of_length_le (by rw [leB_len]; omega), Nat.sub_self, List.replicate_zero, List.nil_append] at hown1
      exact hown1
set_option maxHeartbeats 400000 in
theorem putLittle_no (n v : Int) (w : World) (h : n < 1 ∨ 8 < n) :
    Calls Try.prog 13 #[.int .i64 n, .int .i64 v] w fun e w' => e = .returned (.slice none 0 0) ∧ w = w' := by
  rcases h with h | h
  all_goals
    go_enter Try.func13, Try.ntmps13
    go_wp2
    go_ret
    exact ⟨rfl, rfl⟩
set_option maxHeartbeats 400000 in
theorem putBig_no (n v : Int) (w : World) (h : n < 1 ∨ 8 < n) :
    Calls Try.prog 14 #[.int .i64 n, .int .i64 v] w fun e w' => e = .returned (.slice none 0 0) ∧ w = w' := by
  rcases h with h | h
  all_goals
    go_enter Try.func14, Try.ntmps14
    go_wp2
    go_ret
    exact ⟨rfl, rfl⟩
end Go.Proofs.Ytfbmocpkfaiddaa
