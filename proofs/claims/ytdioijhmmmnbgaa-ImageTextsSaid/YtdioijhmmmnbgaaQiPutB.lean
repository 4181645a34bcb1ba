/- Contract: octet.PutBig of one to eight bytes. -/
import Derived.Test.YtdioijhmmmnbgaaQiPutP
namespace Go.Proofs.Ytdioijhmmmnbgaa
open Go.RowKit
set_option maxRecDepth 100000 in
set_option maxHeartbeats 400000 in
theorem putBig_ok (n : Nat) (v : Int) (w : World) (h1 : 1 ≤ n) (h2 : n ≤ 8) :
    Calls Try.prog 66 #[.int .i64 n, .int .i64 v] w fun e w' => ∃ r, e = .returned r ∧ OwB w' w.heap.size 5 r (leB n v).reverse ∧ Below w.heap.size w w' := by
  obtain ⟨i0, hi, hz0, hz1, hz2⟩ := info_parts u8_infoP
  go_enter Try.func66, Try.ntmps66
  go_wp2_with (at_make; refine wpList_make_full _ rfl _ _ _ rfl w.heap.size 5 i0 (.int .u8 0) 1 Try.underlying22 hi hz0 hz1 .i64 .i64 _ _ n rfl rfl rfl rfl (by rw [hz2]; omega) (by unfold maxLen; omega) (Nat.le_refl _) ?_)
  intro w1 hown hg
  have hb1 : Below w.heap.size w w1 := (Below.refl _ _).grown hg (Nat.le_refl _) (by simp)
  have hown0 : OwB w1 w.heap.size 5 (.slice (some ⟨w.heap.size, 0, none⟩) n n) (List.replicate n 0) := OwL.made (f := bV) (z := 0) hown
  clear hown hg
  go_wp2
  go_loopw [6, 17] (fun _ i wr => ∃ k : Nat, k ≤ n ∧ i = .int .i64 (k : Int) ∧ OwB wr w.heap.size 5 (.slice (some ⟨w.heap.size, 0, none⟩) n n) (List.replicate (n - k) 0 ++ ((leB n v).take k).reverse) ∧ Below w.heap.size w wr) (fun _ i _ => n - (intOf i).toNat)
  case atStart => exact ⟨0, by omega, rfl, by simpa using hown0, hb1⟩
  case round =>
    obtain ⟨k, hk, rfl, hown1, hb⟩ := hrel
    by_cases hk0 : k < n
    · have hc := hown1.cell (back_get hk0)
      have hf := hown1.frz (n - 1 - k)
      have e1 : ((n : Int) - 1 - (k : Int)).toNat = n - 1 - k := by omega
      have S := Lib.hid (hown1.set (n - 1 - k) (UInt8.ofNat ((v % 18446744073709551616).toNat / 256 ^ k)))
      go_wp2
      go_roundw
      case rel =>
        refine ⟨k + 1, by omega, by go_num, ?_, hb.setCell (Nat.le_refl _) _⟩
        rw [leB_cell, ← back_set hk0 (leB_get v hk0)]
        exact S.out
      case measure => simp [intOf]; omega
    · obtain rfl : k = n := by omega
      go_wp2
      go_ret
      refine ⟨_, rfl, ?_, hb⟩
      rw [List.take_of_length_le (by rw [leB_len]; omega), Nat.sub_self, List.replicate_zero, List.nil_append] at hown1
      exact hown1
end Go.Proofs.Ytdioijhmmmnbgaa
