/- Contract: samovarref02.number. -/
import Derived.Test.YtdioijhmmmnbgaaProg
import Derived.Test.YtdioijhmmmnbgaaPi1
namespace Go.Proofs.Ytdioijhmmmnbgaa
open Go.RowKit
theorem u8_info : (Try.prog.info? 5).map (fun i => (i.zero, i.size, i.bytes)) = some (some (.int .u8 0), 1, 1) := by kernel_rfl
theorem byteTy : ETy Try.prog 22 5 (.int .u8 0) 1 1 := ⟨Try.underlying22, info_parts u8_info, rfl, by decide⟩
set_option maxHeartbeats 400000 in
theorem number_any (A : Option Addr) (n cap : Nat) (w : World) (l : List UInt8) (hn : l.length = n) (hl : (l.length : Int) ≤ 140737488355328) (hr : RB w w.heap.size A l) :
    Calls Try.prog 72 #[.slice A n cap] w fun e w' => e = .returned (.int .i64 (num64 l)) ∧ w = w' := by
  subst hn
  go_enter Try.func72, Try.ntmps72
  go_wp2
  go_loop [3, 4] (fun v i => ∃ k : Nat, k ≤ l.length ∧ i = .int .i64 (k : Int) ∧ v = .int .i64 (num64 (l.take k))) (fun _ i => l.length - (intOf i).toNat)
  case atStart => exact ⟨0, by omega, rfl, rfl⟩
  case round =>
    obtain ⟨k, hk, rfl, rfl⟩ := hrel
    by_cases hk0 : k < l.length
    · obtain ⟨ad, x, rfl, hb, hx, hc⟩ := hr.byte hk0
      have hx8 := u8lt x
      have HST : Hid (num64 (l.take (k + 1)) = wrap64 (wrap64 (num64 (l.take k) * 256) + (x.toNat : Int))) := by
        rw [take_snoc' hx.out]; exact num64_snoc _ _
      go_wp2
      go_round
      case rel => exact ⟨k + 1, by omega, by go_num, by rw [HST.out]⟩
      case measure => simp [intOf]; omega
    · obtain rfl : k = l.length := by omega
      rw [List.take_length]
      go_wp2
      go_ret
      exact ⟨rfl, rfl⟩
end Go.Proofs.Ytdioijhmmmnbgaa
