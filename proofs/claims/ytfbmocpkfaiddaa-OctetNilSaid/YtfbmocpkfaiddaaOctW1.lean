/- The walks of the octet statements. -/
import Derived.Test.YtfbmocpkfaiddaaOctF
import Derived.Test.YtfbmocpkfaiddaaOctD
namespace Go.Proofs.Ytfbmocpkfaiddaa
open Go.RowKit

set_option maxHeartbeats 1000000 in
theorem octetNumbers_walk (w : World) (A : Option Addr) (n c : Nat) (l : List UInt8) (hl : l.length = n) (hc : n ≤ c) (hm : (c : Int) ≤ 9223372036854775807) (hr : RB w w.heap.size A l) (hb : n ≤ 140737488351232)
    (at_ : Int) (ha : -9223372036854775808 ≤ at_ ∧ at_ ≤ 9223372036854775807) (k : Int) (hk : -9223372036854775808 ≤ k ∧ k ≤ 9223372036854775807) :
    Calls Try.prog 3 #[.slice A n c, .int .i64 at_, .int .i64 k] w fun e w' => e = .returned (.bool true) ∧ Below w.heap.size w w' := by
  subst hl
  by_cases h1 : k < 1 ∨ 8 < k ∨ at_ < 0
  · go_enter Try.func3, Try.ntmps3
    go_wp2_with fail
    refine (fixed_any _).mono ?_
    rintro e w1 ⟨rfl, hb1⟩
    go_wp2_with fail
    refine (little_arg _ _ _ _ _ _ h1).mono ?_
    rintro e w2 ⟨rfl, rfl⟩
    go_wp2_with fail
    refine (refLittle_arg _ _ _ _ _ _ h1).mono ?_
    rintro e w2 ⟨rfl, rfl⟩
    go_wp2_with fail
    refine (big_arg _ _ _ _ _ _ h1).mono ?_
    rintro e w2 ⟨rfl, rfl⟩
    go_wp2_with fail
    refine (refBig_arg _ _ _ _ _ _ h1).mono ?_
    rintro e w2 ⟨rfl, rfl⟩
    go_wp2_with fail
    go_ret
    exact ⟨rfl, hb1⟩
  · have h2 : 1 ≤ k := by omega
    have h3 : k ≤ 8 := by omega
    have h4 : 0 ≤ at_ := by omega
    clear h1
    by_cases h5 : (l.length : Int) - k < at_
    · go_enter Try.func3, Try.ntmps3
      go_wp2_with fail
      refine (fixed_any _).mono ?_
      rintro e w1 ⟨rfl, hb1⟩
      go_wp2_with fail
      refine (little_short _ _ _ _ _ _ (by omega) h2 h3 h4 h5).mono ?_
      rintro e w2 ⟨rfl, rfl⟩
      go_wp2_with fail
      refine (refLittle_short _ _ _ _ _ _ h2 h3 h4 h5).mono ?_
      rintro e w2 ⟨rfl, rfl⟩
      go_wp2_with fail
      refine (big_short _ _ _ _ _ _ (by omega) h2 h3 h4 h5).mono ?_
      rintro e w2 ⟨rfl, rfl⟩
      go_wp2_with fail
      refine (refBig_short _ _ _ _ _ _ h2 h3 h4 h5).mono ?_
      rintro e w2 ⟨rfl, rfl⟩
      go_wp2_with fail
      go_ret
      exact ⟨rfl, hb1⟩
    · obtain ⟨i, rfl⟩ := Int.eq_ofNat_of_zero_le h4
      obtain ⟨m, rfl⟩ := Int.eq_ofNat_of_zero_le (show 0 ≤ k by omega)
      go_enter Try.func3, Try.ntmps3
      go_wp2_with fail
      refine (fixed_any _).mono ?_
      rintro e w1 ⟨rfl, hb1⟩
      go_wp2_with fail
      refine (little_ok _ _ _ _ _ l _ rfl (by omega) (by omega) (by omega) (by omega) (hr.step hb1)).mono ?_
      rintro e w2 ⟨rfl, rfl⟩
      go_wp2_with fail
      refine (refLittle_ok _ _ _ _ _ l _ rfl hc hm (by omega) (by omega) (by omega) (hr.step hb1)).mono ?_
      rintro e w2 ⟨rfl, hb2⟩
      have hb3 := hb1.trans (hb2.mono hb1.size)
      have e1 : num64 ((l.drop i).take m).reverse = wrap64 (leN ((l.drop i).take m)) := by
        rw [num64_eq, beN_eq, List.reverse_reverse]
      rw [e1]
      clear e1
      go_wp2_with fail
      refine (big_ok _ _ _ _ _ l _ rfl (by omega) hc hm (by omega) (by omega) (by omega) (hr.step hb3)).mono ?_
      rintro e w3 ⟨rfl, rfl⟩
      go_wp2_with fail
      refine (refBig_ok _ _ _ _ _ l _ rfl hc hm (by omega) (by omega) (by omega) (hr.step hb3)).mono ?_
      rintro e w3 ⟨rfl, rfl⟩
      rw [num64_eq]
      go_wp2_with fail
      go_ret
      exact ⟨rfl, hb3⟩

set_option maxHeartbeats 400000 in
theorem num_nil (n : Int) (w : World) : Calls Try.prog 20 #[.pointer none, .int .i64 n] w fun e w' => e = .returned (.int .i64 0) ∧ w = w' := by
  go_enter Try.func20, Try.ntmps20
  go_wp2
  go_ret
  exact ⟨rfl, rfl⟩
set_option maxHeartbeats 400000 in
theorem signed_nil (n : Int) (w : World) : Calls Try.prog 22 #[.pointer none, .int .i64 n] w fun e w' => e = .returned (.int .i64 0) ∧ w = w' := by
  have hz : (wrap64 0 : Int) = 0 := by unfold wrap64; omega
  by_cases h1 : n < 1
  · go_enter Try.func22, Try.ntmps22
    go_wp2_with (go_at_call 20; refine (num_nil _ _).mono ?_; rintro e w' ⟨rfl, rfl⟩)
    go_ret
    exact ⟨rfl, rfl⟩
  · by_cases h2 : 8 < n
    · go_enter Try.func22, Try.ntmps22
      go_wp2_with (go_at_call 20; refine (num_nil _ _).mono ?_; rintro e w' ⟨rfl, rfl⟩)
      go_ret
      exact ⟨rfl, rfl⟩
    · have h3 : 1 ≤ n := by omega
      have h4 : n ≤ 8 := by omega
      clear h1 h2
      go_enter Try.func22, Try.ntmps22
      go_wp2_with (go_at_call 20; refine (num_nil _ _).mono ?_; rintro e w' ⟨rfl, rfl⟩)
      go_ret
      exact ⟨rfl, rfl⟩
set_option maxHeartbeats 400000 in
theorem bytes_nil (n : Int) (w : World) : Calls Try.prog 24 #[.pointer none, .int .i64 n] w fun e w' => e = .returned (.slice none 0 0) ∧ w = w' := by
  go_enter Try.func24, Try.ntmps24
  go_wp2
  go_ret
  exact ⟨rfl, rfl⟩
set_option maxHeartbeats 1000000 in
theorem octetNil_walk (w : World) (n : Int) (_h : -9223372036854775808 ≤ n ∧ n ≤ 9223372036854775807) :
    Calls Try.prog 7 #[.int .i64 n] w fun e w' => e = .returned (.bool true) ∧ Below w.heap.size w w' := by
  go_enter Try.func7, Try.ntmps7
  go_wp2_with fail
  refine (fixed_any _).mono ?_
  rintro e w1 ⟨rfl, hb1⟩
  go_wp2_with fail
  refine (num_nil _ _).mono ?_
  rintro e w2 ⟨rfl, rfl⟩
  go_wp2_with fail
  refine (signed_nil _ _).mono ?_
  rintro e w2 ⟨rfl, rfl⟩
  go_wp2_with fail
  refine (bytes_nil _ _).mono ?_
  rintro e w2 ⟨rfl, rfl⟩
  go_wp2
  go_ret
  exact ⟨rfl, hb1⟩
end Go.Proofs.Ytfbmocpkfaiddaa
