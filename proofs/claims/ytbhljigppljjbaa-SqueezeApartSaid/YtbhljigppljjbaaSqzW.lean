/- The walks of SqueezeMost, SqueezeApart. -/
import Derived.Test.YtbhljigppljjbaaSqzK
namespace Go.Proofs.Ytbhljigppljjbaa
open Go.RowKit

set_option maxRecDepth 100000 in
set_option maxHeartbeats 1000000 in
theorem squeezeMost_walk (w : World) (A : Option Addr) (n c : Nat) (l : List UInt8) (e0 : l.length = n) (hnc : n ≤ c) (_hm : (c : Int) ≤ 9223372036854775807) (r0 : RB w w.heap.size A l) (_b0 : n ≤ 140737488351232) :
    Calls Try.prog 8 #[.slice A n c] w fun e w' => e = .returned (.bool true) ∧ Below w.heap.size w w' := by
  have HL := bx e0
  clear e0
  go_enter Try.func8, Try.ntmps8
  by_cases hbig : 5000 < n
  · go_wp2_with fail
    refine (sfixed_any w).mono ?_
    rintro e w1 ⟨rfl, hb1⟩
    go_wp2
    go_ret
    exact ⟨rfl, hb1⟩
  · go_wp2_with fail
    refine (sfixed_any w).mono ?_
    rintro e w1 ⟨rfl, hb1⟩
    go_wp2_with fail
    refine (sall_any A n c l w1 HL.out (by omega) hnc (r0.step hb1)).mono ?_
    rintro e w2 hp2
    obtain ⟨A2, k2, c2, rfl, hk2, hr2, hkc2, hb2, h1, h2, h3⟩ := allSOk hp2 (by rw [HL.out]; omega)
    rw [HL.out] at h3
    have hB := bx (hb1.trans (hb2.mono hb1.size))
    have h4 : (0 : Int) < (k2 : Int) := by omega
    clear hp2 hr2 hb2 hb1 hk2
    go_wp2_with fail
    refine (most_any n w2 (by omega)).mono ?_
    rintro e w3 ⟨rfl, rfl⟩
    obtain ⟨M, hM⟩ : ∃ M, (9 * n + 17) / 8 = M := ⟨_, rfl⟩
    rw [hM] at h3 ⊢
    have h5 : (k2 : Int) ≤ (M : Int) := by omega
    clear hM h3 h2 h1
    go_wp2
    go_ret
    exact ⟨rfl, hB.out⟩
set_option maxRecDepth 100000 in
set_option maxHeartbeats 1000000 in
theorem squeezeApart_walk (w : World) (A : Option Addr) (n c : Nat) (l : List UInt8) (e0 : l.length = n) (hnc : n ≤ c) (_hm : (c : Int) ≤ 9223372036854775807) (r0 : RB w w.heap.size A l) (_b0 : n ≤ 140737488351232)
    (C : Option Addr) (m d : Nat) (r : List UInt8) (e1 : r.length = m) (hmd : m ≤ d) (_hm1 : (d : Int) ≤ 9223372036854775807) (r1 : RB w w.heap.size C r) (_b1 : m ≤ 140737488351232) :
    Calls Try.prog 10 #[.slice A n c, .slice C m d] w fun e w' => e = .returned (.bool true) ∧ Below w.heap.size w w' := by
  have HL := bx e0
  have HR := bx e1
  clear e0 e1
  go_enter Try.func10, Try.ntmps10
  by_cases hbig : 3000 < n
  · go_wp2_with fail
    refine (sfixed_any w).mono ?_
    rintro e w1 ⟨rfl, hb1⟩
    go_wp2
    go_ret
    exact ⟨rfl, hb1⟩
  by_cases hbig2 : 3000 < m
  · go_wp2_with fail
    refine (sfixed_any w).mono ?_
    rintro e w1 ⟨rfl, hb1⟩
    go_wp2
    go_ret
    exact ⟨rfl, hb1⟩
  · go_wp2_with fail
    refine (sfixed_any w).mono ?_
    rintro e w1 ⟨rfl, hb1⟩
    go_wp2_with fail
    refine (sall_any A n c l w1 HL.out (by omega) hnc (r0.step hb1)).mono ?_
    rintro e w2 hp2
    obtain ⟨A2, k2, c2, rfl, hk2, hr2, hkc2, hb2, h1, h2, h3⟩ := allSOk hp2 (by rw [HL.out]; omega)
    have hB2 := hb1.trans (hb2.mono hb1.size)
    clear hp2 hb2 hb1 h3
    go_wp2_with fail
    refine (sall_any C m d r w2 HR.out (by omega) hmd (r1.step hB2)).mono ?_
    rintro e w3 hp3
    obtain ⟨A3, k3, c3, rfl, hk3, hr3, hkc3, hb3, h4, h5, h6⟩ := allSOk hp3 (by rw [HR.out]; omega)
    have hB3 := hB2.trans (hb3.mono hB2.size)
    have hr23 := hr2.step hb3
    clear hp3 hb3 h6 hr2
    go_wp2_with fail
    refine (same_any A2 A3 k2 c2 k3 c3 w3 _ _ hk2.out.symm hk3.out.symm (by omega) (by omega) hr23 hr3).mono ?_
    rintro e w4 ⟨rfl, hb4⟩
    have hB4 := hB3.trans (hb4.mono hB3.size)
    have hq : decide (sqzP l = sqzP r) = decide (l = r) := by
      by_cases h : l = r
      · rw [h]; simp
      · rw [decide_eq_false h, decide_eq_false (fun e => h (sqz_inj (by rw [HL.out]; omega) (by rw [HR.out]; omega) e))]
    rw [hq]
    clear hb4 hr23 hr3 hq hk2 hk3
    generalize hD : decide (l = r) = D
    have HD := bx hD
    clear hD
    go_wp2_with fail
    refine (same_any A C n c m d w4 l r HL.out HR.out (by omega) (by omega) (r0.step hB4) (r1.step hB4)).mono ?_
    rintro e w5 ⟨rfl, hb5⟩
    rw [HD.out]
    have hB5 := bx (hB4.trans (hb5.mono hB4.size))
    have hDD : (D == D) = true := beq_self_eq_true _
    clear hb5 hB4
    go_wp2
    go_ret
    exact ⟨rfl, hB5.out⟩
end Go.Proofs.Ytbhljigppljjbaa
