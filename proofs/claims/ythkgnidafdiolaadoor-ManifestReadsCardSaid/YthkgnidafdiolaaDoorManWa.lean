/- The walk of ManifestReads. -/
import Derived.Test.YthkgnidafdiolaaDoorManU
namespace Go.Proofs.YthkgnidafdiolaaDoor
open Go.RowKit

theorem readM_c (b : List UInt8) : (readM b).2.length ≤ 32769 := (readM_ok b).1
set_option maxRecDepth 100000 in
set_option maxHeartbeats 4000000 in
theorem manifestReads_walk (m : Int) (w : World) (hm : w.cell? ⟨0, 0, none⟩ = some (.int .i64 m)) (A0 : Option Addr) (n0 c0 : Nat) (l0 : List UInt8) (e0 : l0.length = n0) (hc0 : n0 ≤ c0) (_hm0 : (c0 : Int) ≤ 9223372036854775807) (r0 : RB w w.heap.size A0 l0) (b0 : n0 ≤ 140737488351232) :
    Calls Tryd.prog 3 #[.slice A0 n0 c0] w fun e w' => e = .returned (.bool true) ∧ Below w.heap.size w w' := by
  have E0 := Lib.hid e0
  have HM := Lib.hid hm
  clear e0 hm
  go_enter Tryd.func3, Tryd.ntmps3
  go_wp2_with fail
  refine (fixed12_any m _ HM.out).mono ?_
  rintro e w1 ⟨rfl, hb1⟩
  by_cases hz : n0 ≤ 40000
  · have hml := readM_c l0
    obtain ⟨C, M, hCM⟩ : ∃ C M, readM l0 = (C, M) := ⟨_, _, rfl⟩
    obtain ⟨X, G, hXG⟩ : ∃ X G, mainM l0 = (X, G) := ⟨_, _, rfl⟩
    rw [hCM] at hml
    have HCM := Lib.hid hCM
    have HXG := Lib.hid hXG
    clear hCM hXG
    go_wp2_with fail
    refine (read_any A0 n0 c0 l0 m w1 E0.out (by omega) (r0.below hb1 (Nat.le_refl _)).top (cell_old hb1 HM.out)).mono ?_
    rw [HCM.out]
    rintro e w2 ⟨A2, c2, rfl, hr2, hb2⟩
    have hw2 := hb1.trans (hb2.mono hb1.size)
    go_wp2_with fail
    refine (refRead_any A0 n0 c0 l0 w2 E0.out (by omega) hc0 (r0.below hw2 (Nat.le_refl _)).top).mono ?_
    rw [HCM.out]
    rintro e w3 ⟨A3, c3, rfl, hr3, hb3⟩
    have hw3 := hw2.trans (hb3.mono hw2.size)
    have hr23 := hr2.step hb3
    go_wp2_with fail
    refine (main_any A0 n0 c0 l0 m w3 E0.out (by omega) (r0.below hw3 (Nat.le_refl _)).top (cell_old hw3 HM.out)).mono ?_
    rw [HXG.out]
    rintro e w4 ⟨rfl, hb4⟩
    have hw4 := hw3.trans (hb4.mono hw3.size)
    have hr24 := hr23.step hb4
    have hr34 := hr3.step hb4
    go_wp2_with fail
    refine (refMain_any A0 n0 c0 l0 w4 E0.out (by omega) hc0 (r0.below hw4 (Nat.le_refl _)).top).mono ?_
    rw [HXG.out]
    rintro e w5 ⟨rfl, hb5⟩
    have hw5 := hw4.trans (hb5.mono hw4.size)
    have hr25 := hr24.step hb5
    have hr35 := hr34.step hb5
    clear hb1 hb2 hb3 hb4 hb5 hw2 hw3 hw4 hr2 hr3 hr23 hr24 hr34
    have hml2 : M.length ≤ 32769 := hml
    clear hml
    have h1 : (C == C) = true := by simp
    have h2 : (G == G) = true := by simp
    go_wp2_with fail
    refine (theirs_any A2 _ c2 M w5 rfl (by omega) hr25).mono ?_
    rintro e w6 ⟨A6, c6, rfl, hr6, hb6⟩
    have hw6 := hw5.trans (hb6.mono hw5.size)
    have hr36 := hr35.step hb6
    clear hr25 hr35 hb6 hw5
    go_wp2_with fail
    refine (samePairs_any A6 A3 _ c6 _ c3 M M w6 rfl rfl (by omega) (by omega) hr6 hr36).mono ?_
    rintro e w7 ⟨rfl, hb7⟩
    rw [decide_eq_true (rfl : M = M)]
    have hw7 := hw6.trans (hb7.mono hw6.size)
    clear hr6 hr36 hb7 hw6
    go_wp2
    go_ret
    exact ⟨rfl, hw7⟩
  · have hz' : 40000 < n0 := by omega
    go_wp2
    go_ret
    exact ⟨rfl, hb1⟩
end Go.Proofs.YthkgnidafdiolaaDoor
