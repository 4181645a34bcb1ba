/- The walk of InflateLimits. -/
import Derived.Test.YtbhljigppljjbaaInfW
import Derived.Test.YtbhljigppljjbaaInfR
import Derived.Test.YtbhljigppljjbaaSame
namespace Go.Proofs.Ytbhljigppljjbaa
open Go.RowKit

set_option maxRecDepth 100000 in
set_option maxHeartbeats 1000000 in
theorem inflateLimits_walk (w : World) (A : Option Addr) (n c : Nat) (l : List UInt8) (e0 : l.length = n) (_hc : n ≤ c) (_hm : (c : Int) ≤ 9223372036854775807) (r0 : RB w w.heap.size A l) (_b0 : n ≤ 140737488351232)
    (x1 : Int) (h1 : 0 ≤ x1 ∧ x1 ≤ 65535) (x2 : Int) (h2 : 0 ≤ x2 ∧ x2 ≤ 65535) :
    Calls Try.prog 5 #[.slice A n c, .int .u16 x1, .int .u16 x2] w fun e w' => e = .returned (.bool true) ∧ Below w.heap.size w w' := by
  have h11 := h1.1
  have h12 := h1.2
  have h21 := h2.1
  have h22 := h2.2
  have HL := bx e0
  clear e0 h1 h2
  by_cases hbig : 6000 < n
  · go_enter Try.func5, Try.ntmps5
    go_wp2_with fail
    refine (ifixed_any w).mono ?_
    rintro e w1 ⟨rfl, hb1⟩
    go_wp2
    go_ret
    exact ⟨rfl, hb1⟩
  · obtain ⟨s, hs⟩ : ∃ s : Nat, x1 % 32769 = (s : Int) := ⟨(x1 % 32769).toNat, by omega⟩
    have hs9 : s ≤ 32768 := by omega
    obtain ⟨gI, hgI⟩ : ∃ gI : Int, (gI = (s : Int) + x2 ∧ (s : Int) + x2 ≤ 32768) ∨ (gI = 32768 ∧ ¬ (s : Int) + x2 ≤ 32768) := by
      rcases (by omega : (s : Int) + x2 ≤ 32768 ∨ ¬ (s : Int) + x2 ≤ 32768) with h | h
      · exact ⟨_, .inl ⟨rfl, h⟩⟩
      · exact ⟨_, .inr ⟨rfl, h⟩⟩
    obtain ⟨g, hg⟩ : ∃ g : Nat, gI = (g : Int) := ⟨gI.toNat, by omega⟩
    have hsg : s ≤ g ∧ g ≤ 32768 := by omega
    have hlim := infl_lim l hsg.1 hsg.2
    have hlg := (infl_lim l (Nat.le_refl g) hsg.2).1
    obtain ⟨X, hX⟩ : ∃ X, inflP l (s : Int) = X := ⟨_, rfl⟩
    obtain ⟨Y, hY⟩ : ∃ Y, inflP l gI = Y := ⟨_, rfl⟩
    rw [← hg, hX, hY] at hlim
    rw [← hg, hY] at hlg
    have hgb : gI ≤ 32768 ∧ 0 ≤ gI := by omega
    have hlgI : ∀ (k : Nat) (r : List UInt8) (m : Nat), Y = .ok (r, m) → k = r.length → (k : Int) ≤ gI := fun k r m h1 h2 => by have := hlg r m h1; omega
    have HX := bx hX
    have HY := bx hY
    have hlgx := bx hlgI
    have hlimx := bx hlim
    clear hX hY hlg hlim hg hlgI
    rcases hgI with ⟨rfl, hlt⟩ | ⟨rfl, hlt⟩
    all_goals
      go_enter Try.func5, Try.ntmps5
      go_wp2_with fail
      refine (ifixed_any w).mono ?_
      rintro e w1 ⟨rfl, hb1⟩
      go_wp2_with fail
      refine (iall_any A n c l (s : Int) w1 HL.out (by omega) (r0.step hb1) (by omega) (by omega)).mono ?_
      rintro e w2 hp2
      rw [HX.out] at hp2
      have hb2 := hp2.1
      have hr2 := (r0.step hb1).step hb2
      have hbb2 := hb1.trans (hb2.mono hb1.size)
      rcases hlimx.out.2 with ⟨rfl, hlong⟩ | rfl
      · obtain ⟨rfl, _, _⟩ := allErr hp2 rfl
        clear hp2 hb2
        go_wp2_with fail
        refine (iall_any A n c l _ w2 HL.out (by omega) hr2 (by omega) (by omega)).mono ?_
        rintro e w3 hp3
        rw [HY.out] at hp3
        have hbb3 := hbb2.trans (hp3.1.mono hbb2.size)
        cases Y with
        | err k =>
          obtain ⟨rfl, _, hk⟩ := allErr hp3 rfl
          have hkb : (k != 0) = true := by rw [bne_iff_ne]; exact hk
          clear hp3 hk
          go_wp2_with fail
          go_ret
          exact ⟨rfl, hbb3⟩
        | ok z =>
          obtain ⟨r, m⟩ := z
          obtain ⟨A3, k3, c3, rfl, hk3, hr3, _, _, _, _⟩ := allOk hp3 rfl
          have h3 : s < k3 := by rw [hk3.out]; exact hlong r m rfl
          have h4 := hlgx.out k3 r m rfl hk3.out
          clear hp3 hlong
          go_wp2_with fail
          go_ret
          exact ⟨rfl, hbb3⟩
      · cases Y with
        | err k =>
          obtain ⟨rfl, _, hk⟩ := allErr hp2 rfl
          clear hp2 hb2
          go_wp2_with fail
          refine (iall_any A n c l _ w2 HL.out (by omega) hr2 (by omega) (by omega)).mono ?_
          rintro e w3 hp3
          rw [HY.out] at hp3
          have hbb3 := hbb2.trans (hp3.1.mono hbb2.size)
          obtain ⟨rfl, _, _⟩ := allErr hp3 rfl
          have hkb : (k != 0) = true := by rw [bne_iff_ne]; exact hk
          clear hp3 hk
          by_cases h8 : k = 8
          · subst h8
            go_wp2_with fail
            go_ret
            exact ⟨rfl, hbb3⟩
          · have hk8 : (k == 8) = false := by rw [beq_eq_false_iff_ne]; exact h8
            clear h8
            go_wp2_with fail
            refine (same_any none none 0 0 0 0 w3 [] [] rfl rfl (by omega) (by omega) RL.nil RL.nil).mono ?_
            rintro e w4 ⟨rfl, hb4⟩
            have HB := bx (hbb3.trans (hb4.mono hbb3.size))
            clear hb4 hbb3
            go_wp2_with fail
            go_ret
            exact ⟨rfl, HB.out⟩
        | ok z =>
          obtain ⟨r, m⟩ := z
          obtain ⟨A2, k2, c2, rfl, hk2, hr22, _, _, _, _, hrl⟩ := allOk hp2 rfl
          clear hp2 hb2
          have h3 : k2 ≤ s := by rw [hk2.out]; exact (infl_lim l hsg.1 hsg.2).1 r m HX.out
          go_wp2_with fail
          refine (iall_any A n c l _ w2 HL.out (by omega) hr2 (by omega) (by omega)).mono ?_
          rintro e w3 hp3
          rw [HY.out] at hp3
          have hbb3 := hbb2.trans (hp3.1.mono hbb2.size)
          have hr23 := hr22.step hp3.1
          obtain ⟨A3, k3, c3, rfl, hk3, hr3, _, _, _, _⟩ := allOk hp3 rfl
          have h4 := hlgx.out k3 r m rfl hk3.out
          clear hp3
          go_wp2_with fail
          refine (same_any A2 A3 k2 c2 k3 c3 w3 r r hk2.out.symm hk3.out.symm (by omega) (by omega) hr23 hr3).mono ?_
          rintro e w4 ⟨rfl, hb4⟩
          have HB := bx (hbb3.trans (hb4.mono hbb3.size))
          clear hb4 hbb3
          go_wp2_with fail
          go_ret
          exact ⟨rfl, HB.out⟩
end Go.Proofs.Ytbhljigppljjbaa
