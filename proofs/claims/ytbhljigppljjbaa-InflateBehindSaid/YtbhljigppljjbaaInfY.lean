/- The walk of InflateBehind. -/
import Derived.Test.YtbhljigppljjbaaInfW
import Derived.Test.YtbhljigppljjbaaInfQ
import Derived.Test.YtbhljigppljjbaaSame
namespace Go.Proofs.Ytbhljigppljjbaa
open Go.RowKit

set_option maxRecDepth 100000 in
set_option maxHeartbeats 1000000 in
theorem inflateBehind_walk (w : World) (A0 : Option Addr) (n0 c0 : Nat) (l0 : List UInt8) (e0 : l0.length = n0) (hc0 : n0 ≤ c0) (_hm0 : (c0 : Int) ≤ 9223372036854775807) (r0 : RB w w.heap.size A0 l0) (_b0 : n0 ≤ 140737488351232)
    (A1 : Option Addr) (n1 c1 : Nat) (l1 : List UInt8) (e1 : l1.length = n1) (_hc1 : n1 ≤ c1) (_hm1 : (c1 : Int) ≤ 9223372036854775807) (r1 : RB w w.heap.size A1 l1) (_b1 : n1 ≤ 140737488351232)
    (x2 : Int) (h2 : 0 ≤ x2 ∧ x2 ≤ 65535) :
    Calls Try.prog 4 #[.slice A0 n0 c0, .slice A1 n1 c1, .int .u16 x2] w fun e w' => e = .returned (.bool true) ∧ Below w.heap.size w w' := by
  have h21 := h2.1
  have h22 := h2.2
  have HL := bx e0
  have HL1 := bx e1
  clear e0 e1 h2
  by_cases hbig : 6000 < n0
  · go_enter Try.func4, Try.ntmps4
    go_wp2_with fail
    refine (ifixed_any w).mono ?_
    rintro e w1 ⟨rfl, hb1⟩
    go_wp2
    go_ret
    exact ⟨rfl, hb1⟩
  · by_cases hbig1 : 6000 < n1
    · go_enter Try.func4, Try.ntmps4
      go_wp2_with fail
      refine (ifixed_any w).mono ?_
      rintro e w1 ⟨rfl, hb1⟩
      go_wp2
      go_ret
      exact ⟨rfl, hb1⟩
    · obtain ⟨X, hX⟩ : ∃ X, inflP l0 5000 = X := ⟨_, rfl⟩
      cases X with
      | err k =>
        have HX := bx hX
        clear hX
        go_enter Try.func4, Try.ntmps4
        go_wp2_with fail
        refine (ifixed_any w).mono ?_
        rintro e w1 ⟨rfl, hb1⟩
        go_wp2_with fail
        refine (iall_any A0 n0 c0 l0 5000 w1 HL.out (by omega) (r0.step hb1) (by omega) (by omega)).mono ?_
        rintro e w2 hp2
        obtain ⟨rfl, hb2, hk⟩ := allErr hp2 HX.out
        have hkb : (k != 0) = true := by rw [bne_iff_ne]; exact hk
        have HB := bx (hb1.trans (hb2.mono hb1.size))
        clear hp2 hk hb1 hb2
        go_wp2_with fail
        go_ret
        exact ⟨rfl, HB.out⟩
      | ok z =>
        obtain ⟨r, m⟩ := z
        have hmm : 1 ≤ m ∧ m ≤ l0.length := by
          obtain ⟨_, _, _, _, hm1, hm2⟩ := infl_ok hX
          exact ⟨hm1, hm2⟩
        obtain ⟨hm1, hm2⟩ := hmm
        have hbeh := infl_behind (more := l1) hX
        obtain ⟨k, hk⟩ : ∃ k : Nat, x2 % (m : Int) = (k : Int) := ⟨(x2 % (m : Int)).toNat, by
          have := Int.emod_nonneg x2 (show (m : Int) ≠ 0 by omega); omega⟩
        have hkm : k < m := by
          have := Int.emod_lt_of_pos x2 (show (0 : Int) < (m : Int) by omega); omega
        have hcut := infl_cut hX hkm
        rw [HL.out] at hm2
        have HX := bx hX
        have HBH := bx hbeh
        have HCU := bx hcut
        have hl1 : (l0.take m).length = m := by rw [List.length_take, HL.out]; omega
        have hl2 : (l0.take k).length = k := by rw [List.length_take, HL.out]; omega
        have HT1 := bx hl1
        have HT2 := bx hl2
        have HN1 : Bx ((([] : List UInt8).length + (l0.take m).length) * 1 ≤ 140737488355328) := bx (by rw [hl1]; simp; omega)
        have HN2 : Bx ((([] ++ l0.take m).length + l1.length) * 1 ≤ 140737488355328) := bx (by rw [List.nil_append, hl1, HL1.out]; omega)
        have HLL : Bx (([] ++ l0.take m ++ l1).length ≤ 1000000000) := bx (by rw [List.nil_append, List.length_append, hl1, HL1.out]; omega)
        clear hX hbeh hcut hl1 hl2
        go_enter Try.func4, Try.ntmps4
        go_wp2_with fail
        refine (ifixed_any w).mono ?_
        rintro e w1 ⟨rfl, hb1⟩
        go_wp2_with fail
        refine (iall_any A0 n0 c0 l0 5000 w1 HL.out (by omega) (r0.step hb1) (by omega) (by omega)).mono ?_
        rintro e w2 hp2
        obtain ⟨A2, k2, c2, rfl, hk2, hr2, _, hb2, _, _, hrl⟩ := allOk hp2 HX.out
        have hk2l : k2 ≤ 32768 := by rw [hk2.out]; exact hrl
        have r02 := (r0.step hb1).step hb2
        have r12 := (r1.step hb1).step hb2
        have hbb2 := hb1.trans (hb2.mono hb1.size)
        clear hp2 hb1 hb2
        go_wp2_with (first
          | (at_builtin; refine wpList_appL _ bV_one rfl (.tmp 50) (.tmp 53) rfl byteTy (by decide) w2.heap.size _ [] rfl (OwL.lit0 w2 (Nat.le_refl _)) w2.heap.size A0 m c0 (l0.take m) rfl HT1.out ((r02.take m).alloc (Nat.le_refl _) _) HN1.out (le_alloc0 (Nat.le_refl _) _) ?_; intro v3 w3 hO3 _ _ hb3)
          | (at_builtin; refine wpList_appL _ bV_one rfl (.tmp 54) (.tmp 55) rfl byteTy (by decide) w2.heap.size _ _ rfl hO3 w2.heap.size A1 n1 c1 l1 rfl HL1.out ((r12.alloc (Nat.le_refl _) _).below hb3 (Nat.le_refl _)) HN2.out (Nat.le_trans (le_alloc0 (Nat.le_refl _) _) hb3.size) ?_; intro v4 w4 hO4 _ _ hb4; obtain ⟨A4, n4, c4, rfl, hn4, hr4⟩ := OwL.sl hO4))
        have hb24 : Below w2.heap.size w2 w4 := ((bl_alloc (Below.refl w2.heap.size w2) (Nat.le_refl _) _).trans hb3).trans hb4
        have hbb4 := hbb2.trans (hb24.mono hbb2.size)
        have hr24 := hr2.step hb24
        have r04 := r02.step hb24
        clear hb3 hb4 hO3 hO4 hr2 r02 r12 hb24 hbb2
        refine (iall_any A4 n4 c4 _ 5000 w4 hn4.out.symm (by rw [hn4.out]; exact HLL.out) hr4 (by omega) (by omega)).mono ?_
        rintro e w5 hp5
        obtain ⟨A5, k5, c5, rfl, hk5, hr5, _, hb5, _, _, _⟩ := allOk hp5 (by rw [List.nil_append]; exact HBH.out)
        have hr25 := hr24.step hb5
        have r05 := r04.step hb5
        have hbb5 := hbb4.trans (hb5.mono hbb4.size)
        clear hp5 hb5 hr4 hr24 r04 hbb4
        go_wp2_with fail
        refine (iall_any A0 k c0 (l0.take k) 5000 w5 HT2.out (by omega) (r05.take k) (by omega) (by omega)).mono ?_
        rintro e w6 hp6
        obtain ⟨rfl, hb6, _⟩ := allErr hp6 HCU.out
        have hr26 := hr25.step hb6
        have hr56 := hr5.step hb6
        have hbb6 := hbb5.trans (hb6.mono hbb5.size)
        have hk5l : k5 ≤ 32768 := by rw [hk5.out, ← hk2.out]; exact hk2l
        clear hp6 hb6 hr25 hr5 r05 hbb5 hk
        go_wp2_with fail
        refine (same_any A2 A5 k2 c2 k5 c5 w6 r r hk2.out.symm hk5.out.symm (by omega) (by omega) hr26 hr56).mono ?_
        rintro e w7 ⟨rfl, hb7⟩
        have HB := bx (hbb6.trans (hb7.mono hbb6.size))
        clear hb7 hbb6
        go_wp2_with fail
        go_ret
        exact ⟨rfl, HB.out⟩
end Go.Proofs.Ytbhljigppljjbaa
