/- The walk of ManifestBack. -/
import Derived.Test.YthkgnidafdiolaaDoorManU
import Derived.Test.YthkgnidafdiolaaDoorManR
namespace Go.Proofs.YthkgnidafdiolaaDoor
open Go.RowKit

set_option maxRecDepth 100000 in
set_option maxHeartbeats 4000000 in
theorem manifestBack_walk (m : Int) (w : World) (hm : w.cell? ⟨0, 0, none⟩ = some (.int .i64 m)) (A0 : Option Addr) (n0 c0 : Nat) (l0 : List Attr) (e0 : l0.length = n0) (r0 : RS pairC w w.heap.size A0 l0) (q0 : ∀ p ∈ l0, p.1.length ≤ 140737488351232 ∧ p.2.length ≤ 140737488351232) (b0 : n0 ≤ 140737488351232) :
    Calls Tryd.prog 5 #[.slice A0 n0 c0] w fun e w' => e = .returned (.bool true) ∧ Below w.heap.size w w' := by
  have E0 := Lib.hid e0
  have HM := Lib.hid hm
  have HQ := Lib.hid q0
  clear e0 hm q0
  go_enter Tryd.func5, Tryd.ntmps5
  go_wp2_with fail
  refine (fixed12_any m _ HM.out).mono ?_
  rintro e w1 ⟨rfl, hb1⟩
  go_wp2
  go_loopw [3, 4, 5, 14] (fun t _ _ i wr => ∃ k tt : Nat, k ≤ n0 ∧ k ≤ 301 ∧ tt ≤ 40000 ∧ i = .int .i64 (k : Int) ∧ t = .int .i64 (tt : Int) ∧ Below w1.heap.size w1 wr ∧ Hid (∀ a ∈ l0.take k, a.1.length ≤ 40000 ∧ a.2.length ≤ 40000)) (fun _ _ _ i _ => n0 - (intOf i).toNat)
  case atStart => exact ⟨0, 0, by omega, by omega, by omega, rfl, rfl, Below.refl _ _, Lib.hid (by simp)⟩
  case round =>
    obtain ⟨k, tt, hk, hk3, htt, rfl, rfl, hbel, hall⟩ := hrel
    have hfb := hb1.trans (hbel.mono hb1.size)
    by_cases hk0 : k < n0
    · obtain ⟨ad, a, rfl, hlt, hx, hc0, hc1⟩ := (r0.below hfb (Nat.le_refl _)).at_ pairK (by rw [E0.out]; exact hk0)
      have ha := HQ.out a (List.mem_of_getElem? hx.out)
      have hd0 := hc0 _ rfl
      have hd1 := hc1 0 _ rfl
      obtain ⟨nb, hnb⟩ : ∃ nb : ByteArray, (⟨a.1.toArray⟩ : ByteArray) = nb := ⟨_, rfl⟩
      obtain ⟨vb, hvb⟩ : ∃ vb : ByteArray, (⟨a.2.toArray⟩ : ByteArray) = vb := ⟨_, rfl⟩
      unfold sV at hd0 hd1
      rw [hnb] at hd0
      rw [hvb, Nat.zero_add] at hd1
      have hns : a.1.length = nb.size := by rw [← hnb, ← size_len]
      have hvs : a.2.length = vb.size := by rw [← hvb, ← size_len]
      rw [hns, hvs] at ha
      have HNS := Lib.hid hns
      have HVS := Lib.hid hvs
      obtain ⟨h1, h2⟩ := ha
      clear hc0 hc1 hnb hvb hns hvs
      by_cases hbig : 40000 < (tt : Int) + ((nb.size : Int) + (vb.size : Int))
      · go_wp2
        go_ret
        exact ⟨rfl, hb1.trans ((bl_alloc hbel (Nat.le_refl _) _).mono hb1.size)⟩
      · by_cases h300 : 300 < (k : Int)
        · go_wp2
          go_ret
          exact ⟨rfl, hb1.trans ((bl_alloc hbel (Nat.le_refl _) _).mono hb1.size)⟩
        · have hnx : Hid (∀ b ∈ l0.take (k + 1), b.1.length ≤ 40000 ∧ b.2.length ≤ 40000) := Lib.hid (by
            rw [List.take_add_one, hx.out]
            intro b hb
            rcases List.mem_append.1 hb with hb | hb
            · exact hall.out b hb
            · simp at hb; subst hb; rw [HNS.out, HVS.out]; omega)
          go_wp2
          go_roundw
          case rel => exact ⟨k + 1, tt + (nb.size + vb.size), by omega, by omega, by omega, by go_num, by go_num, bl_alloc hbel (Nat.le_refl _) _, hnx⟩
          case measure => simp [intOf]; omega
    · obtain rfl : k = n0 := by omega
      have hall2 := hall.out
      rw [← E0.out, List.take_length] at hall2
      have HBIG : Hid (∀ a ∈ l0, a.1.length ≤ 1000000 ∧ a.2.length ≤ 1000000) := Lib.hid (fun a ha => by have := hall2 a ha; omega)
      have hr1 := (r0.below hfb (Nat.le_refl _)).top
      clear hall hall2 hb1 hbel
      obtain ⟨W, B, hWB⟩ : ∃ W B, writeM l0 = (W, B) := ⟨_, _, rfl⟩
      have HWB := Lib.hid hWB
      clear hWB
      go_wp2_with fail
      refine (ours_any A0 k c0 l0 wr E0.out (by omega) hr1).mono ?_
      rintro e w2 ⟨A2, c2, rfl, hr2, hb2⟩
      have hw2 := hfb.trans (hb2.mono hfb.size)
      have hr12 := hr1.step hb2
      go_wp2_with fail
      refine (write_any A2 _ c2 l0 w2 rfl ⟨by rw [E0.out]; omega, HBIG.out⟩ hr2).mono ?_
      rw [HWB.out]
      rintro e w3 ⟨A3, c3, rfl, hr3, hb3, _⟩
      have hw3 := hw2.trans (hb3.mono hw2.size)
      have hr13 := hr12.step hb3
      clear hb2 hb3 hr12 hr2 hw2 hfb hr1
      by_cases hW0 : W = 0
      · have HRB : Hid (readM B = (0, l0)) := Lib.hid (write_back (by rw [HWB.out, hW0]))
        have hWl : B.length ≤ 32768 := writeM_len (by rw [HWB.out, hW0])
        have h1 : (W != 0) = false := by simpa using hW0
        clear hW0
        go_wp2_with fail
        refine (read_any A3 _ c3 B m w3 rfl (by omega) hr3 (cell_old hw3 HM.out)).mono ?_
        rw [HRB.out]
        rintro e w4 ⟨A4, c4, rfl, hr4, hb4⟩
        have hw4 := hw3.trans (hb4.mono hw3.size)
        have hr14 := hr13.step hb4
        clear hb4 hr13 hw3
        go_wp2_with fail
        refine (theirs_any A4 _ c4 l0 w4 rfl (by rw [E0.out]; omega) hr4).mono ?_
        rintro e w5 ⟨A5, c5, rfl, hr5, hb5⟩
        have hw5 := hw4.trans (hb5.mono hw4.size)
        have hr15 := hr14.step hb5
        clear hb5 hr14 hw4
        go_wp2_with fail
        refine (samePairs_any A5 A0 _ c5 k c0 l0 l0 w5 rfl E0.out (by rw [E0.out]; omega) (by omega) hr5 hr15).mono ?_
        rintro e w6 ⟨rfl, hb6⟩
        rw [decide_eq_true (rfl : l0 = l0)]
        have hw6 := hw5.trans (hb6.mono hw5.size)
        go_wp2
        go_ret
        exact ⟨rfl, hw6⟩
      · have hB : B = [] := by
          rcases writeM_err l0 with h2 | h2
          · rw [HWB.out] at h2; exact absurd h2 hW0
          · rw [HWB.out] at h2; exact h2
        have h1 : (W != 0) = true := by simpa using hW0
        subst hB
        clear hW0
        go_wp2
        go_ret
        exact ⟨rfl, hw3⟩
end Go.Proofs.YthkgnidafdiolaaDoor
