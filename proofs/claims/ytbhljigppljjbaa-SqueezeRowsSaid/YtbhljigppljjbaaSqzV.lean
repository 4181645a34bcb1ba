/- The walk of SqueezeRows. -/
import Derived.Test.YtbhljigppljjbaaSqzK
namespace Go.Proofs.Ytbhljigppljjbaa
open Go.RowKit

set_option maxRecDepth 100000 in
set_option maxHeartbeats 2000000 in
theorem squeezeRows_walk (w : World) (x0 : Int) (h0 : 0 ≤ x0 ∧ x0 ≤ 255) (x1 : Int) (h1 : 0 ≤ x1 ∧ x1 ≤ 65535) :
    Calls Try.prog 9 #[.int .u8 x0, .int .u16 x1] w fun e w' => e = .returned (.bool true) ∧ Below w.heap.size w w' := by
  have h01 := h0.1
  have h02 := h0.2
  have h11 := h1.1
  have h12 := h1.2
  clear h0 h1
  obtain ⟨N, hs⟩ : ∃ N : Nat, x1 % 32769 = (N : Int) := ⟨(x1 % 32769).toNat, by omega⟩
  have hN : N ≤ 32768 := by omega
  obtain ⟨q, hq⟩ : ∃ q : UInt8, (q.toNat : Int) = x0 := ⟨UInt8.ofNat x0.toNat, by rw [UInt8.toNat_ofNat']; omega⟩
  subst hq
  obtain ⟨cs, hcs, hcz, hr1⟩ := mk_row (P := Try.prog) 22 5 (.int .u8 0) 1 Try.underlying22 (by kernel_rfl) rfl N (by omega) (by omega)
  go_enter Try.func9, Try.ntmps9
  go_wp2_with fail
  refine (sfixed_any w).mono ?_
  rintro e w1 ⟨rfl, hb1⟩
  obtain ⟨g, hg⟩ : ∃ g, w1.heap.size = g := ⟨_, rfl⟩
  have hR0 : Rw (w1.alloc (.cells cs 5)) g 5 N (fun _ => bV 0) := Rw.of (Bk.newAt _ _ _ hg) hcs (fun i hi => hcz i hi)
  have hB0 := bl_alloc hb1 (Nat.le_refl _) (.cells cs 5)
  have hwg : w.heap.size ≤ g := by rw [← hg]; exact hb1.size
  have hr1' := hr1 w1
  clear hcs hcz hr1 hb1
  go_wp2_with fail
  clear hr1' hg
  generalize w1.alloc (.cells cs 5) = w2 at hR0 hB0 ⊢
  go_loopg [6, 20] N (fun κ _ jj wr => ∃ j : Nat, κ = N - j ∧ j ≤ N ∧ jj = .int .i64 (j : Int) ∧ Rw wr g 5 N (fun i => if i < j then bV q else bV 0) ∧ Below w.heap.size w wr)
  case atStart => exact ⟨0, by omega, by omega, rfl, hR0.ext fun i _ => by rw [if_neg (by omega)], hB0⟩
  case round =>
    clear hR0 hB0
    obtain ⟨j, hgk, hj, rfl, hR, hB⟩ := hrel
    by_cases hjn : j < N
    · have hc0 : wr.cell? ⟨g, j, none⟩ = some (.int .u8 0) := by rw [hR.cell hjn, if_neg (by omega)]; rfl
      have hf0 := hR.frz j
      have K : Bx (Rw (wr.setCell ⟨g, j, none⟩ (.int .u8 (q.toNat : Int))) g 5 N (fun i => if i < j + 1 then bV q else bV 0) ∧ Below w.heap.size w (wr.setCell ⟨g, j, none⟩ (.int .u8 (q.toNat : Int)))) := bx (by
        refine ⟨(hR.set j _).ext fun i _ => ?_, hB.setCell (by exact hwg) _⟩
        by_cases e : i = j
        · subst e; rw [if_pos (by omega), if_pos rfl]; rfl
        · rw [if_neg e]
          by_cases e2 : i < j
          · rw [if_pos (by omega), if_pos e2]
          · rw [if_neg (by omega), if_neg e2])
      clear hR hB
      go_wp2
      go_roundg (N - (j + 1))
      case rel => exact ⟨j + 1, rfl, by omega, by go_num, K.out⟩
      case measure => omega
    · obtain rfl : j = N := by omega
      have hr : RB wr wr.heap.size (some ⟨g, 0, none⟩) (List.replicate j q) := RL.more (Rw.read (l := List.replicate j q) (by rw [List.length_replicate]; exact hR) (fun i x hx => by
        rw [List.getElem?_replicate] at hx
        split at hx
        · rename_i h; injection hx with hx; rw [if_pos h, hx]
        · cases hx)) (by have := hR.lt; omega)
      have hl : (List.replicate j q).length = j := List.length_replicate
      have HL := bx hl
      have hneg : ¬ j < j := by omega
      clear hR hl
      go_wp2_with fail
      refine (sall_any _ j j (List.replicate j q) wr HL.out (by omega) (Nat.le_refl _) hr).mono ?_
      rintro e w3 hp3
      obtain ⟨A3, k3, c3, rfl, hk3, hr3, hkc3, hb3, h4, h5, _⟩ := allSOk hp3 (by rw [HL.out]; exact hN)
      have hbk := sqz_back (b := List.replicate j q) (by rw [HL.out]; exact hN) (lim := j) (by rw [HL.out]; exact Nat.le_refl _) hN
      have hrow := sqz_row hN q
      rw [← hk3.out] at hrow hbk
      have hB3 := hB.trans (hb3.mono hB.size)
      have hr' := hr.step hb3
      clear hp3 hb3 hr hB
      go_wp2_with fail
      have hk := iall_any A3 k3 c3 (sqzP (List.replicate j q)) (j : Int) w3 hk3.out.symm (by omega) hr3 (by omega) (by omega)
      refine hk.mono ?_
      clear hk
      rintro e w4 hp4
      obtain ⟨A4, k4, c4, rfl, hk4, hr4, _, hb4, _, _, _⟩ := allOk hp4 hbk
      have hr4' := hr'.step hb4
      have hB4 := hB3.trans (hb4.mono hB3.size)
      have hk4' := hk4.out
      rw [HL.out] at hk4'
      have HK4 := bx hk4'
      have hkb : ((k3 : Int) == (k3 : Int)) = true := beq_self_eq_true _
      clear hp4 hb4 hr' hB3 hbk hr3 hk4' hk4 hk3
      go_wp2_with fail
      refine (row_any j w4 (by omega)).mono ?_
      rintro e w5 ⟨rfl, rfl⟩
      obtain ⟨M, hM⟩ : ∃ M, 8 + j / 64 = M := ⟨_, rfl⟩
      rw [hM] at hrow ⊢
      have h5 : (k3 : Int) ≤ (M : Int) := by omega
      clear hM hrow
      go_wp2_with fail
      refine (same_any A4 _ k4 c4 j j w4 _ _ (by rw [HL.out, HK4.out]) HL.out (by rw [HK4.out]; omega) (by omega) hr4 hr4').mono ?_
      rintro e w6 ⟨rfl, hb6⟩
      have HB := bx (hB4.trans (hb6.mono hB4.size))
      clear hb6 hB4 hr4 hr4'
      go_wp2
      go_ret
      exact ⟨by simp, HB.out⟩
end Go.Proofs.Ytbhljigppljjbaa
