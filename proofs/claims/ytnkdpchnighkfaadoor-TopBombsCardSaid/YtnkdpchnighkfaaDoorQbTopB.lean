/- The walk of TopBombs. -/
import Derived.Test.YtnkdpchnighkfaaDoorPb16
import Derived.Test.YtnkdpchnighkfaaDoorPb3
import Derived.Test.YtnkdpchnighkfaaDoorPb10
import Derived.Test.YtnkdpchnighkfaaDoorPb4
namespace Go.Proofs.YtnkdpchnighkfaaDoor
open Go.RowKit
theorem decB_self (l : List UInt8) : decide (l = l) = true := decide_eq_true rfl
set_option maxRecDepth 100000 in
set_option maxHeartbeats 4000000 in
theorem topBombs_walk (mx : Int) (w : World) (hm : w.cell? ⟨0, 0, none⟩ = some (.int .i64 mx)) (x0 : Int) (h0 : 0 ≤ x0 ∧ x0 ≤ 255) (x1 : Int) (h1 : 0 ≤ x1 ∧ x1 ≤ 65535) (x2 : Int) (h2 : -9223372036854775808 ≤ x2 ∧ x2 ≤ 9223372036854775807) :
    Calls Tryd.prog 4 #[.int .u8 x0, .int .u16 x1, .int .i64 x2] w fun e w' => e = .returned (.bool true) ∧ Below w.heap.size w w' := by
  have h01 := h0.1
  have h02 := h0.2
  have h11 := h1.1
  have h12 := h1.2
  have h21 := h2.1
  have h22 := h2.2
  have HM := bx hm
  clear h0 h1 h2 hm
  obtain ⟨N, hs⟩ : ∃ N : Nat, x1 % 32769 = (N : Int) := ⟨(x1 % 32769).toNat, by omega⟩
  have hN : N ≤ 32768 := by omega
  obtain ⟨q, hq⟩ : ∃ q : UInt8, (q.toNat : Int) = x0 := ⟨UInt8.ofNat x0.toNat, by rw [UInt8.toNat_ofNat']; omega⟩
  subst hq
  obtain ⟨cs, hcs, hcz, hr1⟩ := mk_row (P := Tryd.prog) 28 5 (.int .u8 0) 1 Tryd.underlying28 (by kernel_rfl) rfl N (by omega) (by omega)
  go_enter Tryd.func4, Tryd.ntmps4
  go_wp2_with fail
  refine (packs_any mx w HM.out).mono ?_
  rintro e w1 ⟨rfl, hb1⟩
  obtain ⟨g, hg⟩ : ∃ g, w1.heap.size = g := ⟨_, rfl⟩
  have hR0 : Rw (w1.alloc (.cells cs 5)) g 5 N (fun _ => bV 0) := Rw.of (Bk.newAt _ _ _ hg) hcs (fun i hi => hcz i hi)
  have hB0 := bl_alloc hb1 (Nat.le_refl _) (.cells cs 5)
  have hwg : w.heap.size ≤ g := by rw [← hg]; exact hb1.size
  have hr1' := hr1 w1
  clear hcs hcz hr1 hb1
  go_wp2_with fail
  clear hr1' hg
  generalize w1.alloc (.cells cs 5) = w2 at hR0 hB0 ⊢
  go_loopg [9, 23] N (fun κ _ jj wr => ∃ j : Nat, κ = N - j ∧ j ≤ N ∧ jj = .int .i64 (j : Int) ∧ Rw wr g 5 N (fun i => if i < j then bV q else bV 0) ∧ Below w.heap.size w wr)
  case atStart => exact ⟨0, by omega, by omega, rfl, hR0.ext fun i _ => by rw [if_neg (by omega)], hB0⟩
  case round =>
    clear hR0 hB0
    obtain ⟨j, hgk, hj, rfl, hR, hB⟩ := hrel
    by_cases hjn : j < N
    · have hc0 : wr.cell? ⟨g, j, none⟩ = some (.int .u8 0) := by rw [hR.cell hjn, if_neg (by omega)]; rfl
      have hf0 := hR.frz j
      have K : Bx (Rw (wr.setCell ⟨g, j, none⟩ (.int .u8 (q.toNat : Int))) g 5 N (fun i => if i < j + 1 then bV q else bV 0) ∧ Below w.heap.size w (wr.setCell ⟨g, j, none⟩ (.int .u8 (q.toNat : Int)))) := bx (by
        refine ⟨(hR.set j _).ext fun i _ => ?_, hB.setCell (by exact hwg) _⟩
        by_cases e : i = j
        · subst e; rw [if_pos (by omega), if_pos rfl]; rfl
        · rw [if_neg e]
          by_cases e2 : i < j
          · rw [if_pos (by omega), if_pos e2]
          · rw [if_neg (by omega), if_neg e2])
      clear hR hB
      go_wp2
      go_roundg (N - (j + 1))
      case rel => exact ⟨j + 1, rfl, by omega, by go_num, K.out⟩
      case measure => omega
    · obtain rfl : j = N := by omega
      have hr : RB wr wr.heap.size (some ⟨g, 0, none⟩) (List.replicate j q) := RL.more (Rw.read (l := List.replicate j q) (by rw [List.length_replicate]; exact hR) (fun i x hx => by
        rw [List.getElem?_replicate] at hx
        split at hx
        · rename_i h; injection hx with hx; rw [if_pos h, hx]
        · cases hx)) (by have := hR.lt; omega)
      have hl : (List.replicate j q).length = j := List.length_replicate
      have HBOM := bx (fun p (hp : (sqzP (List.replicate j q)).length = p) => by have := bomb_plain (c := q) hN x2; rw [hp] at this; exact this)
      have hrow := sqz_row hN q
      obtain ⟨b, hbb⟩ : ∃ b, List.replicate j q = b := ⟨_, rfl⟩
      rw [hbb] at hr hl HBOM hrow
      have HL := bx hl
      have HRB := bx hr
      have HB := bx hB
      have hneg : ¬ j < j := by omega
      clear hR hl hr hB hbb
      go_wp2_with fail
      refine (sall_any _ j j b wr HL.out (by omega) (Nat.le_refl _) HRB.out).mono ?_
      rintro e w3 hp3
      obtain ⟨A3, k3, c3, rfl, hk3, hr3, ho3, hb3⟩ := sqzOk hp3 (by rw [HL.out]; exact hN)
      rw [← hk3.out] at hrow
      have HB3 := bx (HB.out.trans (hb3.mono HB.out.size))
      have HR' := bx (HRB.out.step hb3)
      have HR3 := bx hr3
      have h64 : ¬ (8 : Int) + (j : Int) / 64 < (k3 : Int) := by omega
      have HSUM := bx (rsum_any (some ⟨g, 0, none⟩) j j b w3 HL.out (by omega) HR'.out)
      obtain ⟨cr, hcr⟩ : ∃ cr, crcA 0 b = cr := ⟨_, rfl⟩
      rw [hcr] at HSUM
      have HUN := bx (unp_any ⟨#[120]⟩ 8 (k3 : Int) x2 (cr : Int) 0 0 A3 k3 c3 (sqzP b) w3 hk3.out.symm (by omega) HR3.out (by omega) (by omega))
      have HBA : Bx (unpA 8 (k3 : Int) x2 (cr : Int) (sqzP b) = bombA j x2 b) := bx (by rw [← hcr]; exact HBOM.out k3 hk3.out.symm)
      rw [HBA.out] at HUN
      clear hp3 hb3 ho3 hr3 hrow hcr HBOM HBA hk3
      go_wp2_with fail
      refine HSUM.out.mono ?_
      rintro e w4 ⟨rfl, rfl⟩
      go_wp2_with fail
      refine HUN.out.mono ?_
      intro e w5 hp5
      unfold bombA at hp5
      by_cases c0 : x2 < 0
      · rw [if_pos c0] at hp5
        obtain ⟨rfl, hb5, _⟩ := unpErr hp5 rfl
        have HB5 := bx (HB3.out.trans (hb5.mono HB3.out.size))
        clear hp5 hb5
        go_wp2
        go_ret
        exact ⟨rfl, HB5.out⟩
      rw [if_neg c0] at hp5
      by_cases c1 : 32768 < x2
      · rw [if_pos c1] at hp5
        obtain ⟨rfl, hb5, _⟩ := unpErr hp5 rfl
        have HB5 := bx (HB3.out.trans (hb5.mono HB3.out.size))
        clear hp5 hb5
        go_wp2
        go_ret
        exact ⟨rfl, HB5.out⟩
      rw [if_neg c1] at hp5
      by_cases c2 : x2 < (j : Int)
      · rw [if_pos c2] at hp5
        obtain ⟨rfl, hb5, _⟩ := unpErr hp5 rfl
        have HB5 := bx (HB3.out.trans (hb5.mono HB3.out.size))
        clear hp5 hb5
        go_wp2
        go_ret
        exact ⟨rfl, HB5.out⟩
      rw [if_neg c2] at hp5
      by_cases c4 : (j : Int) < x2
      · rw [if_pos c4] at hp5
        obtain ⟨rfl, hb5, _⟩ := unpErr hp5 rfl
        have HB5 := bx (HB3.out.trans (hb5.mono HB3.out.size))
        clear hp5 hb5
        go_wp2
        go_ret
        exact ⟨rfl, HB5.out⟩
      rw [if_neg c4] at hp5
      obtain ⟨A5, n5, c5, rfl, hn5, hr5, _, _, hb5, _⟩ := unpOk hp5 rfl
      have HB5 := bx (HB3.out.trans (hb5.mono HB3.out.size))
      have HSM : Bx (Calls Tryd.prog 13 #[.slice A5 n5 c5, .slice (some ⟨g, 0, none⟩) j j] w5 fun e w' => e = .returned (.bool true) ∧ Below w5.heap.size w5 w') := bx ((same_any A5 (some ⟨g, 0, none⟩) n5 c5 j j w5 b b hn5.out.symm HL.out (by rw [hn5.out, HL.out]; omega) (by omega) hr5 (HR'.out.step hb5)).mono (by rintro e w' ⟨rfl, h⟩; exact ⟨by rw [decB_self], h⟩))
      clear hp5 hb5 hr5 hn5
      go_wp2_with fail
      refine HSM.out.mono ?_
      rintro e w6 ⟨rfl, hb6⟩
      have HB6 := bx (HB5.out.trans (hb6.mono HB5.out.size))
      clear hb6
      go_wp2
      go_ret
      exact ⟨rfl, HB6.out⟩
end Go.Proofs.YtnkdpchnighkfaaDoor
