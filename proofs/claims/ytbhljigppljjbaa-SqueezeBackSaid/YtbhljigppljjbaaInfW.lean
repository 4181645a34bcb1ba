/- Contract: samovarlaw06.fixed. -/
import Derived.Test.YtbhljigppljjbaaInfG
import Derived.Test.YtbhljigppljjbaaInfV
import Derived.Test.YtbhljigppljjbaaBytes
namespace Go.Proofs.Ytbhljigppljjbaa
open Go.RowKit

theorem allOk {R : Rz (List UInt8 × Nat)} {w w' : World} {e : Ending} {l : List UInt8} {n : Nat} (h : AllPost R w e w') (hR : R = .ok (l, n)) : ∃ A k c, e = .returned (.tuple #[.slice A k c, .int .i64 (n : Int), .int .i64 0]) ∧ Bx (k = l.length) ∧ RB w' w'.heap.size A l ∧ k ≤ c ∧ Below w.heap.size w w' ∧ (∀ ad, A = some ad → w.heap.size ≤ ad.block) ∧ OwB w' w.heap.size 5 (.slice A k c) l ∧ l.length ≤ 32768 := by
  subst hR
  obtain ⟨hb, v, rfl, hO, hl⟩ := h
  obtain ⟨A, c, rfl, hr, hc, _⟩ := OwL.rd hO
  exact ⟨A, _, c, rfl, ⟨rfl⟩, hr, hc, hb, fun ad e => by subst e; exact (World.ownsRow.lt hO ad.block rfl).1, hO, hl⟩
theorem allErr {R : Rz (List UInt8 × Nat)} {w w' : World} {e : Ending} {k : Int} (h : AllPost R w e w') (hR : R = .err k) : e = .returned (.tuple #[.slice none 0 0, .int .i64 0, .int .i64 k]) ∧ Below w.heap.size w w' ∧ k ≠ 0 := by
  subst hR
  exact ⟨h.2.1, h.1, h.2.2⟩
set_option maxRecDepth 100000 in
set_option maxHeartbeats 1000000 in
theorem ifixed_any (w : World) : Calls Try.prog 11 #[] w fun e w' => e = .returned (.bool true) ∧ Below w.heap.size w w' := by
  have hb0 := bl_alloc (Below.refl w.heap.size w) (Nat.le_refl _) (.cells #[.int .u8 1, .int .u8 2, .int .u8 0, .int .u8 253, .int .u8 255, .int .u8 97, .int .u8 98] 5)
  have hr0 : RB (w.alloc (.cells #[.int .u8 1, .int .u8 2, .int .u8 0, .int .u8 253, .int .u8 255, .int .u8 97, .int .u8 98] 5)) (w.alloc (.cells #[.int .u8 1, .int .u8 2, .int .u8 0, .int .u8 253, .int .u8 255, .int .u8 97, .int .u8 98] 5)).heap.size (some ⟨w.heap.size, 0, none⟩) [1, 2, 0, 253, 255, 97, 98] :=
    (RL.news w [1, 2, 0, 253, 255, 97, 98] #[.int .u8 1, .int .u8 2, .int .u8 0, .int .u8 253, .int .u8 255, .int .u8 97, .int .u8 98] rfl _ _).top
  go_enter Try.func11, Try.ntmps11
  go_wp2_with fail
  refine (iall_any (some ⟨w.heap.size, 0, none⟩) 7 7 [1, 2, 0, 253, 255, 97, 98] 2 _ rfl (by omega) hr0 (by omega) (by omega)).mono ?_
  rintro e w1 hp
  obtain ⟨A1, k1, c1, rfl, hk1, hr1, _, hb1, _, _⟩ := allOk hp ev1
  obtain rfl : k1 = 2 := hk1.out
  have hr01 := hr0.step hb1
  have hbb1 := hb0.trans (hb1.mono hb0.size)
  clear hp hr0 hb0 hb1 hk1
  go_wp2_with fail
  refine (iall_any (some ⟨w.heap.size, 0, none⟩) 7 7 [1, 2, 0, 253, 255, 97, 98] 1 w1 rfl (by omega) hr01 (by omega) (by omega)).mono ?_
  rintro e w2 hp
  obtain ⟨rfl, hb2, _⟩ := allErr hp ev2
  have hr12 := (hr1.step hb2).alloc (Nat.le_refl _) (.cells #[.int .u8 3, .int .u8 0] 5)
  have hbb2 := bl_alloc (hbb1.trans (hb2.mono hbb1.size)) (Nat.le_refl _) (.cells #[.int .u8 3, .int .u8 0] 5)
  have hr2 : RB (w2.alloc (.cells #[.int .u8 3, .int .u8 0] 5)) (w2.alloc (.cells #[.int .u8 3, .int .u8 0] 5)).heap.size (some ⟨w2.heap.size, 0, none⟩) [3, 0] := (RL.news w2 [3, 0] #[.int .u8 3, .int .u8 0] rfl _ _).top
  clear hp hr01 hr1 hbb1 hb2
  go_wp2_with fail
  refine (iall_any (some ⟨w2.heap.size, 0, none⟩) 2 2 [3, 0] 0 _ rfl (by omega) hr2 (by omega) (by omega)).mono ?_
  rintro e w3 hp
  obtain ⟨A3, k3, c3, rfl, hk3, hr3, _, hb3, _, _⟩ := allOk hp ev3
  obtain rfl : k3 = 0 := hk3.out
  have hr13 := (((hr12.top).step hb3)).alloc (Nat.le_refl _) (.cells #[.int .u8 75, .int .u8 4, .int .u8 0] 5)
  have hbb3 := bl_alloc (hbb2.trans (hb3.mono hbb2.size)) (Nat.le_refl _) (.cells #[.int .u8 75, .int .u8 4, .int .u8 0] 5)
  have hr4 : RB (w3.alloc (.cells #[.int .u8 75, .int .u8 4, .int .u8 0] 5)) (w3.alloc (.cells #[.int .u8 75, .int .u8 4, .int .u8 0] 5)).heap.size (some ⟨w3.heap.size, 0, none⟩) [75, 4, 0] := (RL.news w3 [75, 4, 0] #[.int .u8 75, .int .u8 4, .int .u8 0] rfl _ _).top
  clear hp hr12 hr2 hbb2 hb3 hr3 hk3
  go_wp2_with fail
  refine (iall_any (some ⟨w3.heap.size, 0, none⟩) 3 3 [75, 4, 0] 9 _ rfl (by omega) hr4 (by omega) (by omega)).mono ?_
  rintro e w4 hp
  obtain ⟨A4, k4, c4, rfl, hk4, hr5, _, hb4, _, _⟩ := allOk hp ev4
  obtain rfl : k4 = 1 := hk4.out
  have hr14 := (((hr13.top).step hb4)).alloc (Nat.le_refl _) (.cells #[.int .u8 7] 5)
  have hr54 := hr5.alloc (Nat.le_refl _) (.cells #[.int .u8 7] 5)
  have hbb4 := bl_alloc (hbb3.trans (hb4.mono hbb3.size)) (Nat.le_refl _) (.cells #[.int .u8 7] 5)
  have hr6 : RB (w4.alloc (.cells #[.int .u8 7] 5)) (w4.alloc (.cells #[.int .u8 7] 5)).heap.size (some ⟨w4.heap.size, 0, none⟩) [7] := (RL.news w4 [7] #[.int .u8 7] rfl _ _).top
  clear hp hr13 hr4 hbb3 hb4 hr5 hk4
  go_wp2_with fail
  refine (iall_any (some ⟨w4.heap.size, 0, none⟩) 1 1 [7] 9 _ rfl (by omega) hr6 (by omega) (by omega)).mono ?_
  rintro e w5 hp
  obtain ⟨rfl, hb5, _⟩ := allErr hp ev5
  have hr15 := (hr14.top).step hb5
  have hr55 := (hr54.top).step hb5
  have hbb5 := hbb4.trans (hb5.mono hbb4.size)
  have hcs1 := run_conv_str (P := Try.prog) (c := c1) (n := 2) Try.underlying22 Try.underlying5 Try.underlying9 rfl hr15
  have hcs2 := run_conv_str (P := Try.prog) (c := c4) (n := 1) Try.underlying22 Try.underlying5 Try.underlying9 rfl hr55
  have HB := bx hbb5
  clear hp hr14 hr6 hbb4 hb5 hr54 hr15 hr55 hbb5
  go_wp2
  go_ret
  exact ⟨rfl, HB.out⟩
end Go.Proofs.Ytbhljigppljjbaa
