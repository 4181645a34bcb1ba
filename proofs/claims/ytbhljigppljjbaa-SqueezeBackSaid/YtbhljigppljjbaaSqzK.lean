/- Contracts: samovarref07.Most, Row; samovarlaw07.fixed. -/
import Derived.Test.YtbhljigppljjbaaSqzH
import Derived.Test.YtbhljigppljjbaaSqzR
import Derived.Test.YtbhljigppljjbaaInfW
import Derived.Test.YtbhljigppljjbaaSame
namespace Go.Proofs.Ytbhljigppljjbaa
open Go.RowKit

theorem allSOk {b : List UInt8} {w w' : World} {e : Ending} (h : AllSPost b w e w') (hb : b.length ≤ 32768) : ∃ A k c, e = .returned (.tuple #[.slice A k c, .int .i64 0]) ∧ Bx (k = (sqzP b).length) ∧ RB w' w'.heap.size A (sqzP b) ∧ k ≤ c ∧ Below w.heap.size w w' ∧ 1 ≤ k ∧ k ≤ 50000 ∧ k ≤ (9 * b.length + 17) / 8 := by
  obtain ⟨h1, h2⟩ := h
  rw [if_pos hb] at h2
  obtain ⟨v, rfl, hO⟩ := h2
  obtain ⟨A, c, rfl, hr, hc, _⟩ := OwL.rd hO
  have := sqz_len hb
  exact ⟨A, _, c, rfl, ⟨rfl⟩, hr, hc, h1, by omega, by omega, by omega⟩
theorem most_any (n : Nat) (w : World) (hn : n ≤ 100000) : Calls Try.prog 17 #[.int .i64 (n : Int)] w fun e w' => e = .returned (.int .i64 (((9 * n + 17) / 8 : Nat) : Int)) ∧ w = w' := by
  go_enter Try.func17, Try.ntmps17
  go_wp2
  go_ret
  exact ⟨ret_v (by congr 1), rfl⟩
theorem row_any (n : Nat) (w : World) (hn : n ≤ 100000) : Calls Try.prog 18 #[.int .i64 (n : Int)] w fun e w' => e = .returned (.int .i64 ((8 + n / 64 : Nat) : Int)) ∧ w = w' := by
  go_enter Try.func18, Try.ntmps18
  go_wp2
  go_ret
  exact ⟨ret_v (by congr 1), rfl⟩
set_option maxRecDepth 100000 in
set_option maxHeartbeats 1000000 in
theorem sfixed_any (w : World) : Calls Try.prog 15 #[] w fun e w' => e = .returned (.bool true) ∧ Below w.heap.size w w' := by
  obtain ⟨cs, hcs, hcz, hr1⟩ := mk_row (P := Try.prog) 22 5 (.int .u8 0) 1 Try.underlying22 (by kernel_rfl) rfl 258 (by omega) (by omega)
  have hm1 : ∀ w : World, (Instr.makeSlice 22 (.int .i64 258) (.int .i64 258)).run Try.prog w = .ok (.slice (some ⟨w.heap.size, 0, none⟩) 258 258) (w.alloc (.cells cs 5)) := hr1
  have hz : ∀ w : World, RB (w.alloc (.cells cs 5)) (w.alloc (.cells cs 5)).heap.size (some ⟨w.heap.size, 0, none⟩) (List.replicate 258 0) := fun w => by
    refine (RL.news w (List.replicate 258 0) cs ?_ _ _).top
    apply List.ext_getElem?
    intro i
    rw [List.map_replicate, List.getElem?_replicate]
    split
    · rename_i h; rw [Array.getElem?_toList, hcz i h]; rfl
    · rename_i h; rw [List.getElem?_eq_none]; rw [Array.length_toList]; omega
  have hm2 := hm1 w
  go_enter Try.func15, Try.ntmps15
  clear hr1 hm2
  go_wp2_with fail
  refine (sall_any none 0 0 [] w rfl (by omega) (by omega) RL.nil).mono ?_
  rintro e w1 hp1
  obtain ⟨A1, k1, c1, rfl, hk1, _, _, hb1, hk11, _, hk12⟩ := allSOk hp1 (by simp)
  have hk12 : k1 ≤ 2 := hk12
  have hz1 := hz w1
  have hb2 := bl_alloc (hb1) (Nat.le_refl _) (.cells cs 5)
  clear hp1 hb1 hz hcs hcz
  go_wp2_with fail
  clear hm1
  generalize w1.alloc (.cells cs 5) = w2 at hz1 hb2 ⊢
  refine (sall_any _ 258 258 (List.replicate 258 0) w2 (by simp) (by omega) (by omega) hz1).mono ?_
  rintro e w3 hp3
  obtain ⟨A3, k3, c3, rfl, hk3, hr3, hkc3, hb3, hk31, hk32, _⟩ := allSOk hp3 (by simp)
  have hk312 : k3 ≤ 12 := by have := sqz_row (n := 258) (by omega) 0; have := hk3.out; omega
  have hbk := sqz_back (b := List.replicate 258 0) (by simp) (lim := 258) (by simp) (by omega)
  have hB3 := hb2.trans (hb3.mono hb2.size)
  clear hp3 hb3 hb2 hz1
  go_wp2_with fail
  have hk := iall_any A3 k3 c3 (sqzP (List.replicate 258 0)) 258 w3 hk3.out.symm (by omega) hr3 (by omega) (by omega)
  refine hk.mono ?_
  clear hk
  rintro e w4 hp4
  obtain ⟨A4, k4, c4, rfl, hk4, hr4, _, hb4, _, _, _⟩ := allOk hp4 hbk
  obtain rfl : k4 = 258 := by rw [hk4.out]; simp
  have hB4 := hB3.trans (hb4.mono hB3.size)
  obtain ⟨ad, x, hA4, _, hx, hc⟩ := RL.byte hr4 (k := 257) (by simp)
  subst hA4
  obtain rfl : x = 0 := by have := hx.out; rw [List.getElem?_replicate] at this; simpa using this.symm
  have hc2 : w4.cell? ⟨ad.block, ad.off + 257, none⟩ = some (.int .u8 0) := by rw [← add_pos]; exact hc
  rw [← hk3.out]
  have hkb : ((k3 : Int) == (k3 : Int)) = true := beq_self_eq_true _
  have HB := bx hB4
  clear hp4 hb4 hr4 hB4 hbk hr3 hB3 hk3 hk1
  go_wp2
  go_ret
  exact ⟨rfl, HB.out⟩
end Go.Proofs.Ytbhljigppljjbaa
