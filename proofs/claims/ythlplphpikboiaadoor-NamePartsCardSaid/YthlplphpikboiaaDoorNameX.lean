/- samovarlaw13.fixed: it answers true. -/
import Derived.Test.YthlplphpikboiaaDoorNameL
import Derived.Test.YthlplphpikboiaaDoorNameH
namespace Go.Proofs.YthlplphpikboiaaDoor
open Go.RowKit

theorem cell_at2 {w : World} {ad : Addr} {k : Nat} {v : Value} (h : w.cell? (ad.add (k + 1)) = some v) : w.cell? ⟨ad.block, ad.off + (k + 1), none⟩ = some v := by rw [add_pos] at h; exact h
theorem meth1 : methV [40, 73, 91, 74, 76, 97, 59, 41, 86] = ([[73], [91, 74], [76, 97, 59]], [86], 0) := by decide +kernel
theorem meth2 : methV [40, 86, 41, 73] = ([], [], 24) := by decide +kernel
theorem unit1 : unitsV [97, 192, 128] = ([97, 0], 0) := by decide +kernel
theorem unit2 : unitsV [0] = ([], 23) := by decide +kernel
theorem class1 : classGo [106, 97, 118, 97, 47, 108, 97, 110, 103, 47, 79, 98, 106, 101, 99, 116] 0 = true := by decide +kernel
theorem class2 : classGo [97, 47] 0 = false := by decide +kernel
theorem class3 : classGo [97, 46, 98] 0 = false := by decide +kernel
theorem memb1 : memB [60, 105, 110, 105, 116, 62] true = true := by decide +kernel
theorem memb2 : memB [60, 105, 110, 105, 116, 62] false = false := by decide +kernel
theorem desc1 : descB [91, 73] = true := by decide +kernel

set_option maxRecDepth 100000 in
set_option maxHeartbeats 4000000 in
theorem fixed13_any (m : Int) (w : World) (hm : w.cell? ⟨0, 0, none⟩ = some (.int .i64 m)) :
    Calls Tryd.prog 8 #[] w fun e w' => e = .returned (.bool true) ∧ Below w.heap.size w w' := by
  go_enter Tryd.func8, Tryd.ntmps8
  go_wp2_with fail
  refine (method_post _ m _ (by decide) hm).mono ?_
  rintro e w1 ⟨A1, n1, c1, rfl, hn1, hr1, hb1⟩
  rw [meth1] at hn1 hr1
  rw [show methV (⟨#[40, 73, 91, 74, 76, 97, 59, 41, 86]⟩ : ByteArray).data.toList = ([[73], [91, 74], [76, 97, 59]], [86], 0) from meth1]
  obtain rfl : 3 = n1 := hn1
  obtain ⟨ad1, x1, rfl, hl1, hx1, hc1⟩ := hr1.atl (k := 2) (by decide)
  obtain rfl : [76, 97, 59] = x1 := by have := hx1.out; injection this
  have hm1 := cell_old hb1 hm
  clear hx1
  go_wp2_with fail
  refine (method_post _ m _ (by decide) hm1).mono ?_
  rintro e w2 ⟨A2, n2, c2, rfl, hn2, _, hb2⟩
  rw [show methV (⟨#[40, 86, 41, 73]⟩ : ByteArray).data.toList = ([], [], 24) from meth2] at hn2 ⊢
  obtain rfl : 0 = n2 := hn2
  go_wp2_with fail
  refine (units_post _ _ (by decide)).mono ?_
  rintro e w3 ⟨A3, n3, c3, rfl, hn3, hr3, hb3⟩
  rw [show unitsV (⟨#[97, 192, 128]⟩ : ByteArray).data.toList = ([97, 0], 0) from unit1] at hn3 hr3 ⊢
  obtain rfl : 2 = n3 := hn3
  obtain ⟨ad3, x3, rfl, hl3, hx3, hc3⟩ := hr3.atl (k := 1) (by decide)
  obtain rfl : 0 = x3 := by have := hx3.out; injection this
  clear hx3
  go_wp2_with fail
  refine (units_post _ _ (by decide)).mono ?_
  rintro e w4 ⟨A4, n4, c4, rfl, hn4, _, hb4⟩
  rw [show unitsV (⟨#[0]⟩ : ByteArray).data.toList = ([], 23) from unit2] at hn4 ⊢
  obtain rfl : 0 = n4 := hn4
  have hb13 : Below w1.heap.size w1 w3 := hb2.trans (hb3.mono hb2.size)
  have hb14 := hb13.trans (hb4.mono hb13.size)
  have hc1' := cell_old hb14 hc1
  have hc3' := cell_old hb4 hc3
  have hw4 : Below w.heap.size w w4 := hb1.trans (hb14.mono hb1.size)
  have hm4 := cell_old hw4 hm
  clear hc1 hc3 hr1 hr3 hm1 hb13 hb14 hb1 hb2 hb3 hb4
  go_wp2_with fail
  refine (class_any _ m _ (by decide) hm4).mono ?_
  rintro e w5 ⟨rfl, hb5⟩
  rw [show (decide ((⟨#[106, 97, 118, 97, 47, 108, 97, 110, 103, 47, 79, 98, 106, 101, 99, 116]⟩ : ByteArray).size ≤ 58) && classGo (⟨#[106, 97, 118, 97, 47, 108, 97, 110, 103, 47, 79, 98, 106, 101, 99, 116]⟩ : ByteArray).data.toList 0) = true by rw [show classGo (⟨#[106, 97, 118, 97, 47, 108, 97, 110, 103, 47, 79, 98, 106, 101, 99, 116]⟩ : ByteArray).data.toList 0 = true from class1]; decide]
  have hm5 := cell_old hb5 hm4
  go_wp2_with fail
  refine (class_any _ m _ (by decide) hm5).mono ?_
  rintro e w6 ⟨rfl, hb6⟩
  rw [show (decide ((⟨#[97, 47]⟩ : ByteArray).size ≤ 58) && classGo (⟨#[97, 47]⟩ : ByteArray).data.toList 0) = false by rw [show classGo (⟨#[97, 47]⟩ : ByteArray).data.toList 0 = false from class2]; decide]
  have hm6 := cell_old hb6 hm5
  go_wp2_with fail
  refine (class_any _ m _ (by decide) hm6).mono ?_
  rintro e w7 ⟨rfl, hb7⟩
  rw [show (decide ((⟨#[97, 46, 98]⟩ : ByteArray).size ≤ 58) && classGo (⟨#[97, 46, 98]⟩ : ByteArray).data.toList 0) = false by rw [show classGo (⟨#[97, 46, 98]⟩ : ByteArray).data.toList 0 = false from class3]; decide]
  have hm7 := cell_old hb7 hm6
  have hb47 : Below w4.heap.size w4 w7 := (hb5.trans (hb6.mono hb5.size)).trans (hb7.mono (Nat.le_trans hb5.size hb6.size))
  have hc1 := cell_old hb47 hc1'
  have hc3 := cell_old hb47 hc3'
  have hw7 : Below w.heap.size w w7 := hw4.trans (hb47.mono hw4.size)
  clear hc1' hc3' hm6 hm5 hm4 hb5 hb6 hb7 hb47 hw4
  go_wp2_with fail
  refine (member_any _ _ _ (by decide)).mono ?_
  rintro e w' ⟨rfl, rfl⟩
  rw [show memB (⟨#[60, 105, 110, 105, 116, 62]⟩ : ByteArray).data.toList true = true from memb1]
  go_wp2_with fail
  refine (member_any _ _ _ (by decide)).mono ?_
  rintro e w' ⟨rfl, rfl⟩
  rw [show memB (⟨#[60, 105, 110, 105, 116, 62]⟩ : ByteArray).data.toList false = false from memb2]
  have hc1' := cell_at2 hc1
  have hc3' : w7.cell? ⟨ad3.block, ad3.off + (0 + 1), none⟩ = some (Value.int .u16 0) := cell_at2 hc3
  clear hc1 hc3
  go_wp2_with fail
  refine (desc_any _ m _ (by decide) hm7).mono ?_
  rintro e w8 ⟨rfl, hb8⟩
  rw [show descB (⟨#[91, 73]⟩ : ByteArray).data.toList = true from desc1]
  go_wp2
  go_ret
  exact ⟨rfl, hw7.trans (hb8.mono hw7.size)⟩
end Go.Proofs.YthlplphpikboiaaDoor
