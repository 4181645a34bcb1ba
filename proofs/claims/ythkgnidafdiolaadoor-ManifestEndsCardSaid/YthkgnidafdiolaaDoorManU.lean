/- samovarlaw12.fixed: it answers true. -/
import Derived.Test.YthkgnidafdiolaaDoorManT
import Derived.Test.YthkgnidafdiolaaDoorManO
import Derived.Lib.SlBytesConst
namespace Go.Proofs.YthkgnidafdiolaaDoor
open Go.RowKit

def fx1 : List UInt8 := [77, 97, 110, 105, 102, 101, 115, 116, 45, 86, 101, 114, 115, 105, 111, 110, 58, 32, 49, 46, 48, 10, 77, 97, 105, 110, 45, 67, 108, 97, 115, 115, 58, 32, 97, 46, 66, 10]
def fx2 : List UInt8 := [77, 97, 110, 105, 102, 101, 115, 116, 45, 86, 101, 114, 115, 105, 111, 110, 58, 32, 49, 46, 48, 10, 32, 120]
def fx3 : List UInt8 := [77, 97, 110, 105, 102, 101, 115, 116, 45, 86, 101, 114, 115, 105, 111, 110, 58, 49]
def fxMV : List UInt8 := [77, 97, 110, 105, 102, 101, 115, 116, 45, 86, 101, 114, 115, 105, 111, 110]
def fxW : List UInt8 := [77, 97, 110, 105, 102, 101, 115, 116, 45, 86, 101, 114, 115, 105, 111, 110, 58, 32, 49, 13, 10, 13, 10]
theorem fix1 : mainM fx1 = ([97, 47, 66], 0) := by decide +kernel
theorem fix2 : readM fx2 = (0, [(fxMV, [49, 46, 48, 120])]) := by decide +kernel
theorem fix3 : readM [] = (22, []) := by decide +kernel
theorem fix4 : readM fx3 = (22, []) := by decide +kernel
theorem fix5 : writeM [(fxMV, [49])] = (0, fxW) := by decide +kernel
theorem cell_old {W w1 : World} {p : Addr} {v : Value} (hb : Below W.heap.size W w1) (h : W.cell? p = some v) : w1.cell? p = some v := (hb.cell (World.block_lt_of_cell? _ _ h)).trans h
set_option maxRecDepth 100000 in
set_option maxHeartbeats 4000000 in
theorem fixed12_any (m : Int) (w : World) (hm : w.cell? ⟨0, 0, none⟩ = some (.int .i64 m)) :
    Calls Tryd.prog 7 #[] w fun e w' => e = .returned (.bool true) ∧ Below w.heap.size w w' := by
  have kc := fun (w : World) (C : Array Value) (n c : Nat) => Lib.run_convert_bytes_const (P := Tryd.prog) w 22 5 C n c Tryd.underlying22 Tryd.underlying5
  have HM := Lib.hid hm
  clear hm
  go_enter Tryd.func7, Tryd.ntmps7
  go_wp2_with fail
  have hbx := bl_alloc (Below.refl w.heap.size w) (Nat.le_refl _) (.cells #[.int .u8 77, .int .u8 97, .int .u8 110, .int .u8 105, .int .u8 102, .int .u8 101, .int .u8 115, .int .u8 116, .int .u8 45, .int .u8 86, .int .u8 101, .int .u8 114, .int .u8 115, .int .u8 105, .int .u8 111, .int .u8 110, .int .u8 58, .int .u8 32, .int .u8 49, .int .u8 46, .int .u8 48, .int .u8 10, .int .u8 77, .int .u8 97, .int .u8 105, .int .u8 110, .int .u8 45, .int .u8 67, .int .u8 108, .int .u8 97, .int .u8 115, .int .u8 115, .int .u8 58, .int .u8 32, .int .u8 97, .int .u8 46, .int .u8 66, .int .u8 10] 5 (38, 39))
  refine (main_any _ _ _ fx1 m _ rfl (by decide) (RL.top (RL.news w fx1 _ rfl 5 (38, 39))) (cell_old hbx HM.out)).mono ?_
  rw [fix1]
  rintro e w1 ⟨rfl, hb1⟩
  have hw1 := hbx.trans (hb1.mono hbx.size)
  clear hbx hb1
  go_wp2_with fail
  have hbx := bl_alloc (Below.refl w1.heap.size w1) (Nat.le_refl _) (.cells #[.int .u8 77, .int .u8 97, .int .u8 110, .int .u8 105, .int .u8 102, .int .u8 101, .int .u8 115, .int .u8 116, .int .u8 45, .int .u8 86, .int .u8 101, .int .u8 114, .int .u8 115, .int .u8 105, .int .u8 111, .int .u8 110, .int .u8 58, .int .u8 32, .int .u8 49, .int .u8 46, .int .u8 48, .int .u8 10, .int .u8 32, .int .u8 120] 5 (24, 25))
  refine (read_any _ _ _ fx2 m _ rfl (by decide) (RL.top (RL.news w1 fx2 _ rfl 5 (24, 25))) (cell_old (hw1.trans (hbx.mono hw1.size)) HM.out)).mono ?_
  rw [fix2]
  rintro e w2 ⟨A2, c2, rfl, hr2, hb2⟩
  have hw2 := hw1.trans ((hbx.trans (hb2.mono hbx.size)).mono hw1.size)
  obtain ⟨ad2, x2, rfl, _, hx2, _, hc2⟩ := hr2.at_ pairK (k := 0) (by decide)
  obtain rfl : (fxMV, [49, 46, 48, 120]) = x2 := by have := hx2.out; injection this
  have hd2 := hc2 0 _ rfl
  rw [Nat.zero_mul, Nat.zero_add, show ad2.add 0 = ad2 by simp [Addr.add]] at hd2
  clear hbx hb2 hr2 hx2 hc2
  go_wp2_with fail
  refine (read_any none 0 0 [] m _ rfl (by decide) RL.nil (cell_old hw2 HM.out)).mono ?_
  rw [fix3]
  rintro e w3 ⟨A3, c3, rfl, _, hb3⟩
  have hw3 := hw2.trans (hb3.mono hw2.size)
  have hd3 := cell_old hb3 hd2
  clear hb3 hd2
  go_wp2_with fail
  have hbx := bl_alloc (Below.refl w3.heap.size w3) (Nat.le_refl _) (.cells #[.int .u8 77, .int .u8 97, .int .u8 110, .int .u8 105, .int .u8 102, .int .u8 101, .int .u8 115, .int .u8 116, .int .u8 45, .int .u8 86, .int .u8 101, .int .u8 114, .int .u8 115, .int .u8 105, .int .u8 111, .int .u8 110, .int .u8 58, .int .u8 49] 5 (18, 19))
  refine (read_any _ _ _ fx3 m _ rfl (by decide) (RL.top (RL.news w3 fx3 _ rfl 5 (18, 19))) (cell_old (hw3.trans (hbx.mono hw3.size)) HM.out)).mono ?_
  rw [fix4]
  rintro e w4 ⟨A4, c4, rfl, _, hb4⟩
  have hb34 := hbx.trans (hb4.mono hbx.size)
  have hw4 := hw3.trans (hb34.mono hw3.size)
  have hd4 := cell_old hb34 hd3
  clear hbx hb4 hd3 hb34
  go_wp2_with fail
  have hbx := bl_alloc (Below.refl w4.heap.size w4) (Nat.le_refl _) (.cells #[.string ⟨fxMV.toArray⟩, .string ⟨#[49]⟩] 44)
  refine (write_any _ _ _ [(fxMV, [49])] _ rfl ⟨by decide, by decide⟩ (RS.top (RS.new w4 (fxMV, [49]) _ rfl 44 (0, 0)))).mono ?_
  rw [fix5]
  rintro e w5 ⟨A5, c5, rfl, hr5, hb5, _⟩
  have hb45 := hbx.trans (hb5.mono hbx.size)
  have hw5 := hw4.trans (hb45.mono hw4.size)
  have hd5 := cell_old hb45 hd4
  have hr6 : RB w5 w5.heap.size A5 [77, 97, 110, 105, 102, 101, 115, 116, 45, 86, 101, 114, 115, 105, 111, 110, 58, 32, 49, 13, 10, 13, 10] := hr5
  have hcs := run_conv_str (P := Tryd.prog) (c := c5) (n := 23) Tryd.underlying22 Tryd.underlying5 Tryd.underlying9 rfl hr6
  unfold sV at hd5
  clear hbx hb45 hd4 hb5
  have hfw : fxW.length = 23 := rfl
  clear hr5 hr6 kc
  go_wp2
  go_ret
  exact ⟨rfl, hw5⟩
end Go.Proofs.YthkgnidafdiolaaDoor
