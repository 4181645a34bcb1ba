/- samovarlaw17.fixed: it answers true. -/
import Derived.Test.YthblilhdjabhnaaDoorVtG
namespace Go.Proofs.YthblilhdjabhnaaDoor
open Go.RowKit

theorem cell_old {w w' : World} {p : Addr} {u : Value} (hb : Below w.heap.size w w') (h : w.cell? p = some u) : w'.cell? p = some u :=
  (hb.cell (World.block_lt_of_cell? _ _ h)).trans h
theorem Rd.news (w : World) (xs : List Value) (cs : Array Value) (h : cs.toList = xs) (e : TypeId) (fr : Nat × Nat) : Rd (w.alloc (.cells cs e fr)) (w.heap.size + 1) (some ⟨w.heap.size, 0, none⟩) xs := fun _ =>
  ⟨_, rfl, Nat.lt_succ_self _, fun i u hu => by
    have e : (⟨w.heap.size, 0, none⟩ : Addr).add i = ⟨w.heap.size, i, none⟩ := by unfold Addr.add; split <;> simp_all
    rw [e, World.cell?_alloc_mark, ← Array.getElem?_toList, h]; exact hu⟩
theorem und1 : underV [] [65] [66] = (false, [66]) := by decide +kernel
theorem und2 : underV [([66], objL, 0, (none, 0, 0))] [65] [66] = (false, [65]) := by decide +kernel
theorem und3 : underV [] [91, 76, 65, 59] [91, 76, 106, 97, 118, 97, 47, 108, 97, 110, 103, 47, 79, 98, 106, 101, 99, 116, 59] = (true, []) := by decide +kernel
theorem of1 : ofV [91, 73] = (7, [91, 73], 0) := by decide +kernel
theorem of2 : ofV [76, 97, 47, 66, 59] = (7, [97, 47, 66], 0) := by decide +kernel
theorem of3 : ofV [74] = (4, [], 0) := by decide +kernel

theorem fld_name (a c : Int) (b : ByteArray) (w : World) : (Instr.field 23 (.agg #[.int .i64 a, .string b, .int .i64 c]) 1).run Tryd.prog w = .ok (.string b) w := by kernel_rfl
set_option maxRecDepth 100000 in
set_option maxHeartbeats 4000000 in
theorem fixed17_any (m : Int) (w : World) (hm : w.cell? ⟨0, 0, none⟩ = some (.int .i64 m)) :
    Calls Tryd.prog 8 #[] w fun e w' => e = .returned (.bool true) ∧ Below w.heap.size w w' := by
  have hfld := fld_name
  go_enter Tryd.func8, Tryd.ntmps8
  go_wp2_with fail
  refine (under_any none 0 0 [] rfl (by omega) (fun _ h => by cases h) 5 _ _ _ (by decide) Rd.nil (by decide) (by decide)).mono ?_
  rintro e w1 ⟨rfl, hb1⟩
  rw [show underV [] (⟨#[65]⟩ : ByteArray).data.toList (⟨#[66]⟩ : ByteArray).data.toList = (false, [66]) from und1]
  have hbA := bl_alloc hb1 (Nat.le_refl _) (.cells #[.string ⟨#[66]⟩, .string ⟨#[106, 97, 118, 97, 47, 108, 97, 110, 103, 47, 79, 98, 106, 101, 99, 116]⟩, .int .i64 0, .slice none 0 0] 39)
  go_wp2_with fail
  refine (under_any (some ⟨w1.heap.size, 0, none⟩) 1 1 [([66], objL, 0, (none, 0, 0))] rfl (by omega) (fun h hh => by simp at hh; subst hh; decide) 5 _ _ _ (by decide) (Rd.top (Rd.news _ _ _ rfl _ _)) (by decide) (by decide)).mono ?_
  rintro e w2 ⟨rfl, hb2⟩
  rw [show underV [([66], objL, 0, (none, 0, 0))] (⟨#[65]⟩ : ByteArray).data.toList (⟨#[66]⟩ : ByteArray).data.toList = (false, [65]) from und2]
  have hb2' := hbA.trans (hb2.mono hbA.size)
  clear hbA hb1 hb2
  go_wp2_with fail
  refine (under_any none 0 0 [] rfl (by omega) (fun _ h => by cases h) 50 _ _ _ (by decide) Rd.nil (by decide) (by decide)).mono ?_
  rintro e w3 ⟨rfl, hb3⟩
  rw [show underV [] (⟨#[91, 76, 65, 59]⟩ : ByteArray).data.toList (⟨#[91, 76, 106, 97, 118, 97, 47, 108, 97, 110, 103, 47, 79, 98, 106, 101, 99, 116, 59]⟩ : ByteArray).data.toList = (true, []) from und3]
  have hb3' := hb2'.trans (hb3.mono hb2'.size)
  have hm3 := cell_old hb3' hm
  clear hb2' hb3
  go_wp2_with fail
  refine (of_any ⟨#[91, 73]⟩ m _ (by decide) hm3).mono ?_
  rintro e w4 ⟨rfl, hb4⟩
  rw [show ofV (⟨#[91, 73]⟩ : ByteArray).data.toList = (7, [91, 73], 0) from of1]
  dsimp only [vtV]
  have hb4' := hb3'.trans (hb4.mono hb3'.size)
  have hm4 := cell_old hb4' hm
  clear hb3' hb4 hm3
  go_wp2_with fail
  refine (of_any ⟨#[76, 97, 47, 66, 59]⟩ m _ (by decide) hm4).mono ?_
  rintro e w5 ⟨rfl, hb5⟩
  rw [show ofV (⟨#[76, 97, 47, 66, 59]⟩ : ByteArray).data.toList = (7, [97, 47, 66], 0) from of2]
  dsimp only [vtV]
  have hb5' := hb4'.trans (hb5.mono hb4'.size)
  have hm5 := cell_old hb5' hm
  clear hb4' hb5 hm4
  go_wp2_with fail
  refine (of_any ⟨#[74]⟩ m _ (by decide) hm5).mono ?_
  rintro e w6 ⟨rfl, hb6⟩
  rw [show ofV (⟨#[74]⟩ : ByteArray).data.toList = (4, [], 0) from of3]
  dsimp only [vtV]
  have hb6' := hb5'.trans (hb6.mono hb5'.size)
  clear hb5' hb6 hm5
  go_wp2_with fail
  refine (vtSlots_any _ _ _ _).mono ?_
  rintro e w7 ⟨rfl, hb7⟩
  have hb7' := hb6'.trans (hb7.mono hb6'.size)
  go_wp2
  go_ret
  exact ⟨rfl, hb7'⟩
end Go.Proofs.YthblilhdjabhnaaDoor
