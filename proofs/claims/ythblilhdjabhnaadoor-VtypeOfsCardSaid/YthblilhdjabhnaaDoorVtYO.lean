/- The walk of VtypeOfs. -/
import Derived.Test.YthblilhdjabhnaaDoorVtX
import Derived.Deep.RegionHeld3
namespace Go.Proofs.YthblilhdjabhnaaDoor
open Go.RowKit

set_option maxRecDepth 100000 in
set_option maxHeartbeats 4000000 in
theorem vtypeOfs_walk (m : Int) (w : World) (hm : w.cell? ⟨0, 0, none⟩ = some (.int .i64 m)) (s : ByteArray) (_b : s.size ≤ 140737488351232) (A1 : Int) (s1 : ByteArray) (B1 : Int) (_b1 : s1.size ≤ 140737488351232) :
    Calls Tryd.prog 3 #[.string s, .agg #[.int .i64 A1, .string s1, .int .i64 B1]] w fun e w' => e = .returned (.bool true) ∧ Below w.heap.size w w' := by
  go_enter Tryd.func3, Tryd.ntmps3
  go_wp2_with fail
  refine (fixed17_any m _ (cell_old (bl_alloc (Below.refl _ _) (Nat.le_refl _) _) hm)).mono ?_
  rintro e w1 ⟨rfl, hb⟩
  have b1 : Bk w1 w.heap.size 23 #[.int .i64 A1, .string s1, .int .i64 B1] := (Bk.new w _ _).below hb (by simp)
  have hb1 : Below w.heap.size w w1 := (bl_alloc (Below.refl _ _) (Nat.le_refl _) _).trans (hb.mono (by simp))
  have hc0 := b1.cell 0
  have hc1 := b1.cell 1
  have hc2 := b1.cell 2
  simp only [List.getElem?_toArray, List.getElem?_cons_zero, List.getElem?_cons_succ] at hc0 hc1 hc2
  have hl1 := b1.lt
  have hm1 := cell_old hb1 hm
  clear hb hm b1
  obtain ⟨g, hg⟩ : ∃ g, w.heap.size = g := ⟨_, rfl⟩
  rw [hg] at hc0 hc1 hc2 hl1 ⊢
  have HG := Lib.hid hg
  clear hg
  by_cases hz : s.size ≤ 20000
  · go_wp2_with fail
    have hR : ∃ R, ofV s.data.toList = R := ⟨_, rfl⟩
    obtain ⟨⟨rk, rs, ra⟩, hR⟩ := hR
    have HR := Lib.hid hR
    obtain ⟨z, hzz⟩ : ∃ z : Int, (if A1 = 4 then 2 else 1) = z := ⟨_, rfl⟩
    have HZ := Lib.hid hzz
    clear hzz
    clear hR
    go_region_held3 (fun w' => w'.cell? ⟨g, 0, none⟩ = some (.int .i64 A1) ∧ w'.cell? ⟨g, 1, none⟩ = some (.string s1) ∧ w'.cell? ⟨g, 2, none⟩ = some (.int .i64 B1))
      (first
        | go_keep
        | exact ⟨cell_old hb5 (cell_old hb4 (cell_old hb3 (cell_old hb2 hc0))), cell_old hb5 (cell_old hb4 (cell_old hb3 (cell_old hb2 hc1))), cell_old hb5 (cell_old hb4 (cell_old hb3 (cell_old hb2 hc2)))⟩
        | exact ⟨cell_old hb4 (cell_old hb3 (cell_old hb2 hc0)), cell_old hb4 (cell_old hb3 (cell_old hb2 hc1)), cell_old hb4 (cell_old hb3 (cell_old hb2 hc2))⟩
        | exact ⟨cell_old hb3 (cell_old hb2 hc0), cell_old hb3 (cell_old hb2 hc1), cell_old hb3 (cell_old hb2 hc2)⟩
        | exact ⟨cell_old hb2 hc0, cell_old hb2 hc1, cell_old hb2 hc2⟩)
      ((first
        | (go_at_call 9; refine (of_any s m _ (by omega) (by exact hm1)).mono ?_; rintro e w2 ⟨rfl, hb2⟩; rw [HR.out]; dsimp only [vtV])
        | (go_at_call 10; refine (refOf_any s _ (by omega)).mono ?_; rintro e w3 ⟨rfl, hb3⟩; rw [HR.out]; dsimp only [vtV])
        | (go_at_call 11; refine (vtSlots_any A1 s1 B1 _).mono ?_; rintro e w4 ⟨rfl, hb4⟩; rw [HZ.out])
        | (go_at_call 12; refine (refVtSlots_any A1 s1 B1 _).mono ?_; rintro e w5 ⟨rfl, hb5⟩; rw [HZ.out])))
    go_wp2
    go_ret
    exact ⟨ret_bool (by simp), HG.out ▸ (hb1.drew.trans ((hb2.trans ((hb3.trans ((hb4.trans (hb5.mono hb4.size)).mono hb3.size)).mono hb2.size)).mono hb1.size))⟩
  · have hz' : 20000 < s.size := by omega
    go_wp2
    go_ret
    exact ⟨rfl, HG.out ▸ hb1⟩
end Go.Proofs.YthblilhdjabhnaaDoor
