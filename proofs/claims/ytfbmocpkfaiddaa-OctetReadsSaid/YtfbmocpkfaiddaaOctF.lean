/- What the statements of octet begin with: calls whose answers the document fixes. -/
import Derived.Test.YtfbmocpkfaiddaaProg
import Derived.Test.YtfbmocpkfaiddaaOctA
import Derived.Test.YtfbmocpkfaiddaaOctC
import Derived.Test.YtfbmocpkfaiddaaOctE
namespace Go.Proofs.Ytfbmocpkfaiddaa
open Go.RowKit

theorem lit_rd {w : World} {g : Nat} {t : TypeId} {cs : Array Value} (l : List UInt8) (h : Bk w g t cs) (hl : cs.toList = l.map bV) : RB w w.heap.size (some ⟨g, 0, none⟩) l := fun _ =>
  ⟨_, rfl, h.lt, fun i u hu => by
    rw [Addr.add_lit, Nat.zero_add, h.cell i, ← hu, ← hl]; simp⟩

theorem fx1 (W : World) (g : Nat) (h : Bk W g 5 #[.int .u8 1, .int .u8 2, .int .u8 3]) :
    Calls Try.prog 9 #[.slice (some ⟨g, 0, none⟩) 3 3, .int .i64 0, .int .i64 2] W fun e w' => e = .returned (.tuple #[.int .i64 513, .int .i64 0]) ∧ W = w' :=
  (little_ok _ 3 0 2 W [1, 2, 3] 3 rfl (by decide) (by decide) (by decide) (by decide) (lit_rd [1, 2, 3] h rfl)).mono fun _ _ ⟨he, hw⟩ => ⟨he.trans (by kernel_rfl), hw⟩
theorem fx4 (W : World) (g : Nat) (h : Rdr W g [128, 1, 2] 0 false) :
    Calls Try.prog 22 #[.pointer (some ⟨g, 0, none⟩), .int .i64 1] W fun e w' => e = .returned (.int .i64 (-128)) ∧ Rdr w' g [128, 1, 2] 1 false ∧ W.grownBy w' (some g) :=
  (signed_any g [128, 1, 2] 0 false 1 W h).mono fun _ _ ⟨he, hr, hg⟩ => ⟨he.trans (by kernel_rfl), hr, hg⟩
theorem fx5 (W : World) (g : Nat) (h : Rdr W g [128, 1, 2] 1 false) :
    Calls Try.prog 20 #[.pointer (some ⟨g, 0, none⟩), .int .i64 2] W fun e w' => e = .returned (.int .i64 258) ∧ Rdr w' g [128, 1, 2] 3 false ∧ W.grownBy w' (some g) :=
  (num_any g [128, 1, 2] 1 false 2 W h).mono fun _ _ ⟨he, hr, hg⟩ => ⟨he.trans (by kernel_rfl), hr, hg⟩
theorem fx6 (W : World) (g : Nat) (h : Rdr W g [128, 1, 2] 3 false) :
    Calls Try.prog 20 #[.pointer (some ⟨g, 0, none⟩), .int .i64 1] W fun e w' => e = .returned (.int .i64 0) ∧ Rdr w' g [128, 1, 2] 3 true ∧ W.grownBy w' (some g) :=
  (num_any g [128, 1, 2] 3 false 1 W h).mono fun _ _ ⟨he, hr, hg⟩ => ⟨he.trans (by kernel_rfl), hr, hg⟩
theorem Rdr.drewN {w : World} {g : Nat} {l : List UInt8} {at_ : Nat} {bad : Bool} (h : Rdr w g l at_ bad) (n : Nat) : Rdr (w.drewN n) g l at_ bad := h

set_option maxRecDepth 100000 in
set_option maxHeartbeats 1000000 in
theorem fixed_any (w : World) : Calls Try.prog 8 #[] w fun e w' => e = .returned (.bool true) ∧ Below w.heap.size w w' := by
  go_enter Try.func8, Try.ntmps8
  go_wp2_with fail
  refine (fx1 _ _ (Bk.newAt _ _ _ (by simp))).mono ?_
  rintro e w1 ⟨rfl, rfl⟩
  go_wp2_with fail
  refine (little_short _ _ _ _ _ _ (by omega) (by omega) (by omega) (by omega) (by omega)).mono ?_
  rintro e w1 ⟨rfl, rfl⟩
  go_wp2_with fail
  refine (big_arg _ _ _ _ _ _ (by omega)).mono ?_
  rintro e w1 ⟨rfl, rfl⟩
  go_wp2_with fail
  have hb0 : Below w.heap.size w ((((w.alloc (Obj.cells #[.int .u8 1, .int .u8 2, .int .u8 3] 5)).alloc (Obj.cells #[.int .u8 1] 5)).alloc (Obj.cells #[.int .u8 1] 5)).alloc (Obj.cells #[.int .u8 128, .int .u8 1, .int .u8 2] 5)) :=
    bl_alloc (bl_alloc (bl_alloc (bl_alloc (Below.refl _ _) (Nat.le_refl _) _) (Nat.le_refl _) _) (Nat.le_refl _) _) (Nat.le_refl _) _
  refine (new_any _ _ _ _ [128, 1, 2] (by rfl) (by omega) (lit_rd [128, 1, 2] (Bk.newAt _ _ _ (by simp)) rfl)).mono ?_
  rintro e w1 ⟨g, rfl, hg, hr, hb1⟩
  have hb2 := hb0.trans (hb1.mono hb0.size)
  have hgw : w.heap.size ≤ g := Nat.le_trans hb0.size hg
  have hglt : g < w1.heap.size := by obtain ⟨_, _, hB, _⟩ := hr; exact hB.lt
  clear hb0 hb1 hg
  go_wp2_with fail
  refine (fx4 _ _ hr).mono ?_
  rintro e w2 ⟨rfl, hr2, hg2⟩
  have hb3 := hb2.trans (gb_low hg2 hgw hglt)
  clear hr hb2 hg2
  go_wp2_with fail
  refine (fx5 _ _ hr2).mono ?_
  rintro e w3 ⟨rfl, hr3, hg3⟩
  have hglt2 : g < w2.heap.size := by obtain ⟨_, _, hB, _⟩ := hr2; exact hB.lt
  have hb4 := hb3.trans (gb_low hg3 hgw hglt2)
  clear hr2 hb3 hg3 hglt hglt2
  go_wp2_with fail
  refine (left_any _ _ _ _ _ hr3).mono ?_
  rintro e w4 ⟨rfl, m, rfl⟩
  have e0 : (([128, 1, 2] : List UInt8).length : Int) - ((3 : Nat) : Int) = 0 := by decide
  rw [e0]
  clear e0
  go_wp2_with fail
  refine (bad_any _ _ _ _ _ (hr3.drewN m)).mono ?_
  rintro e w4 ⟨rfl, rfl⟩
  go_wp2_with fail
  refine (fx6 _ _ (hr3.drewN m)).mono ?_
  rintro e w4 ⟨rfl, hr4, hg4⟩
  have hglt3 : g < w3.heap.size := by obtain ⟨_, _, hB, _⟩ := hr3; exact hB.lt
  have hb5 := (below_drewN hb4 m).trans (gb_low hg4 hgw hglt3)
  clear hr3 hb4 hg4 hglt3
  go_wp2_with fail
  refine (bad_any _ _ _ _ _ hr4).mono ?_
  rintro e w5 ⟨rfl, rfl⟩
  go_wp2_with fail
  refine (putBig_ok 4 (-1) _ (by decide) (by decide)).mono ?_
  rintro e w5 ⟨r, rfl, hown, hb6⟩
  obtain ⟨A, c, rfl, _, _⟩ := hown.rd
  have e1 : ((leB 4 (-1)).reverse.length : Int) = 4 := by simp [leB_len]
  have hb7 := hb5.trans (hb6.mono hb5.size)
  clear hown hb6 hb5 hr4
  go_wp2
  go_ret
  exact ⟨rfl, hb7⟩
end Go.Proofs.Ytfbmocpkfaiddaa
