/- The walks of ArchiveReads and ArchiveNames. -/
import Derived.Test.YtokojichjliieaaDoorArcU
import Derived.Test.YtokojichjliieaaDoorSame
namespace Go.Proofs.YtokojichjliieaaDoor
open Go.RowKit
/-- The answer as a pair: the error, the records. -/
def dirKL : Rz (List (Rec × Nat)) → Int × List (Rec × Nat)
  | .err k => (k, [])
  | .ok l => (0, l)
theorem dirKL_len (b : List UInt8) : (dirKL (dirA b)).2.length ≤ 64 := by
  cases h : dirA b with
  | err k => exact Nat.zero_le _
  | ok l => obtain ⟨_, _, _, D⟩ := dirA_ok h; exact D.len
theorem dirpost_any {R : Rz (List (Rec × Nat))} {w w' : World} {e : Ending} {k : Int} {L : List (Rec × Nat)} (h : DirPost R w e w') (hR : dirKL R = (k, L)) : ∃ A c, e = .returned (.tuple #[.slice A L.length c, .int .i64 k]) ∧ RS recL w' w'.heap.size A L ∧ L.length ≤ c ∧ Below w.heap.size w w' := by
  cases R with
  | err j =>
    injection hR with h1 h2
    subst h1; subst h2
    exact ⟨none, 0, h.2, RS.nil, Nat.le_refl _, h.1⟩
  | ok l =>
    injection hR with h1 h2
    subst h1; subst h2
    obtain ⟨v, rfl, ho⟩ := h.2
    obtain ⟨A, c, rfl, hr, hc⟩ := ho.rd
    exact ⟨A, c, rfl, hr, hc, h.1⟩
set_option maxRecDepth 100000 in
set_option maxHeartbeats 4000000 in
theorem archiveNames_walk (mx : Int) (w : World) (hm : w.cell? ⟨0, 0, none⟩ = some (.int .i64 mx)) (s0 : ByteArray) (b0 : s0.size ≤ 140737488351232) :
    Calls Tryd.prog 4 #[.string s0] w fun e w' => e = .returned (.bool true) ∧ Below w.heap.size w w' := by
  have HM := bx hm
  clear hm
  go_enter Tryd.func4, Tryd.ntmps4
  go_wp2_with fail
  refine (fixed09_any mx w HM.out).mono ?_
  rintro e w1 ⟨rfl, hb1⟩
  have HB1 := bx hb1
  clear hb1
  go_wp2_with fail
  refine (name_any s0 mx w1 b0 (cell_old HB1.out HM.out)).mono ?_
  rintro e w2 ⟨rfl, hb2⟩
  have HB2 := bx (HB1.out.trans (hb2.mono HB1.out.size))
  clear hb2
  go_wp2_with fail
  refine (rname_any s0 w2 b0).mono ?_
  rintro e w3 ⟨rfl, hb3⟩
  have HB3 := bx (HB2.out.trans (hb3.mono HB2.out.size))
  clear hb3
  generalize nameA s0.data.toList = nb
  go_wp2
  go_ret
  exact ⟨ret_bool (by simp), HB3.out⟩
set_option maxRecDepth 100000 in
set_option maxHeartbeats 8000000 in
theorem archiveReads_walk (mx : Int) (w : World) (hm : w.cell? ⟨0, 0, none⟩ = some (.int .i64 mx)) (A0 : Option Addr) (n0 c0 : Nat) (l0 : List UInt8) (e0 : l0.length = n0) (hc0 : n0 ≤ c0) (hm0 : (c0 : Int) ≤ 9223372036854775807) (r0 : RB w w.heap.size A0 l0) (b0 : n0 ≤ 140737488351232) :
    Calls Tryd.prog 3 #[.slice A0 n0 c0] w fun e w' => e = .returned (.bool true) ∧ Below w.heap.size w w' := by
  have HM := bx hm
  have HE := bx e0
  have HR0 := bx r0
  obtain ⟨k, L, hKL⟩ : ∃ k L, dirKL (dirA l0) = (k, L) := ⟨_, _, rfl⟩
  have hL := dirKL_len l0
  rw [hKL] at hL
  have HL : Bx (L.length ≤ 64) := bx hL
  have HKL := bx hKL
  obtain ⟨nL, hnL⟩ : ∃ nL, L.length = nL := ⟨_, rfl⟩
  have HNL := bx hnL
  clear hm e0 r0 hL hKL hnL
  go_enter Tryd.func3, Tryd.ntmps3
  go_wp2_with fail
  refine (fixed09_any mx w HM.out).mono ?_
  rintro e w1 ⟨rfl, hb1⟩
  have HB1 := bx hb1
  have HR1 := bx ((HR0.out.below hb1 (Nat.le_refl _)).top)
  clear hb1
  by_cases hz : 70000 < n0
  · have hzI : (70000 : Int) < (n0 : Int) := by omega
    go_wp2
    go_ret
    exact ⟨rfl, HB1.out⟩
  have hzI : ¬ (70000 : Int) < (n0 : Int) := by omega
  have HN : Bx ((([] : List UInt8).length + l0.length) * 1 ≤ 140737488355328) := bx (by have := HE.out; simp; omega)
  go_wp2_with (at_builtin; refine wpList_appL _ bV_one rfl (.tmp 13) (.tmp 14) rfl byteTy (by decide) w1.heap.size _ [] rfl (OwL.lit0 w1 (Nat.le_refl _)) _ A0 n0 c0 l0 rfl HE.out (HR1.out.alloc (Nat.le_refl _) _) HN.out (le_alloc0 (Nat.le_refl _) _) ?_; intro v2 w2 own2 _ _ hb2)
  rw [List.nil_append] at own2
  have HB2 := bx ((bl_alloc (Below.refl w1.heap.size w1) (Nat.le_refl _) (.cells #[] 5)).trans hb2)
  obtain ⟨A2, c2, rfl, hr2, hc2, hc2'⟩ := own2.rd
  rw [HE.out]
  rw [HE.out] at hc2
  have HR2 := bx hr2
  have HW2 := bx (HB1.out.trans (HB2.out.mono HB1.out.size))
  clear hb2 own2 hr2
  refine (dir_any A2 n0 c2 l0 w2 mx HE.out b0 hc2 hc2' HR2.out (cell_old HW2.out HM.out)).mono ?_
  intro e3 w3 hp
  obtain ⟨A3, c3, rfl, hr3, hc3, hb3⟩ := dirpost_any hp HKL.out
  have HR3 := bx hr3
  have HB3 := bx hb3
  have HW3 := bx (HW2.out.trans (hb3.mono HW2.out.size))
  have HO3 := bx (HR2.out.step hb3)
  have HI3 := bx ((HR0.out.below HW3.out (Nat.le_refl _)).more HW3.out.size)
  clear hp hr3 hb3
  rw [HNL.out]
  go_wp2_with fail
  refine (rdir_any A0 n0 c0 l0 w3 HE.out b0 hc0 hm0 HI3.out).mono ?_
  intro e4 w4 hp
  obtain ⟨A4, c4, rfl, hr4, hc4, hb4⟩ := dirpost_any hp HKL.out
  have HR4 := bx hr4
  have HR34 := bx (HR3.out.step hb4)
  have HO4 := bx (HO3.out.step hb4)
  have HW4 := bx (HW3.out.trans (hb4.mono HW3.out.size))
  clear hp hr4 hb4 HR3 HO3 HR2
  rw [HNL.out]
  have hkk : (k == k) = true := by simp
  go_wp2_with fail
  refine (sameRecs_any A3 A4 nL c3 nL c4 L L w4 HNL.out HNL.out (by have := HL.out; have := HNL.out; omega) (by have := HL.out; have := HNL.out; omega) HR34.out HR4.out).mono ?_
  rintro e w5 ⟨rfl, hb5⟩
  rw [show decide (L = L) = true from decide_eq_true rfl]
  have HO5 := bx (HO4.out.step hb5)
  have HW5 := bx (HW4.out.trans (hb5.mono HW4.out.size))
  have HI5 := bx ((HR0.out.below HW5.out (Nat.le_refl _)).more HW5.out.size)
  clear hb5
  go_wp2_with fail
  refine (same_any A2 A0 n0 c2 n0 c0 w5 l0 l0 HE.out HE.out (by omega) (by omega) HO5.out HI5.out).mono ?_
  rintro e w6 ⟨rfl, hb6⟩
  rw [show decide (l0 = l0) = true from decide_eq_true rfl]
  have HW6 := bx (HW5.out.trans (hb6.mono HW5.out.size))
  clear hb6
  go_wp2
  go_ret
  exact ⟨rfl, HW6.out⟩
end Go.Proofs.YtokojichjliieaaDoor
