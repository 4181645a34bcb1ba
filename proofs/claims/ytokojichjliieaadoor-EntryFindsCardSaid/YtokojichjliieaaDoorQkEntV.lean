/- The walk of EntryFinds. -/
import Derived.Test.YtokojichjliieaaDoorPk11
import Derived.Test.YtokojichjliieaaDoorPk3
namespace Go.Proofs.YtokojichjliieaaDoor
open Go.RowKit
set_option maxRecDepth 100000 in
set_option maxHeartbeats 4000000 in
theorem entryFinds_walk (mx : Int) (w : World) (hm : w.cell? ⟨0, 0, none⟩ = some (.int .i64 mx)) (A0 : Option Addr) (n0 c0 : Nat) (l0 : List UInt8) (e0 : l0.length = n0) (hc0 : n0 ≤ c0) (hm0 : (c0 : Int) ≤ 9223372036854775807) (r0 : RB w w.heap.size A0 l0) (b0 : n0 ≤ 140737488351232) (s1 : ByteArray) (_b1 : s1.size ≤ 140737488351232) :
    Calls Tryd.prog 8 #[.slice A0 n0 c0, .string s1] w fun e w' => e = .returned (.bool true) ∧ Below w.heap.size w w' := by
  have HE := bx e0
  obtain ⟨k, L, hKL⟩ : ∃ k L, unpKL (findP l0 s1.data.toList) = (k, L) := ⟨_, _, rfl⟩
  have HKL := bx hKL
  have HR := bx r0
  have HM := bx hm
  clear e0 hKL r0 hm
  go_enter Tryd.func8, Tryd.ntmps8
  go_wp2_with fail
  refine (fixed10_any mx w HM.out).mono ?_
  rintro e w1 ⟨rfl, hb1⟩
  have HB1 := bx hb1
  have HI1 := bx ((HR.out.below hb1 (Nat.le_refl _)).more hb1.size)
  clear hb1
  by_cases hz : 6000 < n0
  · have hzI : (6000 : Int) < (n0 : Int) := by omega
    go_wp2
    go_ret
    exact ⟨rfl, HB1.out⟩
  have hzI : ¬ (6000 : Int) < (n0 : Int) := by omega
  go_wp2_with fail
  have hk := find_any A0 n0 c0 l0 s1 w1 mx HE.out b0 hc0 hm0 HI1.out (cellB HB1.out HM.out)
  refine hk.mono ?_
  clear hk
  intro e w3 hp
  obtain ⟨A3, n3, c3, rfl, hn3, hr3, _, h33, hb3⟩ := unp_pair hp HKL.out
  have HB3 := bx (HB1.out.trans (hb3.mono HB1.out.size))
  have HR3 := bx hr3
  have HI3 := bx ((HR.out.below HB3.out (Nat.le_refl _)).more HB3.out.size)
  clear hp hr3 hb3
  go_wp2_with fail
  have hk := rfind_any A0 n0 c0 l0 s1 w3 HE.out b0 hc0 hm0 HI3.out
  refine hk.mono ?_
  clear hk
  intro e w4 hp
  obtain ⟨A4, n4, c4, rfl, hn4, hr4, _, h44, hb4⟩ := unp_pair hp HKL.out
  have HB4 := bx (HB3.out.trans (hb4.mono HB3.out.size))
  have HR4 := bx hr4
  have HR34 := bx (HR3.out.step hb4)
  have hkk : (k == k) = true := by simp
  clear hp hr4 hb4
  go_wp2_with fail
  refine (same_any A3 A4 n3 c3 n4 c4 w4 L L hn3.out.symm hn4.out.symm (by omega) (by omega) HR34.out HR4.out).mono ?_
  rintro e w5 ⟨rfl, hb5⟩
  rw [show decide (L = L) = true by simp]
  have HB5 := bx (HB4.out.trans (hb5.mono HB4.out.size))
  clear hb5
  go_wp2
  go_ret
  exact ⟨rfl, HB5.out⟩
end Go.Proofs.YtokojichjliieaaDoor
