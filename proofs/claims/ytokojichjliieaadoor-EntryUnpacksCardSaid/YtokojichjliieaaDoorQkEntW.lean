/- The walks of EntryUnpacks and EntryFinds. -/
import Derived.Test.YtokojichjliieaaDoorPk11
import Derived.Test.YtokojichjliieaaDoorPk3
namespace Go.Proofs.YtokojichjliieaaDoor
open Go.RowKit
theorem decS (l : List UInt8) : decide (l = l) = true := by simp
set_option maxRecDepth 100000 in
set_option maxHeartbeats 4000000 in
theorem entryUnpacks_walk (mx : Int) (w : World) (hm : w.cell? ⟨0, 0, none⟩ = some (.int .i64 mx)) (s : ByteArray) (me pk si su at_ hd : Int) (hm1 : -9223372036854775808 ≤ me) (hm2 : me ≤ 9223372036854775807) (_hs1 : -9223372036854775808 ≤ si) (_hs2 : si ≤ 9223372036854775807)
    (A1 : Option Addr) (n1 c1 : Nat) (l1 : List UInt8) (e1 : l1.length = n1) (_hc1 : n1 ≤ c1) (_hm1 : (c1 : Int) ≤ 9223372036854775807) (r1 : RB w w.heap.size A1 l1) (_b1 : n1 ≤ 140737488351232) :
    Calls Tryd.prog 7 #[.agg #[.string s, .int .i64 me, .int .i64 pk, .int .i64 si, .int .i64 su, .int .i64 at_, .int .i64 hd], .slice A1 n1 c1] w fun e w' => e = .returned (.bool true) ∧ Below w.heap.size w w' := by
  have HE := bx e1
  obtain ⟨k, L, hKL⟩ : ∃ k L, unpKL (unpA me pk si su l1) = (k, L) := ⟨_, _, rfl⟩
  have HKL := bx hKL
  have hB0 : Bx (Below w.heap.size w (w.alloc (.cells #[.string s, .int .i64 me, .int .i64 pk, .int .i64 si, .int .i64 su, .int .i64 at_, .int .i64 hd] 33))) := bx (bl_alloc (Below.refl w.heap.size w) (Nat.le_refl _) _)
  obtain ⟨g, hg⟩ : ∃ g, w.heap.size = g := ⟨_, rfl⟩
  have HK0 := bx (Bk.newAt w 33 #[.string s, .int .i64 me, .int .i64 pk, .int .i64 si, .int .i64 su, .int .i64 at_, .int .i64 hd] hg)
  have HR := bx r1
  have HM0 := bx (cellB hB0.out hm)
  have HG := bx hg
  clear e1 hKL r1 hm
  go_enter Tryd.func7, Tryd.ntmps7
  go_upto_region 1 with (fail)
  generalize w.alloc (.cells #[.string s, .int .i64 me, .int .i64 pk, .int .i64 si, .int .i64 su, .int .i64 at_, .int .i64 hd] 33) = w0 at HK0 hB0 HM0 ⊢
  go_wp2_with fail
  refine (fixed10_any mx w0 HM0.out).mono ?_
  rintro e w1 ⟨rfl, hb1⟩
  have HB1 := bx (hB0.out.trans (hb1.mono hB0.out.size))
  have HK1 := bx (HK0.out.below hb1 HK0.out.lt)
  clear hb1
  by_cases hz : 6000 < n1
  · have hzI : (6000 : Int) < (n1 : Int) := by omega
    go_wp2
    go_ret
    exact ⟨rfl, HB1.out⟩
  have hzI : ¬ (6000 : Int) < (n1 : Int) := by omega
  have HN : Bx ((([] : List UInt8).length + l1.length) * 1 ≤ 140737488355328) := bx (by have := HE.out; simp; omega)
  have HI1 := bx ((HR.out.below HB1.out (Nat.le_refl _)).more HB1.out.size)
  go_upto_region 6 with (at_builtin; refine wpList_appL _ bV_one rfl (.tmp 15) (.tmp 16) rfl byteTy (by decide) w1.heap.size _ [] rfl (OwL.lit0 w1 (Nat.le_refl _)) _ A1 n1 c1 l1 rfl HE.out (HI1.out.alloc (Nat.le_refl _) _) HN.out (le_alloc0 (Nat.le_refl _) _) ?_; intro v2 w2 own2 _ _ hb2; rw [List.nil_append] at own2; have HB2' := bx ((bl_alloc (Below.refl w1.heap.size w1) (Nat.le_refl _) (.cells #[] 5)).trans hb2); obtain ⟨A2, c2, rfl, hr2, hc2, hc2'⟩ := own2.rd; rw [HE.out]; rw [HE.out] at hc2; have HR2 := bx hr2; have HB2 := bx (HB1.out.trans (HB2'.out.mono HB1.out.size)); have HK2 := bx (HK1.out.below HB2'.out HK1.out.lt); clear hb2 own2 hr2; have q0 : w2.cell? ⟨g, 0, none⟩ = some (.string s) := (HK2.out.cell 0).trans rfl; have q1 : w2.cell? ⟨g, 1, none⟩ = some (.int .i64 me) := (HK2.out.cell 1).trans rfl; have q2 : w2.cell? ⟨g, 2, none⟩ = some (.int .i64 pk) := (HK2.out.cell 2).trans rfl; have q3 : w2.cell? ⟨g, 3, none⟩ = some (.int .i64 si) := (HK2.out.cell 3).trans rfl; have q4 : w2.cell? ⟨g, 4, none⟩ = some (.int .i64 su) := (HK2.out.cell 4).trans rfl; have q5 : w2.cell? ⟨g, 5, none⟩ = some (.int .i64 at_) := (HK2.out.cell 5).trans rfl; have q6 : w2.cell? ⟨g, 6, none⟩ = some (.int .i64 hd) := (HK2.out.cell 6).trans rfl)
  go_wp2_with fail
  have hk := unp_any s me pk si su at_ hd A2 n1 c2 l1 w2 HE.out (by omega) HR2.out hm1 hm2
  refine hk.mono ?_
  clear hk q0 q1 q2 q3 q4 q5 q6
  intro e w3 hp
  obtain ⟨A3, n3, c3, rfl, hn3, hr3, _, h33, hb3⟩ := unp_pair hp HKL.out
  have HB3 := bx (HB2.out.trans (hb3.mono HB2.out.size))
  have HK3 := bx (HK2.out.below hb3 HK2.out.lt)
  have HR3 := bx hr3
  have HR23 := bx (HR2.out.step hb3)
  have HI3 := bx ((HR.out.below HB3.out (Nat.le_refl _)).more HB3.out.size)
  have q0 : w3.cell? ⟨g, 0, none⟩ = some (.string s) := (HK3.out.cell 0).trans rfl
  have q1 : w3.cell? ⟨g, 1, none⟩ = some (.int .i64 me) := (HK3.out.cell 1).trans rfl
  have q2 : w3.cell? ⟨g, 2, none⟩ = some (.int .i64 pk) := (HK3.out.cell 2).trans rfl
  have q3 : w3.cell? ⟨g, 3, none⟩ = some (.int .i64 si) := (HK3.out.cell 3).trans rfl
  have q4 : w3.cell? ⟨g, 4, none⟩ = some (.int .i64 su) := (HK3.out.cell 4).trans rfl
  have q5 : w3.cell? ⟨g, 5, none⟩ = some (.int .i64 at_) := (HK3.out.cell 5).trans rfl
  have q6 : w3.cell? ⟨g, 6, none⟩ = some (.int .i64 hd) := (HK3.out.cell 6).trans rfl
  clear hp hr3 hb3
  go_wp2_with fail
  have hk := runp_any s me pk si su at_ hd A1 n1 c1 l1 w3 HE.out (by omega) HI3.out hm1 hm2
  refine hk.mono ?_
  clear hk q0 q1 q2 q3 q4 q5 q6
  intro e w4 hp
  obtain ⟨A4, n4, c4, rfl, hn4, hr4, _, h44, hb4⟩ := unp_pair hp HKL.out
  have HB4 := bx (HB3.out.trans (hb4.mono HB3.out.size))
  have HR4 := bx hr4
  have HR34 := bx (HR3.out.step hb4)
  have HR24 := bx (HR23.out.step hb4)
  have hkk : (k == k) = true := by simp
  clear hp hr4 hb4
  go_wp2_with fail
  refine (same_any A3 A4 n3 c3 n4 c4 w4 L L hn3.out.symm hn4.out.symm (by omega) (by omega) HR34.out HR4.out).mono ?_
  rintro e w5 ⟨rfl, hb5⟩
  rw [decS]
  have HB5 := bx (HB4.out.trans (hb5.mono HB4.out.size))
  have HR25 := bx (HR24.out.step hb5)
  have HI5 := bx ((HR.out.below HB5.out (Nat.le_refl _)).more HB5.out.size)
  clear hb5
  go_wp2_with fail
  refine (same_any A2 A1 n1 c2 n1 c1 w5 l1 l1 HE.out HE.out (by omega) (by omega) HR25.out HI5.out).mono ?_
  rintro e w6 ⟨rfl, hb6⟩
  rw [decS]
  have HB6 := bx (HB5.out.trans (hb6.mono HB5.out.size))
  clear hb6
  go_wp2
  go_ret
  exact ⟨rfl, HB6.out⟩
end Go.Proofs.YtokojichjliieaaDoor
