/- The walk of EntryStored. -/
import Derived.Test.YtokojichjliieaaDoorPk11
import Derived.Test.YtokojichjliieaaDoorPk3
namespace Go.Proofs.YtokojichjliieaaDoor
open Go.RowKit
theorem unp_stored {n sm : Nat} {b : List UInt8} (hn : b.length = n) (h32 : n ≤ 32768) : unpA 0 (n : Int) (n : Int) (sm : Int) b = if crcA 0 b = sm then .ok b else .err 19 := by
  unfold unpA outA
  rw [if_neg (by omega), if_neg (by omega), if_neg (by decide), if_neg (by simp)]
  show endA' (n : Int) (sm : Int) b = _
  unfold endA'
  rw [if_neg (by omega)]
  by_cases h : crcA 0 b = sm
  · rw [if_pos h, if_neg (by simp [h])]
  · rw [if_neg h, if_pos (by omega)]
set_option maxRecDepth 100000 in
set_option maxHeartbeats 8000000 in
theorem entryStored_walk (mx : Int) (w : World) (hm : w.cell? ⟨0, 0, none⟩ = some (.int .i64 mx)) (A0 : Option Addr) (n0 c0 : Nat) (l0 : List UInt8) (e0 : l0.length = n0) (_hc0 : n0 ≤ c0) (_hm0 : (c0 : Int) ≤ 9223372036854775807) (r0 : RB w w.heap.size A0 l0) (_b0 : n0 ≤ 140737488351232)
    (x1 : Int) (h1 : 0 ≤ x1 ∧ x1 ≤ 65535) (y0 y1 y2 y3 : UInt8) :
    Calls Tryd.prog 10 #[.slice A0 n0 c0, .int .u16 x1, .agg #[.int .u8 (y0.toNat : Int), .int .u8 (y1.toNat : Int), .int .u8 (y2.toNat : Int), .int .u8 (y3.toNat : Int)]] w fun e w' => e = .returned (.bool true) ∧ Below w.heap.size w w' := by
  obtain ⟨at_, rfl⟩ : ∃ a : Nat, x1 = (a : Int) := ⟨x1.toNat, by omega⟩
  have hat : at_ ≤ 65535 := by omega
  have HE := bx e0
  have HR := bx r0
  obtain ⟨gv, hgv⟩ : ∃ gv, w.heap.size = gv := ⟨_, rfl⟩
  have hB0 : Bx (Below w.heap.size w (w.alloc (.cells #[.int .u8 (y0.toNat : Int), .int .u8 (y1.toNat : Int), .int .u8 (y2.toNat : Int), .int .u8 (y3.toNat : Int)] 43))) := bx (bl_alloc (Below.refl w.heap.size w) (Nat.le_refl _) _)
  have HV0 := bx (Bk.newAt w 43 #[.int .u8 (y0.toNat : Int), .int .u8 (y1.toNat : Int), .int .u8 (y2.toNat : Int), .int .u8 (y3.toNat : Int)] hgv)
  have HM0 := bx (cellB hB0.out hm)
  have HGV := bx hgv
  clear e0 r0 hm h1
  go_enter Tryd.func10, Tryd.ntmps10
  go_upto_region 1 with (fail)
  generalize w.alloc (.cells #[.int .u8 (y0.toNat : Int), .int .u8 (y1.toNat : Int), .int .u8 (y2.toNat : Int), .int .u8 (y3.toNat : Int)] 43) = w0 at HV0 hB0 HM0 ⊢
  go_wp2_with fail
  refine (fixed10_any mx w0 HM0.out).mono ?_
  rintro e w1 ⟨rfl, hb1⟩
  have HB1 := bx (hB0.out.trans (hb1.mono hB0.out.size))
  have HV1 := bx (HV0.out.below hb1 HV0.out.lt)
  clear hb1
  by_cases hz : 6000 < n0
  · have hzI : (6000 : Int) < (n0 : Int) := by omega
    go_wp2
    go_ret
    exact ⟨rfl, HB1.out⟩
  have hzI : ¬ (6000 : Int) < (n0 : Int) := by omega
  have HI1 := bx ((HR.out.below HB1.out (Nat.le_refl _)).more HB1.out.size)
  obtain ⟨sm, hsm⟩ : ∃ sm, crcA 0 l0 = sm := ⟨_, rfl⟩
  have HSM := bx hsm
  have hk := rsum_any A0 n0 c0 l0 w1 HE.out (by omega) HI1.out
  rw [hsm] at hk
  have HRS := bx hk
  clear hsm hk
  obtain ⟨gr, hgr⟩ : ∃ gr, w1.heap.size = gr := ⟨_, rfl⟩
  have HK2 := bx (Bk.newAt w1 33 #[.string ⟨#[]⟩, .int .i64 0, .int .i64 (n0 : Int), .int .i64 (n0 : Int), .int .i64 (sm : Int), .int .i64 0, .int .i64 0] hgr)
  have HA2 := bx (bl_alloc (Below.refl w1.heap.size w1) (Nat.le_refl _) (.cells #[.string ⟨#[]⟩, .int .i64 0, .int .i64 (n0 : Int), .int .i64 (n0 : Int), .int .i64 (sm : Int), .int .i64 0, .int .i64 0] 33))
  have HGR := bx hgr
  go_upto_region 6 with (go_at_call 26; refine HRS.out.mono ?_; rintro e wS ⟨rfl, hwS⟩; rw [hwS]; clear hwS wS)
  generalize w1.alloc (.cells #[.string ⟨#[]⟩, .int .i64 0, .int .i64 (n0 : Int), .int .i64 (n0 : Int), .int .i64 (sm : Int), .int .i64 0, .int .i64 0] 33) = w2 at HK2 HA2 ⊢
  have HB2 : Bx (Below w.heap.size w w2) := bx (HB1.out.trans (HA2.out.mono HB1.out.size))
  have HV2 := bx (HV1.out.below HA2.out HV1.out.lt)
  have HI2 := bx ((HR.out.below HB2.out (Nat.le_refl _)).more HB2.out.size)
  clear hgr
  have q0 : w2.cell? ⟨gr, 0, none⟩ = some (.string ⟨#[]⟩) := (HK2.out.cell 0).trans rfl
  have q1 : w2.cell? ⟨gr, 1, none⟩ = some (.int .i64 0) := (HK2.out.cell 1).trans rfl
  have q2 : w2.cell? ⟨gr, 2, none⟩ = some (.int .i64 (n0 : Int)) := (HK2.out.cell 2).trans rfl
  have q3 : w2.cell? ⟨gr, 3, none⟩ = some (.int .i64 (n0 : Int)) := (HK2.out.cell 3).trans rfl
  have q4 : w2.cell? ⟨gr, 4, none⟩ = some (.int .i64 (sm : Int)) := (HK2.out.cell 4).trans rfl
  have q5 : w2.cell? ⟨gr, 5, none⟩ = some (.int .i64 0) := (HK2.out.cell 5).trans rfl
  have q6 : w2.cell? ⟨gr, 6, none⟩ = some (.int .i64 0) := (HK2.out.cell 6).trans rfl
  go_wp2_with fail
  have hk := unp_any ⟨#[]⟩ 0 (n0 : Int) (n0 : Int) (sm : Int) 0 0 A0 n0 c0 l0 w2 HE.out (by omega) HI2.out (by omega) (by omega)
  refine hk.mono ?_
  clear hk q0 q1 q2 q3 q4 q5 q6
  intro e w3 hp
  obtain ⟨A3, n3, c3, rfl, hn3, hr3, _, _, hb3, _, h33⟩ := unpOk hp (by rw [unp_stored HE.out (by omega), if_pos HSM.out])
  have HR3 := bx hr3
  have HB3 := bx (HB2.out.trans (hb3.mono HB2.out.size))
  have HK3 := bx (HK2.out.below hb3 HK2.out.lt)
  have HV3 := bx (HV2.out.below hb3 HV2.out.lt)
  have HI3 := bx ((HR.out.below HB3.out (Nat.le_refl _)).more HB3.out.size)
  clear hp hb3 hr3
  go_wp2_with fail
  refine (same_any A3 A0 n3 c3 n0 c0 w3 l0 l0 hn3.out.symm HE.out (by omega) (by omega) HR3.out HI3.out).mono ?_
  rintro e w4 ⟨rfl, hb4⟩
  rw [show decide (l0 = l0) = true by simp]
  have HB4 := bx (HB3.out.trans (hb4.mono HB3.out.size))
  have HK4 := bx (HK3.out.below hb4 HK3.out.lt)
  have HV4 := bx (HV3.out.below hb4 HV3.out.lt)
  have HI4 := bx ((HR.out.below HB4.out (Nat.le_refl _)).more HB4.out.size)
  have HN : Bx ((([] : List UInt8).length + l0.length) * 1 ≤ 140737488355328) := bx (by have := HE.out; simp; omega)
  clear hb4 HR3 hn3 h33
  obtain ⟨B4, hB4⟩ : ∃ B4, w4.heap.size = B4 := ⟨_, rfl⟩
  have HBB := bx hB4
  clear hB4
  go_upto_region 10 with (at_builtin; refine wpList_appL _ bV_one rfl (.tmp 40) (.tmp 41) rfl byteTy (by decide) w4.heap.size _ [] rfl (OwL.lit0 w4 (Nat.le_refl _)) _ A0 n0 c0 l0 rfl HE.out (HI4.out.alloc (Nat.le_refl _) _) HN.out (le_alloc0 (Nat.le_refl _) _) ?_; intro v5 w5 own5 _ _ hb5; rw [List.nil_append] at own5; have HC5 := bx (HBB.out ▸ ((bl_alloc (Below.refl w4.heap.size w4) (Nat.le_refl _) (.cells #[] 5)).trans hb5) : Below B4 w4 w5); obtain ⟨A5, c5, rfl, hr5, _, _⟩ := own5.rd; have HO5 : Bx (OwB w5 B4 5 (.slice A5 n0 c5) l0) := bx (HBB.out ▸ HE.out ▸ own5); rw [HE.out]; clear hb5 own5 hr5)
  go_wp2_with fail
  go_loopw [11] (fun iv wx => ∃ (j : Nat) (cl : List UInt8), j ≤ 4 ∧ iv = .int .i64 (j : Int) ∧ Bx (cl.length = n0) ∧ Bx (∀ k, k < at_ ∨ at_ + 4 ≤ k → cl[k]? = l0[k]?) ∧ Bx (OwB wx B4 5 (.slice A5 n0 c5) cl) ∧ Bx (Below B4 w4 wx)) (fun i _ => 4 - (intOf i).toNat)
  case atStart => exact ⟨0, l0, by omega, rfl, HE, bx (fun _ _ => rfl), HO5, HC5⟩
  case round =>
    obtain ⟨j, cl, hj, rfl, HLC, HPC, HOC, HCC⟩ := hrel
    have u1 : IntKind.i64.wrap ((at_ : Int) + (j : Int)) = (at_ : Int) + (j : Int) := IntWalk.i64_in _ (by omega)
    have HVr := bx (HV4.out.below HCC.out (by rw [← HBB.out]; exact HV4.out.lt))
    by_cases hgo : j < 4 ∧ at_ + j < n0
    · have g1 : (j : Int) < 4 := by omega
      have g2 : (at_ : Int) + (j : Int) < (n0 : Int) := by omega
      obtain ⟨g5, rfl⟩ := own_form HOC.out (by rw [HLC.out]; omega)
      obtain ⟨y, hy⟩ : ∃ y, cl[at_ + j]? = some y := ⟨_, List.getElem?_eq_getElem (by rw [HLC.out]; omega)⟩
      obtain ⟨z, hzc⟩ : ∃ z : UInt8, wr.cell? ⟨gv, j, none⟩ = some (.int .u8 (z.toNat : Int)) := by
        have hcs := HVr.out.cell j
        rw [hcs]
        match j, hgo.1 with
        | 0, _ => exact ⟨y0, rfl⟩
        | 1, _ => exact ⟨y1, rfl⟩
        | 2, _ => exact ⟨y2, rfl⟩
        | 3, _ => exact ⟨y3, rfl⟩
      have hcell : wr.cell? ⟨g5, at_ + j, none⟩ = some (.int .u8 (y.toNat : Int)) := OwL.cell HOC.out hy
      have hfr := OwL.frz HOC.out (at_ + j)
      have hgb := OwL.blk HOC.out
      have hset := HOC.out.set (at_ + j) z
      have HO6 : Bx (OwB (wr.setCell ⟨g5, at_ + j, none⟩ (.int .u8 (z.toNat : Int))) B4 5 (.slice (some ⟨g5, 0, none⟩) n0 c5) (cl.set (at_ + j) z)) := bx hset
      have HC6 : Bx (Below B4 w4 (wr.setCell ⟨g5, at_ + j, none⟩ (.int .u8 (z.toNat : Int)))) := bx (HCC.out.setCell (p := ⟨g5, at_ + j, none⟩) hgb.1 _)
      have HL6 : Bx ((cl.set (at_ + j) z).length = n0) := bx (by rw [List.length_set]; exact HLC.out)
      have HP6 : Bx (∀ k, k < at_ ∨ at_ + 4 ≤ k → (cl.set (at_ + j) z)[k]? = l0[k]?) := bx (fun k hk => by rw [List.getElem?_set_ne (by omega)]; exact HPC.out k hk)
      have u2 : ((at_ : Int) + (j : Int)).toNat = at_ + j := Int.toNat_natCast (at_ + j)
      have u3 : (0 : Int) ≤ (at_ : Int) + (j : Int) := by omega
      clear hset hgb hy HOC HCC HLC HPC hgo
      go_wp2
      go_roundw
      case rel => exact ⟨j + 1, _, by omega, by go_num, HL6, HP6, HO6, HC6⟩
      case measure => simp [intOf]; omega
    · have HWr := bx (HB4.out.trans (HCC.out.mono (by rw [← HBB.out]; exact HB4.out.size)))
      have HKr := bx (HK4.out.below HCC.out (by rw [← HBB.out]; exact HK4.out.lt))
      have HIr := bx ((HR.out.below HWr.out (Nat.le_refl _)).more HWr.out.size)
      obtain ⟨A6, c6, hv6, hr6, _, _⟩ := HOC.out.rd
      rw [HLC.out] at hv6
      injection hv6 with e1 _ e2
      subst e1
      subst e2
      have HR6 := bx hr6
      clear hr6
      have HX : Bx (unpA 0 (n0 : Int) (n0 : Int) (sm : Int) cl = if cl = l0 then .ok cl else .err 19) := bx (by
        rw [unp_stored HLC.out (by omega)]
        by_cases e : cl = l0
        · rw [if_pos e, if_pos (by rw [e]; exact HSM.out)]
        · rw [if_neg e, if_neg (fun h => e (burst_same (at_ := at_) (by rw [HLC.out, HE.out]) HPC.out (by rw [h, HSM.out])))])
      have q0 : wr.cell? ⟨gr, 0, none⟩ = some (.string ⟨#[]⟩) := (HKr.out.cell 0).trans rfl
      have q1 : wr.cell? ⟨gr, 1, none⟩ = some (.int .i64 0) := (HKr.out.cell 1).trans rfl
      have q2 : wr.cell? ⟨gr, 2, none⟩ = some (.int .i64 (n0 : Int)) := (HKr.out.cell 2).trans rfl
      have q3 : wr.cell? ⟨gr, 3, none⟩ = some (.int .i64 (n0 : Int)) := (HKr.out.cell 3).trans rfl
      have q4 : wr.cell? ⟨gr, 4, none⟩ = some (.int .i64 (sm : Int)) := (HKr.out.cell 4).trans rfl
      have q5 : wr.cell? ⟨gr, 5, none⟩ = some (.int .i64 0) := (HKr.out.cell 5).trans rfl
      have q6 : wr.cell? ⟨gr, 6, none⟩ = some (.int .i64 0) := (HKr.out.cell 6).trans rfl
      by_cases g1 : j < 4
      · have g1I : (j : Int) < 4 := by omega
        have g2 : ¬ (at_ : Int) + (j : Int) < (n0 : Int) := by omega
        clear hgo
        go_wp2_with fail
        have hk := unp_any ⟨#[]⟩ 0 (n0 : Int) (n0 : Int) (sm : Int) 0 0 A5 n0 c5 cl wr HLC.out (by omega) HR6.out (by omega) (by omega)
        refine hk.mono ?_
        clear hk q0 q1 q2 q3 q4 q5 q6
        intro e w7 hp
        rw [HX.out] at hp
        by_cases hcl : cl = l0
        · rw [if_pos hcl] at hp
          obtain ⟨A7, n7, c7, rfl, hn7, hr7, _, _, hb7, _, h77⟩ := unpOk hp rfl
          have HR7 := bx hr7
          have HB7 := bx (HWr.out.trans (hb7.mono HWr.out.size))
          have HI7 := bx ((HR.out.below HB7.out (Nat.le_refl _)).more HB7.out.size)
          have HR67 := bx (HR6.out.step hb7)
          clear hp hb7 hr7
          go_wp2_with fail
          refine (same_any A0 A5 n0 c0 n0 c5 w7 l0 cl HE.out HLC.out (by omega) (by omega) HI7.out HR67.out).mono ?_
          rintro e w8 ⟨rfl, hb8⟩
          rw [show decide (l0 = cl) = true by rw [hcl]; simp]
          have HB8 := bx (HB7.out.trans (hb8.mono HB7.out.size))
          have HI8 := bx ((HR.out.below HB8.out (Nat.le_refl _)).more HB8.out.size)
          have HR78 := bx (HR7.out.step hb8)
          clear hb8
          go_wp2_with fail
          refine (same_any A7 A0 n7 c7 n0 c0 w8 cl l0 hn7.out.symm HE.out (by omega) (by omega) HR78.out HI8.out).mono ?_
          rintro e w9 ⟨rfl, hb9⟩
          rw [show decide (cl = l0) = true by rw [hcl]; simp]
          have HB9 := bx (HB8.out.trans (hb9.mono HB8.out.size))
          clear hb9
          go_wp2
          go_ret
          exact ⟨rfl, HB9.out⟩
        · rw [if_neg hcl] at hp
          obtain ⟨rfl, hb7, _⟩ := unpErr hp rfl
          have HB7 := bx (HWr.out.trans (hb7.mono HWr.out.size))
          have HI7 := bx ((HR.out.below HB7.out (Nat.le_refl _)).more HB7.out.size)
          have HR67 := bx (HR6.out.step hb7)
          clear hp hb7
          go_wp2_with fail
          refine (same_any A0 A5 n0 c0 n0 c5 w7 l0 cl HE.out HLC.out (by omega) (by omega) HI7.out HR67.out).mono ?_
          rintro e w8 ⟨rfl, hb8⟩
          rw [show decide (l0 = cl) = false by simp; exact fun h => hcl h.symm]
          have HB8 := bx (HB7.out.trans (hb8.mono HB7.out.size))
          clear hb8
          go_wp2
          go_ret
          exact ⟨rfl, HB8.out⟩
      · have g1I : ¬ (j : Int) < 4 := by omega
        clear hgo
        go_wp2_with fail
        have hk := unp_any ⟨#[]⟩ 0 (n0 : Int) (n0 : Int) (sm : Int) 0 0 A5 n0 c5 cl wr HLC.out (by omega) HR6.out (by omega) (by omega)
        refine hk.mono ?_
        clear hk q0 q1 q2 q3 q4 q5 q6
        intro e w7 hp
        rw [HX.out] at hp
        by_cases hcl : cl = l0
        · rw [if_pos hcl] at hp
          obtain ⟨A7, n7, c7, rfl, hn7, hr7, _, _, hb7, _, h77⟩ := unpOk hp rfl
          have HR7 := bx hr7
          have HB7 := bx (HWr.out.trans (hb7.mono HWr.out.size))
          have HI7 := bx ((HR.out.below HB7.out (Nat.le_refl _)).more HB7.out.size)
          have HR67 := bx (HR6.out.step hb7)
          clear hp hb7 hr7
          go_wp2_with fail
          refine (same_any A0 A5 n0 c0 n0 c5 w7 l0 cl HE.out HLC.out (by omega) (by omega) HI7.out HR67.out).mono ?_
          rintro e w8 ⟨rfl, hb8⟩
          rw [show decide (l0 = cl) = true by rw [hcl]; simp]
          have HB8 := bx (HB7.out.trans (hb8.mono HB7.out.size))
          have HI8 := bx ((HR.out.below HB8.out (Nat.le_refl _)).more HB8.out.size)
          have HR78 := bx (HR7.out.step hb8)
          clear hb8
          go_wp2_with fail
          refine (same_any A7 A0 n7 c7 n0 c0 w8 cl l0 hn7.out.symm HE.out (by omega) (by omega) HR78.out HI8.out).mono ?_
          rintro e w9 ⟨rfl, hb9⟩
          rw [show decide (cl = l0) = true by rw [hcl]; simp]
          have HB9 := bx (HB8.out.trans (hb9.mono HB8.out.size))
          clear hb9
          go_wp2
          go_ret
          exact ⟨rfl, HB9.out⟩
        · rw [if_neg hcl] at hp
          obtain ⟨rfl, hb7, _⟩ := unpErr hp rfl
          have HB7 := bx (HWr.out.trans (hb7.mono HWr.out.size))
          have HI7 := bx ((HR.out.below HB7.out (Nat.le_refl _)).more HB7.out.size)
          have HR67 := bx (HR6.out.step hb7)
          clear hp hb7
          go_wp2_with fail
          refine (same_any A0 A5 n0 c0 n0 c5 w7 l0 cl HE.out HLC.out (by omega) (by omega) HI7.out HR67.out).mono ?_
          rintro e w8 ⟨rfl, hb8⟩
          rw [show decide (l0 = cl) = false by simp; exact fun h => hcl h.symm]
          have HB8 := bx (HB7.out.trans (hb8.mono HB7.out.size))
          clear hb8
          go_wp2
          go_ret
          exact ⟨rfl, HB8.out⟩
end Go.Proofs.YtokojichjliieaaDoor
