/- The walk of ArchiveApart. -/
import Derived.Test.YtokojichjliieaaDoorArcW
import Derived.Deep.DeepCutAuto
namespace Go.Proofs.YtokojichjliieaaDoor
open Go.RowKit
set_option maxRecDepth 100000 in
set_option maxHeartbeats 16000000 in
theorem archiveApart_walk (mx : Int) (w : World) (hm : w.cell? ⟨0, 0, none⟩ = some (.int .i64 mx)) (A0 : Option Addr) (n0 c0 : Nat) (l0 : List UInt8) (e0 : l0.length = n0) (hc0 : n0 ≤ c0) (hm0 : (c0 : Int) ≤ 9223372036854775807) (r0 : RB w w.heap.size A0 l0) (b0 : n0 ≤ 140737488351232) :
    Calls Tryd.prog 5 #[.slice A0 n0 c0] w fun e w' => e = .returned (.bool true) ∧ Below w.heap.size w w' := by
  have HM := bx hm
  have HE := bx e0
  have HR0 := bx r0
  clear hm e0 r0
  go_enter Tryd.func5, Tryd.ntmps5
  go_wp2_with fail
  refine (fixed09_any mx w HM.out).mono ?_
  rintro e w1 ⟨rfl, hb1⟩
  have HB1 := bx hb1
  have HR1 := bx ((HR0.out.below hb1 (Nat.le_refl _)).more hb1.size)
  clear hb1
  by_cases hz : 70000 < n0
  · have hzI : (70000 : Int) < (n0 : Int) := by omega
    go_wp2
    go_ret
    exact ⟨rfl, HB1.out⟩
  have hzI : ¬ (70000 : Int) < (n0 : Int) := by omega
  obtain ⟨X, hX⟩ : ∃ X, dirA l0 = X := ⟨_, rfl⟩
  have HD := bx (dir_any A0 n0 c0 l0 w1 mx HE.out b0 hc0 hm0 HR1.out (cell_old HB1.out HM.out))
  rw [hX] at HD
  cases X with
  | err k =>
    have hk := dirA_pos hX
    have hkI : (k != 0) = true := by rw [bne_iff_ne]; omega
    clear hX
    go_wp2_with fail
    refine HD.out.mono ?_
    intro e w2 hp
    obtain ⟨rfl, hb2⟩ := dirpost_err hp rfl
    have HB2 := bx (HB1.out.trans (hb2.mono HB1.out.size))
    clear hp hb2
    go_wp2
    go_ret
    exact ⟨rfl, HB2.out⟩
  | ok L =>
  have HOK := bx (apOk hX)
  obtain ⟨nL, hnL⟩ : ∃ nL, L.length = nL := ⟨_, rfl⟩
  have hnl64 : nL ≤ 64 := by rw [← hnL]; exact HOK.out.len
  have HNL := bx hnL
  clear hX hnL
  go_wp2_with fail
  refine HD.out.mono ?_
  intro e w2 hp
  obtain ⟨A2, c2, rfl, _, hr2, hc2, hb2⟩ := dirpost_ok hp rfl
  have HR2 := bx hr2
  have HB2 := bx (HB1.out.trans (hb2.mono HB1.out.size))
  rw [HNL.out] at hc2
  clear hp hb2 hr2
  rw [HNL.out]
  have hnlI : ¬ (64 : Int) < (nL : Int) := by omega
  obtain ⟨B2, hB2⟩ : ∃ B2, w2.heap.size = B2 := ⟨_, rfl⟩
  have HBB := bx hB2
  have hwB : w.heap.size ≤ B2 := by rw [← hB2]; exact HB2.out.size
  have HCc := bx (show Below B2 w2 w2 from Below.refl _ _)
  clear hB2
  go_wp2_with fail
  go_loopw [29] (fun iv wx => ∃ t : Nat, t ≤ nL ∧ iv = .int .i64 (t : Int) ∧ Bx (Below B2 w2 wx)) (fun i _ => nL - (intOf i).toNat)
  case atStart => exact ⟨0, by omega, rfl, HCc⟩
  case round =>
    obtain ⟨t, ht, rfl, HW⟩ := hrel
    have hszw : B2 ≤ wr.heap.size := by have := HW.out.size; have := HBB.out; omega
    by_cases htn : t < nL
    · have htI : (t : Int) < (nL : Int) := by omega
      have hrr : RS recL wr wr.heap.size A2 L := (HR2.out.below (HBB.out ▸ HW.out) (Nat.le_refl _)).more (by rw [HBB.out]; exact hszw)
      obtain ⟨ad, x, hA, _, hx, hc, hcs⟩ := hrr.at_ recCels (k := t) (by rw [HNL.out]; exact htn)
      subst hA
      have HX2 := bx hx.out
      obtain ⟨⟨nm, me, pk, si, su, hd⟩, at2⟩ := x
      obtain ⟨o1, o2, o3, o4, o5⟩ := HOK.out.one t _ HX2.out
      dsimp only at o1 o2 o3 o4 o5
      obtain ⟨sn, hsn⟩ : ∃ s : ByteArray, (⟨nm.toArray⟩ : ByteArray) = s := ⟨_, rfl⟩
      have HSV : Bx (strV nm = .string sn) := bx (by unfold strV; rw [hsn])
      have hsl : sn.data.toList = nm := by rw [← hsn]
      have HSL := bx hsl
      obtain ⟨ln, hln⟩ : ∃ ln, nm.length = ln := ⟨_, rfl⟩
      have hss : sn.size = ln := by rw [← hsn, ← hln]; rfl
      rw [hln] at o3 o5
      have k0 := hc _ rfl
      have k1 := hcs 0 _ rfl
      have k2 := hcs 1 _ rfl
      have k3 := hcs 2 _ rfl
      have k4 := hcs 3 _ rfl
      have k5 := hcs 4 _ rfl
      have k6 := hcs 5 _ rfl
      rw [Nat.zero_add] at k1
      rw [HSV.out] at k0
      rw [HE.out] at o4
      obtain ⟨gi, hgi⟩ : ∃ gi, wr.heap.size = gi := ⟨_, rfl⟩
      obtain ⟨w4, hw4⟩ : ∃ w4, (wr.alloc (.cells z7 33)).setRow wr.heap.size #[.string sn, .int .i64 (me : Int), .int .i64 (pk : Int), .int .i64 (si : Int), .int .i64 (su : Int), .int .i64 (at2 : Int), .int .i64 (hd : Int)] = w4 := ⟨_, rfl⟩
      have hK4 : Bk w4 gi 33 #[.string sn, .int .i64 (me : Int), .int .i64 (pk : Int), .int .i64 (si : Int), .int .i64 (su : Int), .int .i64 (at2 : Int), .int .i64 (hd : Int)] := by rw [← hw4, ← hgi]; exact ((Bk.new wr _ z7).setRow _)
      have hB4 : Below B2 w2 w4 := HW.out.trans (by rw [← hw4]; exact (bl_setRow (bl_alloc (Below.refl wr.heap.size wr) (Nat.le_refl _) _) (Nat.le_refl _) _).mono hszw)
      have hone : (#[.string sn, .int .i64 (me : Int), .int .i64 (pk : Int), .int .i64 (si : Int), .int .i64 (su : Int), .int .i64 (at2 : Int), .int .i64 (hd : Int)] : Array Value).all (·.oneCell') = true := by simp [Value.oneCell']
      have HONE := bx hone
      have HK4 := bx hK4
      have HB4 := bx hB4
      have n0c : w4.cell? ⟨gi, 0, none⟩ = some (.string sn) := (hK4.cell 0).trans rfl
      have HW4e := bx hw4
      have HGI := bx hgi
      have HO3 := bx o3
      have HO4 := bx o4
      have HO5 := bx o5
      have HNA := bx o1
      have hln64 : ln ≤ 70000 := by omega
      clear hw4 hK4 hB4 hone hc hcs hx hrr hsn hsl hln o1 o3 o4 o5 hgi
      go_upto_region 13 with (refine wpList_store_row rfl 33 (.tmp 6) (.tmp 33) rfl wr.heap.size #[.string sn, .int .i64 (me : Int), .int .i64 (pk : Int), .int .i64 (si : Int), .int .i64 (su : Int), .int .i64 (at2 : Int), .int .i64 (hd : Int)] rfl rfl 33 z7 (Bk.new _ _ _) info_rec rfl HONE.out ?_; rw [z7_eq, HW4e.out, HGI.out])
      simp only [Act.put]
      go_cut [88] (fun v wx => v = .bool false ∧ Bx (Below w4.heap.size w4 wx))
      case first =>
        have hmx4 := cell_old (HB2.out.trans ((HB4.out).mono hwB)) HM.out
        have HMX := bx hmx4
        have hsn9 : sn.size ≤ 140737488351232 := by omega
        clear hmx4
        go_wp2_with fail
        refine (name_any sn mx w4 hsn9 HMX.out).mono ?_
        rintro e w5 ⟨rfl, hb5⟩
        rw [HSL.out, HNA.out]
        have HB5 := bx hb5
        have hK5 := HK4.out.below hb5 HK4.out.lt
        have p1 : w5.cell? ⟨gi, 1, none⟩ = some (.int .i64 (me : Int)) := (hK5.cell 1).trans rfl
        have p2 : w5.cell? ⟨gi, 2, none⟩ = some (.int .i64 (pk : Int)) := (hK5.cell 2).trans rfl
        have p5 : w5.cell? ⟨gi, 5, none⟩ = some (.int .i64 (at2 : Int)) := (hK5.cell 5).trans rfl
        have p6 : w5.cell? ⟨gi, 6, none⟩ = some (.int .i64 (hd : Int)) := (hK5.cell 6).trans rfl
        have p0 : w5.cell? ⟨gi, 0, none⟩ = some (.string sn) := (hK5.cell 0).trans rfl
        have y3 := HO3.out
        have y4 := HO4.out
        have f1 : ¬ (hd : Int) < 0 := by omega
        have f2 : ¬ (at2 : Int) < (hd : Int) + 30 + (ln : Int) := by omega
        have f3 : ¬ (pk : Int) < 0 := by omega
        have f4 : ¬ (n0 : Int) - 22 < (at2 : Int) := by omega
        have f5 : ¬ (n0 : Int) - 22 - (at2 : Int) < (pk : Int) := by omega
        clear hb5 hK5 n0c
        rcases o2 with ho | ho
        · have f6 : ((me : Int) != 0) = false := by rw [ho]; rfl
          clear ho
          go_wp2
          go_meet
          case rel => exact ⟨by first | rfl | (congr 1; simp; omega), HB5⟩
        · have f6 : ((me : Int) != 0) = true := by rw [ho]; rfl
          have f7 : ((me : Int) != 8) = false := by rw [ho]; rfl
          clear ho
          go_wp2
          go_meet
          case rel => exact ⟨by first | rfl | (congr 1; simp; omega), HB5⟩
      case rest =>
      rename World => w5
      obtain ⟨rfl, HB5⟩ := hcut
      have hK5 := HK4.out.below HB5.out HK4.out.lt
      have p0 : w5.cell? ⟨gi, 0, none⟩ = some (.string sn) := (hK5.cell 0).trans rfl
      have p2 : w5.cell? ⟨gi, 2, none⟩ = some (.int .i64 (pk : Int)) := (hK5.cell 2).trans rfl
      have p5 : w5.cell? ⟨gi, 5, none⟩ = some (.int .i64 (at2 : Int)) := (hK5.cell 5).trans rfl
      have p6 : w5.cell? ⟨gi, 6, none⟩ = some (.int .i64 (hd : Int)) := (hK5.cell 6).trans rfl
      have HK5 := bx hK5
      have hsz4 : B2 ≤ w4.heap.size := by have := HB4.out.size; have := HBB.out; omega
      have HBB5 : Bx (Below B2 w2 w5) := bx (HB4.out.trans (HB5.out.mono hsz4))
      have y3 := HO3.out
      have y4 := HO4.out
      have hI5 : RB w5 w5.heap.size A0 l0 := (HR0.out.below (HB2.out.trans (HBB5.out.mono hwB)) (Nat.le_refl _)).more ((HB2.out.trans (HBB5.out.mono hwB)).size)
      obtain ⟨ae, xe, hAe, _, _, _⟩ := hI5.byte (k := hd) (by rw [HE.out]; omega)
      subst hAe
      obtain ⟨s3, hs3⟩ : ∃ s, (⟨((l0.drop (hd + 30)).take ln).toArray⟩ : ByteArray) = s := ⟨_, rfl⟩
      have hcv3 := fun nq => run_cut_str (hI5.drewN nq) (i := hd + 30) (m := ln) (c := c0 - (hd + 30)) (n := ((hd : Int) + 30 + (ln : Int)).toNat - (hd + 30)) (by omega) (by rw [HE.out]; omega) hs3
      rw [show ae.add (hd + 30) = ⟨ae.block, ae.off + (hd + 29 + 1), none⟩ from add_pos ae (hd + 29)] at hcv3
      have u1 : IntKind.i64.wrap ((hd : Int) + 30) = (hd : Int) + 30 := IntWalk.i64_in _ (by omega)
      have u2 : IntKind.i64.wrap ((hd : Int) + 30 + (ln : Int)) = (hd : Int) + 30 + (ln : Int) := IntWalk.i64_in _ (by omega)
      have v1 : (0 : Int) ≤ (hd : Int) + 30 := by omega
      have v2 : (hd : Int) + 30 ≤ (hd : Int) + 30 + (ln : Int) := by omega
      have v3 : (hd : Int) + 30 + (ln : Int) ≤ (c0 : Int) := by omega
      have v4 : ((hd : Int) + 30).toNat = hd + 30 := Int.toNat_natCast (hd + 30)
      have v5 : ¬ c0 = hd + 30 := by omega
      have hst : (s3.toList == sn.toList) = true := tl_same (by rw [← hs3, HSL.out]; simpa using HO5.out)
      have w1t : (t : Int) ≤ (c2 : Int) := by omega
      clear hs3 hI5 n0c hK5
      go_wp2
      go_quiet (fail)
      rename Nat => nq
      obtain ⟨w6, hw6⟩ : ∃ w6, w5.drewN nq = w6 := ⟨_, rfl⟩
      have hK6 : Bx (Bk w6 gi 33 #[.string sn, .int .i64 (me : Int), .int .i64 (pk : Int), .int .i64 (si : Int), .int .i64 (su : Int), .int .i64 (at2 : Int), .int .i64 (hd : Int)]) := by rw [← hw6]; exact bx HK5.out
      have HBB6 : Bx (Below B2 w2 w6) := by rw [← hw6]; exact bx (below_drewN HBB5.out nq)
      rw [hw6]
      obtain ⟨g6, hg6⟩ : ∃ g6, w6.heap.size = g6 := ⟨_, rfl⟩
      have HG6 := bx hg6
      have hgi6 : gi < g6 := by rw [← hg6]; exact hK6.out.lt
      have HCd := bx (show Below g6 w6 w6 from Below.refl _ _)
      clear hw6 hg6 p0 p2 p5 p6 hcv3 hst u1 u2 v1 v2 v3 v4 v5 HB5 HB4 HBB5 HK5 HK4 k0 k1 k2 k3 k4 k5 k6 HW4e HONE HGI
      go_wp2_with fail
      go_loopw [109] (fun kv wx => ∃ k : Nat, k ≤ t ∧ kv = .int .i64 (k : Int) ∧ Bx (Below g6 w6 wx)) (fun kv _ => t - (intOf kv).toNat)
      case atStart => exact ⟨0, by omega, rfl, HCd⟩
      case round =>
        obtain ⟨k, hk, rfl, HV⟩ := hrel
        have hszv : g6 ≤ wr.heap.size := by have := HV.out.size; have := HG6.out; omega
        by_cases hkt : k < t
        · have hkI : (k : Int) < (t : Int) := by omega
          have hkn : k < nL := by omega
          have HBr : Bx (Below B2 w2 wr) := bx (HBB6.out.trans (HV.out.mono (by have := HBB6.out.size; have := HBB.out; have := HG6.out; omega)))
          have hrr : RS recL wr wr.heap.size (some ad) L := (HR2.out.below (HBB.out ▸ HBr.out) (Nat.le_refl _)).more HBr.out.size
          obtain ⟨aq, x2, hA2, _, hx2, hc2, hcs2⟩ := hrr.at_ recCels (k := k) (by rw [HNL.out]; exact hkn)
          injection hA2 with hA2
          subst hA2
          obtain ⟨t1, t2⟩ := HOK.out.two k t _ _ hkt hx2.out HX2.out
          obtain ⟨_, _, _, t4, _⟩ := HOK.out.one k _ hx2.out
          obtain ⟨⟨nm2, me2, pk2, si2, su2, hd2⟩, at3⟩ := x2
          dsimp only at t1 t2 t4
          rw [HE.out] at t4
          obtain ⟨sq, hsq⟩ : ∃ s : ByteArray, (⟨nm2.toArray⟩ : ByteArray) = s := ⟨_, rfl⟩
          have HSQ : Bx (strV nm2 = .string sq) := bx (by unfold strV; rw [hsq])
          have hsd : (sq.toList == sn.toList) = false := tl_diff (by rw [HSL.out, ← hsq]; simpa using t1)
          have j0 := hc2 _ rfl
          have j1 := hcs2 0 _ rfl
          have j2 := hcs2 1 _ rfl
          have j3 := hcs2 2 _ rfl
          have j4 := hcs2 3 _ rfl
          have j5 := hcs2 4 _ rfl
          have j6 := hcs2 5 _ rfl
          rw [Nat.zero_add] at j1
          rw [HSQ.out] at j0
          obtain ⟨gq, hgq⟩ : ∃ gq, wr.heap.size = gq := ⟨_, rfl⟩
          obtain ⟨w8, hw8⟩ : ∃ w8, (wr.alloc (.cells z7 33)).setRow wr.heap.size #[.string sq, .int .i64 (me2 : Int), .int .i64 (pk2 : Int), .int .i64 (si2 : Int), .int .i64 (su2 : Int), .int .i64 (at3 : Int), .int .i64 (hd2 : Int)] = w8 := ⟨_, rfl⟩
          have hK8 : Bk w8 gq 33 #[.string sq, .int .i64 (me2 : Int), .int .i64 (pk2 : Int), .int .i64 (si2 : Int), .int .i64 (su2 : Int), .int .i64 (at3 : Int), .int .i64 (hd2 : Int)] := by rw [← hw8, ← hgq]; exact ((Bk.new wr _ z7).setRow _)
          have hB8 : Below g6 w6 w8 := HV.out.trans (by rw [← hw8]; exact (bl_setRow (bl_alloc (Below.refl wr.heap.size wr) (Nat.le_refl _) _) (Nat.le_refl _) _).mono hszv)
          have hone2 : (#[.string sq, .int .i64 (me2 : Int), .int .i64 (pk2 : Int), .int .i64 (si2 : Int), .int .i64 (su2 : Int), .int .i64 (at3 : Int), .int .i64 (hd2 : Int)] : Array Value).all (·.oneCell') = true := by simp [Value.oneCell']
          have hKi := hK6.out.below hB8 hgi6
          have i0 : w8.cell? ⟨gi, 0, none⟩ = some (.string sn) := (hKi.cell 0).trans rfl
          have i2 : w8.cell? ⟨gi, 2, none⟩ = some (.int .i64 (pk : Int)) := (hKi.cell 2).trans rfl
          have i5 : w8.cell? ⟨gi, 5, none⟩ = some (.int .i64 (at2 : Int)) := (hKi.cell 5).trans rfl
          have i6 : w8.cell? ⟨gi, 6, none⟩ = some (.int .i64 (hd : Int)) := (hKi.cell 6).trans rfl
          have q0 : w8.cell? ⟨gq, 0, none⟩ = some (.string sq) := (hK8.cell 0).trans rfl
          have q2 : w8.cell? ⟨gq, 2, none⟩ = some (.int .i64 (pk2 : Int)) := (hK8.cell 2).trans rfl
          have q5 : w8.cell? ⟨gq, 5, none⟩ = some (.int .i64 (at3 : Int)) := (hK8.cell 5).trans rfl
          have q6 : w8.cell? ⟨gq, 6, none⟩ = some (.int .i64 (hd2 : Int)) := (hK8.cell 6).trans rfl
          have HW8e := bx hw8
          have HGQ := bx hgq
          have HONE2 := bx hone2
          have HB8 := bx hB8
          have v1 : IntKind.i64.wrap ((at2 : Int) + (pk : Int)) = (at2 : Int) + (pk : Int) := IntWalk.i64_in _ (by omega)
          have v2 : IntKind.i64.wrap ((at3 : Int) + (pk2 : Int)) = (at3 : Int) + (pk2 : Int) := IntWalk.i64_in _ (by omega)
          have hov : ¬ (hd2 < at2 + pk ∧ hd < at3 + pk2) := by
            intro hh
            unfold overA at t2
            simp at t2
            omega
          clear hw8 hgq hone2 hK8 hB8 hKi hsq hc2 hcs2 hx2 hrr t1 t2
          go_upto_region 20 with (refine wpList_store_row rfl 33 (.tmp 8) (.tmp 112) rfl wr.heap.size #[.string sq, .int .i64 (me2 : Int), .int .i64 (pk2 : Int), .int .i64 (si2 : Int), .int .i64 (su2 : Int), .int .i64 (at3 : Int), .int .i64 (hd2 : Int)] rfl rfl 33 z7 (Bk.new _ _ _) info_rec rfl HONE2.out ?_; rw [z7_eq, HW8e.out, HGQ.out])
          simp only [Act.put]
          clear j0 j1 j2 j3 j4 j5 j6
          by_cases hh : hd2 < at2 + pk
          · have f1 : (hd2 : Int) < (at2 : Int) + (pk : Int) := by omega
            have f2 : ¬ (hd : Int) < (at3 : Int) + (pk2 : Int) := by omega
            go_wp2
            go_roundw
            case rel => exact ⟨k + 1, by omega, by go_num, HB8⟩
            case measure => simp [intOf]; omega
          · have f1 : ¬ (hd2 : Int) < (at2 : Int) + (pk : Int) := by omega
            go_wp2
            go_roundw
            case rel => exact ⟨k + 1, by omega, by go_num, HB8⟩
            case measure => simp [intOf]; omega
        · have hkI : ¬ (k : Int) < (t : Int) := by omega
          have HBr := bx (HBB6.out.trans (HV.out.mono (by have := HBB6.out.size; have := HBB.out; have := HG6.out; omega)))
          go_wp2
          go_roundw
          case rel => exact ⟨t + 1, by omega, by go_num, HBr⟩
          case measure => simp [intOf]; omega
    · have htI : ¬ (t : Int) < (nL : Int) := by omega
      go_wp2
      go_ret
      exact ⟨rfl, HB2.out.trans (HW.out.mono hwB)⟩
end Go.Proofs.YtokojichjliieaaDoor
