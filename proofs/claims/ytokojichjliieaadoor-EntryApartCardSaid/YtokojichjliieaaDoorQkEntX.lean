/- The walk of EntryApart. -/
import Derived.Test.YtokojichjliieaaDoorPk11
import Derived.Test.YtokojichjliieaaDoorPk3
import Derived.Laws.BitsAllLaws
import Derived.BigRegion
namespace Go.Proofs.YtokojichjliieaaDoor
open Go.RowKit
theorem xor_u8E (x y : UInt8) : bits .xor .u8 (x.toNat : Int) (y.toNat : Int) = ((x ^^^ y).toNat : Int) := by
  have := u8_xor_nat x.toNat y.toNat (by have := x.toNat_lt; omega) (by have := y.toNat_lt; omega)
  rw [this, UInt8.toNat_xor]
theorem dirKLE {b : List UInt8} {l : List (Rec × Nat)} {k : Int} {L : List (Rec × Nat)} (h : dirA b = .err 9 ∨ dirA b = .ok l) (hk : (match dirA b with | .err k => (k, ([] : List (Rec × Nat))) | .ok l => (0, l)) = (k, L)) : (k = 9) ∨ (k = 0 ∧ dirA b = .ok l) := by
  rcases h with h | h
  · rw [h] at hk; injection hk with h1; exact .inl h1.symm
  · rw [h] at hk; injection hk with h1; exact .inr ⟨h1.symm, h⟩
set_option maxRecDepth 100000 in
set_option maxHeartbeats 16000000 in
theorem entryApart_walk (mx : Int) (w : World) (hm : w.cell? ⟨0, 0, none⟩ = some (.int .i64 mx)) (A0 : Option Addr) (n0 c0 : Nat) (l0 : List UInt8) (e0 : l0.length = n0) (hc0 : n0 ≤ c0) (hm0 : (c0 : Int) ≤ 9223372036854775807) (r0 : RB w w.heap.size A0 l0) (b0 : n0 ≤ 140737488351232)
    (x1 : Int) (h1 : 0 ≤ x1 ∧ x1 ≤ 255) (x2 : Int) (h2 : 0 ≤ x2 ∧ x2 ≤ 65535) (x3 : Int) (h3 : 0 ≤ x3 ∧ x3 ≤ 255) :
    Calls Tryd.prog 11 #[.slice A0 n0 c0, .int .u8 x1, .int .u16 x2, .int .u8 x3] w fun e w' => e = .returned (.bool true) ∧ Below w.heap.size w w' := by
  obtain ⟨wh, rfl⟩ : ∃ a : Nat, x1 = (a : Int) := ⟨x1.toNat, by omega⟩
  obtain ⟨at_, rfl⟩ : ∃ a : Nat, x2 = (a : Int) := ⟨x2.toNat, by omega⟩
  obtain ⟨yb, rfl⟩ : ∃ y : UInt8, x3 = (y.toNat : Int) := ⟨UInt8.ofNat x3.toNat, by rw [UInt8.toNat_ofNat']; omega⟩
  have hwh : wh ≤ 255 := by omega
  have hat : at_ ≤ 65535 := by omega
  have HM := bx hm
  have HE := bx e0
  have HR0 := bx r0
  clear hm e0 r0 h1 h2 h3
  go_enter Tryd.func11, Tryd.ntmps11
  go_wp2_with fail
  refine (fixed10_any mx w HM.out).mono ?_
  rintro e w1 ⟨rfl, hb1⟩
  have HB1 := bx hb1
  have HR1 := bx ((HR0.out.below hb1 (Nat.le_refl _)).more hb1.size)
  clear hb1
  by_cases hz : 6000 < n0
  · have hzI : (6000 : Int) < (n0 : Int) := by omega
    go_wp2
    go_ret
    exact ⟨rfl, HB1.out⟩
  have hzI : ¬ (6000 : Int) < (n0 : Int) := by omega
  obtain ⟨X, hX⟩ : ∃ X, dirA l0 = X := ⟨_, rfl⟩
  have HD := bx (dir_any A0 n0 c0 l0 w1 mx HE.out b0 hc0 hm0 HR1.out (cellB HB1.out HM.out))
  rw [hX] at HD
  cases X with
  | err k =>
    have hk := dirA_pos hX
    have hkI : (k != 0) = true := by rw [bne_iff_ne]; omega
    clear hX
    go_wp2_with fail
    refine HD.out.mono ?_
    intro e w2 hp
    obtain ⟨rfl, hb2⟩ := dirpost_err hp rfl
    have HB2 := bx (HB1.out.trans (hb2.mono HB1.out.size))
    clear hp hb2
    go_wp2
    go_ret
    exact ⟨rfl, HB2.out⟩
  | ok L =>
  have HX := bx hX
  have HOK := bx (apOk hX)
  obtain ⟨nL, hnL⟩ : ∃ nL, L.length = nL := ⟨_, rfl⟩
  have hnl64 : nL ≤ 64 := by rw [← hnL]; exact HOK.out.len
  have HNL := bx hnL
  clear hX hnL
  go_wp2_with fail
  refine HD.out.mono ?_
  intro e w2 hp
  obtain ⟨A2, c2, rfl, _, hr2, hc2, hb2⟩ := dirpost_ok hp rfl
  have HR2 := bx hr2
  have HB2 := bx (HB1.out.trans (hb2.mono HB1.out.size))
  rw [HNL.out] at hc2
  clear hp hb2 hr2
  rw [HNL.out]
  by_cases hn : nL = 0
  · have hnI : ((nL : Int) == 0) = true := by rw [hn]; rfl
    clear hn
    go_wp2
    go_ret
    exact ⟨rfl, HB2.out⟩
  have hnI : ((nL : Int) == 0) = false := by rw [beq_eq_false_iff_ne]; omega
  obtain ⟨kk, hkk⟩ : ∃ kk, wh % nL = kk := ⟨_, rfl⟩
  have hkn : kk < nL := by rw [← hkk]; exact Nat.mod_lt _ (by omega)
  have hmod : (wh : Int) % (nL : Int) = (kk : Int) := by rw [← hkk]; omega
  have htmod : (wh : Int).tmod (nL : Int) = (kk : Int) := by rw [Int.tmod_eq_emod_of_nonneg (by omega)]; exact hmod
  have hn0 : ¬ (nL : Int) = 0 := by omega
  clear hkk
  obtain ⟨ad, x, hA, had, hx, hc, hcs⟩ := HR2.out.at_ recCels (k := kk) (by rw [HNL.out]; exact hkn)
  subst hA
  have HZ := bx hx.out
  have HO := bx (HOK.out.one kk _ hx.out)
  obtain ⟨⟨nm, me, pk, si, su, hd⟩, at2⟩ := x
  obtain ⟨o1, o2, o3, o4, o5⟩ := HO.out
  dsimp only at o1 o2 o3 o4 o5
  rw [HE.out] at o4
  have k2 := hcs 1 _ rfl
  have k5 := hcs 4 _ rfl
  have HK2 := bx k2
  have HK5 := bx k5
  have hkc : (kk : Int) ≤ (c2 : Int) := by omega
  clear hc hcs hx o1 o2 o5 HO
  by_cases hpk : pk = 0
  · have hpI : ((pk : Int) == 0) = true := by rw [hpk]; rfl
    clear hpk
    go_wp2
    go_ret
    exact ⟨rfl, HB2.out⟩
  have hpI : ((pk : Int) == 0) = false := by rw [beq_eq_false_iff_ne]; omega
  have hp0 : ¬ (pk : Int) = 0 := by omega
  obtain ⟨rr, hrr⟩ : ∃ rr, at_ % pk = rr := ⟨_, rfl⟩
  have hrp : rr < pk := by rw [← hrr]; exact Nat.mod_lt _ (by omega)
  have hmod2 : (at_ : Int) % (pk : Int) = (rr : Int) := by rw [← hrr]; omega
  have htmod2 : (at_ : Int).tmod (pk : Int) = (rr : Int) := by rw [Int.tmod_eq_emod_of_nonneg (by omega)]; exact hmod2
  clear hrr
  have HI2 := bx ((HR0.out.below HB2.out (Nat.le_refl _)).more HB2.out.size)
  have HN : Bx ((([] : List UInt8).length + l0.length) * 1 ≤ 140737488355328) := bx (by have := HE.out; simp; omega)
  obtain ⟨xb, hxb⟩ : ∃ x, l0[at2 + rr]? = some x := ⟨_, List.getElem?_eq_getElem (by rw [HE.out]; omega)⟩
  obtain ⟨zb, hzb⟩ : ∃ z, xb ^^^ yb = z := ⟨_, rfl⟩
  have hxor := xor_u8E xb yb
  rw [hzb] at hxor
  have HXB := bx hxb
  have hLT : Bx (ad.block < w2.heap.size) := bx had
  clear hxb hzb
  go_upto_region 12 with (at_builtin; refine wpList_appL _ bV_one rfl (.tmp 49) (.tmp 50) rfl byteTy (by decide) w2.heap.size _ [] rfl (OwL.lit0 w2 (Nat.le_refl _)) _ A0 n0 c0 l0 rfl HE.out (HI2.out.alloc (Nat.le_refl _) _) HN.out (le_alloc0 (Nat.le_refl _) _) ?_; intro v3 w3 own3 _ _ hb3; rw [List.nil_append] at own3; have HB3 := bx ((bl_alloc (Below.refl w2.heap.size w2) (Nat.le_refl _) (.cells #[] 5)).trans hb3); obtain ⟨gc, cc, hv3, hgc, hgc2⟩ := World.ownsRow.form own3 (by rw [HE.out]; omega); rw [HE.out] at hv3; subst hv3; have hcell : w3.cell? ⟨gc, at2 + rr, none⟩ = some (.int .u8 (xb.toNat : Int)) := OwL.cell own3 HXB.out; have hfr := OwL.frz own3 (at2 + rr); have HO3 := bx own3; clear own3 hb3)
  have p2 := (HB3.out.cell (p := ⟨(ad.add (kk * 7)).block, (ad.add (kk * 7)).off + (1 + 1), none⟩) (by first | exact hLT.out | (rw [blk_add]; exact hLT.out))).trans HK2.out
  have p5 := (HB3.out.cell (p := ⟨(ad.add (kk * 7)).block, (ad.add (kk * 7)).off + (4 + 1), none⟩) (by first | exact hLT.out | (rw [blk_add]; exact hLT.out))).trans HK5.out
  have u1 : IntKind.i64.wrap ((at2 : Int) + (rr : Int)) = (at2 : Int) + (rr : Int) := IntWalk.i64_in _ (by omega)
  have u2 : ((at2 : Int) + (rr : Int)).toNat = at2 + rr := Int.toNat_natCast (at2 + rr)
  have u3 : (0 : Int) ≤ (at2 : Int) + (rr : Int) := by omega
  have u4 : (at2 : Int) + (rr : Int) < (n0 : Int) := by omega
  clear k2 k5 HK2 HK5 HN HD HR1
  go_region
  obtain ⟨w5, hw5⟩ : ∃ w5, (w3.setCell ⟨gc, at2 + rr, none⟩ (.int .u8 (zb.toNat : Int))).drew = w5 := ⟨_, rfl⟩
  obtain ⟨l1, hl1⟩ : ∃ l1, l0.set (at2 + rr) zb = l1 := ⟨_, rfl⟩
  have HO5 : Bx (OwB w5 w2.heap.size 5 (.slice (some ⟨gc, 0, none⟩) n0 cc) l1) := by
    have := (HO3.out.set (at2 + rr) zb).drewN 1
    rw [hl1] at this
    rw [← hw5]; exact bx this
  have HB5 : Bx (Below w2.heap.size w2 w5) := by rw [← hw5]; exact bx (below_drewN (HB3.out.setCell (p := ⟨gc, at2 + rr, none⟩) hgc _) 1)
  have hlen : l0.length = l1.length := by rw [← hl1, List.length_set]
  have hag : ∀ i, i < at2 ∨ at2 + pk ≤ i → l0[i]? = l1[i]? := fun i hi => by rw [← hl1, List.getElem?_set_ne (by omega)]
  have HL1 : Bx (l1.length = n0) := bx (by rw [← hlen, HE.out])
  have HAG := bx hag
  have HT := bx (dirA_apart hlen HX.out HZ.out hag)
  rw [hw5]
  obtain ⟨A5, c5, hv5, hr5, hc5, hc5'⟩ := HO5.out.rd
  injection hv5 with hv5a hv5b hv5c
  subst hv5a
  subst hv5c
  rw [HL1.out] at hc5
  have HR5 := bx hr5
  have HW5 := bx (HB2.out.trans (HB5.out.mono HB2.out.size))
  have HRr5 := bx ((HR2.out.below HB5.out (Nat.le_refl _)).more HB5.out.size)
  clear hlen hag hl1 hw5 hv5b hr5 HO3 HB3 hcell hfr hmod htmod hmod2 htmod2 hxor HO5 p2 p5 hLT had u1 u2 u3 u4 hgc hgc2
  have HD := bx (dir_any (some ⟨gc, 0, none⟩) n0 cc l1 w5 mx HL1.out b0 hc5 hc5' HR5.out (cellB HW5.out HM.out))
  rcases HT.out with h9 | hok
  · rw [h9] at HD
    clear h9
    go_wp2_with fail
    refine HD.out.mono ?_
    intro e w6 hp
    obtain ⟨rfl, hb6⟩ := dirpost_err hp rfl
    have HB6 := bx (HW5.out.trans (hb6.mono HW5.out.size))
    clear hp hb6
    go_wp2
    go_ret
    exact ⟨rfl, HB6.out⟩
  rw [hok] at HD
  have HOKC := bx hok
  clear hok HT
  go_wp2_with fail
  refine HD.out.mono ?_
  intro e w6 hp
  obtain ⟨A6, c6, rfl, _, _, _, hb6⟩ := dirpost_ok hp rfl
  have HC6 : Bx (Below w2.heap.size w2 w6) := bx (HB5.out.trans (hb6.mono HB5.out.size))
  have HR56 := bx (HR5.out.step hb6)
  clear hp hb6 HD HR5 HRr5
  obtain ⟨B6, hB6⟩ : ∃ B6, w6.heap.size = B6 := ⟨_, rfl⟩
  have HBB := bx hB6
  have h2B : w2.heap.size ≤ B6 := by rw [← hB6]; exact HC6.out.size
  have HC0 := bx (show Below B6 w6 w6 from Below.refl _ _)
  clear hB6
  go_wp2_with fail
  go_loopw [83] (fun iv wx => ∃ t : Nat, t ≤ nL ∧ iv = .int .i64 (t : Int) ∧ Bx (Below B6 w6 wx)) (fun i _ => nL - (intOf i).toNat)
  case atStart => exact ⟨0, by omega, rfl, HC0⟩
  case round =>
    obtain ⟨t, ht, rfl, HW⟩ := hrel
    have hszw : B6 ≤ wr.heap.size := by have := HW.out.size; have := HBB.out; omega
    have HCr : Bx (Below w2.heap.size w2 wr) := bx (HC6.out.trans (HW.out.mono h2B))
    by_cases htn : t < nL
    · have htI : (t : Int) < (nL : Int) := by omega
      have hrr : RS recL wr wr.heap.size (some ad) L := (HR2.out.below HCr.out (Nat.le_refl _)).more HCr.out.size
      obtain ⟨aq, x, hA, _, hx, hc, hcs⟩ := hrr.at_ recCels (k := t) (by rw [HNL.out]; exact htn)
      injection hA with hA
      subst hA
      have HXT := bx hx.out
      obtain ⟨⟨nM, mE, pK, sI, sU, hD⟩, aT⟩ := x
      obtain ⟨sn, hsn⟩ : ∃ s : ByteArray, (⟨nM.toArray⟩ : ByteArray) = s := ⟨_, rfl⟩
      have HSV : Bx (strV nM = .string sn) := bx (by unfold strV; rw [hsn])
      have HSL : Bx (sn.data.toList = nM) := bx (by rw [← hsn])
      have k0 := hc _ rfl
      have k1 := hcs 0 _ rfl
      have k2 := hcs 1 _ rfl
      have k3 := hcs 2 _ rfl
      have k4 := hcs 3 _ rfl
      have k5 := hcs 4 _ rfl
      have k6 := hcs 5 _ rfl
      rw [Nat.zero_add] at k1
      rw [HSV.out] at k0
      obtain ⟨gi, hgi⟩ : ∃ gi, wr.heap.size = gi := ⟨_, rfl⟩
      obtain ⟨w4, hw4⟩ : ∃ w4, (wr.alloc (.cells z7 33)).setRow wr.heap.size #[.string sn, .int .i64 (mE : Int), .int .i64 (pK : Int), .int .i64 (sI : Int), .int .i64 (sU : Int), .int .i64 (aT : Int), .int .i64 (hD : Int)] = w4 := ⟨_, rfl⟩
      have HK4 : Bx (Bk w4 gi 33 #[.string sn, .int .i64 (mE : Int), .int .i64 (pK : Int), .int .i64 (sI : Int), .int .i64 (sU : Int), .int .i64 (aT : Int), .int .i64 (hD : Int)]) := bx (by rw [← hw4, ← hgi]; exact ((Bk.new wr _ z7).setRow _))
      have HB4 : Bx (Below B6 w6 w4) := bx (HW.out.trans (by rw [← hw4]; exact (bl_setRow (bl_alloc (Below.refl wr.heap.size wr) (Nat.le_refl _) _) (Nat.le_refl _) _).mono hszw))
      have HONE : Bx ((#[.string sn, .int .i64 (mE : Int), .int .i64 (pK : Int), .int .i64 (sI : Int), .int .i64 (sU : Int), .int .i64 (aT : Int), .int .i64 (hD : Int)] : Array Value).all (·.oneCell') = true) := bx (by simp [Value.oneCell'])
      have n0c : w4.cell? ⟨gi, 0, none⟩ = some (.string sn) := (HK4.out.cell 0).trans rfl
      have HW4e := bx hw4
      have HGI := bx hgi
      have htc : (t : Int) ≤ (c2 : Int) := by omega
      clear hw4 hc hcs hx hrr hsn hgi
      by_cases htk : t = kk
      · have hki : ((t : Int) == (kk : Int)) = true := by rw [htk]; simp
        clear htk
        go_wp2_with (refine wpList_store_row rfl 33 (.tmp 16) (.tmp 87) rfl wr.heap.size #[.string sn, .int .i64 (mE : Int), .int .i64 (pK : Int), .int .i64 (sI : Int), .int .i64 (sU : Int), .int .i64 (aT : Int), .int .i64 (hD : Int)] rfl rfl 33 z7 (Bk.new _ _ _) info_rec rfl HONE.out ?_; rw [z7_eq, HW4e.out, HGI.out])
        go_roundw
        case rel => exact ⟨t + 1, by omega, by go_num, HB4⟩
        case measure => simp [intOf]; omega
      · have hki : ((t : Int) == (kk : Int)) = false := by rw [beq_eq_false_iff_ne]; omega
        have HFE : Bx (findP l0 sn.data.toList = findP l1 sn.data.toList) := bx (by rw [HSL.out]; exact find_apart HX.out HOKC.out HZ.out HXT.out htk HAG.out)
        obtain ⟨k, Lr, hKL⟩ : ∃ k Lr, unpKL (findP l0 sn.data.toList) = (k, Lr) := ⟨_, _, rfl⟩
        have HKL := bx hKL
        have HKL2 : Bx (unpKL (findP l1 sn.data.toList) = (k, Lr)) := bx (by rw [← HFE.out]; exact hKL)
        have HW4 : Bx (Below w.heap.size w w4) := bx (HB2.out.trans ((HC6.out.trans (HB4.out.mono h2B)).mono HB2.out.size))
        have HI4 := bx ((HR0.out.below HW4.out (Nat.le_refl _)).more HW4.out.size)
        have HR54 : Bx (RB w4 w4.heap.size (some ⟨gc, 0, none⟩) l1) := bx ((HR56.out.below (HBB.out ▸ HB4.out) (Nat.le_refl _)).more (by rw [HBB.out]; have := HB4.out.size; have := HBB.out; omega))
        clear hKL htk
        go_upto_region 20 with (refine wpList_store_row rfl 33 (.tmp 16) (.tmp 87) rfl wr.heap.size #[.string sn, .int .i64 (mE : Int), .int .i64 (pK : Int), .int .i64 (sI : Int), .int .i64 (sU : Int), .int .i64 (aT : Int), .int .i64 (hD : Int)] rfl rfl 33 z7 (Bk.new _ _ _) info_rec rfl HONE.out ?_; rw [z7_eq, HW4e.out, HGI.out])
        clear k0 k1 k2 k3 k4 k5 k6 HW4e HONE HGI
        go_wp2_with fail
        have hk := find_any A0 n0 c0 l0 sn w4 mx HE.out b0 hc0 hm0 HI4.out (cellB HW4.out HM.out)
        refine hk.mono ?_
        clear hk
        intro e w7 hp
        obtain ⟨A7, n7, c7, rfl, hn7, hr7, _, h77, hb7⟩ := unp_pair hp HKL.out
        have HW7 := bx (HW4.out.trans (hb7.mono HW4.out.size))
        have HB7 : Bx (Below B6 w6 w7) := bx (HB4.out.trans (hb7.mono (by have := HB4.out.size; have := HBB.out; omega)))
        have HR7 := bx hr7
        have HR57 := bx (HR54.out.step hb7)
        have n07 : w7.cell? ⟨gi, 0, none⟩ = some (.string sn) := ((HK4.out.below hb7 HK4.out.lt).cell 0).trans rfl
        clear hp hr7 hb7 n0c
        go_wp2_with fail
        have hk := find_any (some ⟨gc, 0, none⟩) n0 cc l1 sn w7 mx HL1.out b0 hc5 hc5' HR57.out (cellB HW7.out HM.out)
        refine hk.mono ?_
        clear hk
        intro e w8 hp
        obtain ⟨A8, n8, c8, rfl, hn8, hr8, _, h88, hb8⟩ := unp_pair hp HKL2.out
        have HB8 : Bx (Below B6 w6 w8) := bx (HB7.out.trans (hb8.mono (by have := HB7.out.size; have := HBB.out; omega)))
        have HR8 := bx hr8
        have HR78 := bx (HR7.out.step hb8)
        have hkk2 : (k != k) = false := by simp
        clear hp hr8 hb8 n07
        go_wp2_with fail
        refine (same_any A7 A8 n7 c7 n8 c8 w8 Lr Lr hn7.out.symm hn8.out.symm (by omega) (by omega) HR78.out HR8.out).mono ?_
        rintro e w9 ⟨rfl, hb9⟩
        rw [show decide (Lr = Lr) = true by simp]
        have HB9 : Bx (Below B6 w6 w9) := bx (HB8.out.trans (hb9.mono (by have := HB8.out.size; have := HBB.out; omega)))
        clear hb9
        go_wp2
        go_roundw
        case rel => exact ⟨t + 1, by omega, by go_num, HB9⟩
        case measure => simp [intOf]; omega
    have htI : ¬ (t : Int) < (nL : Int) := by omega
    have HWr := bx (HB2.out.trans (HCr.out.mono HB2.out.size))
    go_wp2
    go_ret
    exact ⟨rfl, HWr.out⟩
end Go.Proofs.YtokojichjliieaaDoor
